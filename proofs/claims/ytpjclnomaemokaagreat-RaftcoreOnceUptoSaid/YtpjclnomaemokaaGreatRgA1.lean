/-
  Parts of the proof of the laws RaftcoreSafeUptoSaid, RaftcoreOnceUptoSaid: Base, Mem, Ops, Rules, Rules2, Rules3, Facts, Text, Rules4, Rules5, Rules6, Rules7, Rules9, Pieces, Rules10, Phase, Lies, Walk, Leap, Mixed, CodecTy, KcP, SlInts, SlPut, SlLayC, SlOnce, SlLay, SlSort, QuorumA, QuorumB, QuorumC, QuorumD, QuorumL, QuorumF, SortRow, SortA.
-/
import Derived.WalkKit
import Derived.OrdersHeld
import Derived.Test.YtpjclnomaemokaaGreatProg
import Derived.Laws.BytesArg
import Derived.Lib.ConvBytes
import Derived.WalkSpells
import Derived.Sort.Grow
import Derived.Sort.Row
import Derived.Sort.AssemblyPlain
import Derived.Shelf.SlLaysN
import Derived.Shelf.SlicesG.CompactI
import Derived.Shelf.SlLaysM
import Derived.Shelf.SortM.AssemblyIn
import Derived.Shelf.SortM.SortNone
import Derived.Sort.EveryDepth
set_option maxRecDepth 100000
set_option maxHeartbeats 16000000
set_option linter.all false
namespace Go.Lw
abbrev Env:=List (Nat × Value)
def look:Env→Nat→Option Value
 | [],_=>none
 | p::r,t=>cond (Nat.beq p.1 t) (some p.2) (look r t)
structure At (n:Nat) (E:Env) (a:Act):Prop where
 size:a.tmps.size=n
 dfr:a.defers=[]
 get:∀ t v,look E t=some v→a.tmps[t]?=some v
theorem At.put {n:Nat} {E:Env} {a:Act} (h:At n E a) {d:Nat} (hd:Nat.blt d n=true) (v:Value):At n ((d,v)::E) (a.put (some d) v):=by
 have hlt:d<n:=by simpa [Nat.blt,Nat.lt_iff_add_one_le] using hd
 refine⟨by simp[Act.put,h.size],by simp[Act.put,h.dfr],fun t u ht=>?_⟩
 simp only[look] at ht
 by_cases hdt:d=t
 ·
  subst hdt
  rw[show Nat.beq d d=true from Nat.beq_refl d] at ht
  simp at ht
  subst ht
  simp[Act.put,h.size,hlt]
 ·
  have:Nat.beq d t=false:=Bool.eq_false_iff.2 (fun h=>hdt (Nat.eq_of_beq_eq_true h))
  rw[this] at ht
  simp only[cond_false] at ht
  simp[Act.put,Array.getElem?_setIfInBounds_ne hdt,h.get t u ht]
theorem At.getD {n:Nat} {E:Env} {a:Act} (h:At n E a) {t:Nat} {v:Value} (ht:look E t=some v):a.tmps.getD t undef=v:=by
 simp[Array.getD_eq_getD_getElem?,h.get t v ht]
def Sub:Env→Env→Prop
 | [],_=>True
 | p::r,E'=>look E' p.1=some p.2∧Sub r E'
theorem Sub.look {E E':Env} (h:Sub E E'):∀ t v,look E t=some v→look E' t=some v:=by
 induction E with
 | nil=>intro t v ht;simp[Lw.look] at ht
 | cons p r ih =>
  intro t v ht
  simp only[Lw.look] at ht
  by_cases hp:Nat.beq p.1 t=true
  ·
   rw[hp] at ht
   simp at ht
   have:p.1=t:=Nat.eq_of_beq_eq_true hp
   subst this
   rw[←ht]
   exact h.1
  ·
   rw[Bool.not_eq_true] at hp
   rw[hp] at ht
   exact ih h.2 t v ht
theorem At.more {n:Nat} {E:Env} {a:Act} (h:At n E a) {t:Nat} {v:Value} (ht:Lw.look E t=some v):At n ((t,v)::E) a:=by
 refine⟨h.size,h.dfr,fun s u hs=>?_⟩
 simp only[Lw.look] at hs
 by_cases hp:Nat.beq t s=true
 ·
  rw[hp] at hs
  simp at hs
  have:t=s:=Nat.eq_of_beq_eq_true hp
  subst this
  rw[←hs]
  exact h.get _ _ ht
 ·
  rw[Bool.not_eq_true] at hp
  rw[hp] at hs
  exact h.get _ _ hs
theorem At.sub {n:Nat} {E E':Env} {a:Act} (h:At n E a) (hs:Sub E' E):At n E' a:=⟨h.size,h.dfr,fun t v ht=>h.get t v (hs.look t v ht)⟩
def ev (E:Env):Operand→Option Value
 | .tmp t=>look E t
 | .const v=>some v
 | .global g=>some (.pointer (some ⟨g,0,none⟩))
 | .func f=>some (.func (.func f) #[] #[])
theorem At.ev {n:Nat} {E:Env} {a:Act} (h:At n E a) {x:Operand} {v:Value} (hx:ev E x=some v):a.eval x=v:=by
 cases x with
 | tmp t=>exact h.getD hx
 | const u=>exact Option.some.inj hx
 | global g=>exact Option.some.inj hx
 | func f=>exact Option.some.inj hx
def wants (ops:Array Oper) (E:Env) (o:Oper):Option Bool :=
 match o.guard with
 | none=>some true
 | some (j,want) =>
  match (ops[j]?).bind (·.dst) with
  | none=>none
  | some d =>
   match look E d with
   | some (.bool b)=>some (b==want)
   | some (.tuple _)=>some false
   | _=>none
theorem At.wants {n:Nat} {E:Env} {a:Act} (h:At n E a) {ops:Array Oper} {o:Oper} {b:Bool} (hb:wants ops E o=some b):Region.wanted o (yielded ops a.tmps)=b:=by
 unfold Lw.wants at hb
 unfold Region.wanted
 split at hb
 ·
  rename_i hg
  simp only[hg]
  simpa using hb
 ·
  rename_i j want hg
  simp only[hg]
  split at hb
  ·
   cases hb
  ·
   rename_i d hd
   split at hb
   ·
    rename_i c hc
    have:=h.get d _ hc
    simp only[yielded,hd,Option.bind_some,this]
    simp only[Option.some.injEq] at hb
    subst hb
    cases c<;>cases want<;>rfl
   ·
    rename_i c hc
    have:=h.get d _ hc
    simp only[yielded,hd,Option.bind_some,this]
    simp only[Option.some.injEq] at hb
    subst hb
    cases want<;>rfl
   ·
    cases hb
def intOp (op:BinOp) (k:IntKind) (x y:Int):Option Value :=
 match op with
 | .add=>some (.int k (k.wrap (x+y)))
 | .sub=>some (.int k (k.wrap (x-y)))
 | .mul=>some (.int k (k.wrap (x*y)))
 | .and=>some (.int k (k.wrap ((BitVec.ofInt k.bits x &&& BitVec.ofInt k.bits y).toNat)))
 | .or=>some (.int k (k.wrap ((BitVec.ofInt k.bits x ||| BitVec.ofInt k.bits y).toNat)))
 | .xor=>some (.int k (k.wrap ((BitVec.ofInt k.bits x ^^^ BitVec.ofInt k.bits y).toNat)))
 | .eql=>some (.bool (x==y))
 | .neq=>some (.bool (x != y))
 | .lss=>some (.bool (x<y))
 | .leq=>some (.bool (x≤y))
 | .gtr=>some (.bool (x>y))
 | .geq=>some (.bool (x≥y))
 | _=>none
def pv (ρ:Operand→Option Value):Op→Option Value
 | .move x | .assign x=>ρ x
 | .pick c a b =>
  match ρ c with
  | some (.bool true)=>ρ a
  | some (.bool false)=>ρ b
  | _=>none
 | .binOp op _ x y _ =>
  match ρ x,ρ y with
  | some (.int k a),some (.int j b)=>if k=j then intOp op k a b else none
  | _,_=>none
 | .unOp .not _ x =>
  match ρ x with
  | some (.bool b)=>some (.bool (!b))
  | _=>none
 | .nilCheck x =>
  match ρ x with
  | some (.pointer (some a))=>some (.pointer (some a))
  | _=>none
 | .extract x i =>
  match ρ x with
  | some (.tuple vs)=>vs[i]?
  | _=>none
 | _=>none
theorem run_eqGuard_int (P:Program) (op:BinOp) (t:TypeId) (x y:Operand) (k j:IntKind) (a b:Int) (w:World) :
  (eqGuard op t x y (.int k a) (.int j b)).run P w = .ok () w:=by
 unfold eqGuard
 cases op<;>rfl
theorem run_intOp {P:Program} {op:BinOp} {t:TypeId} {k:IntKind} {a b:Int} {v:Value} (w:World) (h:intOp op k a b=some v) :
  (binOp op t (.int k a) (.int k b)).run P w = .ok v w:=by
 unfold intOp at h
 cases op<;>simp only[Option.some.injEq,reduceCtorEq] at h<;>subst h<;>simp[binOp,Op.intArith,Op.intBits,Op.intCmp,Sem.run_pure]
theorem pv_run {P:Program} {n:Nat} {E:Env} {o:Oper} {v:Value} (h:pv (ev E) o.op=some v) (a:Act) (ha:At n E a) (w:World) :
  (execOp a.eval o).run P w = .ok (.value v) w:=by
 obtain⟨dst,op,type,pos,after,guard⟩:=o
 cases op<;>simp only[pv] at h<;>try (cases h;done)
 case move x=>simp[execOp,ha.ev h,Sem.run_pure]
 case assign x=>simp[execOp,ha.ev h,Sem.run_pure]
 case pick c x y =>
  split at h
  ·
   rename_i hc;simp[execOp,ha.ev hc,ha.ev h,asBool,Sem.run_pure]
  ·
   rename_i hc;simp[execOp,ha.ev hc,ha.ev h,asBool,Sem.run_pure]
  ·
   cases h
 case nilCheck x =>
  split at h
  ·
   rename_i b hx
   simp only[Option.some.injEq] at h
   subst h
   simp[execOp,ha.ev hx,Sem.run_pure]
  ·
   cases h
 case binOp op t x y yt =>
  split at h
  ·
   rename_i k a' j b' hx hy
   split at h
   ·
    rename_i hkj
    subst hkj
    simp[execOp,ha.ev hx,ha.ev hy,Sem.run_bind,run_eqGuard_int,run_intOp w h]
   ·
    cases h
  ·
   cases h
 case unOp op t x =>
  cases op<;>simp only at h<;>try (cases h;done)
  split at h
  ·
   rename_i b hx
   simp only[Option.some.injEq] at h
   subst h
   simp[execOp,ha.ev hx,Op.unary,Sem.run_pure]
  ·
   cases h
 case extract x i =>
  split at h
  ·
   rename_i vs hx
   simp[execOp,ha.ev hx,Instr.extract,h,Sem.run_pure]
  ·
   cases h
def noPanic (Q:Exit→Act→World→Prop):Exit→Act→World→Prop
 | .panic _,_,_=>False
 | e,a,w=>Q e a w
theorem noPanic_imp {Q:Exit→Act→World→Prop}:∀ e a w,noPanic Q e a w→Q e a w:=fun e a w h=>by
 cases e<;>first | exact h | exact (h:False).elim
def never:Exit→Act→World→Prop:=fun _ _ _=>False
theorem wp_never {P:Program} {o:Oper} {a:Act} {w:World} {next:Act→World→Prop} {Q:Exit→Act→World→Prop} (h:o.wp P a w next never):o.wp P a w next Q:=by
 unfold Oper.wp at *
 generalize (execOp a.eval o).run P w=r at *
 cases r with
 | ok n w' =>
  cases n with
  | enter f args =>
   simp only[Oper.upon] at h ⊢
   refine Calls.mono h (fun e w'' he=>?_)
   cases e with
   | returned v=>exact he
   | panicked c=>exact (he:False).elim
   | outgrown=>exact absurd he (by simp[LetsOut,never])
  | _=>exact h
 | halt x w' =>
  cases x with
  | panic v=>exact (h:False).elim
  | _=>exact h
section
variable (P:Program) (ops:Array Oper) (Q:Exit→Act→World→Prop) (S:World→Prop)
def RA:List (Bool × Oper)→Act→World→Prop
 | [],a,w=>Q .normal a w
 | (true,o)::rest,a,w=>∃ v,YieldsIf P ops S o v a∧RA rest (a.put o.dst v) w
 | (false,o)::rest,a,w =>
  if Region.wanted o (yielded ops a.tmps)=true then o.wp P a w (fun a' w'=>S w'∧RA rest a' w') never else RA rest (a.put o.dst undef) w
def chk (ops:Array Oper):List (Bool × Nat)→Array Bool→Bool
 | [],listed=>(Region.ready .any ops listed).isEmpty
 | (true,i)::r,listed=>Region.free .any ops listed i && (Region.ready .any ops listed).contains i && chk ops r (listed.setIfInBounds i true)
 | (false,i)::r,listed=>Region.ready .any ops listed==[i] && chk ops r (listed.setIfInBounds i true)
end
section
variable {P:Program} {ops:Array Oper} {Q:Exit→Act→World→Prop} {S:World→Prop}
theorem anyH_of_RA (hs:Region.noSelect ops=true):∀ (l:List (Bool × Nat)) (listed:Array Bool) (a:Act) (w:World),(∀ x∈l,x.2<ops.size)→chk ops l listed=true→S w →
  RA P ops Q S (l.map fun x=>(x.1,ops.getD x.2 default)) a w→wpAnyH P .any ops (noPanic Q) S l.length listed a w
 | [],listed,a,w,_,hc,_,h=>wpAnyH_done (P:=P) (S:=S) (Q:=noPanic Q) (by simpa [chk] using hc) h 0
 | (true,i)::r,listed,a,w,hl,hc,hS,h=>by
  simp only[chk,Bool.and_eq_true] at hc
  obtain⟨v,hy,h'⟩:=h
  have hi:i<ops.size:=hl (true,i) (by simp)
  have ho:ops[i]?=some (ops.getD i default):=by simp[hi]
  exact wpAnyH_take ho hs hc.1.1 hc.1.2 (fun _ _ _ hh=>hh) hy hS (anyH_of_RA hs r _ _ _ (fun x hx=>hl x (by simp[hx])) hc.2 hS h')
 | (false,i)::r,listed,a,w,hl,hc,hS,h=>by
  simp only[chk,Bool.and_eq_true,beq_iff_eq] at hc
  have hi:i<ops.size:=hl (false,i) (by simp)
  have ho:ops[i]?=some (ops.getD i default):=by simp[hi]
  refine wpAnyH_all hc.1 (by simp) fun j hj=>?_
  simp only[List.mem_singleton] at hj
  subst hj
  have ih:∀ a' w',S w'∧RA P ops Q S (r.map fun x=>(x.1,ops.getD x.2 default)) a' w'→S w'∧wpAnyH P .any ops (noPanic Q) S r.length (listed.setIfInBounds j true) a' w' :=
   fun a' w' ⟨hS',h'⟩=>⟨hS',anyH_of_RA hs r _ a' w' (fun x hx=>hl x (by simp[hx])) hc.2 hS' h'⟩
  simp only[List.map_cons,RA] at h
  generalize ops.getD j default=oj at *
  unfold wpOp
  simp only[ho]
  by_cases hw:Region.wanted oj (yielded ops a.tmps)=true
  ·
   rw[if_pos hw] at h ⊢
   exact .inl (Oper.wp_mono ih (wp_never h))
  ·
   rw[if_neg hw] at h ⊢
   exact ih _ _ ⟨hS,h⟩
theorem wp_draws {id:Nat} {a:Act} {w:World} (l:List (Bool × Nat)) (hm:P.follows .mixedOrders=true) (hs:Region.noSelect ops=true) (hlen:l.length=ops.size)
  (hl:(l.all fun x=>decide (x.2<ops.size))=true) (hc:chk ops l (Array.replicate ops.size false)=true) (hS:S w.drew)
  (h:RA P ops Q S (l.map fun x=>(x.1,ops.getD x.2 default)) a w.drew):(Code.region id ops true).wp P Q a w:=by
 refine Code.wp_mono noPanic_imp (wp_region_held (S:=S) hm ?_)
 rw[←hlen]
 rw[←hlen] at hc
 refine anyH_of_RA hs l _ a _ (fun x hx=>?_) hc hS h
 have:=List.all_eq_true.1 hl x hx
 simpa using this
inductive Tree where
 | line (l:List (Bool × Nat))
 | fork (l:List (Bool × Nat)) (x y:Tree)
def Tree.heads:Tree→List Nat
 | .line ((false,i)::_)=>[i]
 | .line _=>[]
 | .fork ((false,i)::_) _ _=>[i]
 | .fork ((true,_)::_) _ _=>[]
 | .fork [] x y=>x.heads++y.heads
def Tree.len:Tree→Nat
 | .line l=>l.length
 | .fork l x y=>l.length+max x.len y.len
def chkK (ops:Array Oper) (k:Array Bool→Bool):Bool→List (Bool × Nat)→Array Bool→Bool
 | _,[],listed=>k listed
 | _,(true,i)::r,listed=>Region.free .any ops listed i && (Region.ready .any ops listed).contains i && chkK ops k false r (listed.setIfInBounds i true)
 | false,(false,i)::r,listed=>Region.ready .any ops listed==[i] && chkK ops k false r (listed.setIfInBounds i true)
 | true,(false,i)::r,listed=>chkK ops k false r (listed.setIfInBounds i true)
def chkT (ops:Array Oper):Bool→Tree→Array Bool→Bool
 | b,.line l,listed=>(!b || !l.isEmpty) && chkK ops (fun z=>(Region.ready .any ops z).isEmpty) b l listed
 | true,.fork [] x y,listed=>chkT ops true x listed && chkT ops true y listed
 | b,.fork l x y,listed=>chkK ops (fun z=> !(Region.ready .any ops z).isEmpty && (Region.ready .any ops z).all (fun j=>(x.heads++y.heads).contains j) && chkT ops true x z && chkT ops true y z) b l listed
def RT (P:Program) (ops:Array Oper) (Q:Exit→Act→World→Prop) (S:World→Prop):Tree→Act→World→Prop
 | .line l,a,w=>RA P ops Q S (l.map fun x=>(x.1,ops.getD x.2 default)) a w
 | .fork l x y,a,w=>RA P ops (fun _ a w=>S w∧RT P ops Q S x a w∧RT P ops Q S y a w) S (l.map fun x=>(x.1,ops.getD x.2 default)) a w
theorem wpOp_some {i:Nat} {o:Oper} {a:Act} {w:World} {next:Act→World→Prop} (ho:ops[i]?=some o) :
  (if Region.wanted o (yielded ops a.tmps)=true then o.wp P a w next never else next (a.put o.dst undef) w)→wpOp P ops Q i next a w:=fun h=>by
 unfold wpOp
 simp only[ho]
 by_cases hw:Region.wanted o (yielded ops a.tmps)=true
 ·
  rw[if_pos hw] at h ⊢
  exact .inl (wp_never h)
 ·
  rw[if_neg hw] at h ⊢
  exact h
theorem anyH_of_K (hs:Region.noSelect ops=true) (k:Array Bool→Bool) (K:Exit→Act→World→Prop) (m:Nat) (hk:∀ listed a w,k listed=true→S w→K .normal a w→wpAnyH P .any ops (noPanic Q) S m listed a w) :
  ∀ (l:List (Bool × Nat)) (listed:Array Bool) (a:Act) (w:World),(∀ x∈l,x.2<ops.size)→chkK ops k false l listed=true→S w →
   RA P ops K S (l.map fun x=>(x.1,ops.getD x.2 default)) a w→wpAnyH P .any ops (noPanic Q) S (m+l.length) listed a w
 | [],listed,a,w,_,hc,hS,h=>hk listed a w (by simpa [chkK] using hc) hS h
 | (true,i)::r,listed,a,w,hl,hc,hS,h=>by
  simp only[chkK,Bool.and_eq_true] at hc
  obtain⟨v,hy,h'⟩:=h
  have hi:i<ops.size:=hl (true,i) (by simp)
  have ho:ops[i]?=some (ops.getD i default):=by simp[hi]
  exact wpAnyH_take ho hs hc.1.1 hc.1.2 (fun _ _ _ hh=>hh) hy hS (anyH_of_K hs k K m hk r _ _ _ (fun x hx=>hl x (by simp[hx])) hc.2 hS h')
 | (false,i)::r,listed,a,w,hl,hc,hS,h=>by
  simp only[chkK,Bool.and_eq_true,beq_iff_eq] at hc
  have hi:i<ops.size:=hl (false,i) (by simp)
  have ho:ops[i]?=some (ops.getD i default):=by simp[hi]
  refine wpAnyH_all hc.1 (by simp) fun j hj=>?_
  simp only[List.mem_singleton] at hj
  subst hj
  have ih:∀ a' w',S w'∧RA P ops K S (r.map fun x=>(x.1,ops.getD x.2 default)) a' w'→S w'∧wpAnyH P .any ops (noPanic Q) S (m+r.length) (listed.setIfInBounds j true) a' w' :=
   fun a' w' ⟨hS',h'⟩=>⟨hS',anyH_of_K hs k K m hk r _ a' w' (fun x hx=>hl x (by simp[hx])) hc.2 hS' h'⟩
  refine wpOp_some ho ?_
  simp only[List.map_cons,RA] at h
  by_cases hw:Region.wanted (ops.getD j default) (yielded ops a.tmps)=true
  ·
   rw[if_pos hw] at h ⊢
   exact Oper.wp_mono ih h
  ·
   rw[if_neg hw] at h ⊢
   exact ih _ _ ⟨hS,h⟩
theorem anyH_more:∀ (m:Nat) (listed:Array Bool) (a:Act) (w:World),wpAnyH P .any ops Q S m listed a w→wpAnyH P .any ops Q S (m+1) listed a w
 | 0,listed,a,w,h=>⟨fun _=>h.2,by rw[h.1];simp⟩
 | m+1,listed,a,w,h=>⟨h.1,fun i hi=>wpOp_mono (fun a' w' h'=>⟨h'.1,anyH_more m _ a' w' h'.2⟩) (h.2 i hi)⟩
theorem anyH_le {m k:Nat} (hk:m≤k) {listed:Array Bool} {a:Act} {w:World} (h:wpAnyH P .any ops Q S m listed a w):wpAnyH P .any ops Q S k listed a w:=by
 induction hk with
 | refl=>exact h
 | step _ ih=>exact anyH_more _ _ _ _ ih
def Tree.all (p:Nat→Bool):Tree→Bool
 | .line l=>l.all fun x=>p x.2
 | .fork l x y=>l.all (fun x=>p x.2) && x.all p && y.all p
theorem anyH_of_T (hs:Region.noSelect ops=true):∀ (t:Tree) (listed:Array Bool) (a:Act) (w:World),t.all (fun i=>decide (i<ops.size))=true→S w→RT P ops Q S t a w →
  (chkT ops false t listed=true→wpAnyH P .any ops (noPanic Q) S t.len listed a w) ∧
  (chkT ops true t listed=true→∀ m,t.len≤m+1→∀ j∈t.heads,wpOp P ops (noPanic Q) j (fun a' w'=>S w'∧wpAnyH P .any ops (noPanic Q) S m (listed.setIfInBounds j true) a' w') a w):=by
 intro t
 induction t with
 | line l =>
  intro listed a w hl hS h
  have hl':∀ x∈l,x.2<ops.size:=fun x hx=>by simpa using List.all_eq_true.1 hl x hx
  have hk:∀ (listed:Array Bool) (a:Act) (w:World),(Region.ready .any ops listed).isEmpty=true→S w→Q .normal a w→wpAnyH P .any ops (noPanic Q) S 0 listed a w :=
   fun listed a w h1 _ h2=>wpAnyH_done (P:=P) (S:=S) (Q:=noPanic Q) (by simpa using h1) h2 0
  refine⟨fun hc=>?_,fun hc m hm j hj=>?_⟩
  ·
   simp only[chkT,Bool.not_false,Bool.true_or,Bool.true_and] at hc
   have:=anyH_of_K hs _ Q 0 hk l listed a w hl' hc hS h
   simpa [Tree.len] using this
  ·
   cases l with
   | nil=>simp[Tree.heads] at hj
   | cons x r =>
    obtain⟨b,i⟩:=x
    cases b with
    | true=>simp[Tree.heads] at hj
    | false =>
     simp only[Tree.heads,List.mem_singleton] at hj
     subst hj
     simp only[chkT,chkK,Bool.and_eq_true] at hc
     have hi:j<ops.size:=hl' (false,j) (by simp)
     have ho:ops[j]?=some (ops.getD j default):=by simp[hi]
     have ih:∀ a' w',S w'∧RA P ops Q S (r.map fun x=>(x.1,ops.getD x.2 default)) a' w'→S w'∧wpAnyH P .any ops (noPanic Q) S m (listed.setIfInBounds j true) a' w' :=
      fun a' w' ⟨hS',h'⟩=>⟨hS',anyH_le (by simp only[Tree.len,List.length_cons] at hm;omega) (anyH_of_K hs _ Q 0 hk r _ a' w' (fun x hx=>hl' x (by simp[hx])) hc.2 hS' h')⟩
     refine wpOp_some ho ?_
     simp only[RT,List.map_cons,RA] at h
     by_cases hw:Region.wanted (ops.getD j default) (yielded ops a.tmps)=true
     ·
      rw[if_pos hw] at h ⊢
      exact Oper.wp_mono ih h
     ·
      rw[if_neg hw] at h ⊢
      exact ih _ _ ⟨hS,h⟩
 | fork l x y ihx ihy =>
  intro listed a w hl hS h
  simp only[Tree.all,Bool.and_eq_true] at hl
  have hl':∀ x∈l,x.2<ops.size:=fun x hx=>by simpa using List.all_eq_true.1 hl.1.1 x hx
  -- what follows behind the list
  have hk:∀ (listed:Array Bool) (a:Act) (w:World),(!(Region.ready .any ops listed).isEmpty && (Region.ready .any ops listed).all (fun j=>(x.heads++y.heads).contains j) && chkT ops true x listed && chkT ops true y listed)=true→S w →
    (S w∧RT P ops Q S x a w∧RT P ops Q S y a w)→wpAnyH P .any ops (noPanic Q) S (max x.len y.len) listed a w:=by
   intro listed a w hc _ ⟨hS,hx,hy⟩
   simp only[Bool.and_eq_true] at hc
   obtain⟨⟨⟨h0,h1⟩,h2⟩,h3⟩:=hc
   have hpos:∃ m,max x.len y.len=m+1:=by
    cases hm:max x.len y.len with
    | succ m=>exact⟨m,rfl⟩
    | zero =>
     exfalso
     have:∀ t:Tree,t.len=0→t.heads=[]:=by
      intro t
      induction t with
      | line l=>intro h;simp only[Tree.len,List.length_eq_zero_iff] at h;subst h;rfl
      | fork l x y ix iy =>
       intro h
       simp only[Tree.len] at h
       have hl0:l=[]:=List.eq_nil_of_length_eq_zero (by omega)
       subst hl0
       simp only[Tree.heads,ix (by omega),iy (by omega),List.append_nil]
     have hx0:=this x (by omega)
     have hy0:=this y (by omega)
     rw[hx0,hy0] at h1
     cases hr:Region.ready .any ops listed with
     | nil=>rw[hr] at h0;simp at h0
     | cons j r=>rw[hr] at h1;simp at h1
   obtain⟨m,hm⟩:=hpos
   rw[hm]
   refine wpAnyH_all rfl (by intro he;rw[he] at h0;simp at h0) fun j hj=>?_
   have hjm:=List.all_eq_true.1 h1 j hj
   simp only[List.contains_eq_mem,List.mem_append,decide_eq_true_eq] at hjm
   rcases hjm with hjm | hjm
   ·
    exact (ihx listed a w hl.1.2 hS hx).2 h2 m (by omega) j hjm
   ·
    exact (ihy listed a w hl.2 hS hy).2 h3 m (by omega) j hjm
  refine⟨fun hc=>?_,fun hc m hm j hj=>?_⟩
  ·
   have hc':chkK ops (fun z=> !(Region.ready .any ops z).isEmpty && (Region.ready .any ops z).all (fun j=>(x.heads++y.heads).contains j) && chkT ops true x z && chkT ops true y z) false l listed=true:=by
    cases l<;>simpa [chkT] using hc
   have:=anyH_of_K hs _ _ (max x.len y.len) hk l listed a w hl' hc' hS h
   simpa [Tree.len,Nat.add_comm] using this
  ·
   cases l with
   | nil =>
    simp only[Tree.heads,List.mem_append] at hj
    simp only[chkT,Bool.and_eq_true] at hc
    obtain⟨_,hx,hy⟩:=h
    simp only[Tree.len,List.length_nil,Nat.zero_add] at hm
    rcases hj with hj | hj
    ·
     exact (ihx listed a w hl.1.2 hS hx).2 hc.1 m (by omega) j hj
    ·
     exact (ihy listed a w hl.2 hS hy).2 hc.2 m (by omega) j hj
   | cons z r =>
    obtain⟨b,i⟩:=z
    cases b with
    | true=>simp[Tree.heads] at hj
    | false =>
     simp only[Tree.heads,List.mem_singleton] at hj
     subst hj
     simp only[chkT,chkK] at hc
     have hi:j<ops.size:=hl' (false,j) (by simp)
     have ho:ops[j]?=some (ops.getD j default):=by simp[hi]
     have ih:∀ a' w',S w'∧RA P ops (fun _ a w=>S w∧RT P ops Q S x a w∧RT P ops Q S y a w) S (r.map fun x=>(x.1,ops.getD x.2 default)) a' w'→S w'∧wpAnyH P .any ops (noPanic Q) S m (listed.setIfInBounds j true) a' w' :=
      fun a' w' ⟨hS',h'⟩=>⟨hS',anyH_le (by simp only[Tree.len,List.length_cons] at hm;omega) (anyH_of_K hs _ _ (max x.len y.len) hk r _ a' w' (fun x hx=>hl' x (by simp[hx])) hc hS' h')⟩
     refine wpOp_some ho ?_
     simp only[RT,List.map_cons,RA] at h
     by_cases hw:Region.wanted (ops.getD j default) (yielded ops a.tmps)=true
     ·
      rw[if_pos hw] at h ⊢
      exact Oper.wp_mono ih h
     ·
      rw[if_neg hw] at h ⊢
      exact ih _ _ ⟨hS,h⟩
theorem wp_forks {id:Nat} {a:Act} {w:World} (t:Tree) (hm:P.follows .mixedOrders=true) (hs:Region.noSelect ops=true) (hlen:Nat.ble t.len ops.size=true)
  (hl:t.all (fun i=>decide (i<ops.size))=true) (hc:chkT ops false t (Array.replicate ops.size false)=true) (hS:S w.drew)
  (h:RT P ops Q S t a w.drew):(Code.region id ops true).wp P Q a w :=
 Code.wp_mono noPanic_imp (wp_region_held (S:=S) hm (anyH_le (Nat.le_of_ble_eq_true hlen) ((anyH_of_T hs t _ a _ hl hS h).1 hc)))
theorem wp_plain {id:Nat} {a:Act} {w:World} {l:List Oper} (h:RA P l.toArray Q S (l.map fun o=>(false,o)) a w):(Code.region id l.toArray false).wp P Q a w:=by
 refine Code.wp_mono noPanic_imp (wp_region_lit ?_)
 have key:∀ (l':List Oper) (a:Act) (w:World),RA P l.toArray Q S (l'.map fun o=>(false,o)) a w→wpList P l.toArray (noPanic Q) l' a w:=by
  intro l'
  induction l' with
  | nil=>intro a w h;exact h
  | cons o r ih =>
   intro a w h
   simp only[List.map_cons,RA] at h
   unfold wpList
   split
   ·
    rename_i hw
    rw[if_pos hw] at h
    exact .inl (Oper.wp_mono (fun a' w' h'=>ih a' w' h'.2) (wp_never h))
   ·
    rename_i hw
    rw[if_neg hw] at h
    exact ih _ _ h
 exact key l a w h
theorem wp_loop_ghost {σ:Type} {c:Code} {w:World} {a:Act} (I:σ→Act→World→Prop) (μ:σ→Nat) (x:σ) (h₀:I x a w)
  (round:∀ x a w,I x a w→c.wp P (Exit.then (fun a' w'=>∃ x',I x' a' w'∧μ x'<μ x) Q) a w):(Code.loop c).wp P Q a w:=by
 intro b k cs
 have key:∀ n x a w,μ x=n→I x a w →
   ∃ e a' w',Q e a' w'∧Arrives P (lone (b.at a (.code c :: .inLoop c::k)) cs w) b k cs e a' w':=by
  intro n
  induction n using Nat.strongRecOn with
  | _ n ih =>
   intro x a w hn hI
   obtain⟨e,a₁,w₁,hq,harr⟩:=round x a w hI b (.inLoop c::k) cs
   cases e with
   | normal =>
    obtain⟨x₁,hI₁,hlt⟩:=hq
    obtain⟨e₂,a₂,w₂,hq₂,harr₂⟩:=ih (μ x₁) (hn▸hlt) x₁ a₁ w₁ rfl hI₁
    exact⟨e₂,a₂,w₂,hq₂,.of_steps (Steps.trans harr (.one step_inLoop)) harr₂⟩
   | exit id=>exact⟨_,a₁,w₁,hq,.pass (x:= .inLoop c) rfl (fun _ _=> .inl (by simp)) harr⟩
   | goto l=>exact⟨_,a₁,w₁,hq,.pass (x:= .inLoop c) rfl (fun _ _=> .inl (by simp)) harr⟩
   | ret=>exact⟨_,a₁,w₁,hq,.pass (x:= .inLoop c) rfl (fun _ _=> .inl (by simp)) harr⟩
   | panic ch=>exact⟨_,a₁,w₁,hq,.pass (x:= .inLoop c) rfl (fun _ _=> .inl (by simp)) harr⟩
   | outgrown=>exact⟨_,a₁,w₁,hq,.pass (x:= .inLoop c) rfl (fun _ _=> .inl (by simp)) harr⟩
 obtain⟨e,a',w',hq,harr⟩:=key _ x a w rfl h₀
 exact⟨e,a',w',hq,.of_steps (.one step_loop) harr⟩
end
section
variable (P:Program) (n:Nat) (ops:Array Oper) (Q:Exit→Act→World→Prop) (S:World→Prop)
def RL (l:List (Bool × Oper)) (E:Env) (w:World):Prop:=S w→∀ a,At n E a→RA P ops Q S l a w
def CW (c:Code) (Q:Exit→Act→World→Prop) (E:Env) (w:World):Prop:=∀ a,At n E a→c.wp P Q a w
def Run (o:Oper) (E:Env) (w:World) (v:Value) (w':World):Prop:=∀ a,At n E a→(execOp a.eval o).run P w = .ok (.value v) w'
end
section
variable {P:Program} {n:Nat} {ops:Array Oper} {Q:Exit→Act→World→Prop} {S:World→Prop} {rest:List (Bool × Oper)} {E:Env} {w w':World} {o:Oper} {d:Nat} {v:Value}
theorem RL.done (h:∀ a,At n E a→Q .normal a w):RL P n ops Q S [] E w:=fun _ a ha=>h a ha
theorem RL.step (hg:wants ops E o=some true) (hd:o.dst=some d) (hb:Nat.blt d n=true) (hr:Run P n o E w v w') (hS:S w') (h:RL P n ops Q S rest ((d,v)::E) w') :
  RL P n ops Q S ((false,o)::rest) E w:=fun _ a ha=>by
 simp only[RA,ha.wants hg,if_true]
 unfold Oper.wp
 rw[hr a ha]
 simp only[Oper.upon,hd]
 exact⟨hS,h hS _ (ha.put hb v)⟩
theorem RL.skip (hg:wants ops E o=some true) (hd:o.dst=none) (hr:∀ a,At n E a→(execOp a.eval o).run P w = .ok .skip w') (hS:S w') (h:RL P n ops Q S rest E w') :
  RL P n ops Q S ((false,o)::rest) E w:=fun _ a ha=>by
 simp only[RA,ha.wants hg,if_true]
 unfold Oper.wp
 rw[hr a ha]
 simp only[Oper.upon,hd,Act.put]
 exact⟨hS,h hS _ ha⟩
theorem RL.take (hg:wants ops E o=some true) (hd:o.dst=some d) (hb:Nat.blt d n=true) (hr:∀ w,S w→Run P n o E w v w) (h:RL P n ops Q S rest ((d,v)::E) w) :
  RL P n ops Q S ((true,o)::rest) E w:=fun hS a ha =>
 ⟨v,.inl ⟨ha.wants hg,fun w' hw'=>hr w' hw' a ha⟩,by rw[hd];exact h hS _ (ha.put hb v)⟩
theorem RL.pass {t:Bool} (hg:wants ops E o=some false) (hd:o.dst=some d) (hb:Nat.blt d n=true) (h:RL P n ops Q S rest ((d,undef)::E) w) :
  RL P n ops Q S ((t,o)::rest) E w:=fun hS a ha=>by
 cases t with
 | false=>simp only[RA,ha.wants hg,Bool.false_eq_true,if_false,hd];exact h hS _ (ha.put hb _)
 | true=>exact⟨undef,.inr ⟨ha.wants hg,rfl⟩,by rw[hd];exact h hS _ (ha.put hb _)⟩
theorem RL.pure {t:Bool} (hg:wants ops E o=some true) (hd:o.dst=some d) (hb:Nat.blt d n=true) (hp:pv (ev E) o.op=some v) (h:RL P n ops Q S rest ((d,v)::E) w) :
  RL P n ops Q S ((t,o)::rest) E w:=by
 cases t with
 | false=>exact fun hS=>RL.step hg hd hb (fun a ha=>pv_run hp a ha w) hS h hS
 | true=>exact RL.take hg hd hb (fun w _ a ha=>pv_run hp a ha w) h
theorem RL.part {b:Bool} {l:List (Bool × Oper)} (t:Nat) (ht:look E t=some (.bool b)) (h1:b=true→RL P n ops Q S l ((t,.bool true)::E) w) (h0:b=false→RL P n ops Q S l ((t,.bool false)::E) w) :
  RL P n ops Q S l E w:=fun hS a ha=>by
 cases b with
 | true=>exact h1 rfl hS a (ha.more ht)
 | false=>exact h0 rfl hS a (ha.more ht)
theorem CW.plain {id:Nat} {l:List Oper} (h:RL P n l.toArray Q (fun _=>True) (l.map fun o=>(false,o)) E w):CW P n (.region id l.toArray false) Q E w :=
 fun a ha=>wp_plain (S:=fun _=>True) (h trivial a ha)
theorem CW.draws {id:Nat} {l:List Oper} (order:List (Bool × Nat)) (S:World→Prop) (hm:P.follows .mixedOrders=true) (hs:Region.noSelect l.toArray=true) (hlen:order.length=l.toArray.size)
  (hl:(order.all fun x=>decide (x.2<l.toArray.size))=true) (hc:chk l.toArray order (Array.replicate l.toArray.size false)=true) (hS:S w.drew)
  (h:RL P n l.toArray Q S (order.map fun x=>(x.1,l.toArray.getD x.2 default)) E w.drew):CW P n (.region id l.toArray true) Q E w :=
 fun a ha=>wp_draws order hm hs hlen hl hc hS (h hS a ha)
theorem CW.forks {id:Nat} {l:List Oper} (t:Tree) (S:World→Prop) (hm:P.follows .mixedOrders=true) (hs:Region.noSelect l.toArray=true) (hlen:Nat.ble t.len l.toArray.size=true)
  (hl:(t.all fun i=>decide (i<l.toArray.size))=true) (hc:chkT l.toArray false t (Array.replicate l.toArray.size false)=true) (hS:S w.drew)
  (h:∀ a,At n E a→RT P l.toArray Q S t a w.drew):CW P n (.region id l.toArray true) Q E w :=
 fun a ha=>wp_forks t hm hs hlen hl hc hS (h a ha)
theorem RT.pre {l:List (Bool × Nat)} {x y:Tree} (hS:S w) (h:RL P n ops (fun _ a w=>S w∧RT P ops Q S x a w∧RT P ops Q S y a w) S (l.map fun z=>(z.1,ops.getD z.2 default)) E w):∀ a,At n E a→RT P ops Q S (.fork l x y) a w :=
 fun a ha=>h hS a ha
theorem RT.end_ {l:List (Bool × Nat)} (hS:S w) (h:RL P n ops Q S (l.map fun z=>(z.1,ops.getD z.2 default)) E w):∀ a,At n E a→RT P ops Q S (.line l) a w:=fun a ha=>h hS a ha
theorem RT.both {x y:Tree} (hS:S w) (hx:∀ a,At n E a→RT P ops Q S x a w) (hy:∀ a,At n E a→RT P ops Q S y a w):∀ a,At n E a→S w∧RT P ops Q S x a w∧RT P ops Q S y a w :=
 fun a ha=>⟨hS,hx a ha,hy a ha⟩
theorem CW.seq {x y:Code} (h:CW P n x (Exit.then (fun a w=>y.wp P Q a w) Q) E w):CW P n (.seq x y) Q E w:=fun a ha=>wp_seq (h a ha)
theorem CW.block {id:Nat} {c:Code} (h:CW P n c (Exit.inBlock id Q) E w):CW P n (.block id c) Q E w:=fun a ha=>wp_block (h a ha)
theorem CW.skip (h:∀ a,At n E a→Q .normal a w):CW P n .skip Q E w:=fun a ha=>wp_skip (h a ha)
theorem CW.exit {id:Nat} (h:∀ a,At n E a→Q (.exit id) a w):CW P n (.exit id) Q E w:=fun a ha=>wp_exit (h a ha)
theorem CW.ret (h:∀ a,At n E a→Q .ret a w):CW P n .ret Q E w:=fun a ha=>wp_ret (h a ha)
theorem CW.cond {c:Operand} {x y:Code} {b:Bool} (hc:ev E c=some (.bool b)) (ht:b=true→CW P n x Q E w) (hf:b=false→CW P n y Q E w):CW P n (.cond c x y) Q E w :=
 fun a ha=>wp_cond_split (ha.ev hc) (fun hb=>ht hb a ha) (fun hb=>hf hb a ha)
theorem CW.yes {c:Operand} {x y:Code} (hc:ev E c=some (.bool true)) (h:CW P n x Q E w):CW P n (.cond c x y) Q E w:=fun a ha=>wp_cond_true (ha.ev hc) (h a ha)
theorem CW.no {c:Operand} {x y:Code} (hc:ev E c=some (.bool false)) (h:CW P n y Q E w):CW P n (.cond c x y) Q E w:=fun a ha=>wp_cond_false (ha.ev hc) (h a ha)
theorem CW.test {c:Operand} {x y:Code} {p:Prop} [Decidable p] (hc:ev E c=some (.bool (decide p))) (ht:p→CW P n x Q E w) (hf:¬ p→CW P n y Q E w):CW P n (.cond c x y) Q E w :=
 CW.cond hc (fun h=>ht (of_decide_eq_true h)) (fun h=>hf (of_decide_eq_false h))
theorem CW.eq {c:Operand} {x y:Code} {i j:Int} (hc:ev E c=some (.bool (i==j))) (ht:i=j→CW P n x Q E w) (hf:i≠j→CW P n y Q E w):CW P n (.cond c x y) Q E w :=
 CW.cond hc (fun h=>ht (by simpa using h)) (fun h=>hf (by simpa using h))
theorem CW.ne {c:Operand} {x y:Code} {i j:Int} (hc:ev E c=some (.bool (i != j))) (ht:i≠j→CW P n x Q E w) (hf:i=j→CW P n y Q E w):CW P n (.cond c x y) Q E w :=
 CW.cond hc (fun h=>ht (by simpa using h)) (fun h=>hf (by simpa using h))
theorem CW.less {c:Code} (E':Env) (hs:Sub E' E) (h:CW P n c Q E' w):CW P n c Q E w:=fun a ha=>h a (ha.sub hs)
theorem CW.meet {x y:Code} (J:Env→World→Prop) (hx:CW P n x (Exit.then (fun a w'=>∃ E',At n E' a∧J E' w') Q) E w) (hy:∀ E' w',J E' w'→CW P n y Q E' w'):CW P n (.seq x y) Q E w :=
 fun a ha=>wp_seq (wp_mono (hx a ha) fun e a' w' h=>by
  cases e<;>first | exact h | (obtain⟨E',h1,h2⟩:=h;exact hy E' w' h2 a' h1))
theorem comes {a:Act} {J:Env→World→Prop} (E':Env) (hs:Sub E' E) (hJ:J E' w) (ha:At n E a):∃ E'',At n E'' a∧J E'' w:=⟨E',ha.sub hs,hJ⟩
theorem CW.loop {σ:Type} {c:Code} (J:σ→Env→World→Prop) (μ:σ→Nat) (x0:σ) (E0:Env) (hsub:Sub E0 E) (h0:J x0 E0 w)
  (round:∀ x E w,J x E w→CW P n c (Exit.then (fun a' w'=>∃ x' E',At n E' a'∧J x' E' w'∧μ x'<μ x) Q) E w):CW P n (.loop c) Q E w:=fun a ha=>by
 refine wp_loop_ghost (fun x a w=>∃ E,At n E a∧J x E w) μ x0 ⟨E0,ha.sub hsub,h0⟩ ?_
 rintro x a w ⟨E,hE,hJ⟩
 exact wp_mono (round x E w hJ a hE) fun e a' w' h=>by
  cases e<;>first | exact h | (obtain⟨x',E',h1,h2,h3⟩:=h;exact⟨x',⟨E',h1,h2⟩,h3⟩)
end
end Go.Lw
namespace Go.Lw
open Go.RowKit
abbrev Res:=Nat→Option Obj
def Res.nil:Res:=fun _=>none
def Res.one (b:Nat) (x:Obj):Res:=fun k=>if k=b then some x else none
def Res.put (r:Res) (b:Nat) (x:Obj):Res:=fun k=>if k=b then some x else r k
def Res.join (r q:Res):Res:=fun k=>match r k with | some x=>some x | none=>q k
def Apart (r q:Res):Prop:=∀ b,r b≠none→q b=none
def In (r:Res) (w:World):Prop:=∀ b x,r b=some x→w.heap[b]?=some x
def Le (s s':Res):Prop:=∀ b x,s b=some x→s' b=some x
theorem Le.refl (s:Res):Le s s:=fun _ _ h=>h
theorem Le.trans {a b c:Res} (h:Le a b) (k:Le b c):Le a c:=fun i x hx=>k i x (h i x hx)
theorem In.le {r q:Res} {w:World} (h:In q w) (hl:Le r q):In r w:=fun b x hx=>h b x (hl b x hx)
theorem In.lt {r:Res} {w:World} (h:In r w) {b:Nat} (hb:r b≠none):b<w.heap.size:=by
 cases hx:r b with
 | none=>exact absurd hx hb
 | some x=>exact (Array.getElem?_eq_some_iff.1 (h b x hx)).1
theorem Apart.symm {r q:Res} (h:Apart r q):Apart q r:=fun b hb=>by
 cases hr:r b with
 | none=>rfl
 | some x=>exact absurd (h b (by rw[hr];simp)) hb
theorem Apart.nil (q:Res):Apart Res.nil q:=fun _ h=>absurd rfl h
theorem Apart.le {r r' q:Res} (h:Apart r q) (hl:Le r' r):Apart r' q:=fun b hb=>h b (by
 cases hx:r' b with
 | none=>exact absurd hx hb
 | some x=>rw[hl b x hx];simp)
theorem Apart.join {r r' q:Res} (h:Apart r q) (h':Apart r' q):Apart (r.join r') q:=fun b hb=>by
 cases hx:r b with
 | some x=>exact h b (by rw[hx];simp)
 | none=>exact h' b (by simpa [Res.join,hx] using hb)
theorem Apart.put {r q:Res} (h:Apart r q) {b:Nat} (hb:r b≠none) (x:Obj):Apart (r.put b x) q:=fun k hk=>by
 by_cases hkb:k=b
 ·
  subst hkb;exact h k hb
 ·
  exact h k (by simpa [Res.put,hkb] using hk)
theorem Res.le_join_left (r q:Res):Le r (r.join q):=fun b x hx=>by simp[Res.join,hx]
theorem Res.le_join_right {r q:Res} (h:Apart r q):Le q (r.join q):=fun b x hx=>by
 have:r b=none:=h.symm b (by rw[hx];simp)
 simp[Res.join,this,hx]
def Good (w:World) (s:Res):List Res→Prop
 | []=>In s w
 | r::os=>In r w∧Apart r s∧(∀ q∈os,Apart r q)∧Good w s os
section
variable {w w':World} {s s':Res} {r q:Res} {os os':List Res}
theorem Good.sh (h:Good w s os):In s w:=by
 induction os with
 | nil=>exact h
 | cons r os ih=>exact ih h.2.2.2
theorem Good.mem (h:Good w s os) (hr:r∈os):In r w:=by
 induction os with
 | nil=>cases hr
 | cons q os ih =>
  rcases List.mem_cons.1 hr with rfl | hr
  ·
   exact h.1
  ·
   exact ih h.2.2.2 hr
theorem Good.far (h:Good w s os) (hr:r∈os):Apart r s:=by
 induction os with
 | nil=>cases hr
 | cons q os ih =>
  rcases List.mem_cons.1 hr with rfl | hr
  ·
   exact h.2.1
  ·
   exact ih h.2.2.2 hr
theorem Good.perm (hp:os.Perm os') (h:Good w s os):Good w s os':=by
 induction hp with
 | nil=>exact h
 | cons x hp ih=>exact⟨h.1,h.2.1,fun q hq=>h.2.2.1 q (hp.symm.subset hq),ih h.2.2.2⟩
 | swap x y l =>
  obtain⟨h1,h2,h3,h4,h5,h6,h7⟩:=h
  exact⟨h4,h5,fun q hq=>by
   rcases List.mem_cons.1 hq with rfl | hq
   ·
    exact (h3 _ (by simp)).symm
   ·
    exact h6 q hq,h1,h2,fun q hq=>h3 q (by simp[hq]),h7⟩
 | trans _ _ ih1 ih2=>exact ih2 (ih1 h)
theorem perm_pick:∀ (i:Nat) (os:List Res) (r:Res),os[i]?=some r→os.Perm (r::os.eraseIdx i)
 | _,[],_,h=>by simp at h
 | 0,x::os,r,h=>by simp at h;subst h;exact List.Perm.refl _
 | i+1,x::os,r,h=>by
  have h':os[i]?=some r:=by simpa using h
  exact ((perm_pick i os r h').cons x).trans (List.Perm.swap r x _)
theorem perm_back:∀ (i:Nat) (os:List Res) (r r':Res),os[i]?=some r→(r'::os.eraseIdx i).Perm (os.set i r')
 | _,[],_,_,h=>by simp at h
 | 0,x::os,r,r',h=>by simp
 | i+1,x::os,r,r',h=>by
  have h':os[i]?=some r:=by simpa using h
  exact (List.Perm.swap x r' _).trans ((perm_back i os r r' h').cons x)
theorem Good.front (h:Good w s os) (i:Nat) (hi:os[i]?=some r):Good w s (r::os.eraseIdx i):=h.perm (perm_pick i os r hi)
theorem Good.back {r':Res} (i:Nat) (hi:os[i]?=some r) (h:Good w s (r'::os.eraseIdx i)):Good w s (os.set i r'):=h.perm (perm_back i os r r' hi)
theorem Good.drop (h:Good w s (r::os)):Good w s os:=h.2.2.2
theorem Good.nil (h:Good w s os):Good w s (Res.nil::os):=⟨(fun _ _ h=>nomatch h),Apart.nil _,(fun _ _=>Apart.nil _),h⟩
theorem Good.keep (h:Good w s os) (hk:∀ b,b<w.heap.size→w'.heap[b]?=w.heap[b]?):Good w' s os:=by
 have hin:∀ q,In q w→In q w':=fun q hq b x hx=>(hk b (hq.lt (by rw[hx];simp))).trans (hq b x hx)
 induction os with
 | nil=>exact hin s h
 | cons r os ih=>exact⟨hin r h.1,h.2.1,h.2.2.1,ih h.2.2.2⟩
theorem Good.drew (h:Good w s os):Good w.drew s os:=h.keep fun _ _=>rfl
theorem Good.same (h:Good w s os) (he:w'.heap=w.heap):Good w' s os:=h.keep fun _ _=>by rw[he]
theorem Good.alloc (h:Good w s os) (x:Obj):Good (w.alloc x) s (Res.one w.heap.size x::os):=by
 have hfar:∀ q,In q w→Apart (Res.one w.heap.size x) q:=fun q hq b hb=>by
  by_cases hbw:b=w.heap.size
  ·
   subst hbw
   cases hqb:q w.heap.size with
   | none=>rfl
   | some y=>exact absurd (hq.lt (by rw[hqb];simp)) (Nat.lt_irrefl _)
  ·
   exact absurd (by simp[Res.one,hbw]) hb
 refine⟨fun b y hy=>?_,hfar s h.sh,fun q hq=>hfar q (h.mem hq),h.keep fun b hb=>Below.heap_alloc w x b hb⟩
 by_cases hbw:b=w.heap.size
 ·
  subst hbw
  simp only[Res.one,if_true] at hy
  cases hy
  exact heap_alloc_new w x
 ·
  simp[Res.one,hbw] at hy
theorem Good.write (h:Good w s (r::os)) {b:Nat} {x y:Obj} (hb:r b=some x) (hy:w'.heap[b]?=some y) (hk:∀ k,k<w.heap.size→k≠b→w'.heap[k]?=w.heap[k]?):Good w' s (r.put b y::os):=by
 obtain⟨h1,h2,h3,h4⟩:=h
 have hne:r b≠none:=by rw[hb];simp
 have hin:∀ q,In q w→q b=none→In q w':=fun q hq hqb k z hz=>by
  have hkb:k≠b:=fun e=>by subst e;rw[hqb] at hz;cases hz
  exact (hk k (hq.lt (by rw[hz];simp)) hkb).trans (hq k z hz)
 refine⟨fun k z hz=>?_,h2.put hne y,fun q hq=>(h3 q hq).put hne y,?_⟩
 ·
  by_cases hkb:k=b
  ·
   subst hkb
   simp only[Res.put,if_true] at hz
   cases hz
   exact hy
  ·
   simp only[Res.put,hkb,if_false] at hz
   exact (hk k (h1.lt (by rw[hz];simp)) hkb).trans (h1 k z hz)
 ·
  clear h1
  induction os with
  | nil=>exact hin s h4 (h2 b hne)
  | cons q os ih=>exact⟨hin q h4.1 (h3 q (by simp) b hne),h4.2.1,h4.2.2.1,ih (fun p hp=>h3 p (by simp[hp])) h4.2.2.2⟩
theorem Good.share (h:Good w s (r::os)):Good w (s.join r) os:=by
 obtain⟨h1,h2,h3,h4⟩:=h
 induction os with
 | nil =>
  intro b x hx
  cases hs:s b with
  | some y=>simp only[Res.join,hs] at hx;exact hx▸h4 b y hs
  | none=>simp only[Res.join,hs] at hx;exact h1 b x hx
 | cons q os ih =>
  refine⟨h4.1,(Apart.join h4.2.1.symm (h3 q (by simp))).symm,h4.2.2.1,ih (fun p hp=>h3 p (by simp[hp])) h4.2.2.2⟩
theorem Good.join (h:Good w s (r::q::os)):Good w s (r.join q::os):=by
 obtain⟨h1,h2,h3,h4,h5,h6,h7⟩:=h
 refine⟨fun b x hx=>?_,Apart.join h2 h5,fun p hp=>Apart.join (h3 p (by simp[hp])) (h6 p hp),h7⟩
 cases hr:r b with
 | some y=>simp only[Res.join,hr] at hx;exact hx▸h1 b y hr
 | none=>simp only[Res.join,hr] at hx;exact h4 b x hx
theorem Good.unshare (h:Good w s os) (hl:Le r s):Good w (fun b=>match r b with | some _=>none | none=>s b) (r::os):=by
 refine⟨h.sh.le hl,fun b hb=>?_,fun q hq=>fun b hb=>?_,?_⟩
 ·
  cases hr:r b with
  | none=>exact absurd hr hb
  | some x=>simp only[hr]
 ·
  cases hr:r b with
  | none=>exact absurd hr hb
  | some x =>
   have:=(h.far hq).symm b (by rw[hl b x hr];simp)
   exact this
 ·
  have hle:Le (fun b=>match r b with | some _=>none | none=>s b) s:=fun b x hx=>by
   cases hr:r b with
   | none=>simpa [hr] using hx
   | some y=>simp[hr] at hx
  clear hl
  induction os with
  | nil=>exact In.le h hle
  | cons q os ih=>exact⟨h.1,(h.2.1.symm.le hle).symm,h.2.2.1,ih h.2.2.2⟩
end
structure Aux (w w':World):Prop where
 os:w'.os=w.os
 tape:w'.tape=w.tape
 output:w'.output=w.output
 size:w.heap.size≤w'.heap.size
theorem Aux.refl (w:World):Aux w w:=⟨rfl,rfl,rfl,Nat.le_refl _⟩
theorem Aux.trans {a b c:World} (h:Aux a b) (k:Aux b c):Aux a c:=⟨k.os.trans h.os,k.tape.trans h.tape,k.output.trans h.output,Nat.le_trans h.size k.size⟩
theorem Aux.drew (w:World):Aux w w.drew:=⟨rfl,rfl,rfl,Nat.le_refl _⟩
theorem Aux.alloc (w:World) (x:Obj):Aux w (w.alloc x):=⟨rfl,rfl,rfl,by simp⟩
theorem Aux.grown {w w':World} {row:Option Nat} (h:w.grownBy w' row):Aux w w':=⟨h.os,h.tape,h.output,h.size⟩
def Post (w:World) (s:Res) (os:List Res) (Φ:Res→Res→Value→Prop):Ending→World→Prop:=fun e w' =>
 ∃ v s' A,e = .returned v∧Le s s'∧Good w' s' (A::os)∧Aux w w'∧Φ s' A v
theorem Post.mk {w w':World} {s s' A:Res} {os:List Res} {Φ:Res→Res→Value→Prop} {v:Value} (hl:Le s s') (hg:Good w' s' (A::os)) (ha:Aux w w') (h:Φ s' A v):Post w s os Φ (.returned v) w' :=
 ⟨v,s',A,rfl,hl,hg,ha,h⟩
def Holds (r:Res) (ad:Addr) (vs:List Value):Prop :=
 ∃ cs el fr,r ad.block=some (.cells cs el fr)∧ad.spot=none∧∀ j u,vs[j]?=some u→cs[ad.off+j]?=some u
theorem add_block (a:Addr) (n:Nat):(a.add n).block=a.block:=by unfold Addr.add;split<;>rfl
theorem add_off (a:Addr) (n:Nat):(a.add n).off=a.off+n:=by unfold Addr.add;split<;>simp_all
theorem add_spot {a:Addr} (h:a.spot=none) (n:Nat):(a.add n).spot=none:=by unfold Addr.add;split<;>simp_all
theorem add_add (a:Addr) (i j:Nat):(a.add i).add j=a.add (i+j):=by
 unfold Addr.add
 by_cases hi:i=0<;>by_cases hj:j=0<;>simp[hi,hj,Nat.add_assoc]
section
variable {r r':Res} {w:World} {ad:Addr} {vs us:List Value}
theorem Holds.le (h:Holds r ad vs) (hl:Le r r'):Holds r' ad vs :=
 let ⟨cs,el,fr,h1,h2,h3⟩:=h
 ⟨cs,el,fr,hl _ _ h1,h2,h3⟩
theorem Holds.cell (h:Holds r ad vs) (hin:In r w) {j:Nat} {u:Value} (hj:vs[j]?=some u):w.cell? (ad.add j)=some u:=by
 obtain⟨cs,el,fr,h1,h2,h3⟩:=h
 simp[World.cell?,add_block,hin _ _ h1,add_spot h2,add_off,h3 j u hj]
theorem Holds.part (h:Holds r ad vs) (k:Nat) (hu:∀ j u,us[j]?=some u→vs[k+j]?=some u):Holds r (ad.add k) us:=by
 obtain⟨cs,el,fr,h1,h2,h3⟩:=h
 exact⟨cs,el,fr,by rw[add_block];exact h1,add_spot h2 k,fun j u hj=>by rw[add_off,Nat.add_assoc];exact h3 _ u (hu j u hj)⟩
theorem Holds.one (b:Nat) (cs:Array Value) (el:TypeId):Holds (Res.one b (.cells cs el)) ⟨b,0,none⟩ cs.toList :=
 ⟨cs,el,(0,0),by simp[Res.one],rfl,fun j u hj=>by simpa using hj⟩
end
def Up {α:Type} (R:Res→List Value→α→Prop):Prop:=∀ s s' vs x,Le s s'→R s vs x→R s' vs x
def One {α:Type} (R:Res→List Value→α→Prop):Prop:=∀ s vs x,R s vs x→∀ v∈vs,v.oneCell'=true
section
variable {α:Type} (R:Res→List Value→α→Prop) (sz:Nat)
def Chunks (s:Res):List Value→List α→Prop
 | cs,[]=>cs=[]
 | cs,x::xs=>∃ vs rest,cs=vs++rest∧vs.length=sz∧R s vs x∧Chunks s rest xs
def Row (r s:Res) (ad:Addr) (xs:List α):Prop:=∃ cs,Holds r ad cs∧Chunks R sz s cs xs
def Imm (s:Res) (a:Option Addr) (c:Nat) (xs:List α):Prop:=xs.length≤c∧c≤maxLen∧(xs=[]∨∃ ad,a=some ad∧Row R sz s s ad xs)
def Own (el:TypeId) (s A:Res) (a:Option Addr) (c:Nat) (xs:List α):Prop :=
 (a=none∧c=0∧xs=[]) ∨
 ∃ g cs,a=some ⟨g,0,none⟩∧A g=some (.cells cs el (0,0))∧xs.length≤c∧c≤maxLen∧cs.size=c*sz∧Chunks R sz s (cs.toList.take (xs.length*sz)) xs
end
section
variable {α:Type} {R:Res→List Value→α→Prop} {sz:Nat} {r s s' A A':Res} {ad:Addr} {a:Option Addr} {c:Nat} {xs ys:List α} {el:TypeId} {cs ds:List Value}
theorem Chunks.length (h:Chunks R sz s cs xs):cs.length=xs.length*sz:=by
 induction xs generalizing cs with
 | nil=>rw[show cs=[] from h];simp
 | cons x xs ih =>
  obtain⟨vs,rest,rfl,hl,_,hr⟩:=h
  simp[hl,ih hr,Nat.add_mul,Nat.add_comm]
theorem Chunks.up (hR:Up R) (h:Chunks R sz s cs xs) (hl:Le s s'):Chunks R sz s' cs xs:=by
 induction xs generalizing cs with
 | nil=>exact h
 | cons x xs ih =>
  obtain⟨vs,rest,e,hv,hx,hr⟩:=h
  exact⟨vs,rest,e,hv,hR _ _ _ _ hl hx,ih hr⟩
theorem Chunks.append (h:Chunks R sz s cs xs) (k:Chunks R sz s ds ys):Chunks R sz s (cs++ds) (xs++ys):=by
 induction xs generalizing cs with
 | nil=>rw[show cs=[] from h];exact k
 | cons x xs ih =>
  obtain⟨vs,rest,rfl,hv,hx,hr⟩:=h
  exact⟨vs,rest++ds,by simp,hv,hx,ih hr⟩
theorem Chunks.part (h:Chunks R sz s cs (xs++ys)):Chunks R sz s (cs.take (xs.length*sz)) xs∧Chunks R sz s (cs.drop (xs.length*sz)) ys:=by
 induction xs generalizing cs with
 | nil=>simpa [Chunks] using h
 | cons x xs ih =>
  obtain⟨vs,rest,rfl,hv,hx,hr⟩:=h
  obtain⟨h1,h2⟩:=ih hr
  have e:(x::xs).length*sz=vs.length+xs.length*sz:=by rw[List.length_cons,Nat.add_mul,hv];omega
  rw[e,List.take_length_add_append,List.drop_length_add_append]
  exact⟨⟨vs,_,rfl,hv,hx,h1⟩,h2⟩
theorem Chunks.get (h:Chunks R sz s cs xs) {i:Nat} {x:α} (hi:xs[i]?=some x):∃ vs,vs.length=sz∧(∀ (j:Nat) u,vs[j]?=some u→cs[i*sz+j]?=some u)∧R s vs x:=by
 induction xs generalizing cs i with
 | nil=>simp at hi
 | cons y xs ih =>
  obtain⟨vs,rest,rfl,hv,hx,hr⟩:=h
  cases i with
  | zero =>
   simp only[List.getElem?_cons_zero,Option.some.injEq] at hi
   subst hi
   exact⟨vs,hv,fun j u hu=>by
    have hj:=(List.getElem?_eq_some_iff.1 hu).1
    rw[Nat.zero_mul,Nat.zero_add,List.getElem?_append_left hj];exact hu,hx⟩
  | succ i =>
   obtain⟨us,h1,h2,h3⟩:=ih hr (by simpa using hi)
   refine⟨us,h1,fun j u hu=>?_,h3⟩
   rw[List.getElem?_append_right (by rw[hv,Nat.add_mul];omega)]
   rw[←h2 j u hu]
   congr 1
   rw[hv,Nat.add_mul];omega
theorem Chunks.one (hR:One R) (h:Chunks R sz s cs xs):∀ v∈cs,v.oneCell'=true:=by
 induction xs generalizing cs with
 | nil=>rw[show cs=[] from h];simp
 | cons x xs ih =>
  obtain⟨vs,rest,rfl,hv,hx,hr⟩:=h
  intro v hm
  rcases List.mem_append.1 hm with hm | hm
  ·
   exact hR _ _ _ hx v hm
  ·
   exact ih hr v hm
theorem Chunks.single {vs:List Value} {x:α} (hv:vs.length=sz) (hx:R s vs x):Chunks R sz s vs [x]:=⟨vs,[],by simp,hv,hx,rfl⟩
theorem Chunks.set {vs:List Value} {x:α} (h:Chunks R sz s cs xs) {i:Nat} (hi:i<xs.length) (hv:vs.length=sz) (hx:R s vs x) :
  Chunks R sz s (cs.take (i*sz)++vs++cs.drop (i*sz+sz)) (xs.set i x):=by
 have e:xs=xs.take i++(xs[i]::xs.drop (i+1)):=by simp
 rw[e] at h
 obtain⟨h1,h2⟩:=h.part
 obtain⟨us,rest,h3,hu,_,hr⟩:=h2
 have hli:(xs.take i).length=i:=by simp;omega
 rw[hli] at h1 h3
 have hrest:rest=cs.drop (i*sz+sz):=by
  rw[←List.drop_drop,h3,← hu,List.drop_left]
 rw[←hrest,List.set_eq_take_append_cons_drop,if_pos hi,List.append_assoc]
 exact h1.append ⟨vs,rest,rfl,hv,hx,hr⟩
theorem Row.le (hR:Up R) (h:Row R sz r s ad xs) (hl:Le s s'):Row R sz r s' ad xs :=
 let ⟨cs,h1,h2⟩:=h
 ⟨cs,h1,h2.up hR hl⟩
theorem Row.mem {r':Res} (h:Row R sz r s ad xs) (hl:Le r r'):Row R sz r' s ad xs :=
 let ⟨cs,h1,h2⟩:=h
 ⟨cs,h1.le hl,h2⟩
theorem Row.get (h:Row R sz r s ad xs) {i:Nat} {x:α} (hi:xs[i]?=some x):∃ vs,vs.length=sz∧Holds r (ad.add (i*sz)) vs∧R s vs x:=by
 obtain⟨cs,h1,h2⟩:=h
 obtain⟨vs,h3,h4,h5⟩:=h2.get hi
 exact⟨vs,h3,h1.part _ h4,h5⟩
theorem Row.drop (h:Row R sz r s ad (xs++ys)):Row R sz r s (ad.add (xs.length*sz)) ys:=by
 obtain⟨cs,h1,h2⟩:=h
 refine⟨_,h1.part _ (fun j u hu=>?_),h2.part.2⟩
 rwa[List.getElem?_drop] at hu
theorem Row.take (h:Row R sz r s ad (xs++ys)):Row R sz r s ad xs:=by
 obtain⟨cs,h1,h2⟩:=h
 have h3:Holds r (ad.add 0) (cs.take (xs.length*sz)):=h1.part 0 (fun j u hu=>by
  rw[List.getElem?_take] at hu
  split at hu
  ·
   rwa[Nat.zero_add]
  ·
   cases hu)
 exact⟨_,by simpa [Addr.add] using h3,h2.part.1⟩
theorem Imm.up (hR:Up R) (h:Imm R sz s a c xs) (hl:Le s s'):Imm R sz s' a c xs :=
 ⟨h.1,h.2.1,h.2.2.imp id fun ⟨ad,e,hr⟩=>⟨ad,e,(hr.le hR hl).mem hl⟩⟩
theorem Imm.nil (s:Res) (a:Option Addr) (c:Nat) (hc:c≤maxLen):Imm R sz s a c []:=⟨by simp,hc,.inl rfl⟩
theorem Imm.le_max (h:Imm R sz s a c xs):xs.length≤maxLen:=Nat.le_trans h.1 h.2.1
theorem Own.le_max (h:Own R sz el s A a c xs):xs.length≤maxLen:=by
 rcases h with ⟨rfl,rfl,rfl⟩ | ⟨g,cs,rfl,hg,hl,hc,hcs,hr⟩
 ·
  simp
 ·
  exact Nat.le_trans hl hc
theorem Own.up (hR:Up R) (h:Own R sz el s A a c xs) (hl:Le s s'):Own R sz el s' A a c xs :=
 h.imp id fun ⟨g,cs,h1,h2,h3,h4,h5,h6⟩=>⟨g,cs,h1,h2,h3,h4,h5,h6.up hR hl⟩
theorem Own.mem (h:Own R sz el s A a c xs) (hl:Le A A'):Own R sz el s A' a c xs :=
 h.imp id fun ⟨g,cs,h1,h2,h3,h4,h5,h6⟩=>⟨g,cs,h1,hl _ _ h2,h3,h4,h5,h6⟩
theorem Own.nil (R:Res→List Value→α→Prop) (sz:Nat) (el:TypeId) (s A:Res):Own R sz el s A none 0 []:= .inl ⟨rfl,rfl,rfl⟩
theorem Own.row (h:Own R sz el s A a c xs):xs=[]∨∃ ad,a=some ad∧Row R sz A s ad xs:=by
 rcases h with ⟨rfl,rfl,rfl⟩ | ⟨g,cs,rfl,hg,hl,hc,hcs,hr⟩
 ·
  exact .inl rfl
 ·
  refine .inr ⟨_,rfl,_,⟨cs,el,(0,0),hg,rfl,fun j u hu=>?_⟩,hr⟩
  rw[List.getElem?_take] at hu
  split at hu
  ·
   simpa using hu
  ·
   cases hu
theorem Own.far (h:Own R sz el s A a c xs) {p:Nat} {ps:Array Value} {el':TypeId} {fr:Nat × Nat} (hp:A p=some (.cells ps el' fr)) (hne:el≠el'):∀ ad,a=some ad→ad.block≠p:=by
 rintro ad rfl rfl
 rcases h with ⟨h,_⟩ | ⟨g,cs,h,hg,_⟩
 ·
  cases h
 ·
  cases h
  rw[hg] at hp
  injection hp with hp
  injection hp with _ h2
  exact hne h2
theorem Own.put (h:Own R sz el s A a c xs) {p:Nat} (hp:∀ ad,a=some ad→ad.block≠p) (x:Obj):Own R sz el s (A.put p x) a c xs:=by
 rcases h with h | ⟨g,cs,rfl,hg,h⟩
 ·
  exact .inl h
 ·
  have:g≠p:=hp _ rfl
  exact .inr ⟨g,cs,rfl,by simp[Res.put,this,hg],h⟩
theorem put_other (r:Res) {b k:Nat} (x:Obj) (h:k≠b):r.put b x k=r k:=by simp[Res.put,h]
theorem Own.imm (hR:Up R) (h:Own R sz el s A a c xs) (h1:Le s s') (h2:Le A s'):Imm R sz s' a c xs:=by
 have hrow:=h.row
 rcases h with ⟨rfl,rfl,rfl⟩ | ⟨g,cs,rfl,hg,hl,hc,hcs,hr⟩
 ·
  exact Imm.nil s' none 0 (Nat.zero_le _)
 ·
  exact⟨hl,hc,hrow.imp id fun ⟨ad,e,hx⟩=>⟨ad,e,(hx.le hR h1).mem h2⟩⟩
end
def rng:IntKind→Int→Prop
 | .i8,n=> -128≤n∧n<128
 | .i16,n=> -32768≤n∧n<32768
 | .i32,n=> -2147483648≤n∧n<2147483648
 | .i64,n=> -9223372036854775808≤n∧n<9223372036854775808
 | .u8,n=>0≤n∧n<256
 | .u16,n=>0≤n∧n<65536
 | .u32,n=>0≤n∧n<4294967296
 | .u64,n=>0≤n∧n<18446744073709551616
theorem rng.wrap {k:IntKind} {n:Int} (h:rng k n):k.wrap n=n:=by
 cases k<;>simp only[rng] at h
 ·
  exact IntWalk.i8_in n (by omega)
 ·
  exact IntWalk.i16_in n (by omega)
 ·
  exact IntWalk.i32_in n (by omega)
 ·
  exact IntWalk.i64_in n (by omega)
 ·
  exact IntWalk.u8_in n (by omega)
 ·
  exact IntWalk.u16_in n (by omega)
 ·
  exact IntWalk.u32_in n (by omega)
 ·
  exact IntWalk.u64_in n (by omega)
theorem rng_wrap (k:IntKind) (n:Int):rng k (k.wrap n):=by
 cases k<;>simp only[rng,IntKind.wrap,IntKind.bits,IntKind.signed]<;>simp<;>(try split)<;>omega
def RInt (k:IntKind):Res→List Value→Int→Prop:=fun _ vs x=>vs=[.int k x]∧rng k x
def RBool:Res→List Value→Bool→Prop:=fun _ vs x=>vs=[.bool x]
def RStr:Res→List Value→ByteArray→Prop:=fun _ vs x=>vs=[.string x]∧x.size≤maxLen
theorem RInt.one (k:IntKind):One (RInt k):=fun _ vs x h v hv=>by rw[h.1] at hv;simp at hv;subst hv;rfl
theorem RBool.one:One RBool:=fun _ vs x h v hv=>by rw[show vs=[.bool x] from h] at hv;simp at hv;subst hv;rfl
theorem RStr.one:One RStr:=fun _ vs x h v hv=>by rw[h.1] at hv;simp at hv;subst hv;rfl
theorem RInt.up (k:IntKind):Up (RInt k):=fun _ _ _ _ _ h=>h
theorem RBool.up:Up RBool:=fun _ _ _ _ _ h=>h
theorem RStr.up:Up RStr:=fun _ _ _ _ _ h=>h
def RSl {α:Type} (R:Res→List Value→α→Prop) (sz:Nat):Res→List Value→List α→Prop:=fun s vs xs=>∃ a c,vs=[.slice a xs.length c]∧Imm R sz s a c xs
theorem RSl.up {α:Type} {R:Res→List Value→α→Prop} (hR:Up R) (sz:Nat):Up (RSl R sz):=fun _ _ _ _ hl ⟨a,c,h1,h2⟩=>⟨a,c,h1,h2.up hR hl⟩
end Go.Lw
namespace Go.Lw
open Go.RowKit
def tyc (P:Program) (t:TypeId):Option (Bool × Nat) :=
 match P.underlying t,P.info? t with
 | some d,some i=>some (match d with | .struct _ | .array _ _=>true | _=>false,i.size)
 | _,_=>none
def fld (P:Program) (s:TypeId) (k:Nat):Option (Nat × Nat) :=
 match P.underlying s with
 | some (.struct fs) =>
  match fs[k]? with
  | some f=>(P.info? f.type).map fun i=>(f.offset,i.size)
  | none=>none
 | _=>none
def slc (P:Program) (t:TypeId):Option (TypeId × Nat × Nat) :=
 match P.underlying t with
 | some (.slice e)=>(P.info? e).map fun i=>(e,i.size,i.bytes)
 | _=>none
def zer (P:Program) (t:TypeId):Option (List Value):=((P.info? t).bind (·.zero)).map (·.cells.toList)
def callable (P:Program) (f:FuncId):Bool :=
 match P.funcs[f]? with
 | some fn=>fn.body.isSome && !(fn.name == "runtime.NumGoroutine")
 | none=>false
section
variable {P:Program} {w:World} {t s e:TypeId} {b:Bool} {k n:Nat}
theorem tyc_agg (h:tyc P t=some (b,k)):(isAgg t).run P w = .ok b w∧(sizeOf t).run P w = .ok k w:=by
 unfold tyc at h
 split at h
 ·
  rename_i d i hd hi
  simp only[Option.some.injEq,Prod.mk.injEq] at h
  obtain⟨h1,h2⟩:=h
  constructor
  ·
   simp only[isAgg,Sem.run_bind,run_underlying hd,Result.andThen_ok]
   rw[←h1]
   cases d<;>simp
  ·
   simp[sizeOf,typeInfo,hi,h2]
 ·
  cases h
theorem slc_spec {m:Nat} (h:slc P t=some (e,k,m)):P.underlying t=some (.slice e)∧∃ i,P.info? e=some i∧i.size=k∧i.bytes=m:=by
 unfold slc at h
 split at h
 ·
  rename_i e' he
  cases hi:P.info? e' with
  | none=>simp[hi] at h
  | some i =>
   simp only[hi,Option.map_some,Option.some.injEq,Prod.mk.injEq] at h
   obtain⟨rfl,h2,h3⟩:=h
   exact⟨he,i,hi,h2,h3⟩
 ·
  cases h
end
section
variable {P:Program} {n:Nat} {E:Env} {w w':World} {o:Oper} {v:Value} {x y:Operand}
theorem Run.load1 {t:TypeId} {ad:Addr} {r:Res} {vs:List Value} {j:Nat} (ho:o.op = .load t x) (ht:tyc P t=some (false,1)) (hx:ev E x=some (.pointer (some (ad.add j)))) (h:Holds r ad vs) (hin:In r w) (hv:vs[j]?=some v) :
  Run P n o E w v w:=fun a ha=>by
 have hc:=h.cell hin hv
 unfold execOp
 simp only[ho,ha.ev hx]
 simp[Instr.loadAt,Instr.sureAddr,loadVar,(tyc_agg ht).1,load,Sem.run,hc,Sem.run_bind]
theorem Run.loadN {t:TypeId} {ad:Addr} {r:Res} {vs us:List Value} {j k:Nat} (ho:o.op = .load t x) (ht:tyc P t=some (true,k)) (hx:ev E x=some (.pointer (some (ad.add j)))) (h:Holds r ad vs) (hin:In r w)
  (hv:(vs.drop j).take k=us) (hl:us.length=k):Run P n o E w (.agg us.toArray) w:=fun a ha=>by
 have hp:Holds r (ad.add j) us:=h.part j (fun i u hu=>by
  rw[←hv,List.getElem?_take] at hu
  split at hu
  ·
   rwa[List.getElem?_drop] at hu
  ·
   cases hu)
 have hr:=run_loadCells_list (P:=P) w (ad.add j) us (fun i u hu=>hp.cell hin hu)
 rw[hl] at hr
 unfold execOp
 simp only[ho,ha.ev hx]
 simp[Instr.loadAt,Instr.sureAddr,loadVar,(tyc_agg ht).1,(tyc_agg ht).2,hr,Sem.run_bind]
theorem Run.field {s:TypeId} {i k off:Nat} {ad:Addr} (ho:o.op = .fieldAddr s x i) (hf:fld P s i=some (off,k)) (hk:Nat.blt 0 k=true) (hx:ev E x=some (.pointer (some ad))) :
  Run P n o E w (.pointer (some (ad.add off))) w:=fun a ha=>by
 have hk0:k≠0:=by intro h;subst h;simp[Nat.blt] at hk
 unfold fld at hf
 split at hf
 ·
  rename_i fs hs
  split at hf
  ·
   rename_i f hfi
   cases hi:P.info? f.type with
   | none=>simp[hi] at hf
   | some inf =>
    simp only[hi,Option.map_some,Option.some.injEq,Prod.mk.injEq] at hf
    obtain⟨h1,h2⟩:=hf
    have hsz:inf.size≠0:=by rw[h2];exact hk0
    unfold execOp
    simp only[ho,ha.ev hx]
    simp[Instr.fieldAt,Instr.sureAddr,fieldPlace,sizeOf,typeInfo,run_underlying hs,hfi,hi,hsz,h1,Sem.run_bind]
  ·
   cases hf
 ·
  cases hf
theorem Run.box {t:TypeId} (ho:o.op = .box t x) (hx:ev E x=some v):Run P n o E w (.pointer (some ⟨w.heap.size,0,none⟩)) (w.alloc (.cells v.cells t)):=fun a ha=>by
 unfold execOp
 simp only[ho,ha.ev hx]
 simp[Instr.box,newVar,newRow]
theorem run_store_row {t:TypeId} {g j k:Nat} {cs:Array Value} {el:TypeId} {b:Bool} {u:Value} (hg:w.heap[g]?=some (.cells cs el (0,0))) (ht:tyc P t=some (b,k)) (hk:u.cells.size=k) (h1:∀ z∈u.cells.toList,z.oneCell'=true) (hj:j+k≤cs.size) :
  (Instr.storeAt t (.pointer (some ((⟨g,0,none⟩:Addr).add j))) u).run P w = .ok () (w.setRow g (cs.toList.take j++u.cells.toList++cs.toList.drop (j+k)).toArray):=by
 have hadd:(⟨g,0,none⟩:Addr).add j=⟨g,j,none⟩:=by unfold Addr.add;split<;>simp_all
 have hst:=run_storeCells_at P g j el u.cells.toList 0 cs w hg (by simp[hk];exact hj) h1
 simp only[Nat.add_zero] at hst
 have hl:u.cells.toList.length=k:=by simpa using hk
 rw[hl] at hst
 simp[Instr.storeAt,Instr.sureAddr,storeVar,(tyc_agg ht).2,hk,hadd,hst,Sem.run_bind]
end
structure Src (P:Program) (w:World) (t:TypeId) (sz:Nat) (x:Value) (m:Nat) (news:List Value):Prop where
 und:P.underlying t=some .string∨∃ e,P.underlying t=some (.slice e)
 len:∀ w',(Builtin.lenOf x).run P w' = .ok m w'
 first:∀ w':World,w'.heap=w.heap→(Builtin.firstCells sz m x).run P w' = .ok news.toArray w'
 size:news.length=m*sz
section
variable {P:Program} {w:World} {s A r:Res} {os:List Res}
theorem Src.slice {t e:TypeId} {sz m c:Nat} {by_:Nat} {a:Option Addr} {news:List Value} (ht:slc P t=some (e,sz,by_)) (hl:news.length=m*sz) (h:m=0∨∃ ad,a=some ad∧Holds r ad news) (hin:In r w) :
  Src P w t sz (.slice a m c) m news:=by
 refine⟨.inr ⟨_,(slc_spec ht).1⟩,fun w'=>by simp[Builtin.lenOf],fun w' hw=>?_,hl⟩
 rcases h with rfl | ⟨ad,rfl,hh⟩
 ·
  have:news=[]:=List.eq_nil_of_length_eq_zero (by simpa using hl)
  subst this
  cases a with
  | none=>simp[Builtin.firstCells]
  | some ad=>simp[Builtin.firstCells,loadCells,loadCellsFrom]
 ·
  exact run_firstCells_some w' sz m ad m c news hl (fun j v hj=>by
   have:=hh.cell hin hj
   simpa [World.cell?,hw] using this)
theorem Src.imm {α:Type} {R:Res→List Value→α→Prop} {t e:TypeId} {sz by_:Nat} {a:Option Addr} {c:Nat} {ys:List α} (ht:slc P t=some (e,sz,by_)) (h:Imm R sz s a c ys) (hin:In s w) :
  ∃ news,Src P w t sz (.slice a ys.length c) ys.length news∧Chunks R sz s news ys:=by
 rcases h.2.2 with rfl | ⟨ad,rfl,cs,hh,hc⟩
 ·
  exact⟨[],.slice ht (by simp) (.inl rfl) hin,rfl⟩
 ·
  exact⟨cs,.slice ht hc.length (.inr ⟨ad,rfl,hh⟩) hin,hc⟩
theorem run_append_stay {t t2 ty e:TypeId} {sz by_ m n c:Nat} {x:Value} {news:List Value} {a:Option Addr} (hs:slc P t=some (e,sz,by_)) (hsrc:Src P w t2 sz x m news) (hroom:n+m≤c) (hn:a=none→news=[]) :
  (Builtin.append_ #[t,t2] ty #[.slice a n c,x]).run P w=match a with
   | none=> .ok (.slice none (n+m) c) w
   | some ad=>((storeCells (ad.add (n*sz)) news).run P w).andThen fun _ w'=> .ok (.slice (some ad) (n+m) c) w':=by
 obtain⟨hu,i,hi,rfl,hb⟩:=slc_spec hs
 have hf:=hsrc.first w rfl
 rcases hsrc.und with hd | ⟨e',hd⟩
 all_goals cases a with
 | none =>
  rw[hn rfl] at hf
  simp[Builtin.append_,run_underlying hu,run_underlying hd,sizeOf,typeInfo,hi,hsrc.len,hroom,hf]
 | some ad=>simp[Builtin.append_,run_underlying hu,run_underlying hd,sizeOf,typeInfo,hi,hsrc.len,hroom,hf]
theorem run_append_move {t t2 ty e:TypeId} {sz by_ m n c:Nat} {x:Value} {olds news z:List Value} {a:Option Addr} (hs:slc P t=some (e,sz,by_)) (hz:zer P e=some z) (hsrc:Src P w t2 sz x m news)
  (hold:∀ w':World,w'.heap=w.heap→(Builtin.firstCells sz n (.slice a n c)).run P w' = .ok olds.toArray w') (hroom:c<n+m) (h63:n+m≤9223372036854775807) (hbytes:(n+m)*by_≤140737488355328) :
  (Builtin.append_ #[t,t2] ty #[.slice a n c,x]).run P w =
   .ok (.slice (some ⟨w.heap.size,0,none⟩) (n+m) (grownCap w (n+m) c e)) (w.drew.alloc (.cells (olds.toArray++news.toArray++Builtin.zeroCells z.toArray (grownCap w (n+m) c e-(n+m))) e)):=by
 obtain⟨hu,i,hi,rfl,rfl⟩:=slc_spec hs
 have hf:=hsrc.first w.drew rfl
 have ho:=hold w.drew rfl
 have hn:¬ (n+m≤c):=by omega
 have h63':¬ (9223372036854775807<((n:Int)+(m:Int))):=by omega
 have hfit:=growslice_fits (bytes:=i.bytes) hroom hbytes
 have h48':¬ (281474976710656<Builtin.nextslicecap (n+m) c*i.bytes):=by omega
 unfold zer at hz
 simp only[hi,Option.bind_some] at hz
 cases hzi:i.zero with
 | none=>simp[hzi] at hz
 | some zv =>
  simp only[hzi,Option.map_some,Option.some.injEq] at hz
  have hze:zv.cells=z.toArray:=by rw[←hz]
  rcases hsrc.und with hd | ⟨e',hd⟩
  all_goals simp[Builtin.append_,run_underlying hu,run_underlying hd,sizeOf,typeInfo,zeroValue,hi,hzi,hsrc.len,hn,h63',h48',Question.forced,hf,ho,newRow,grownCap,hze]
  all_goals
   congr 2
   apply Array.ext'
   simp[List.append_assoc]
theorem one_join_same (b:Nat) (x:Obj) (r:Res):(Res.one b x).join r b=some x:=by simp[Res.join,Res.one]
theorem put_same (r:Res) (b:Nat) (x:Obj):r.put b x b=some x:=by simp[Res.put]
theorem append_law {α:Type} {R:Res→List Value→α→Prop} {t t2 ty e:TypeId} {sz by_ c:Nat} {x:Value} {news z:List Value} {a:Option Addr} {xs ys:List α}
  (hg:Good w s (A::os)) (hs:slc P t=some (e,sz,by_)) (hz:zer P e=some z) (hzl:z.length=sz) (hone:One R)
  (hown:Own R sz e s A a c xs) (hsrc:Src P w t2 sz x ys.length news) (hch:Chunks R sz s news ys) (hbytes:(xs.length+ys.length)*by_≤140737488355328) (hmax:xs.length+ys.length≤maxLen) :
  ∃ a' c' A' w',(Builtin.append_ #[t,t2] ty #[.slice a xs.length c,x]).run P w = .ok (.slice a' (xs++ys).length c') w'∧Good w' s (A'::os)∧Own R sz e s A' a' c' (xs++ys)∧Aux w w' ∧
   (∀ b,A b≠none→(∀ ad,a=some ad→ad.block≠b)→A' b=A b):=by
 have h63:xs.length+ys.length≤9223372036854775807:=by simp only[maxLen] at hmax;omega
 -- a new block
 have moved:∀ olds,(∀ w':World,w'.heap=w.heap→(Builtin.firstCells sz xs.length (.slice a xs.length c)).run P w' = .ok olds.toArray w')→Chunks R sz s olds xs→c<xs.length+ys.length →
   ∃ a' c' A' w',(Builtin.append_ #[t,t2] ty #[.slice a xs.length c,x]).run P w = .ok (.slice a' (xs++ys).length c') w'∧Good w' s (A'::os)∧Own R sz e s A' a' c' (xs++ys)∧Aux w w' ∧
    (∀ b,A b≠none→(∀ ad,a=some ad→ad.block≠b)→A' b=A b):=by
  intro olds hold hco hroom
  have hrun:=run_append_move (ty:=ty) hs hz hsrc hold hroom h63 hbytes
  have hge:=grownCap_ge w (xs.length+ys.length) c e
  have hcm:grownCap w (xs.length+ys.length) c e≤maxLen:=grownCap_le_maxLen w _ c e hmax
  have hg':=(hg.drew.alloc (.cells (olds.toArray++news.toArray++Builtin.zeroCells z.toArray (grownCap w (xs.length+ys.length) c e-(xs.length+ys.length))) e)).join
  have hnone:A w.heap.size=none:=by
   cases hA:A w.heap.size with
   | none=>rfl
   | some o=>exact absurd (hg.1.lt (by rw[hA];simp)) (Nat.lt_irrefl _)
  refine⟨_,_,_,_,by rw[List.length_append];exact hrun,hg',.inr ⟨w.heap.size,_,rfl,one_join_same _ _ _,by rw[List.length_append];exact hge,hcm,?_,?_⟩,(Aux.drew w).trans (Aux.alloc _ _),fun b hb _=>?_⟩
  ·
   have h1:=hco.length
   have h2:=hch.length
   simp only[Array.size_append,List.size_toArray,size_zeroCells,hzl,h1,h2,← Nat.add_mul]
   congr 1
   omega
  ·
   have h1:=hco.length
   have h2:=hch.length
   have e1:(olds.toArray++news.toArray++Builtin.zeroCells z.toArray (grownCap w (xs.length+ys.length) c e-(xs.length+ys.length))).toList.take ((xs++ys).length*sz)=olds++news:=by
    simp only[Array.toList_append,List.length_append,Nat.add_mul,← h1,← h2]
    rw[←List.length_append]
    exact List.take_left
   rw[e1]
   exact hco.append hch
  ·
   have hbs:b≠w.heap.size:=fun h=>by subst h;exact hb hnone
   simp[Res.join,Res.one,hbs]
 rcases hown with ⟨rfl,rfl,rfl⟩ | ⟨g,cs,rfl,hAg,hlc,hcm,hcs,hco⟩
 ·
  by_cases hm:ys.length=0
  ·
   have hy:ys=[]:=List.eq_nil_of_length_eq_zero hm
   subst hy
   have hn:news=[]:=hch
   subst hn
   exact⟨none,0,A,w,run_append_stay (a:=none) hs hsrc (by simp) (fun _=>rfl),hg,.inl ⟨rfl,rfl,rfl⟩,Aux.refl w,fun _ _ _=>rfl⟩
  ·
   exact moved [] (fun w' _=>by simp[Builtin.firstCells]) rfl (by simp;omega)
 ·
  have hrow:Holds A ⟨g,0,none⟩ (cs.toList.take (xs.length*sz)):=⟨cs,e,(0,0),hAg,rfl,fun j u hu=>by
   rw[List.getElem?_take] at hu
   split at hu
   ·
    simpa using hu
   ·
    cases hu⟩
  by_cases hroom:xs.length+ys.length≤c
  ·
   have hwg:=hg.1 g _ hAg
   have h1:=hco.length
   have h2:=hch.length
   have hadd:(⟨g,0,none⟩:Addr).add (xs.length*sz)=⟨g,xs.length*sz,none⟩:=by unfold Addr.add;split<;>simp_all
   have hfit:xs.length*sz+news.length≤cs.size:=by rw[h2,hcs,← Nat.add_mul];exact Nat.mul_le_mul_right _ hroom
   have hst:=run_storeCells_at P g (xs.length*sz) e news 0 cs w hwg (by simpa using hfit) (hch.one hone)
   simp only[Nat.add_zero] at hst
   have hrun:=run_append_stay (ty:=ty) (a:=some ⟨g,0,none⟩) hs hsrc hroom (by simp)
   simp only[hadd,hst,Result.andThen_ok] at hrun
   let new:=(cs.toList.take (xs.length*sz)++news++cs.toList.drop (xs.length*sz+news.length)).toArray
   have hput:=hg.write (w':=w.setRow g new) hAg (setRow_heap w g cs new e (0,0) hwg) (fun k _ hk=>setRow_other w g k new hk)
   refine⟨_,_,_,_,by rw[List.length_append];exact hrun,hput,.inr ⟨g,_,rfl,put_same _ _ _,by rw[List.length_append];exact hroom,hcm,?_,?_⟩,⟨rfl,rfl,rfl,by simp⟩,fun b _ hb=>?_⟩
   ·
    rw[←hcs]
    simp only[new,List.size_toArray,List.length_append,List.length_take,List.length_drop,Array.length_toList]
    omega
   ·
    have e1:((cs.toList.take (xs.length*sz)++news++cs.toList.drop (xs.length*sz+news.length)).toArray).toList.take ((xs++ys).length*sz)=cs.toList.take (xs.length*sz)++news:=by
     rw[List.length_append,Nat.add_mul,← h2]
     conv=>lhs;arg 1;rw[←h1]
     rw[←List.length_append]
     exact List.take_left
    rw[e1]
    exact hco.append hch
   ·
    have:b≠g:=fun h=>hb ⟨g,0,none⟩ rfl h.symm
    simp[Res.put,this]
  ·
   exact moved _ (fun w' hw=>run_firstCells_some w' sz xs.length ⟨g,0,none⟩ xs.length c _ hco.length (fun j v hj=>by
    have:=hrow.cell hg.1 hj
    simpa [World.cell?,hw] using this)) hco (by omega)
end
end Go.Lw
namespace Go.Lw
open Go.RowKit
section
variable {P:Program} {n:Nat} {ops:Array Oper} {Q:Exit→Act→World→Prop} {S:World→Prop} {rest:List (Bool × Oper)} {E:Env} {w:World} {o:Oper} {d:Nat} {v:Value}
variable {s:Res} {os:List Res} {A:Res} {x y:Operand} {T:Bool}
theorem run_pure_binop {op:BinOp} {t yt:TypeId} {k j:IntKind} {a b:Int} {v:Value} (ho:o.op = .binOp op t x y yt) (hx:ev E x=some (.int k a)) (hy:ev E y=some (.int j b))
  (hr:∀ w:World,(binOp op t (.int k a) (.int j b)).run P w = .ok v w):∀ w,Run P n o E w v w:=fun w ac ha=>by
 unfold execOp
 simp only[ho,ha.ev hx,ha.ev hy]
 simp[Sem.run_bind,run_eqGuard_int,hr w]
theorem RL.val (hg:wants ops E o=some true) (hd:o.dst=some d) (hb:Nat.blt d n=true) (hr:∀ w,Run P n o E w v w) (h:RL P n ops Q S rest ((d,v)::E) w) :
  RL P n ops Q S ((T,o)::rest) E w:=by
 cases T with
 | false=>exact fun hS=>RL.step hg hd hb (hr w) hS h hS
 | true=>exact RL.take hg hd hb (fun w _=>hr w) h
theorem RL.add {k:IntKind} {a b:Int} {t yt:TypeId} (hg:wants ops E o=some true) (hd:o.dst=some d) (hb:Nat.blt d n=true) (ho:o.op = .binOp .add t x y yt) (hx:ev E x=some (.int k a)) (hy:ev E y=some (.int k b))
  (hr:rng k (a+b)) (h:RL P n ops Q S rest ((d,.int k (a+b))::E) w):RL P n ops Q S ((T,o)::rest) E w :=
 RL.val hg hd hb (run_pure_binop ho hx hy fun w=>by rw[run_intOp (v:= .int k (a+b)) w (by simp[intOp,hr.wrap])]) h
theorem RL.sub {k:IntKind} {a b:Int} {t yt:TypeId} (hg:wants ops E o=some true) (hd:o.dst=some d) (hb:Nat.blt d n=true) (ho:o.op = .binOp .sub t x y yt) (hx:ev E x=some (.int k a)) (hy:ev E y=some (.int k b))
  (hr:rng k (a-b)) (h:RL P n ops Q S rest ((d,.int k (a-b))::E) w):RL P n ops Q S ((T,o)::rest) E w :=
 RL.val hg hd hb (run_pure_binop ho hx hy fun w=>by rw[run_intOp (v:= .int k (a-b)) w (by simp[intOp,hr.wrap])]) h
theorem RL.mul {k:IntKind} {a b:Int} {t yt:TypeId} (hg:wants ops E o=some true) (hd:o.dst=some d) (hb:Nat.blt d n=true) (ho:o.op = .binOp .mul t x y yt) (hx:ev E x=some (.int k a)) (hy:ev E y=some (.int k b))
  (hr:rng k (a*b)) (h:RL P n ops Q S rest ((d,.int k (a*b))::E) w):RL P n ops Q S ((T,o)::rest) E w :=
 RL.val hg hd hb (run_pure_binop ho hx hy fun w=>by rw[run_intOp (v:= .int k (a*b)) w (by simp[intOp,hr.wrap])]) h
theorem RL.as_ {v0:Value} (hg:wants ops E o=some true) (hd:o.dst=some d) (hb:Nat.blt d n=true) (hp:pv (ev E) o.op=some v0) (v:Value) (hv:v0=v) (h:RL P n ops Q S rest ((d,v)::E) w) :
  RL P n ops Q S ((T,o)::rest) E w:=by
 subst hv
 exact RL.pure hg hd hb hp h
theorem RL.quo {k:IntKind} {a b:Int} {t yt:TypeId} (hg:wants ops E o=some true) (hd:o.dst=some d) (hb:Nat.blt d n=true) (ho:o.op = .binOp .quo t x y yt) (hx:ev E x=some (.int k a)) (hy:ev E y=some (.int k b))
  (h0:0≤a) (h1:0<b) (hr:rng k a) (h:RL P n ops Q S rest ((d,.int k (a / b))::E) w):RL P n ops Q S ((T,o)::rest) E w:=by
 refine RL.val hg hd hb (run_pure_binop ho hx hy fun w=>?_) h
 have hb0:b≠0:=by omega
 have hle:0≤a / b∧a / b≤a:=IntWalk.tdiv_le a b h0 (by omega)
 have hw:rng k (a / b):=by cases k<;>simp only[rng] at hr ⊢ <;> omega
 simp[binOp,Op.intDiv,hb0,Int.tdiv_eq_ediv_of_nonneg h0,hw.wrap]
theorem RL.rem {k:IntKind} {a b:Int} {t yt:TypeId} (hg:wants ops E o=some true) (hd:o.dst=some d) (hb:Nat.blt d n=true) (ho:o.op = .binOp .rem t x y yt) (hx:ev E x=some (.int k a)) (hy:ev E y=some (.int k b))
  (h0:0≤a) (h1:0<b) (h:RL P n ops Q S rest ((d,.int k (a % b))::E) w):RL P n ops Q S ((T,o)::rest) E w:=by
 refine RL.val hg hd hb (run_pure_binop ho hx hy fun w=>?_) h
 have hb0:b≠0:=by omega
 simp[binOp,Op.intDiv,hb0,Int.tmod_eq_emod_of_nonneg h0]
theorem RL.shr {k j:IntKind} {a b:Int} {t yt:TypeId} (m:Nat) (hg:wants ops E o=some true) (hd:o.dst=some d) (hb:Nat.blt d n=true) (ho:o.op = .binOp .shr t x y yt) (hx:ev E x=some (.int k a)) (hy:ev E y=some (.int j b))
  (hm:b=(m:Int)) (hk:m≤k.bits) (h:RL P n ops Q S rest ((d,.int k (a / 2 ^ m))::E) w):RL P n ops Q S ((T,o)::rest) E w:=by
 refine RL.val hg hd hb (run_pure_binop ho hx hy fun w=>?_) h
 subst hm
 have h0:¬ ((m:Int)<0):=by omega
 have hmin:min m k.bits=m:=Nat.min_eq_left hk
 have hp:(0:Int)≤2 ^ m:=Int.le_of_lt (Int.pow_pos (by omega))
 simp[binOp,Op.shift,h0,hmin,Int.fdiv_eq_ediv_of_nonneg a hp]
theorem RL.shl {k j:IntKind} {a b:Int} {t yt:TypeId} (m:Nat) (hg:wants ops E o=some true) (hd:o.dst=some d) (hb:Nat.blt d n=true) (ho:o.op = .binOp .shl t x y yt) (hx:ev E x=some (.int k a)) (hy:ev E y=some (.int j b))
  (hm:b=(m:Int)) (hk:m≤k.bits) (h:RL P n ops Q S rest ((d,.int k (k.wrap (a*2 ^ m)))::E) w):RL P n ops Q S ((T,o)::rest) E w:=by
 refine RL.val hg hd hb (run_pure_binop ho hx hy fun w=>?_) h
 subst hm
 have h0:¬ ((m:Int)<0):=by omega
 have hmin:min m k.bits=m:=Nat.min_eq_left hk
 simp[binOp,Op.shift,h0,hmin]
theorem run_conv_int {src dst:TypeId} {k j:IntKind} {a:Int} {u:TypeDesc} (hs:P.underlying src=some u) (ht:P.underlying dst=some (.int k)) (w:World):(convert src dst (.int j a)).run P w = .ok (.int k (k.wrap a)) w:=by
 cases u<;>simp[convert,run_underlying hs,run_underlying ht,Conv.intToInt]
theorem RL.conv {k j:IntKind} {a:Int} {src dst:TypeId} {u:TypeDesc} (hg:wants ops E o=some true) (hd:o.dst=some d) (hb:Nat.blt d n=true) (ho:o.op = .convert src dst x) (hs:P.underlying src=some u) (ht:P.underlying dst=some (.int k))
  (hx:ev E x=some (.int j a)) (hr:rng k a) (h:RL P n ops Q S rest ((d,.int k a)::E) w):RL P n ops Q S ((T,o)::rest) E w:=by
 refine RL.val hg hd hb (fun w ac ha=>?_) h
 unfold execOp
 simp only[ho,ha.ev hx]
 simp[run_conv_int hs ht,hr.wrap]
theorem RL.len {t:TypeId} {e:TypeId} {sz by_ m c:Nat} {a:Option Addr} (hg:wants ops E o=some true) (hd:o.dst=some d) (hb:Nat.blt d n=true)
  (ho:o.op = .call { callee:= .builtin .len,args:= #[x],argTypes:= #[t] }) (ht:slc P t=some (e,sz,by_)) (hx:ev E x=some (.slice a m c)) (h:RL P n ops Q S rest ((d,.int .i64 m)::E) w):RL P n ops Q S ((T,o)::rest) E w:=by
 refine RL.val hg hd hb (fun w ac ha=>?_) h
 unfold execOp
 simp only[ho]
 simp[resolve,invoke,builtin,Builtin.len_,ha.ev hx,run_underlying (slc_spec ht).1,goInt]
theorem RL.min {t t':TypeId} {k j:IntKind} {a b:Int} (hg:wants ops E o=some true) (hd:o.dst=some d) (hb:Nat.blt d n=true)
  (ho:o.op = .call { callee:= .builtin .min,args:= #[x,y],argTypes:= #[t,t'] }) (hx:ev E x=some (.int k a)) (hy:ev E y=some (.int j b)) (h:RL P n ops Q S rest ((d,.int k (if b<a then b else a))::E) w):RL P n ops Q S ((T,o)::rest) E w:=by
 refine RL.val hg hd hb (fun w ac ha=>?_) h
 unfold execOp
 simp only[ho]
 simp[resolve,invoke,builtin,Builtin.min_,Builtin.min2,ha.ev hx,ha.ev hy]
theorem RL.max {t t':TypeId} {k j:IntKind} {a b:Int} (hg:wants ops E o=some true) (hd:o.dst=some d) (hb:Nat.blt d n=true)
  (ho:o.op = .call { callee:= .builtin .max,args:= #[x,y],argTypes:= #[t,t'] }) (hx:ev E x=some (.int k a)) (hy:ev E y=some (.int j b)) (h:RL P n ops Q S rest ((d,.int k (if b>a then b else a))::E) w):RL P n ops Q S ((T,o)::rest) E w:=by
 refine RL.val hg hd hb (fun w ac ha=>?_) h
 unfold execOp
 simp only[ho]
 simp[resolve,invoke,builtin,Builtin.max_,Builtin.max2,ha.ev hx,ha.ev hy]
theorem run_eqGuard_str (P:Program) (op:BinOp) (t:TypeId) (x y:Operand) (a b:ByteArray) (w:World):(eqGuard op t x y (.string a) (.string b)).run P w = .ok () w:=by
 unfold eqGuard
 cases op<;>rfl
theorem RL.sEq {t yt:TypeId} {a b:ByteArray} (hg:wants ops E o=some true) (hd:o.dst=some d) (hb:Nat.blt d n=true) (ho:o.op = .binOp .eql t x y yt) (hx:ev E x=some (.string a)) (hy:ev E y=some (.string b))
  (h:RL P n ops Q S rest ((d,.bool (a.toList==b.toList))::E) w):RL P n ops Q S ((T,o)::rest) E w:=by
 refine RL.val hg hd hb (fun w ac ha=>?_) h
 unfold execOp
 simp only[ho,ha.ev hx,ha.ev hy]
 simp[run_eqGuard_str,binOp_string_eql]
theorem run_eqGuard_bool (P:Program) (op:BinOp) (t:TypeId) (x y:Operand) (a b:Bool) (w:World):(eqGuard op t x y (.bool a) (.bool b)).run P w = .ok () w:=by
 unfold eqGuard
 cases op<;>rfl
theorem run_equalIn_bool {t:TypeId} (ht:P.underlying t=some .bool) (a b:Bool) (d:Nat) (w:World):(Op.equalIn (d+1) t (.bool a) (.bool b)).run P w = .ok (a==b) w:=by
 simp[Op.equalIn,run_underlying ht]
theorem run_equal_bool {t:TypeId} (ht:P.underlying t=some .bool) (a b:Bool) (w:World):(Op.equal t (.bool a) (.bool b)).run P w = .ok (a==b) w:=run_equalIn_bool ht a b 9999 w
theorem RL.bEq {t yt:TypeId} {a b:Bool} (hg:wants ops E o=some true) (hd:o.dst=some d) (hb:Nat.blt d n=true) (ho:o.op = .binOp .eql t x y yt) (ht:P.underlying t=some .bool) (hx:ev E x=some (.bool a)) (hy:ev E y=some (.bool b))
  (h:RL P n ops Q S rest ((d,.bool (a==b))::E) w):RL P n ops Q S ((T,o)::rest) E w:=by
 refine RL.val hg hd hb (fun w ac ha=>?_) h
 unfold execOp
 simp only[ho,ha.ev hx,ha.ev hy]
 simp only[Sem.run_bind,run_eqGuard_bool,Result.andThen_ok,binOp,run_equal_bool ht,Sem.run_pure]
end
end Go.Lw
namespace Go.Lw
open Go.RowKit
section
variable {P:Program} {n:Nat} {ops:Array Oper} {Q:Exit→Act→World→Prop} {S:World→Prop} {rest:List (Bool × Oper)} {E:Env} {w:World} {o:Oper} {d:Nat} {v:Value}
variable {s A:Res} {os:List Res} {x y:Operand} {T:Bool}
theorem RL.field {t:TypeId} {i k off:Nat} {ad:Addr} (hg:wants ops E o=some true) (hd:o.dst=some d) (hb:Nat.blt d n=true) (ho:o.op = .fieldAddr t x i) (hf:fld P t i=some (off,k)) (hk:Nat.blt 0 k=true)
  (hx:ev E x=some (.pointer (some ad))) (h:RL P n ops Q S rest ((d,.pointer (some (ad.add off)))::E) w):RL P n ops Q S ((T,o)::rest) E w :=
 RL.val hg hd hb (fun _=>Run.field ho hf hk hx) h
theorem RL.load {t:TypeId} {ad:Addr} {r:Res} {vs:List Value} {j:Nat} (hg:wants ops E o=some true) (hd:o.dst=some d) (hb:Nat.blt d n=true) (ho:o.op = .load t x) (ht:tyc P t=some (false,1))
  (hx:ev E x=some (.pointer (some (ad.add j)))) (h:Holds r ad vs) (hin:In r w) (hv:vs[j]?=some v) (hr:RL P n ops Q S rest ((d,v)::E) w):RL P n ops Q S ((false,o)::rest) E w:=fun hS =>
 RL.step hg hd hb (Run.load1 ho ht hx h hin hv) hS hr hS
theorem RL.loadT {t:TypeId} {ad:Addr} {r:Res} {vs:List Value} {j:Nat} (hg:wants ops E o=some true) (hd:o.dst=some d) (hb:Nat.blt d n=true) (ho:o.op = .load t x) (ht:tyc P t=some (false,1))
  (hx:ev E x=some (.pointer (some (ad.add j)))) (h:Holds r ad vs) (hin:∀ w,S w→In r w) (hv:vs[j]?=some v) (hr:RL P n ops Q S rest ((d,v)::E) w):RL P n ops Q S ((true,o)::rest) E w :=
 RL.take hg hd hb (fun w hS=>Run.load1 ho ht hx h (hin w hS) hv) hr
theorem RL.loads {t:TypeId} {ad:Addr} {r:Res} {vs us:List Value} {j k:Nat} (hg:wants ops E o=some true) (hd:o.dst=some d) (hb:Nat.blt d n=true) (ho:o.op = .load t x) (ht:tyc P t=some (true,k))
  (hx:ev E x=some (.pointer (some (ad.add j)))) (h:Holds r ad vs) (hin:In r w) (hv:(vs.drop j).take k=us) (hl:us.length=k) (hr:RL P n ops Q S rest ((d,.agg us.toArray)::E) w):RL P n ops Q S ((false,o)::rest) E w:=fun hS =>
 RL.step hg hd hb (Run.loadN ho ht hx h hin hv hl) hS hr hS
theorem RL.loadsT {t:TypeId} {ad:Addr} {r:Res} {vs us:List Value} {j k:Nat} (hg:wants ops E o=some true) (hd:o.dst=some d) (hb:Nat.blt d n=true) (ho:o.op = .load t x) (ht:tyc P t=some (true,k))
  (hx:ev E x=some (.pointer (some (ad.add j)))) (h:Holds r ad vs) (hin:∀ w,S w→In r w) (hv:(vs.drop j).take k=us) (hl:us.length=k) (hr:RL P n ops Q S rest ((d,.agg us.toArray)::E) w):RL P n ops Q S ((true,o)::rest) E w :=
 RL.take hg hd hb (fun w hS=>Run.loadN ho ht hx h (hin w hS) hv hl) hr
theorem Holds.of {b:Nat} {cs:Array Value} {el:TypeId} {fr:Nat × Nat} (h:A b=some (.cells cs el fr)):Holds A ⟨b,0,none⟩ cs.toList :=
 ⟨cs,el,fr,h,rfl,fun j u hj=>by simpa using hj⟩
theorem RL.box {t:TypeId} (hg:wants ops E o=some true) (hd:o.dst=some d) (hb:Nat.blt d n=true) (ho:o.op = .box t x) (hx:ev E x=some v) (hG:Good w s os)
  (h:∀ b w',Good w' s (Res.one b (.cells v.cells t)::os)→Aux w w'→S w'∧RL P n ops Q S rest ((d,.pointer (some ⟨b,0,none⟩))::E) w'):RL P n ops Q S ((false,o)::rest) E w:=by
 obtain⟨h1,h2⟩:=h w.heap.size _ (hG.alloc (.cells v.cells t)) (Aux.alloc w _)
 exact RL.step hg hd hb (Run.box ho hx) h1 h2
def parts (E:Env):List (Nat × Operand)→Option (List (Nat × Value))
 | []=>some []
 | (i,x)::r =>
  match ev E x,parts E r with
  | some v,some l=>some ((i,v)::l)
  | _,_=>none
theorem At.parts {a:Act} (ha:At n E a):∀ {ps:List (Nat × Operand)} {l:List (Nat × Value)},parts E ps=some l→ps.map (fun p=>(p.1,a.eval p.2))=l
 | [],l,h=>by simpa [Lw.parts] using h
 | (i,x)::r,l,h=>by
  simp only[Lw.parts] at h
  split at h
  ·
   rename_i v l' hv hl
   simp only[Option.some.injEq] at h
   subst h
   simp[ha.ev hv,ha.parts hl]
  ·
   cases h
def putL (cs:List Value) (off:Nat) (vs:List Value):List Value:=cs.take off++(vs++cs.drop (off+vs.length))
def fillL (place:Nat→Option (Nat × Nat)):List Value→List (Nat × Value)→Option (List Value)
 | cs,[]=>some cs
 | cs,(i,v)::r =>
  match place i with
  | none=>none
  | some (off,size)=>cond (Nat.beq v.cells.toList.length size && Nat.ble (off+size) cs.length) (fillL place (putL cs off v.cells.toList) r) none
def zsL:Nat→List Value→List Value
 | 0,_=>[]
 | n+1,z=>z++zsL n z
theorem putL_foldl:∀ (vs cs:List Value) (off k:Nat),off+k+vs.length≤cs.length →
  (vs.zipIdx k).foldl (fun (cs:Array Value) (p:Value × Nat)=>cs.setIfInBounds (off+p.2) p.1) cs.toArray=(putL cs (off+k) vs).toArray
 | [],cs,off,k,_=>by simp[putL]
 | v::vs,cs,off,k,h=>by
  simp only[List.length_cons] at h
  rw[List.zipIdx_cons,List.foldl_cons,List.setIfInBounds_toArray,putL_foldl vs (cs.set (off+k) v) off (k+1) (by simp;omega)]
  congr 1
  simp only[putL,List.length_cons]
  rw[show off+(k+1)=off+k+1 by omega,List.take_set,List.drop_set_of_lt (by omega)]
  rw[show off+k+(vs.length+1)=off+k+1+vs.length by omega]
  rw[List.take_succ_eq_append_getElem (by omega)]
  rw[List.set_append_right _ _ (by rw[List.length_take];omega)]
  simp only[List.length_take]
  rw[show off+k-min (off+k) cs.length=0 by omega]
  simp
theorem fillL_spec (place:Nat→Option (Nat × Nat)):∀ (l:List (Nat × Value)) (cs ds:List Value),fillL place cs l=some ds→Instr.fill place cs.toArray l=some ds.toArray
 | [],cs,ds,h=>by simp only[fillL,Option.some.injEq] at h;subst h;rfl
 | (i,v)::r,cs,ds,h=>by
  simp only[fillL] at h
  cases hp:place i with
  | none=>simp[hp] at h
  | some p =>
   obtain⟨off,size⟩:=p
   simp only[hp] at h
   by_cases hc:(Nat.beq v.cells.toList.length size && Nat.ble (off+size) cs.length)=true
   ·
    rw[hc,cond_true] at h
    simp only[Bool.and_eq_true] at hc
    have h1:v.cells.size=size:=by simpa using Nat.eq_of_beq_eq_true hc.1
    have h2:=Nat.le_of_ble_eq_true hc.2
    have ih:=fillL_spec place r _ ds h
    simp only[Instr.fill,hp]
    rw[if_neg (by simp[h1];omega)]
    rw[←ih]
    congr 1
    have:=putL_foldl v.cells.toList cs off 0 (by simp[h1];omega)
    simp only[Nat.add_zero] at this
    rw[←this]
    rw[←Array.foldl_toList]
    simp[Array.toList_zipIdx]
   ·
    rw[Bool.not_eq_true] at hc
    rw[hc,cond_false] at h
    cases h
theorem zsL_length:∀ (n:Nat) (z:List Value),(zsL n z).length=n*z.length
 | 0,z=>by simp[zsL]
 | n+1,z=>by simp[zsL,zsL_length n z,Nat.add_mul,Nat.add_comm]
theorem zsL_get:∀ (n:Nat) (z:List Value) (j:Nat),j<n*z.length→(zsL n z)[j]?=z[j % z.length]?
 | 0,z,j,h=>by simp at h
 | n+1,z,j,h=>by
  simp only[zsL]
  by_cases hj:j<z.length
  ·
   rw[List.getElem?_append_left hj,Nat.mod_eq_of_lt hj]
  ·
   rw[List.getElem?_append_right (by omega),zsL_get n z _ (by rw[Nat.add_mul] at h;omega)]
   rw[Nat.mod_eq_sub_mod (by omega:j≥z.length)]
theorem zsL_spec (n sz:Nat) (z:List Value) (hz:z.length=sz):(Array.range (n*sz)).map (fun j=>z.toArray[j % z.length]!)=(zsL n z).toArray:=by
 subst hz
 apply Array.ext'
 apply List.ext_getElem?
 intro j
 by_cases hj:j<n*z.length
 ·
  have hz0:0<z.length:=by
   rcases Nat.eq_zero_or_pos z.length with h | h
   ·
    rw[h,Nat.mul_zero] at hj;omega
   ·
    exact h
  have hm:j % z.length<z.length:=Nat.mod_lt _ hz0
  rw[List.toList_toArray,zsL_get n z j hj]
  simp[hj,hm]
 ·
  rw[List.getElem?_eq_none (by simp;omega),List.getElem?_eq_none (by simp[zsL_length];omega)]
def plc (P:Program) (t:TypeId):Option (List (Nat × Nat)) :=
 match P.underlying t with
 | some (.struct fs)=>fs.toList.mapM fun f=>(P.info? f.type).map fun i=>(f.offset,i.size)
 | _=>none
theorem RL.build {t:TypeId} {ps:Array (Nat × Operand)} {l:List (Nat × Value)} {pl:List (Nat × Nat)} {z cs:List Value} (hg:wants ops E o=some true) (hd:o.dst=some d) (hb:Nat.blt d n=true)
  (ho:o.op = .build t ps) (hz:zer P t=some z) (hp:plc P t=some pl) (hps:parts E ps.toList=some l) (hf:fillL (fun i=>pl[i]?) z l=some cs) (h:RL P n ops Q S rest ((d,.agg cs.toArray)::E) w) :
  RL P n ops Q S ((T,o)::rest) E w:=by
 refine RL.val hg hd hb (fun w ac ha=>?_) h
 have hps':=ha.parts hps
 have hm:(ps.map fun (i,x)=>(i,ac.eval x)).toList=l:=by rw[←hps'];simp
 have hbuilt:P.built t (ps.map fun (i,x)=>(i,ac.eval x)).toList=some cs.toArray:=by
  unfold zer at hz
  unfold plc at hp
  unfold Program.built
  cases hi:P.info? t with
  | none=>simp[hi] at hz
  | some i =>
   cases hzi:i.zero with
   | none=>simp[hi,hzi] at hz
   | some zv =>
    simp only[hi,Option.bind_some,hzi,Option.map_some,Option.some.injEq] at hz
    have hze:zv.cells=z.toArray:=by rw[←hz]
    split at hp
    ·
     rename_i fs hu
     simp only[hu,hzi,hp,hm,hze]
     simpa using fillL_spec _ _ _ _ hf
    ·
     cases hp
 unfold execOp
 simp only[ho,Sem.run_bind,run_build w t _ cs.toArray hbuilt,Result.andThen_ok,Sem.run_pure]
theorem RL.buildSlice {t e:TypeId} {sz by_ len:Nat} {ps:Array (Nat × Operand)} {l:List (Nat × Value)} {z cs:List Value} (hg:wants ops E o=some true) (hd:o.dst=some d) (hb:Nat.blt d n=true)
  (ho:o.op = .buildSlice t len ps) (ht:slc P t=some (e,sz,by_)) (hz:zer P e=some z) (hzl:z.length=sz) (hlen:Nat.ble (len*sz) 16777216=true) (hps:parts E ps.toList=some l)
  (hf0:fillL (fun i=>some (i*sz,sz)) (zsL len z) l=some cs) (hG:Good w s os)
  (h:∀ b w',Good w' s (Res.one b (.cells cs.toArray e)::os)→Aux w w'→S w'∧RL P n ops Q S rest ((d,.slice (some ⟨b,0,none⟩) len len)::E) w'):RL P n ops Q S ((false,o)::rest) E w:=by
 obtain⟨h1,h2⟩:=h w.heap.size _ (hG.alloc (.cells cs.toArray e)) (Aux.alloc w _)
 have hf:=fillL_spec _ _ _ _ hf0
 rw[←zsL_spec len sz z hzl] at hf
 refine RL.step hg hd hb (fun ac ha=>?_) h1 h2
 have hps':=ha.parts hps
 have hm:(ps.map fun (i,x)=>(i,ac.eval x)).toList=l:=by rw[←hps'];simp
 obtain⟨hu,i,hi,rfl,_⟩:=slc_spec ht
 have hle:¬ (len*i.size>2 ^ 24):=by have:=Nat.le_of_ble_eq_true hlen;omega
 unfold zer at hz
 cases hzi:i.zero with
 | none=>simp[hi,hzi] at hz
 | some zv =>
  simp only[hi,Option.bind_some,hzi,Option.map_some,Option.some.injEq] at hz
  have hze:zv.cells=z.toArray:=by rw[←hz]
  have hsz:(sizeOf e).run P w = .ok i.size w:=by simp[sizeOf,typeInfo,hi]
  have hzv:(zeroValue e).run P w = .ok zv w:=by simp[zeroValue,typeInfo,hi,hzi]
  unfold execOp
  simp only[ho]
  simp only[Instr.buildSlice,Sem.run_bind,run_underlying hu,Result.andThen_ok,hsz,if_neg hle,hm]
  by_cases h0:len*i.size=0
  ·
   have hr:Array.range (len*i.size) = #[]:=by rw[h0];simp
   rw[hr] at hf
   simp only[List.map_toArray,List.map_nil] at hf
   rw[if_pos h0]
   simp only[Sem.run_pure,hr,List.map_toArray,List.map_nil,hf]
   simp[newRow]
  ·
   rw[if_neg h0]
   simp only[Sem.run_bind,hzv,Sem.run_pure,Result.andThen_ok,hze,List.size_toArray,hf]
   simp[newRow]
theorem RL.store {t:TypeId} {b k j:Nat} {i:Nat} {ag:Bool} {cs:Array Value} {el:TypeId} {u:Value} (hg:wants ops E o=some true) (hd:o.dst=none) (ho:o.op = .store t x y) (ht:tyc P t=some (ag,k))
  (hx:ev E x=some (.pointer (some ((⟨b,0,none⟩:Addr).add j)))) (hy:ev E y=some u) (hG:Good w s os) (hi:os[i]?=some A) (hA:A b=some (.cells cs el (0,0))) (hk:u.cells.size=k) (h1:∀ z∈u.cells.toList,z.oneCell'=true) (hj:j+k≤cs.size)
  (h:∀ w',Good w' s (os.set i (A.put b (.cells (cs.toList.take j++u.cells.toList++cs.toList.drop (j+k)).toArray el (0,0))))→Aux w w'→S w'∧RL P n ops Q S rest E w'):RL P n ops Q S ((false,o)::rest) E w:=by
 have hf:=hG.front i hi
 have hwb:=hf.1 b _ hA
 have hrun:=run_store_row (P:=P) hwb ht hk h1 hj
 have hw:=hf.write (w':=w.setRow b (cs.toList.take j++u.cells.toList++cs.toList.drop (j+k)).toArray) hA (setRow_heap w b cs _ el (0,0) hwb) (fun k' _ hk'=>setRow_other w b k' _ hk')
 obtain⟨h2,h3⟩:=h _ (Good.back i hi hw) ⟨rfl,rfl,rfl,by simp⟩
 refine RL.skip hg hd (fun ac ha=>?_) h2 h3
 unfold execOp
 simp only[ho,ha.ev hx,ha.ev hy]
 simp[hrun]
theorem run_indexAt {t e:TypeId} {sz by_ m c:Nat} {k:IntKind} {ad:Addr} {i:Int} (ht:slc P t=some (e,sz,by_)) (h0:0≤i) (h1:i<m) (w:World) :
  (Instr.indexAt t (.slice (some ad) m c) (.int k i)).run P w = .ok (.pointer (some (ad.add (i.toNat*sz)))) w:=by
 obtain⟨hu,inf,hi,rfl,_⟩:=slc_spec ht
 simp[Instr.indexAt,asIntOf,run_underlying hu,h0,h1,sizeOf,typeInfo,hi]
theorem RL.idx {α:Type} {R:Res→List Value→α→Prop} {t e:TypeId} {sz by_ c:Nat} {k:IntKind} {a:Option Addr} {xs:List α} {i:Int} (hg:wants ops E o=some true) (hd:o.dst=some d) (hb:Nat.blt d n=true)
  (ho:o.op = .indexAddr t x y) (ht:slc P t=some (e,sz,by_)) (hx:ev E x=some (.slice a xs.length c)) (hy:ev E y=some (.int k i)) (hI:Imm R sz s a c xs) (h0:0≤i) (h1:i<xs.length)
  (h:∀ q vs,vs.length=sz→Holds s q vs→R s vs (xs[i.toNat]'(by omega))→RL P n ops Q S rest ((d,.pointer (some (q.add 0)))::E) w):RL P n ops Q S ((T,o)::rest) E w:=by
 have hlt:i.toNat<xs.length:=by omega
 rcases hI.2.2 with rfl | ⟨ad,rfl,hr⟩
 ·
  simp at hlt
 ·
  obtain⟨vs,hl,hh,hR⟩:=hr.get (List.getElem?_eq_getElem hlt)
  have e0:(ad.add (i.toNat*sz)).add 0=ad.add (i.toNat*sz):=by unfold Addr.add;simp
  have:=h _ vs hl hh hR
  rw[e0] at this
  refine RL.val hg hd hb (fun w ac ha=>?_) this
  unfold execOp
  simp only[ho,ha.ev hx,ha.ev hy]
  simp[run_indexAt ht h0 h1]
theorem RL.idxOwn {α:Type} {R:Res→List Value→α→Prop} {t e:TypeId} {sz by_ c:Nat} {k:IntKind} {a:Option Addr} {xs:List α} {i:Int} {el:TypeId} (hg:wants ops E o=some true) (hd:o.dst=some d) (hb:Nat.blt d n=true)
  (ho:o.op = .indexAddr t x y) (ht:slc P t=some (e,sz,by_)) (hx:ev E x=some (.slice a xs.length c)) (hy:ev E y=some (.int k i)) (hI:Own R sz el s A a c xs) (h0:0≤i) (h1:i<xs.length)
  (h:∀ g cs vs,a=some ⟨g,0,none⟩→A g=some (.cells cs el (0,0))→cs.size=c*sz→vs.length=sz→(∀ (j:Nat) u,vs[j]?=some u→cs.toList[i.toNat*sz+j]?=some u)→R s vs (xs[i.toNat]'(by omega)) →
   RL P n ops Q S rest ((d,.pointer (some ((⟨g,0,none⟩:Addr).add (i.toNat*sz))))::E) w):RL P n ops Q S ((T,o)::rest) E w:=by
 have hlt:i.toNat<xs.length:=by omega
 rcases hI with ⟨rfl,rfl,rfl⟩ | ⟨g,cs,rfl,hA,hl,hm,hs,hc⟩
 ·
  simp at hlt
 ·
  obtain⟨vs,hl,hh,hR⟩:=hc.get (List.getElem?_eq_getElem hlt)
  refine RL.val hg hd hb (fun w ac ha=>?_) (h g cs vs rfl hA hs hl (fun j u hu=>?_) hR)
  ·
   unfold execOp
   simp only[ho,ha.ev hx,ha.ev hy]
   simp[run_indexAt ht h0 h1]
  ·
   have:=hh j u hu
   rw[List.getElem?_take] at this
   split at this
   ·
    exact this
   ·
    cases this
end
end Go.Lw
namespace Go.Lw
open Go.RowKit
section
variable {P:Program} {n:Nat} {ops:Array Oper} {Q:Exit→Act→World→Prop} {S:World→Prop} {rest:List (Bool × Oper)} {E:Env} {w:World} {o:Oper} {d:Nat} {v:Value}
variable {s A:Res} {os:List Res} {x y:Operand} {T:Bool}
def bnd (E:Env) (dflt:Nat):Option Operand→Option Nat
 | none=>some dflt
 | some x =>
  match ev E x with
  | some (.int _ i)=>some i.toNat
  | _=>none
theorem Imm.part {α:Type} {R:Res→List Value→α→Prop} {sz c l h:Nat} {a:Option Addr} {xs:List α} (hI:Imm R sz s a c xs) (hl:l≤h) (hh:h≤xs.length) :
  Imm R sz s (if c=l then a else a.map (·.add (l*sz))) (c-l) ((xs.take h).drop l)∧((xs.take h).drop l).length=h-l:=by
 have hlen:((xs.take h).drop l).length=h-l:=by simp;omega
 refine⟨⟨by rw[hlen];have:=hI.1;omega,by have:=hI.2.1;omega,?_⟩,hlen⟩
 by_cases he:h-l=0
 ·
  exact .inl (List.eq_nil_of_length_eq_zero (by rw[hlen];exact he))
 ·
  refine .inr ?_
  have hc:=hI.1
  rcases hI.2.2 with rfl | ⟨ad,rfl,hr⟩
  ·
   simp at hh;omega
  ·
   have hne:¬ c=l:=by omega
   have e1:xs=(xs.take h).take l++((xs.take h).drop l++xs.drop h):=by rw[←List.append_assoc,List.take_append_drop,List.take_append_drop]
   rw[e1] at hr
   have hr2:=hr.drop
   have e2:((xs.take h).take l).length=l:=by simp;omega
   rw[e2] at hr2
   exact⟨ad.add (l*sz),by simp[hne],hr2.take⟩
theorem RL.part_ {α:Type} {R:Res→List Value→α→Prop} {t e:TypeId} {sz by_ c:Nat} {a:Option Addr} {xs:List α} {lo hi:Option Operand} (l h:Int) (hg:wants ops E o=some true) (hd:o.dst=some d) (hb:Nat.blt d n=true)
  (ho:o.op = .slice t x lo hi none) (ht:slc P t=some (e,sz,by_)) (hx:ev E x=some (.slice a xs.length c))
  (hlo:(lo=none∧l=0)∨∃ k z,lo=some z∧ev E z=some (.int k l)) (hhi:(hi=none∧h=xs.length)∨∃ k z,hi=some z∧ev E z=some (.int k h))
  (hI:Imm R sz s a c xs) (h0:0≤l) (h1:l≤h) (h2:h≤xs.length)
  (hK:∀ a' c',Imm R sz s a' c' ((xs.take h.toNat).drop l.toNat)→RL P n ops Q S rest ((d,.slice a' ((xs.take h.toNat).drop l.toNat).length c')::E) w):RL P n ops Q S ((T,o)::rest) E w:=by
 obtain⟨hI',hlen⟩:=hI.part (l:=l.toNat) (h:=h.toNat) (by omega) (by omega)
 refine RL.val hg hd hb (fun w ac ha=>?_) (hK _ _ hI')
 obtain⟨hu,inf,hi',rfl,_⟩:=slc_spec ht
 have hsz:∀ w:World,(sizeOf e).run P w = .ok inf.size w:=fun w=>by simp[sizeOf,typeInfo,hi']
 have hcap:=hI.1
 have hl':∀ k (y:Nat) code,l≤y→(Instr.sliceBound (.int k l) y code).run P w = .ok l.toNat w:=fun k y code hy=>run_sliceBound w k l y code h0 hy
 have hh':∀ k (y:Nat) code,h≤y→(Instr.sliceBound (.int k h) y code).run P w = .ok h.toNat w:=fun k y code hy=>run_sliceBound w k h y code (by omega) hy
 rw[hlen]
 unfold execOp
 simp only[ho,ha.ev hx]
 rcases hlo with ⟨rfl,rfl⟩ | ⟨kl,zl,rfl,hzl⟩<;>rcases hhi with ⟨rfl,rfl⟩ | ⟨kh,zh,rfl,hzh⟩
 ·
  simp[Instr.sliceAt,Instr.slice,Instr.sliceBounds,run_underlying hu,hsz]
 ·
  simp[Instr.sliceAt,Instr.slice,Instr.sliceBounds,run_underlying hu,hsz,ha.ev hzh,hh' kh c .sliceAcap (by omega)]
 ·
  simp[Instr.sliceAt,Instr.slice,Instr.sliceBounds,run_underlying hu,hsz,ha.ev hzl,hl' kl xs.length .sliceB (by omega)]
 ·
  simp[Instr.sliceAt,Instr.slice,Instr.sliceBounds,run_underlying hu,hsz,ha.ev hzl,ha.ev hzh,hh' kh c .sliceAcap (by omega),hl' kl h.toNat .sliceB (by omega)]
theorem RL.append {α:Type} {R:Res→List Value→α→Prop} {t t2 e:TypeId} {sz by_ c:Nat} {i:Nat} {src:Value} {news z:List Value} {a:Option Addr} {xs ys:List α} (hg:wants ops E o=some true) (hd:o.dst=some d) (hb:Nat.blt d n=true)
  (ho:o.op = .call { callee:= .builtin .append,args:= #[x,y],argTypes:= #[t,t2] }) (ht:slc P t=some (e,sz,by_)) (hz:zer P e=some z) (hzl:z.length=sz) (hone:One R)
  (hx:ev E x=some (.slice a xs.length c)) (hy:ev E y=some src) (hG:Good w s os) (hi:os[i]?=some A) (hown:Own R sz e s A a c xs) (hsrc:Src P w t2 sz src ys.length news) (hch:Chunks R sz s news ys)
  (hbytes:(xs.length+ys.length)*by_≤140737488355328) (hby:0<by_)
  (h:∀ a' c' A' w',Good w' s (os.set i A')→Own R sz e s A' a' c' (xs++ys)→Aux w w'→(∀ b,A b≠none→(∀ ad,a=some ad→ad.block≠b)→A' b=A b)→S w'∧RL P n ops Q S rest ((d,.slice a' (xs++ys).length c')::E) w'):RL P n ops Q S ((false,o)::rest) E w:=by
 have hmax:xs.length+ys.length≤maxLen:=by
  have:(xs.length+ys.length)*1≤(xs.length+ys.length)*by_:=Nat.mul_le_mul_left _ hby
  simp only[maxLen];omega
 obtain⟨a',c',A',w',hrun,hG',hO',hA',hk⟩:=append_law (ty:=o.type) (hG.front i hi) ht hz hzl hone hown hsrc hch hbytes hmax
 obtain⟨h1,h2⟩:=h a' c' A' w' (Good.back i hi hG') hO' hA' hk
 refine RL.step hg hd hb (fun ac ha=>?_) h1 h2
 unfold execOp
 simp only[ho]
 simp only[resolve,invoke,builtin,Sem.run_bind,Sem.run_pure,Result.andThen_ok,List.map_toArray,List.map_cons,List.map_nil,ha.ev hx,ha.ev hy,hrun]
theorem Src.own {α:Type} {R:Res→List Value→α→Prop} {t e el:TypeId} {sz by_:Nat} {a:Option Addr} {c:Nat} {ys:List α} (ht:slc P t=some (e,sz,by_)) (h:Own R sz el s A a c ys) (hin:In A w) :
  ∃ news,Src P w t sz (.slice a ys.length c) ys.length news∧Chunks R sz s news ys:=by
 rcases h.row with rfl | ⟨ad,rfl,cs,hh,hc⟩
 ·
  exact⟨[],.slice ht (by simp) (.inl rfl) hin,rfl⟩
 ·
  exact⟨cs,.slice ht hc.length (.inr ⟨ad,rfl,hh⟩) hin,hc⟩
theorem bytes_cells {r:Res} {xs:List Int} {cs:List Value} (h:Chunks (RInt .u8) 1 r cs xs):cs=xs.map (Value.int .u8)∧∀ x∈xs,0≤x∧x<256:=by
 induction xs generalizing cs with
 | nil=>exact⟨h,by simp⟩
 | cons x xs ih =>
  obtain⟨vs,rest,rfl,_,⟨rfl,hr⟩,h'⟩:=h
  obtain⟨h1,h2⟩:=ih h'
  refine⟨by rw[h1];rfl,fun y hy=>?_⟩
  rcases List.mem_cons.1 hy with rfl | hy
  ·
   exact hr
  ·
   exact h2 y hy
theorem run_bts {t e st:TypeId} {by_ c:Nat} {a:Option Addr} {xs:List Int} {r s:Res} (ht:slc P t=some (e,1,by_)) (he:P.underlying e=some (.int .u8)) (hst:P.underlying st=some .string)
  (hrow:xs=[]∨∃ ad,a=some ad∧Row (RInt .u8) 1 r s ad xs) (hin:In r w):(convert t st (.slice a xs.length c)).run P w = .ok (.string (strOfNums xs)) w:=by
 have hu:=(slc_spec ht).1
 rw[run_convert_bytes_string w t st e a xs.length c hu he hst]
 have key:∀ ad,(loadCells ad xs.length).run P w = .ok (xs.map (Value.int .u8)).toArray w→(Conv.bytesToString (.slice (some ad) xs.length c)).run P w = .ok (.string (strOfNums xs)) w:=fun ad hl=>by
  rw[run_bytesToString w ad xs.length c xs hl,foldl_push_bytes]
  simp[strOfNums]
 cases a with
 | none =>
  rcases hrow with rfl | ⟨ad,h,_⟩
  ·
   simp[Conv.bytesToString,strOfNums];rfl
  ·
   cases h
 | some ad =>
  refine key ad ?_
  rcases hrow with rfl | ⟨ad',h,cs,hh,hc⟩
  ·
   simp[loadCells,loadCellsFrom]
  ·
   cases h
   have:=run_loadCells_list (P:=P) w ad cs (fun j v hj=>hh.cell hin hj)
   have hl:=hc.length
   rw[Nat.mul_one] at hl
   rw[hl,(bytes_cells hc).1] at this
   exact this
theorem RL.bts {t e st:TypeId} {by_ c:Nat} {a:Option Addr} {xs:List Int} {r s:Res} (hg:wants ops E o=some true) (hd:o.dst=some d) (hb:Nat.blt d n=true) (ho:o.op = .convert t st x) (ht:slc P t=some (e,1,by_)) (he:P.underlying e=some (.int .u8)) (hst:P.underlying st=some .string)
  (hx:ev E x=some (.slice a xs.length c)) (hrow:xs=[]∨∃ ad,a=some ad∧Row (RInt .u8) 1 r s ad xs) (hin:In r w) (h:RL P n ops Q S rest ((d,.string (strOfNums xs))::E) w):RL P n ops Q S ((false,o)::rest) E w:=fun hS =>
 RL.step hg hd hb (fun ac ha=>by
  unfold execOp
  simp only[ho,ha.ev hx]
  simp[run_bts ht he hst hrow hin]) hS h hS
def evs (E:Env):List Operand→Option (List Value)
 | []=>some []
 | x::r =>
  match ev E x,evs E r with
  | some v,some l=>some (v::l)
  | _,_=>none
theorem At.evs {a:Act} (ha:At n E a):∀ {xs:List Operand} {l:List Value},evs E xs=some l→xs.map a.eval=l
 | [],l,h=>by simpa [Lw.evs] using h
 | x::r,l,h=>by
  simp only[Lw.evs] at h
  split at h
  ·
   rename_i v l' hv hl
   simp only[Option.some.injEq] at h
   subst h
   simp[ha.ev hv,ha.evs hl]
  ·
   cases h
theorem run_callFunc {f:FuncId} {args:Array Value} (h:callable P f=true) (w:World):(callFunc f args).run P w = .ok (.enter f args) w:=by
 unfold callable at h
 split at h
 ·
  rename_i fn hf
  simp only[Bool.and_eq_true,Bool.not_eq_true'] at h
  obtain⟨h1,h2⟩:=h
  have h3:fn.body.isNone=false:=by cases hb:fn.body<;>simp_all
  simp only[callFunc,Sem.run_bind,run_program,Result.andThen_ok,hf,h2,h3,Bool.false_eq_true,if_false,Sem.run_pure]
 ·
  cases h
theorem RL.call {f:FuncId} {args:Array Operand} {ats:Array TypeId} {l:List Value} {w0:World} {s0:Res} {os0:List Res} {Φ:Res→Res→Value→Prop} (hg:wants ops E o=some true) (hd:o.dst=some d) (hb:Nat.blt d n=true)
  (ho:o.op = .call { callee:= .value (.func f),args:=args,argTypes:=ats }) (hl:evs E args.toList=some l) (hc:callable P f=true) (hct:Calls P f l.toArray w (Post w0 s0 os0 Φ))
  (h:∀ v s' A w',Le s0 s'→Good w' s' (A::os0)→Aux w0 w'→Φ s' A v→S w'∧RL P n ops Q S rest ((d,v)::E) w'):RL P n ops Q S ((false,o)::rest) E w:=fun _ ac ha=>by
 have hargs:(args.map ac.eval)=l.toArray:=by
  rw[←Array.toArray_toList (xs:=args),List.map_toArray,ha.evs hl]
 have hev:ac.eval (.func f) = .func (.func f) #[] #[]:=rfl
 simp only[RA,ha.wants hg,if_true]
 unfold Oper.wp
 have hrun:(execOp ac.eval o).run P w = .ok (.enter f l.toArray) w:=by
  unfold execOp
  simp only[ho]
  simp only[resolve,hargs,hev,Deferred.ofValue,invoke,Sem.run_bind,Sem.run_pure,Result.andThen_ok,Array.append_empty,Array.empty_append,run_callFunc hc]
 rw[hrun]
 simp only[Oper.upon]
 refine hct.mono fun e w' hp=>?_
 obtain⟨v,s',A,rfl,h1,h2,h3,h4⟩:=hp
 obtain⟨h5,h6⟩:=h v s' A w' h1 h2 h3 h4
 simp only[hd]
 exact⟨h5,h6 h5 _ (ha.put hb v)⟩
def envOf:Nat→List Value→Env
 | _,[]=>[]
 | k,v::r=>(k,v)::envOf (k+1) r
theorem look_envOf:∀ (l:List Value) (k t:Nat) (v:Value),look (envOf k l) t=some v→k≤t∧l[t-k]?=some v
 | [],k,t,v,h=>by simp[envOf,look] at h
 | u::r,k,t,v,h=>by
  simp only[envOf,look] at h
  by_cases hk:Nat.beq k t=true
  ·
   rw[hk] at h
   have hkt:k=t:=Nat.eq_of_beq_eq_true hk
   subst hkt
   simpa using h
  ·
   rw[Bool.not_eq_true] at hk
   rw[hk] at h
   simp only[cond_false] at h
   obtain⟨h1,h2⟩:=look_envOf r (k+1) t v h
   refine⟨by omega,?_⟩
   rw[show t-k=(t-(k+1))+1 by omega]
   simpa using h2
theorem enter {f:FuncId} {fn:Func} {c:Code} {l:List Value} {R:Ending→World→Prop} {m:Nat} (hf:P.funcs[f]?=some fn) (hb:fn.body=some c) (hm:fn.ntmps=m) (hl:Nat.ble l.length m=true)
  (h:CW P m c (bodyPost P fn R) (envOf 0 l) w):Calls P f l.toArray w R:=by
 refine calls_of_wp hf hb (h _ ⟨?_,rfl,fun t v ht=>?_⟩)
 ·
  have:=Nat.le_of_ble_eq_true hl
  simp[hm];omega
 ·
  obtain⟨_,h2⟩:=look_envOf l 0 t v ht
  simp only[Nat.sub_zero] at h2
  have hlt:=(List.getElem?_eq_some_iff.1 h2).1
  rw[Array.getElem?_append_left (by simpa using hlt)]
  simpa using h2
def Gives (P:Program) (w:World) (E:Env):List ResultVar→List Value→Prop
 | [],vs=>vs=[]
 | .tmp t::r,vs=>∃ v us,vs=v::us∧look E t=some v∧Gives P w E r us
 | .cell t ty::r,vs=>∃ v us ad,vs=v::us∧look E t=some (.pointer (some ad))∧(loadVar ty ad).run P w = .ok v w∧Gives P w E r us
def whole:List Value→Value
 | [v]=>v
 | vs=> .tuple vs.toArray
def resFn (tmps:Array Value):ResultVar→Sem Value
 | .tmp t=>pure (tmps.getD t undef)
 | .cell c t=>do loadVar t (← asAddr (tmps.getD c undef))
theorem results_eq (fn:Func) (tmps:Array Value):results fn tmps=(do let vs ← fn.results.mapM (resFn tmps);pure (if h:vs.size=1 then vs[0] else .tuple vs)):=by
 rfl
theorem gives_list {a:Act} (ha:At n E a) (w:World):∀ (rs:List ResultVar) (vs:List Value),Gives P w E rs vs→(rs.mapM (resFn a.tmps)).run P w=Result.ok vs w
 | [],vs,h=>by rw[show vs=[] from h];simp
 | .tmp t::r,vs,h=>by
  obtain⟨v,us,rfl,hv,h'⟩:=h
  have ih:=gives_list ha w r us h'
  simp only[List.mapM_cons,resFn,Sem.run_bind,Sem.run_pure,Result.andThen_ok,ha.getD hv]
  rw[ih]
  rfl
 | .cell t ty::r,vs,h=>by
  obtain⟨v,us,ad,rfl,hv,hl,h'⟩:=h
  have ih:=gives_list ha w r us h'
  simp only[List.mapM_cons,resFn,Sem.run_bind,ha.getD hv,asAddr,Sem.run_pure,Result.andThen_ok,hl]
  rw[ih]
  rfl
theorem gives_run {a:Act} (ha:At n E a) (w:World) (fn:Func) {vs:List Value} (h:Gives P w E fn.results.toList vs):(results fn a.tmps).run P w = .ok (whole vs) w:=by
 have hk:=gives_list ha w _ vs h
 rw[results_eq,← Array.toArray_toList (xs:=fn.results),List.mapM_toArray]
 rw[Sem.run_bind,Sem.run_map,hk]
 simp only[Result.andThen_ok,Sem.run_pure]
 match vs with
 | []=>simp[whole]
 | [v]=>simp[whole]
 | u::v::r=>simp[whole]
theorem ret {fn:Func} {R:Ending→World→Prop} {vs:List Value} (hv:Gives P w E fn.results.toList vs) (h:R (.returned (whole vs)) w):∀ a,At n E a→bodyPost P fn R .ret a w :=
 fun _ ha=>⟨ha.dfr,_,gives_run ha w fn hv,h⟩
theorem fall {fn:Func} {R:Ending→World→Prop} {vs:List Value} (hv:Gives P w E fn.results.toList vs) (h:R (.returned (whole vs)) w):∀ a,At n E a→bodyPost P fn R .normal a w :=
 fun _ ha=>⟨ha.dfr,_,gives_run ha w fn hv,h⟩
end
class Fl (P:Program) (t i:Nat) (v:outParam (Nat × Nat)):Prop where
 out:fld P t i=some v
class Fk {α:Type} (f:Program→Nat→Option α) (P:Program) (t:Nat) (v:outParam α):Prop where
 out:f P t=some v
class Ca (P:Program) (f:Nat):Prop where
 out:callable P f=true
end Go.Lw
namespace Go.Lw
open Go.Proofs
instance ty3:Fk tyc Tryz.prog 3 (false,1):=⟨by kernel_rfl⟩
instance ze3:Fk zer Tryz.prog 3 [Go.Value.int Go.IntKind.i64 (0)]:=⟨by kernel_rfl⟩
instance ty4:Fk tyc Tryz.prog 4 (false,1):=⟨by kernel_rfl⟩
instance ze5:Fk zer Tryz.prog 5 [Go.Value.int Go.IntKind.u8 (0)]:=⟨by kernel_rfl⟩
instance ty22:Fk tyc Tryz.prog 22 (false,1):=⟨by kernel_rfl⟩
instance ze22:Fk zer Tryz.prog 22 [Go.Value.int Go.IntKind.u64 (0)]:=⟨by kernel_rfl⟩
instance ty24:Fk tyc Tryz.prog 24 (true,3):=⟨by kernel_rfl⟩
instance ze24:Fk zer Tryz.prog 24 [Go.Value.int Go.IntKind.u64 (0),Go.Value.int Go.IntKind.i64 (0),Go.Value.int Go.IntKind.u64 (0)]:=⟨by kernel_rfl⟩
instance pl24:Fk plc Tryz.prog 24 [(0,1),(1,1),(2,1)]:=⟨by kernel_rfl⟩
instance fl24_0:Fl Tryz.prog 24 0 (0,1):=⟨by kernel_rfl⟩
instance fl24_1:Fl Tryz.prog 24 1 (1,1):=⟨by kernel_rfl⟩
instance fl24_2:Fl Tryz.prog 24 2 (2,1):=⟨by kernel_rfl⟩
instance ty25:Fk tyc Tryz.prog 25 (false,1):=⟨by kernel_rfl⟩
instance sl25:Fk slc Tryz.prog 25 (3,1,8):=⟨by kernel_rfl⟩
instance ze25:Fk zer Tryz.prog 25 [Go.Value.slice none 0 0]:=⟨by kernel_rfl⟩
instance ty27:Fk tyc Tryz.prog 27 (true,2):=⟨by kernel_rfl⟩
instance ze27:Fk zer Tryz.prog 27 [Go.Value.slice none 0 0,Go.Value.slice none 0 0]:=⟨by kernel_rfl⟩
instance pl27:Fk plc Tryz.prog 27 [(0,1),(1,1)]:=⟨by kernel_rfl⟩
instance fl27_0:Fl Tryz.prog 27 0 (0,1):=⟨by kernel_rfl⟩
instance fl27_1:Fl Tryz.prog 27 1 (1,1):=⟨by kernel_rfl⟩
instance ty28:Fk tyc Tryz.prog 28 (false,1):=⟨by kernel_rfl⟩
instance sl28:Fk slc Tryz.prog 28 (5,1,1):=⟨by kernel_rfl⟩
instance ty30:Fk tyc Tryz.prog 30 (true,5):=⟨by kernel_rfl⟩
instance ze30:Fk zer Tryz.prog 30 [Go.Value.int Go.IntKind.u64 (0),Go.Value.int Go.IntKind.u64 (0),Go.Value.slice none 0 0,Go.Value.slice none 0 0,Go.Value.slice none 0 0]:=⟨by kernel_rfl⟩
instance pl30:Fk plc Tryz.prog 30 [(0,1),(1,1),(2,2),(4,1)]:=⟨by kernel_rfl⟩
instance fl30_0:Fl Tryz.prog 30 0 (0,1):=⟨by kernel_rfl⟩
instance fl30_1:Fl Tryz.prog 30 1 (1,1):=⟨by kernel_rfl⟩
instance fl30_2:Fl Tryz.prog 30 2 (2,2):=⟨by kernel_rfl⟩
instance fl30_3:Fl Tryz.prog 30 3 (4,1):=⟨by kernel_rfl⟩
instance ty31:Fk tyc Tryz.prog 31 (false,1):=⟨by kernel_rfl⟩
instance sl31:Fk slc Tryz.prog 31 (65,6,96):=⟨by kernel_rfl⟩
instance ty33:Fk tyc Tryz.prog 33 (true,6):=⟨by kernel_rfl⟩
instance ze33:Fk zer Tryz.prog 33 [Go.Value.int Go.IntKind.u64 (0),Go.Value.int Go.IntKind.u64 (0),Go.Value.slice none 0 0,Go.Value.slice none 0 0,Go.Value.slice none 0 0,Go.Value.slice none 0 0]:=⟨by kernel_rfl⟩
instance pl33:Fk plc Tryz.prog 33 [(0,5),(5,1)]:=⟨by kernel_rfl⟩
instance fl33_0:Fl Tryz.prog 33 0 (0,5):=⟨by kernel_rfl⟩
instance fl33_1:Fl Tryz.prog 33 1 (5,1):=⟨by kernel_rfl⟩
instance ty35:Fk tyc Tryz.prog 35 (true,10):=⟨by kernel_rfl⟩
instance ze35:Fk zer Tryz.prog 35 [Go.Value.int Go.IntKind.u64 (0),Go.Value.int Go.IntKind.i64 (0),Go.Value.int Go.IntKind.u64 (0),Go.Value.int Go.IntKind.u64 (0),Go.Value.int Go.IntKind.u64 (0),Go.Value.slice none 0 0,Go.Value.slice none 0 0,Go.Value.slice none 0 0,Go.Value.slice none 0 0,Go.Value.bool false]:=⟨by kernel_rfl⟩
instance pl35:Fk plc Tryz.prog 35 [(0,3),(3,6),(9,1)]:=⟨by kernel_rfl⟩
instance fl35_0:Fl Tryz.prog 35 0 (0,3):=⟨by kernel_rfl⟩
instance fl35_1:Fl Tryz.prog 35 1 (3,6):=⟨by kernel_rfl⟩
instance fl35_2:Fl Tryz.prog 35 2 (9,1):=⟨by kernel_rfl⟩
instance ty38:Fk tyc Tryz.prog 38 (false,1):=⟨by kernel_rfl⟩
instance ty39:Fk tyc Tryz.prog 39 (false,1):=⟨by kernel_rfl⟩
instance sl39:Fk slc Tryz.prog 39 (133,2,16):=⟨by kernel_rfl⟩
instance ty40:Fk tyc Tryz.prog 40 (false,1):=⟨by kernel_rfl⟩
instance sl40:Fk slc Tryz.prog 40 (136,3,24):=⟨by kernel_rfl⟩
instance ty42:Fk tyc Tryz.prog 42 (true,3):=⟨by kernel_rfl⟩
instance ze42:Fk zer Tryz.prog 42 [Go.Value.int Go.IntKind.u64 (0),Go.Value.int Go.IntKind.u64 (0),Go.Value.slice none 0 0]:=⟨by kernel_rfl⟩
instance pl42:Fk plc Tryz.prog 42 [(0,1),(1,1),(2,1)]:=⟨by kernel_rfl⟩
instance fl42_0:Fl Tryz.prog 42 0 (0,1):=⟨by kernel_rfl⟩
instance fl42_1:Fl Tryz.prog 42 1 (1,1):=⟨by kernel_rfl⟩
instance fl42_2:Fl Tryz.prog 42 2 (2,1):=⟨by kernel_rfl⟩
instance ty44:Fk tyc Tryz.prog 44 (true,20):=⟨by kernel_rfl⟩
instance ze44:Fk zer Tryz.prog 44 [Go.Value.int Go.IntKind.i64 (0),Go.Value.int Go.IntKind.u64 (0),Go.Value.int Go.IntKind.i64 (0),Go.Value.int Go.IntKind.u64 (0),Go.Value.int Go.IntKind.u64 (0),Go.Value.int Go.IntKind.u64 (0),Go.Value.slice none 0 0,Go.Value.slice none 0 0,Go.Value.slice none 0 0,Go.Value.slice none 0 0,Go.Value.int Go.IntKind.i64 (0),Go.Value.int Go.IntKind.i64 (0),Go.Value.slice none 0 0,Go.Value.slice none 0 0,Go.Value.int Go.IntKind.i64 (0),Go.Value.int Go.IntKind.i64 (0),Go.Value.int Go.IntKind.i64 (0),Go.Value.int Go.IntKind.u64 (0),Go.Value.int Go.IntKind.u64 (0),Go.Value.slice none 0 0]:=⟨by kernel_rfl⟩
instance pl44:Fk plc Tryz.prog 44 [(0,1),(1,3),(4,6),(10,1),(11,1),(12,1),(13,1),(14,1),(15,1),(16,1),(17,3)]:=⟨by kernel_rfl⟩
instance fl44_0:Fl Tryz.prog 44 0 (0,1):=⟨by kernel_rfl⟩
instance fl44_1:Fl Tryz.prog 44 1 (1,3):=⟨by kernel_rfl⟩
instance fl44_2:Fl Tryz.prog 44 2 (4,6):=⟨by kernel_rfl⟩
instance fl44_3:Fl Tryz.prog 44 3 (10,1):=⟨by kernel_rfl⟩
instance fl44_4:Fl Tryz.prog 44 4 (11,1):=⟨by kernel_rfl⟩
instance fl44_5:Fl Tryz.prog 44 5 (12,1):=⟨by kernel_rfl⟩
instance fl44_6:Fl Tryz.prog 44 6 (13,1):=⟨by kernel_rfl⟩
instance fl44_7:Fl Tryz.prog 44 7 (14,1):=⟨by kernel_rfl⟩
instance fl44_8:Fl Tryz.prog 44 8 (15,1):=⟨by kernel_rfl⟩
instance fl44_9:Fl Tryz.prog 44 9 (16,1):=⟨by kernel_rfl⟩
instance fl44_10:Fl Tryz.prog 44 10 (17,3):=⟨by kernel_rfl⟩
instance ty48:Fk tyc Tryz.prog 48 (false,1):=⟨by kernel_rfl⟩
instance sl48:Fk slc Tryz.prog 48 (56,14,176):=⟨by kernel_rfl⟩
instance ty50:Fk tyc Tryz.prog 50 (true,7):=⟨by kernel_rfl⟩
instance ze50:Fk zer Tryz.prog 50 [Go.Value.int Go.IntKind.u64 (0),Go.Value.slice none 0 0,Go.Value.bool false,Go.Value.bool false,Go.Value.slice none 0 0,Go.Value.int Go.IntKind.u64 (0),Go.Value.int Go.IntKind.u64 (0)]:=⟨by kernel_rfl⟩
instance pl50:Fk plc Tryz.prog 50 [(0,1),(1,1),(2,1),(3,1),(4,1),(5,1),(6,1)]:=⟨by kernel_rfl⟩
instance fl50_0:Fl Tryz.prog 50 0 (0,1):=⟨by kernel_rfl⟩
instance fl50_1:Fl Tryz.prog 50 1 (1,1):=⟨by kernel_rfl⟩
instance fl50_2:Fl Tryz.prog 50 2 (2,1):=⟨by kernel_rfl⟩
instance fl50_3:Fl Tryz.prog 50 3 (3,1):=⟨by kernel_rfl⟩
instance fl50_4:Fl Tryz.prog 50 4 (4,1):=⟨by kernel_rfl⟩
instance fl50_5:Fl Tryz.prog 50 5 (5,1):=⟨by kernel_rfl⟩
instance fl50_6:Fl Tryz.prog 50 6 (6,1):=⟨by kernel_rfl⟩
instance ty53:Fk tyc Tryz.prog 53 (false,1):=⟨by kernel_rfl⟩
instance ty54:Fk tyc Tryz.prog 54 (false,1):=⟨by kernel_rfl⟩
instance ty56:Fk tyc Tryz.prog 56 (true,14):=⟨by kernel_rfl⟩
instance ze56:Fk zer Tryz.prog 56 [Go.Value.int Go.IntKind.i64 (0),Go.Value.int Go.IntKind.i64 (0),Go.Value.int Go.IntKind.i64 (0),Go.Value.int Go.IntKind.u64 (0),Go.Value.int Go.IntKind.u64 (0),Go.Value.int Go.IntKind.u64 (0),Go.Value.slice none 0 0,Go.Value.int Go.IntKind.u64 (0),Go.Value.bool false,Go.Value.int Go.IntKind.u64 (0),Go.Value.slice none 0 0,Go.Value.slice none 0 0,Go.Value.slice none 0 0,Go.Value.bool false]:=⟨by kernel_rfl⟩
instance pl56:Fk plc Tryz.prog 56 [(0,1),(1,1),(2,1),(3,1),(4,1),(5,1),(6,1),(7,1),(8,1),(9,1),(10,2),(12,1),(13,1)]:=⟨by kernel_rfl⟩
instance fl56_0:Fl Tryz.prog 56 0 (0,1):=⟨by kernel_rfl⟩
instance fl56_1:Fl Tryz.prog 56 1 (1,1):=⟨by kernel_rfl⟩
instance fl56_2:Fl Tryz.prog 56 2 (2,1):=⟨by kernel_rfl⟩
instance fl56_3:Fl Tryz.prog 56 3 (3,1):=⟨by kernel_rfl⟩
instance fl56_4:Fl Tryz.prog 56 4 (4,1):=⟨by kernel_rfl⟩
instance fl56_5:Fl Tryz.prog 56 5 (5,1):=⟨by kernel_rfl⟩
instance fl56_6:Fl Tryz.prog 56 6 (6,1):=⟨by kernel_rfl⟩
instance fl56_7:Fl Tryz.prog 56 7 (7,1):=⟨by kernel_rfl⟩
instance fl56_8:Fl Tryz.prog 56 8 (8,1):=⟨by kernel_rfl⟩
instance fl56_9:Fl Tryz.prog 56 9 (9,1):=⟨by kernel_rfl⟩
instance fl56_10:Fl Tryz.prog 56 10 (10,2):=⟨by kernel_rfl⟩
instance fl56_11:Fl Tryz.prog 56 11 (12,1):=⟨by kernel_rfl⟩
instance fl56_12:Fl Tryz.prog 56 12 (13,1):=⟨by kernel_rfl⟩
instance ty57:Fk tyc Tryz.prog 57 (false,1):=⟨by kernel_rfl⟩
instance ty59:Fk tyc Tryz.prog 59 (true,2):=⟨by kernel_rfl⟩
instance ze59:Fk zer Tryz.prog 59 [Go.Value.int Go.IntKind.i64 (0),Go.Value.int Go.IntKind.i64 (0)]:=⟨by kernel_rfl⟩
instance pl59:Fk plc Tryz.prog 59 [(0,1),(1,1)]:=⟨by kernel_rfl⟩
instance fl59_0:Fl Tryz.prog 59 0 (0,1):=⟨by kernel_rfl⟩
instance fl59_1:Fl Tryz.prog 59 1 (1,1):=⟨by kernel_rfl⟩
instance ty61:Fk tyc Tryz.prog 61 (true,20):=⟨by kernel_rfl⟩
instance ze61:Fk zer Tryz.prog 61 [Go.Value.int Go.IntKind.i64 (0),Go.Value.int Go.IntKind.i64 (0),Go.Value.int Go.IntKind.i64 (0),Go.Value.int Go.IntKind.i64 (0),Go.Value.int Go.IntKind.i64 (0),Go.Value.int Go.IntKind.u64 (0),Go.Value.int Go.IntKind.u64 (0),Go.Value.int Go.IntKind.u64 (0),Go.Value.slice none 0 0,Go.Value.int Go.IntKind.u64 (0),Go.Value.bool false,Go.Value.int Go.IntKind.u64 (0),Go.Value.slice none 0 0,Go.Value.slice none 0 0,Go.Value.slice none 0 0,Go.Value.bool false,Go.Value.slice none 0 0,Go.Value.int Go.IntKind.i64 (0),Go.Value.int Go.IntKind.i64 (0),Go.Value.int Go.IntKind.i64 (0)]:=⟨by kernel_rfl⟩
instance pl61:Fk plc Tryz.prog 61 [(0,1),(1,1),(2,14),(16,1),(17,2),(19,1)]:=⟨by kernel_rfl⟩
instance fl61_0:Fl Tryz.prog 61 0 (0,1):=⟨by kernel_rfl⟩
instance fl61_1:Fl Tryz.prog 61 1 (1,1):=⟨by kernel_rfl⟩
instance fl61_2:Fl Tryz.prog 61 2 (2,14):=⟨by kernel_rfl⟩
instance fl61_3:Fl Tryz.prog 61 3 (16,1):=⟨by kernel_rfl⟩
instance fl61_4:Fl Tryz.prog 61 4 (17,2):=⟨by kernel_rfl⟩
instance fl61_5:Fl Tryz.prog 61 5 (19,1):=⟨by kernel_rfl⟩
instance ty63:Fk tyc Tryz.prog 63 (false,1):=⟨by kernel_rfl⟩
instance ty65:Fk tyc Tryz.prog 65 (true,6):=⟨by kernel_rfl⟩
instance ze65:Fk zer Tryz.prog 65 [Go.Value.int Go.IntKind.u64 (0),Go.Value.int Go.IntKind.u64 (0),Go.Value.int Go.IntKind.i64 (0),Go.Value.slice none 0 0,Go.Value.slice none 0 0,Go.Value.slice none 0 0]:=⟨by kernel_rfl⟩
instance pl65:Fk plc Tryz.prog 65 [(0,1),(1,1),(2,1),(3,1),(4,2)]:=⟨by kernel_rfl⟩
instance fl65_0:Fl Tryz.prog 65 0 (0,1):=⟨by kernel_rfl⟩
instance fl65_1:Fl Tryz.prog 65 1 (1,1):=⟨by kernel_rfl⟩
instance fl65_2:Fl Tryz.prog 65 2 (2,1):=⟨by kernel_rfl⟩
instance fl65_3:Fl Tryz.prog 65 3 (3,1):=⟨by kernel_rfl⟩
instance fl65_4:Fl Tryz.prog 65 4 (4,2):=⟨by kernel_rfl⟩
instance sl69:Fk slc Tryz.prog 69 (76,5,56):=⟨by kernel_rfl⟩
instance ty76:Fk tyc Tryz.prog 76 (true,5):=⟨by kernel_rfl⟩
instance fl76_0:Fl Tryz.prog 76 0 (0,1):=⟨by kernel_rfl⟩
instance fl76_1:Fl Tryz.prog 76 1 (1,1):=⟨by kernel_rfl⟩
instance fl76_2:Fl Tryz.prog 76 2 (2,1):=⟨by kernel_rfl⟩
instance fl76_3:Fl Tryz.prog 76 3 (3,1):=⟨by kernel_rfl⟩
instance fl76_4:Fl Tryz.prog 76 4 (4,1):=⟨by kernel_rfl⟩
instance ty81:Fk tyc Tryz.prog 81 (false,1):=⟨by kernel_rfl⟩
instance sl81:Fk slc Tryz.prog 81 (44,20,272):=⟨by kernel_rfl⟩
instance ty82:Fk tyc Tryz.prog 82 (false,1):=⟨by kernel_rfl⟩
instance sl82:Fk slc Tryz.prog 82 (35,10,144):=⟨by kernel_rfl⟩
instance ty83:Fk tyc Tryz.prog 83 (false,1):=⟨by kernel_rfl⟩
instance sl83:Fk slc Tryz.prog 83 (22,1,8):=⟨by kernel_rfl⟩
instance ze85:Fk zer Tryz.prog 85 [Go.Value.slice none 0 0,Go.Value.slice none 0 0,Go.Value.slice none 0 0,Go.Value.slice none 0 0,Go.Value.slice none 0 0,Go.Value.slice none 0 0,Go.Value.slice none 0 0]:=⟨by kernel_rfl⟩
instance pl85:Fk plc Tryz.prog 85 [(0,1),(1,1),(2,1),(3,1),(4,1),(5,1),(6,1)]:=⟨by kernel_rfl⟩
instance fl85_0:Fl Tryz.prog 85 0 (0,1):=⟨by kernel_rfl⟩
instance fl85_1:Fl Tryz.prog 85 1 (1,1):=⟨by kernel_rfl⟩
instance fl85_2:Fl Tryz.prog 85 2 (2,1):=⟨by kernel_rfl⟩
instance fl85_3:Fl Tryz.prog 85 3 (3,1):=⟨by kernel_rfl⟩
instance fl85_4:Fl Tryz.prog 85 4 (4,1):=⟨by kernel_rfl⟩
instance fl85_5:Fl Tryz.prog 85 5 (5,1):=⟨by kernel_rfl⟩
instance fl85_6:Fl Tryz.prog 85 6 (6,1):=⟨by kernel_rfl⟩
instance ze109:Fk zer Tryz.prog 109 [Go.Value.int Go.IntKind.i64 (0),Go.Value.int Go.IntKind.u64 (0),Go.Value.int Go.IntKind.i64 (0),Go.Value.int Go.IntKind.u64 (0),Go.Value.int Go.IntKind.u64 (0),Go.Value.int Go.IntKind.u64 (0),Go.Value.slice none 0 0,Go.Value.slice none 0 0,Go.Value.slice none 0 0,Go.Value.slice none 0 0,Go.Value.int Go.IntKind.i64 (0),Go.Value.int Go.IntKind.i64 (0),Go.Value.slice none 0 0,Go.Value.slice none 0 0,Go.Value.int Go.IntKind.i64 (0),Go.Value.int Go.IntKind.i64 (0),Go.Value.int Go.IntKind.i64 (0),Go.Value.int Go.IntKind.u64 (0),Go.Value.int Go.IntKind.u64 (0),Go.Value.slice none 0 0,Go.Value.int Go.IntKind.u64 (0),Go.Value.slice none 0 0,Go.Value.bool false,Go.Value.bool false,Go.Value.slice none 0 0,Go.Value.int Go.IntKind.u64 (0),Go.Value.int Go.IntKind.u64 (0)]:=⟨by kernel_rfl⟩
instance pl109:Fk plc Tryz.prog 109 [(0,20),(20,7)]:=⟨by kernel_rfl⟩
instance fl109_0:Fl Tryz.prog 109 0 (0,20):=⟨by kernel_rfl⟩
instance fl109_1:Fl Tryz.prog 109 1 (20,7):=⟨by kernel_rfl⟩
instance ty133:Fk tyc Tryz.prog 133 (true,2):=⟨by kernel_rfl⟩
instance ze133:Fk zer Tryz.prog 133 [Go.Value.int Go.IntKind.i64 (0),Go.Value.bool false]:=⟨by kernel_rfl⟩
instance pl133:Fk plc Tryz.prog 133 [(0,1),(1,1)]:=⟨by kernel_rfl⟩
instance fl133_0:Fl Tryz.prog 133 0 (0,1):=⟨by kernel_rfl⟩
instance fl133_1:Fl Tryz.prog 133 1 (1,1):=⟨by kernel_rfl⟩
instance ty136:Fk tyc Tryz.prog 136 (true,3):=⟨by kernel_rfl⟩
instance ze136:Fk zer Tryz.prog 136 [Go.Value.int Go.IntKind.i64 (0),Go.Value.int Go.IntKind.u64 (0),Go.Value.int Go.IntKind.u64 (0)]:=⟨by kernel_rfl⟩
instance pl136:Fk plc Tryz.prog 136 [(0,1),(1,1),(2,1)]:=⟨by kernel_rfl⟩
instance fl136_0:Fl Tryz.prog 136 0 (0,1):=⟨by kernel_rfl⟩
instance fl136_1:Fl Tryz.prog 136 1 (1,1):=⟨by kernel_rfl⟩
instance fl136_2:Fl Tryz.prog 136 2 (2,1):=⟨by kernel_rfl⟩
instance sl168:Fk slc Tryz.prog 168 (25,1,24):=⟨by kernel_rfl⟩
instance ty175:Fk tyc Tryz.prog 175 (false,1):=⟨by kernel_rfl⟩
instance ze175:Fk zer Tryz.prog 175 [Go.Value.nilFunc]:=⟨by kernel_rfl⟩
instance ty221:Fk tyc Tryz.prog 221 (false,1):=⟨by kernel_rfl⟩
instance ze221:Fk zer Tryz.prog 221 [Go.Value.int Go.IntKind.u64 (0)]:=⟨by kernel_rfl⟩
instance ca9:Ca Tryz.prog 9:=⟨by kernel_rfl⟩
instance ca10:Ca Tryz.prog 10:=⟨by kernel_rfl⟩
instance ca11:Ca Tryz.prog 11:=⟨by kernel_rfl⟩
instance ca13:Ca Tryz.prog 13:=⟨by kernel_rfl⟩
instance ca14:Ca Tryz.prog 14:=⟨by kernel_rfl⟩
instance ca15:Ca Tryz.prog 15:=⟨by kernel_rfl⟩
instance ca16:Ca Tryz.prog 16:=⟨by kernel_rfl⟩
instance ca24:Ca Tryz.prog 24:=⟨by kernel_rfl⟩
instance ca25:Ca Tryz.prog 25:=⟨by kernel_rfl⟩
instance ca28:Ca Tryz.prog 28:=⟨by kernel_rfl⟩
instance ca29:Ca Tryz.prog 29:=⟨by kernel_rfl⟩
instance ca30:Ca Tryz.prog 30:=⟨by kernel_rfl⟩
instance ca31:Ca Tryz.prog 31:=⟨by kernel_rfl⟩
instance ca32:Ca Tryz.prog 32:=⟨by kernel_rfl⟩
instance ca33:Ca Tryz.prog 33:=⟨by kernel_rfl⟩
instance ca39:Ca Tryz.prog 39:=⟨by kernel_rfl⟩
instance ca40:Ca Tryz.prog 40:=⟨by kernel_rfl⟩
instance ca41:Ca Tryz.prog 41:=⟨by kernel_rfl⟩
instance ca42:Ca Tryz.prog 42:=⟨by kernel_rfl⟩
instance ca44:Ca Tryz.prog 44:=⟨by kernel_rfl⟩
instance ca48:Ca Tryz.prog 48:=⟨by kernel_rfl⟩
instance ca53:Ca Tryz.prog 53:=⟨by kernel_rfl⟩
instance ca54:Ca Tryz.prog 54:=⟨by kernel_rfl⟩
instance ca55:Ca Tryz.prog 55:=⟨by kernel_rfl⟩
instance ca56:Ca Tryz.prog 56:=⟨by kernel_rfl⟩
instance ca57:Ca Tryz.prog 57:=⟨by kernel_rfl⟩
instance ca58:Ca Tryz.prog 58:=⟨by kernel_rfl⟩
instance ca59:Ca Tryz.prog 59:=⟨by kernel_rfl⟩
instance ca60:Ca Tryz.prog 60:=⟨by kernel_rfl⟩
instance ca61:Ca Tryz.prog 61:=⟨by kernel_rfl⟩
instance ca62:Ca Tryz.prog 62:=⟨by kernel_rfl⟩
instance ca63:Ca Tryz.prog 63:=⟨by kernel_rfl⟩
instance ca64:Ca Tryz.prog 64:=⟨by kernel_rfl⟩
instance ca65:Ca Tryz.prog 65:=⟨by kernel_rfl⟩
instance ca66:Ca Tryz.prog 66:=⟨by kernel_rfl⟩
instance ca67:Ca Tryz.prog 67:=⟨by kernel_rfl⟩
instance ca68:Ca Tryz.prog 68:=⟨by kernel_rfl⟩
instance ca69:Ca Tryz.prog 69:=⟨by kernel_rfl⟩
instance ca70:Ca Tryz.prog 70:=⟨by kernel_rfl⟩
instance ca71:Ca Tryz.prog 71:=⟨by kernel_rfl⟩
instance ca72:Ca Tryz.prog 72:=⟨by kernel_rfl⟩
instance ca73:Ca Tryz.prog 73:=⟨by kernel_rfl⟩
instance ca75:Ca Tryz.prog 75:=⟨by kernel_rfl⟩
instance ca76:Ca Tryz.prog 76:=⟨by kernel_rfl⟩
instance ca77:Ca Tryz.prog 77:=⟨by kernel_rfl⟩
instance ca78:Ca Tryz.prog 78:=⟨by kernel_rfl⟩
instance ca80:Ca Tryz.prog 80:=⟨by kernel_rfl⟩
instance ca81:Ca Tryz.prog 81:=⟨by kernel_rfl⟩
instance ca82:Ca Tryz.prog 82:=⟨by kernel_rfl⟩
instance ca83:Ca Tryz.prog 83:=⟨by kernel_rfl⟩
instance ca84:Ca Tryz.prog 84:=⟨by kernel_rfl⟩
instance ca86:Ca Tryz.prog 86:=⟨by kernel_rfl⟩
instance ca87:Ca Tryz.prog 87:=⟨by kernel_rfl⟩
instance ca88:Ca Tryz.prog 88:=⟨by kernel_rfl⟩
instance ca90:Ca Tryz.prog 90:=⟨by kernel_rfl⟩
instance ca91:Ca Tryz.prog 91:=⟨by kernel_rfl⟩
instance ca92:Ca Tryz.prog 92:=⟨by kernel_rfl⟩
instance ca93:Ca Tryz.prog 93:=⟨by kernel_rfl⟩
instance ca94:Ca Tryz.prog 94:=⟨by kernel_rfl⟩
instance ca95:Ca Tryz.prog 95:=⟨by kernel_rfl⟩
instance ca96:Ca Tryz.prog 96:=⟨by kernel_rfl⟩
instance ca97:Ca Tryz.prog 97:=⟨by kernel_rfl⟩
instance ca98:Ca Tryz.prog 98:=⟨by kernel_rfl⟩
instance ca99:Ca Tryz.prog 99:=⟨by kernel_rfl⟩
instance ca100:Ca Tryz.prog 100:=⟨by kernel_rfl⟩
instance ca101:Ca Tryz.prog 101:=⟨by kernel_rfl⟩
instance ca102:Ca Tryz.prog 102:=⟨by kernel_rfl⟩
instance ca103:Ca Tryz.prog 103:=⟨by kernel_rfl⟩
instance ca104:Ca Tryz.prog 104:=⟨by kernel_rfl⟩
instance ca105:Ca Tryz.prog 105:=⟨by kernel_rfl⟩
instance ca113:Ca Tryz.prog 113:=⟨by kernel_rfl⟩
instance ca114:Ca Tryz.prog 114:=⟨by kernel_rfl⟩
instance ca115:Ca Tryz.prog 115:=⟨by kernel_rfl⟩
instance ca116:Ca Tryz.prog 116:=⟨by kernel_rfl⟩
instance ca117:Ca Tryz.prog 117:=⟨by kernel_rfl⟩
instance ca118:Ca Tryz.prog 118:=⟨by kernel_rfl⟩
instance ca120:Ca Tryz.prog 120:=⟨by kernel_rfl⟩
instance ca121:Ca Tryz.prog 121:=⟨by kernel_rfl⟩
instance ca122:Ca Tryz.prog 122:=⟨by kernel_rfl⟩
instance ca123:Ca Tryz.prog 123:=⟨by kernel_rfl⟩
instance ca124:Ca Tryz.prog 124:=⟨by kernel_rfl⟩
instance ca125:Ca Tryz.prog 125:=⟨by kernel_rfl⟩
instance ca126:Ca Tryz.prog 126:=⟨by kernel_rfl⟩
instance ca127:Ca Tryz.prog 127:=⟨by kernel_rfl⟩
instance ca128:Ca Tryz.prog 128:=⟨by kernel_rfl⟩
instance ca129:Ca Tryz.prog 129:=⟨by kernel_rfl⟩
instance ca130:Ca Tryz.prog 130:=⟨by kernel_rfl⟩
instance ca131:Ca Tryz.prog 131:=⟨by kernel_rfl⟩
instance ca132:Ca Tryz.prog 132:=⟨by kernel_rfl⟩
instance ca133:Ca Tryz.prog 133:=⟨by kernel_rfl⟩
instance ca135:Ca Tryz.prog 135:=⟨by kernel_rfl⟩
instance ca136:Ca Tryz.prog 136:=⟨by kernel_rfl⟩
instance ca137:Ca Tryz.prog 137:=⟨by kernel_rfl⟩
instance ca138:Ca Tryz.prog 138:=⟨by kernel_rfl⟩
instance ca139:Ca Tryz.prog 139:=⟨by kernel_rfl⟩
instance ca140:Ca Tryz.prog 140:=⟨by kernel_rfl⟩
instance ca141:Ca Tryz.prog 141:=⟨by kernel_rfl⟩
instance ca142:Ca Tryz.prog 142:=⟨by kernel_rfl⟩
instance ca143:Ca Tryz.prog 143:=⟨by kernel_rfl⟩
instance ca145:Ca Tryz.prog 145:=⟨by kernel_rfl⟩
instance ca146:Ca Tryz.prog 146:=⟨by kernel_rfl⟩
instance ca147:Ca Tryz.prog 147:=⟨by kernel_rfl⟩
instance ca148:Ca Tryz.prog 148:=⟨by kernel_rfl⟩
instance ca149:Ca Tryz.prog 149:=⟨by kernel_rfl⟩
instance ca153:Ca Tryz.prog 153:=⟨by kernel_rfl⟩
instance ca154:Ca Tryz.prog 154:=⟨by kernel_rfl⟩
instance ca156:Ca Tryz.prog 156:=⟨by kernel_rfl⟩
instance ca157:Ca Tryz.prog 157:=⟨by kernel_rfl⟩
instance ca159:Ca Tryz.prog 159:=⟨by kernel_rfl⟩
instance ca160:Ca Tryz.prog 160:=⟨by kernel_rfl⟩
instance ca161:Ca Tryz.prog 161:=⟨by kernel_rfl⟩
instance ca162:Ca Tryz.prog 162:=⟨by kernel_rfl⟩
instance ca163:Ca Tryz.prog 163:=⟨by kernel_rfl⟩
instance ca164:Ca Tryz.prog 164:=⟨by kernel_rfl⟩
instance ca165:Ca Tryz.prog 165:=⟨by kernel_rfl⟩
instance ca166:Ca Tryz.prog 166:=⟨by kernel_rfl⟩
instance ca167:Ca Tryz.prog 167:=⟨by kernel_rfl⟩
instance ca168:Ca Tryz.prog 168:=⟨by kernel_rfl⟩
instance ca169:Ca Tryz.prog 169:=⟨by kernel_rfl⟩
instance ca170:Ca Tryz.prog 170:=⟨by kernel_rfl⟩
instance ca171:Ca Tryz.prog 171:=⟨by kernel_rfl⟩
instance ca172:Ca Tryz.prog 172:=⟨by kernel_rfl⟩
instance ca173:Ca Tryz.prog 173:=⟨by kernel_rfl⟩
instance ca174:Ca Tryz.prog 174:=⟨by kernel_rfl⟩
instance ca178:Ca Tryz.prog 178:=⟨by kernel_rfl⟩
instance ca179:Ca Tryz.prog 179:=⟨by kernel_rfl⟩
instance ca191:Ca Tryz.prog 191:=⟨by kernel_rfl⟩
instance ca192:Ca Tryz.prog 192:=⟨by kernel_rfl⟩
instance ca193:Ca Tryz.prog 193:=⟨by kernel_rfl⟩
instance ca194:Ca Tryz.prog 194:=⟨by kernel_rfl⟩
instance ca195:Ca Tryz.prog 195:=⟨by kernel_rfl⟩
instance ca196:Ca Tryz.prog 196:=⟨by kernel_rfl⟩
instance ca197:Ca Tryz.prog 197:=⟨by kernel_rfl⟩
instance ca198:Ca Tryz.prog 198:=⟨by kernel_rfl⟩
instance ca199:Ca Tryz.prog 199:=⟨by kernel_rfl⟩
instance ca202:Ca Tryz.prog 202:=⟨by kernel_rfl⟩
instance ca203:Ca Tryz.prog 203:=⟨by kernel_rfl⟩
instance ca206:Ca Tryz.prog 206:=⟨by kernel_rfl⟩
instance ca207:Ca Tryz.prog 207:=⟨by kernel_rfl⟩
instance ca208:Ca Tryz.prog 208:=⟨by kernel_rfl⟩
instance ca209:Ca Tryz.prog 209:=⟨by kernel_rfl⟩
instance ca211:Ca Tryz.prog 211:=⟨by kernel_rfl⟩
end Go.Lw
namespace Go.Lw
theorem ints_chunks {k:IntKind} {s:Res}:∀ {xs:List Int},(∀ x∈xs,rng k x)→Chunks (RInt k) 1 s (xs.map (Value.int k)) xs
 | [],_=>rfl
 | x::xs,h=>⟨[.int k x],_,rfl,rfl,⟨rfl,h x (by simp)⟩,ints_chunks fun y hy=>h y (by simp[hy])⟩
theorem Chunks.rng {k:IntKind} {s:Res} {cs:List Value} {xs:List Int} (h:Chunks (RInt k) 1 s cs xs):cs=xs.map (Value.int k)∧∀ x∈xs,Lw.rng k x:=by
 induction xs generalizing cs with
 | nil=>exact⟨h,by simp⟩
 | cons x xs ih =>
  obtain⟨vs,rest,rfl,_,⟨rfl,hr⟩,h'⟩:=h
  obtain⟨h1,h2⟩:=ih h'
  refine⟨by rw[h1];rfl,fun y hy=>?_⟩
  rcases List.mem_cons.1 hy with rfl | hy
  ·
   exact hr
  ·
   exact h2 y hy
theorem Imm.rng {k:IntKind} {s:Res} {a:Option Addr} {c:Nat} {xs:List Int} (h:Imm (RInt k) 1 s a c xs):∀ x∈xs,Lw.rng k x:=by
 rcases h.2.2 with rfl | ⟨ad,rfl,cs,hh,hc⟩
 ·
  simp
 ·
  exact hc.rng.2
theorem Own.rng {k:IntKind} {s A:Res} {el:TypeId} {a:Option Addr} {c:Nat} {xs:List Int} (h:Own (RInt k) 1 el s A a c xs):∀ x∈xs,Lw.rng k x:=by
 rcases h.row with rfl | ⟨ad,rfl,cs,hh,hc⟩
 ·
  simp
 ·
  exact hc.rng.2
end Go.Lw
namespace Go.Lw
section
variable {P:Program} {n:Nat} {ops:Array Oper} {Q:Exit→Act→World→Prop} {S:World→Prop} {rest:List (Bool × Oper)} {E:Env} {w:World} {o:Oper} {d:Nat} {v:Value}
variable {s A:Res} {os:List Res} {x y:Operand} {T:Bool}
theorem run_eqGuard_slice (P:Program) (op:BinOp) (t:TypeId) (x y:Operand) (a a':Option Addr) (n c n' c':Nat) (w:World):(eqGuard op t x y (.slice a n c) (.slice a' n' c')).run P w = .ok () w:=by
 unfold eqGuard
 cases op<;>rfl
theorem RL.nilEq {t e:TypeId} {yt:TypeId} {sz by_ m c m' c':Nat} {a:Option Addr} (hg:wants ops E o=some true) (hd:o.dst=some d) (hb:Nat.blt d n=true) (ho:o.op = .binOp .eql t x y yt) (ht:slc P t=some (e,sz,by_))
  (hx:ev E x=some (.slice a m c)) (hy:ev E y=some (.slice none m' c')) (h:RL P n ops Q S rest ((d,.bool a.isNone)::E) w):RL P n ops Q S ((T,o)::rest) E w:=by
 refine RL.val hg hd hb (fun w ac ha=>?_) h
 unfold execOp
 simp only[ho,ha.ev hx,ha.ev hy,Sem.run_bind,run_eqGuard_slice,Result.andThen_ok]
 have:=Lib.run_equalIn_slice_nil (P:=P) w 9999 t e a m c m' c' (slc_spec ht).1
 simp[binOp,Op.equal,Op.maxDepth,this]
theorem RL.neg {k:IntKind} {a:Int} {t:TypeId} (hg:wants ops E o=some true) (hd:o.dst=some d) (hb:Nat.blt d n=true) (ho:o.op = .unOp .neg t x) (hx:ev E x=some (.int k a)) (hr:rng k (-a)) (h:RL P n ops Q S rest ((d,.int k (-a))::E) w):RL P n ops Q S ((T,o)::rest) E w:=by
 refine RL.val hg hd hb (fun w ac ha=>?_) h
 unfold execOp
 simp only[ho,ha.ev hx]
 simp[Op.unary,Op.intArith,hr.wrap]
theorem Good.letgo (h:Good w s (A::os)):∃ s1,Good w s1 os∧Le s s1∧Le A s1:=⟨_,h.share,Res.le_join_left _ _,Res.le_join_right h.2.1.symm⟩
end
theorem wrap_u64 (v:Int):IntKind.u64.wrap v=v % 18446744073709551616:=by simp[IntKind.wrap,IntKind.bits,IntKind.signed]
end Go.Lw
namespace Go.Lw
section
variable {P:Program} {n:Nat} {ops:Array Oper} {Q:Exit→Act→World→Prop} {S:World→Prop} {rest:List (Bool × Oper)} {E:Env} {w:World} {o:Oper} {d:Nat} {v:Value}
variable {s A:Res} {os:List Res} {x y:Operand} {T:Bool}
theorem RL.mark {t e:TypeId} {sz by_ m c b i:Nat} {cs:Array Value} {el:TypeId} (hg:wants ops E o=some true) (hd:o.dst=some d) (hb:Nat.blt d n=true) (ho:o.op = .convert t t x) (ht:slc P t=some (e,sz,by_)) (he:P.underlying e=some (.int .u8))
  (hx:ev E x=some (.slice (some ⟨b,0,none⟩) m c)) (hG:Good w s os) (hi:os[i]?=some A) (hA:A b=some (.cells cs el (0,0)))
  (h:∀ w',Good w' s (os.set i (A.put b (.cells cs el (cs.size,cs.size+1))))→Aux w w'→S w'∧RL P n ops Q S rest ((d,.slice (some ⟨b,0,none⟩) m c)::E) w'):RL P n ops Q S ((false,o)::rest) E w:=by
 have hf:=hG.front i hi
 have hwb:=hf.1 b _ hA
 obtain⟨hu,_⟩:=slc_spec ht
 have hsh:w.shape? b=some (el,cs.size):=by simp[World.shape?,hwb]
 have hat:(w.freeze ⟨b,cs.size,none⟩ 1).heap[b]?=some (.cells cs el (cs.size,cs.size+1)):=by
  simp only[World.freeze,Nat.one_ne_zero,if_false,Array.getElem?_modify,if_true,hwb,Option.map_some,beq_self_eq_true]
 have hot:∀ k,k<w.heap.size→k≠b→(w.freeze ⟨b,cs.size,none⟩ 1).heap[k]?=w.heap[k]?:=fun k _ hk=>by
  simp[World.freeze,Array.getElem?_modify,Ne.symm hk]
 obtain⟨h1,h2⟩:=h (w.freeze ⟨b,cs.size,none⟩ 1) (Good.back i hi (hf.write hA hat hot)) ⟨rfl,rfl,rfl,by simp[World.freeze]⟩
 refine RL.step hg hd hb (fun ac ha=>?_) h1 h2
 unfold execOp
 simp only[ho,ha.ev hx]
 simp[convert,run_underlying hu,run_underlying he,markStringish,hsh]
def PostV (w:World) (s:Res) (os:List Res) (Φ:Value→Prop):Ending→World→Prop:=fun e w'=>∃ v,e = .returned v∧Good w' s os∧Aux w w'∧Φ v
theorem PostV.mk {w w':World} {s:Res} {os:List Res} {Φ:Value→Prop} {v:Value} (hg:Good w' s os) (ha:Aux w w') (h:Φ v):PostV w s os Φ (.returned v) w':=⟨v,rfl,hg,ha,h⟩
theorem RL.callV {f:FuncId} {args:Array Operand} {ats:Array TypeId} {l:List Value} {w0:World} {s0:Res} {os0:List Res} {Φ:Value→Prop} (hg:wants ops E o=some true) (hd:o.dst=some d) (hb:Nat.blt d n=true)
  (ho:o.op = .call { callee:= .value (.func f),args:=args,argTypes:=ats }) (hl:evs E args.toList=some l) (hc:callable P f=true) (hct:Calls P f l.toArray w (PostV w0 s0 os0 Φ))
  (h:∀ v w',Good w' s0 os0→Aux w0 w'→Φ v→S w'∧RL P n ops Q S rest ((d,v)::E) w'):RL P n ops Q S ((false,o)::rest) E w :=
 RL.call (w0:=w0) (s0:=s0) (os0:=os0) (Φ:=fun s' A v=>s'=s0∧A=Res.nil∧Φ v) hg hd hb ho hl hc
  (hct.mono fun e w' ⟨v,he,hgd,hax,hv⟩=>⟨v,s0,Res.nil,he,Le.refl _,hgd.nil,hax,rfl,rfl,hv⟩)
  (fun v s' A w' _ hgd hax ⟨hs,hA,hv⟩=>by subst hs;subst hA;exact h v w' hgd.drop hax hv)
theorem RL.callG {f:FuncId} {args:Array Operand} {ats:Array TypeId} {l:List Value} {R:Ending→World→Prop} (hg:wants ops E o=some true) (hd:o.dst=some d) (hb:Nat.blt d n=true)
  (ho:o.op = .call { callee:= .value (.func f),args:=args,argTypes:=ats }) (hl:evs E args.toList=some l) (hc:callable P f=true) (hct:Calls P f l.toArray w R)
  (h:∀ e w',R e w'→∃ v,e = .returned v∧S w'∧RL P n ops Q S rest ((d,v)::E) w'):RL P n ops Q S ((false,o)::rest) E w:=fun _ ac ha=>by
 have hargs:(args.map ac.eval)=l.toArray:=by
  rw[←Array.toArray_toList (xs:=args),List.map_toArray,ha.evs hl]
 have hev:ac.eval (.func f) = .func (.func f) #[] #[]:=rfl
 simp only[RA,ha.wants hg,if_true]
 unfold Oper.wp
 have hrun:(execOp ac.eval o).run P w = .ok (.enter f l.toArray) w:=by
  unfold execOp
  simp only[ho]
  simp only[resolve,hargs,hev,Deferred.ofValue,invoke,Sem.run_bind,Sem.run_pure,Result.andThen_ok,Array.append_empty,Array.empty_append,run_callFunc hc]
 rw[hrun]
 simp only[Oper.upon]
 refine hct.mono fun e w' hp=>?_
 obtain⟨v,rfl,h5,h6⟩:=h e w' hp
 simp only[hd]
 exact⟨h5,h6 h5 _ (ha.put hb v)⟩
def Post2 (w:World) (s:Res) (os:List Res) (Φ:Res→Res→Res→Value→Prop):Ending→World→Prop:=fun e w' =>
 ∃ v s' B A,e = .returned v∧Le s s'∧Good w' s' (B::A::os)∧Aux w w'∧Φ s' B A v
theorem Post2.mk {w w':World} {s s' A B:Res} {os:List Res} {Φ:Res→Res→Res→Value→Prop} {v:Value} (hl:Le s s') (hg:Good w' s' (B::A::os)) (ha:Aux w w') (h:Φ s' B A v):Post2 w s os Φ (.returned v) w' :=
 ⟨v,s',B,A,rfl,hl,hg,ha,h⟩
end
theorem Own.le_cap {α:Type} {R:Res→List Value→α→Prop} {sz c:Nat} {el:TypeId} {s A:Res} {a:Option Addr} {xs:List α} (h:Own R sz el s A a c xs):xs.length≤c:=by
 rcases h with ⟨_,rfl,rfl⟩ | ⟨_,_,_,_,h,_⟩
 ·
  simp
 ·
  exact h
theorem Own.set {α:Type} {R:Res→List Value→α→Prop} {sz g c i:Nat} {el:TypeId} {s A:Res} {xs:List α} {cs:Array Value} {vs:List Value} {x:α} (h:Own R sz el s A (some ⟨g,0,none⟩) c xs) (hA:A g=some (.cells cs el (0,0)))
  (hi:i<xs.length) (hv:vs.length=sz) (hx:R s vs x) :
  Own R sz el s (A.put g (.cells (cs.toList.take (i*sz)++vs++cs.toList.drop (i*sz+sz)).toArray el (0,0))) (some ⟨g,0,none⟩) c (xs.set i x):=by
 rcases h with ⟨h,_⟩ | ⟨g',cs',h,hg,hl,hc,hcs,hch⟩
 ·
  cases h
 ·
  cases h
  rw[hA] at hg
  cases hg
  have hle:xs.length*sz≤cs.size:=by rw[hcs];exact Nat.mul_le_mul_right _ hl
  have hi':i*sz+sz≤xs.length*sz:=by
   have:=Nat.mul_le_mul_right sz (Nat.succ_le_of_lt hi)
   rwa[Nat.succ_mul] at this
  refine .inr ⟨g,_,rfl,put_same _ _ _,by simpa using hl,hc,?_,?_⟩
  ·
   rw[←hcs]
   simp only[List.size_toArray,List.length_append,List.length_take,List.length_drop,Array.length_toList,hv]
   omega
  ·
   have:=Chunks.set hch hi hv hx
   rw[List.length_set]
   have e:(cs.toList.take (i*sz)++vs++cs.toList.drop (i*sz+sz)).take (xs.length*sz)=(cs.toList.take (xs.length*sz)).take (i*sz)++vs++(cs.toList.take (xs.length*sz)).drop (i*sz+sz):=by
    have h1:(cs.toList.take (xs.length*sz)).take (i*sz)=cs.toList.take (i*sz):=by rw[List.take_take];congr 1;omega
    have h2:(cs.toList.take (i*sz)++vs).length=i*sz+sz:=by simp[hv];omega
    rw[h1,List.take_append,List.take_of_length_le (by rw[h2];exact hi'),h2]
    congr 1
    rw[List.drop_take]
   simp only[e]
   exact this
abbrev u32 (c:BitVec 32):Value:= .int .u32 c.toNat
end Go.Lw
namespace Go.Lw
section
variable {P:Program} {n:Nat} {ops:Array Oper} {Q:Exit→Act→World→Prop} {S:World→Prop} {rest:List (Bool × Oper)} {E:Env} {w:World} {o:Oper} {d:Nat} {v:Value}
variable {s A:Res} {os:List Res} {x y:Operand} {T:Bool}
theorem run_eq_nilP {t e:TypeId} {a:Option Addr} (ht:P.underlying t=some (.pointer e)) (w:World):(Op.equal t (.pointer a) (.pointer none)).run P w = .ok a.isNone w:=by
 have h:∀ d:Nat,(Op.equalIn (d+1) t (.pointer a) (.pointer none)).run P w = .ok a.isNone w:=fun d=>by
  cases a<;>simp[Op.equalIn,run_underlying ht]
 simp only[Op.equal,Op.maxDepth]
 exact h 9999
theorem RL.ptrEq {t e yt:TypeId} {a:Option Addr} (hg:wants ops E o=some true) (hd:o.dst=some d) (hb:Nat.blt d n=true) (ho:o.op = .binOp .eql t x y yt) (ht:P.underlying t=some (.pointer e))
  (hx:ev E x=some (.pointer a)) (hy:ev E y=some (.pointer none)) (h:RL P n ops Q S rest ((d,.bool a.isNone)::E) w):RL P n ops Q S ((T,o)::rest) E w:=by
 refine RL.val hg hd hb (fun w ac ha=>?_) h
 have hgd:(eqGuard .eql t x y (.pointer a) (.pointer none)).run P w = .ok () w:=by unfold eqGuard;rfl
 unfold execOp
 simp only[ho,ha.ev hx,ha.ev hy,Sem.run_bind,hgd,Result.andThen_ok]
 have h2:=run_eq_nilP (P:=P) (a:=a) ht w
 simp only[binOp]
 simp[h2]
theorem RL.ptrNe {t e yt:TypeId} {a:Option Addr} (hg:wants ops E o=some true) (hd:o.dst=some d) (hb:Nat.blt d n=true) (ho:o.op = .binOp .neq t x y yt) (ht:P.underlying t=some (.pointer e))
  (hx:ev E x=some (.pointer a)) (hy:ev E y=some (.pointer none)) (h:RL P n ops Q S rest ((d,.bool (!a.isNone))::E) w):RL P n ops Q S ((T,o)::rest) E w:=by
 refine RL.val hg hd hb (fun w ac ha=>?_) h
 have hgd:(eqGuard .neq t x y (.pointer a) (.pointer none)).run P w = .ok () w:=by unfold eqGuard;rfl
 unfold execOp
 simp only[ho,ha.ev hx,ha.ev hy,Sem.run_bind,hgd,Result.andThen_ok]
 have h2:=run_eq_nilP (P:=P) (a:=a) ht w
 simp only[binOp]
 simp[h2]
theorem RL.alloc {t:TypeId} {z:List Value} (hg:wants ops E o=some true) (hd:o.dst=some d) (hb:Nat.blt d n=true) (ho:o.op = .alloc t) (hz:zer P t=some z) (hG:Good w s os)
  (h:∀ b w',Good w' s (Res.one b (.cells z.toArray t)::os)→Aux w w'→S w'∧RL P n ops Q S rest ((d,.pointer (some ⟨b,0,none⟩))::E) w'):RL P n ops Q S ((false,o)::rest) E w:=by
 obtain⟨h1,h2⟩:=h w.heap.size _ (hG.alloc (.cells z.toArray t)) (Aux.alloc w _)
 refine RL.step hg hd hb (fun ac ha=>?_) h1 h2
 unfold zer at hz
 cases hi:P.info? t with
 | none=>simp[hi] at hz
 | some i =>
  cases hzz:i.zero with
  | none=>simp[hi,hzz] at hz
  | some u =>
   simp[hi,hzz] at hz
   unfold execOp
   simp only[ho]
   have hzv:(zeroValue t).run P w = .ok u w:=by simp[zeroValue,typeInfo,hi,hzz]
   have e:u.cells=z.toArray:=by rw[←hz]
   simp[Instr.alloc,hzv,newVar,newRow,e]
end
end Go.Lw
namespace Go.Lw
theorem loadVar_agg {P:Program} {w:World} {t:TypeId} {k b:Nat} {A:Res} {cs:Array Value} {el:TypeId} {fr:Nat × Nat} (ht:tyc P t=some (true,k)) (hA:A b=some (.cells cs el fr)) (hin:In A w) (hk:cs.size=k) :
  (loadVar t ⟨b,0,none⟩).run P w = .ok (.agg cs) w:=by
 have hr:=run_loadCells_list (P:=P) w ⟨b,0,none⟩ cs.toList (fun i u hu=>(Holds.of hA).cell hin hu)
 have hl:cs.toList.length=k:=by simpa using hk
 rw[hl] at hr
 simp[loadVar,(tyc_agg ht).1,(tyc_agg ht).2,hr]
theorem loadVar_one {P:Program} {w:World} {t:TypeId} {b:Nat} {A:Res} {cs:Array Value} {el:TypeId} {fr:Nat × Nat} {v:Value} (ht:tyc P t=some (false,1)) (hA:A b=some (.cells cs el fr)) (hin:In A w) (hv:cs[0]?=some v) :
  (loadVar t ⟨b,0,none⟩).run P w = .ok v w:=by
 have hc:=(Holds.of hA).cell hin (j:=0) (u:=v) (by simpa using hv)
 have hz:(⟨b,0,none⟩:Addr).add 0=⟨b,0,none⟩:=rfl
 rw[hz] at hc
 simp[loadVar,(tyc_agg ht).1,load,Sem.run,hc,Sem.run_bind]
end Go.Lw
namespace Go.Lw
section
variable {P:Program} {n:Nat} {ops:Array Oper} {Q:Exit→Act→World→Prop} {S:World→Prop} {rest:List (Bool × Oper)} {E:Env} {w:World} {o:Oper} {d:Nat} {v:Value}
variable {s A:Res} {os:List Res} {x y:Operand} {T:Bool}
theorem RL.makeF {fn:Fn} {cap:Array Operand} {l:List Value} (hg:wants ops E o=some true) (hd:o.dst=some d) (hb:Nat.blt d n=true) (ho:o.op = .makeFunc fn #[] cap) (hl:evs E cap.toList=some l)
  (h:RL P n ops Q S rest ((d,.func fn #[] l.toArray)::E) w):RL P n ops Q S ((T,o)::rest) E w:=by
 refine RL.val hg hd hb (fun w ac ha=>?_) h
 have hargs:(cap.map ac.eval)=l.toArray:=by
  rw[←Array.toArray_toList (xs:=cap),List.map_toArray,ha.evs hl]
 unfold execOp
 simp only[ho,hargs]
 simp[Instr.makeFunc]
theorem RL.callF {f:FuncId} {args:Array Operand} {ats:Array TypeId} {l:List Value} {cap:Array Value} {R:Ending→World→Prop} (hg:wants ops E o=some true) (hd:o.dst=some d) (hb:Nat.blt d n=true)
  (ho:o.op = .call { callee:= .value x,args:=args,argTypes:=ats }) (hx:ev E x=some (.func (.func f) #[] cap)) (hl:evs E args.toList=some l) (hc:callable P f=true) (hct:Calls P f (l.toArray++cap) w R)
  (h:∀ e w',R e w'→∃ v,e = .returned v∧S w'∧RL P n ops Q S rest ((d,v)::E) w'):RL P n ops Q S ((false,o)::rest) E w:=fun _ ac ha=>by
 have hargs:(args.map ac.eval)=l.toArray:=by
  rw[←Array.toArray_toList (xs:=args),List.map_toArray,ha.evs hl]
 have hev:ac.eval x = .func (.func f) #[] cap:=ha.ev hx
 simp only[RA,ha.wants hg,if_true]
 unfold Oper.wp
 have hrun:(execOp ac.eval o).run P w = .ok (.enter f (l.toArray++cap)) w:=by
  unfold execOp
  simp only[ho]
  simp only[resolve,hargs,hev,Deferred.ofValue,invoke,Sem.run_bind,Sem.run_pure,Result.andThen_ok,Array.empty_append,run_callFunc hc]
 rw[hrun]
 simp only[Oper.upon]
 refine hct.mono fun e w' hp=>?_
 obtain⟨v,rfl,h5,h6⟩:=h e w' hp
 simp only[hd]
 exact⟨h5,h6 h5 _ (ha.put hb v)⟩
end
end Go.Lw
namespace Go.Lw
theorem Good.has {w:World} {s r:Res} {os:List Res} (h:Good w s os) (hr:r=s∨r∈os):In r w:=by
 rcases hr with rfl | hr
 ·
  exact h.sh
 ·
  exact h.mem hr
theorem Src.row {P:Program} {w:World} {α:Type} {R:Res→List Value→α→Prop} {t e:TypeId} {sz by_:Nat} {a:Option Addr} {c:Nat} {ys:List α} {r s:Res} (ht:slc P t=some (e,sz,by_)) (h:ys=[]∨∃ ad,a=some ad∧Row R sz r s ad ys) (hin:In r w) :
  ∃ news,Src P w t sz (.slice a ys.length c) ys.length news∧Chunks R sz s news ys:=by
 rcases h with rfl | ⟨ad,rfl,cs,hh,hc⟩
 ·
  exact⟨[],.slice ht (by simp) (.inl rfl) hin,rfl⟩
 ·
  exact⟨cs,.slice ht hc.length (.inr ⟨ad,rfl,hh⟩) hin,hc⟩
theorem Good.dropNext {w:World} {s A B:Res} {os:List Res} (h:Good w s (A::B::os)):Good w s (A::os) :=
 (h.perm (List.Perm.swap _ _ _)).drop
theorem Good.swap {w:World} {s A B:Res} {os:List Res} (h:Good w s (A::B::os)):Good w s (B::A::os):=h.perm (List.Perm.swap _ _ _)
theorem Good.shareNext {w:World} {s A B:Res} {os:List Res} (h:Good w s (A::B::os)):∃ s1,Good w s1 (A::os)∧Le s s1∧Le B s1:=by
 have h2:Good w s (B::A::os):=h.perm (List.Perm.swap _ _ _)
 exact h2.letgo
theorem int_chunks {k:IntKind} {s:Res}:∀ {cs:List Value} {xs:List Int},Chunks (RInt k) 1 s cs xs→cs=xs.map (Value.int k)∧∀ x∈xs,Lw.rng k x
 | _,[],h=>⟨h,by simp⟩
 | _,x::xs,⟨vs,rest,e,_,⟨hv,hr⟩,h⟩=>by
  obtain⟨h1,h2⟩:=int_chunks h
  subst e;subst hv
  exact⟨by simp[h1],by simpa using ⟨hr,h2⟩⟩
theorem chunks_int {k:IntKind} {s:Res}:∀ {xs:List Int},(∀ x∈xs,Lw.rng k x)→Chunks (RInt k) 1 s (xs.map (Value.int k)) xs
 | [],_=>rfl
 | x::xs,h=>⟨[.int k x],xs.map (Value.int k),rfl,rfl,⟨rfl,h x (by simp)⟩,chunks_int fun y hy=>h y (by simp[hy])⟩
abbrev ptr (b:Nat):Value:= .pointer (some ⟨b,0,none⟩)
abbrev i64 (k:Int):Value:= .int .i64 k
theorem Imm.front {α:Type} {R:Res→List Value→α→Prop} {sz c:Nat} {s:Res} {a:Option Addr} {xs ys:List α} (h:Imm R sz s a c (xs++ys)):Imm R sz s a c xs:=by
 refine⟨by have:=h.1;simp only[List.length_append] at this;omega,h.2.1,?_⟩
 rcases h.2.2 with e | ⟨ad,rfl,hr⟩
 ·
  exact .inl (List.append_eq_nil_iff.1 e).1
 ·
  exact .inr ⟨ad,rfl,hr.take⟩
theorem Own.fresh {α:Type} {R:Res→List Value→α→Prop} {sz:Nat} {el:TypeId} {s:Res} {b:Nat}:Own R sz el s (Res.one b (.cells #[] el)) (some ⟨b,0,none⟩) 0 []:= .inr ⟨b,#[],rfl,if_pos rfl,Nat.le_refl _,Nat.zero_le _,by simp,by simp[Chunks]⟩
theorem Good.lend {w:World} {s A:Res} {os:List Res} (h:Good w s (A::os)):Good w (s.join A) os∧Le s (s.join A)∧Le A (s.join A)∧∀ w',Good w' (s.join A) os→Good w' s (A::os):=by
 have hle:=Res.le_join_right h.2.1.symm
 refine⟨h.share,Res.le_join_left _ _,hle,fun w' hg=>?_⟩
 refine (congrArg (fun z=>Good w' z (A::os)) (funext fun b=>?_)).mp (hg.unshare hle)
 cases hA:A b with
 | some x=>exact (h.2.1 b (by rw[hA];simp)).symm
 | none =>
  simp only[Res.join,hA]
  cases s b<;>rfl
end Go.Lw
namespace Go.Lw
open Go.RowKit
section
variable {P:Program} {n:Nat} {ops:Array Oper} {Q:Exit→Act→World→Prop} {S:World→Prop} {rest:List (Bool × Oper)} {E:Env} {w:World} {o:Oper} {d:Nat} {v:Value}
variable {s A:Res} {os:List Res} {x y:Operand} {T:Bool}
theorem RL.drop {w':World} (hg:wants ops E o=some true) (hd:o.dst=none) (hr:∀ a,At n E a→(execOp a.eval o).run P w = .ok (.value v) w') (hS:S w') (h:RL P n ops Q S rest E w') :
  RL P n ops Q S ((false,o)::rest) E w:=fun _ a ha=>by
 simp only[RA,ha.wants hg,if_true]
 unfold Oper.wp
 rw[hr a ha]
 simp only[Oper.upon,hd,Act.put]
 exact⟨hS,h hS _ ha⟩
theorem RL.cap {t:TypeId} {e:TypeId} {sz by_ m c:Nat} {a:Option Addr} (hg:wants ops E o=some true) (hd:o.dst=some d) (hb:Nat.blt d n=true)
  (ho:o.op = .call { callee:= .builtin .cap,args:= #[x],argTypes:= #[t] }) (ht:slc P t=some (e,sz,by_)) (hx:ev E x=some (.slice a m c)) (h:RL P n ops Q S rest ((d,.int .i64 c)::E) w):RL P n ops Q S ((T,o)::rest) E w:=by
 refine RL.val hg hd hb (fun w ac ha=>?_) h
 unfold execOp
 simp only[ho]
 simp[resolve,invoke,builtin,Builtin.cap_,ha.ev hx,run_underlying (slc_spec ht).1,goInt]
theorem RL.cut {t e:TypeId} {sz by_ m c:Nat} {a:Option Addr} {lo hi:Option Operand} (l h:Nat) (hg:wants ops E o=some true) (hd:o.dst=some d) (hb:Nat.blt d n=true)
  (ho:o.op = .slice t x lo hi none) (ht:slc P t=some (e,sz,by_)) (hx:ev E x=some (.slice a m c))
  (hlo:(lo=none∧l=0)∨∃ k z,lo=some z∧ev E z=some (.int k (l:Nat))) (hhi:(hi=none∧h=m)∨∃ k z,hi=some z∧ev E z=some (.int k (h:Nat)))
  (h1:l≤h) (h2:h≤c) (hK:RL P n ops Q S rest ((d,.slice (if c=l then a else a.map (·.add (l*sz))) (h-l) (c-l))::E) w):RL P n ops Q S ((T,o)::rest) E w:=by
 refine RL.val hg hd hb (fun w ac ha=>?_) hK
 obtain⟨hu,inf,hi',rfl,_⟩:=slc_spec ht
 have hsz:∀ w:World,(sizeOf e).run P w = .ok inf.size w:=fun w=>by simp[sizeOf,typeInfo,hi']
 have hl':∀ k (y:Nat) code,l≤y→(Instr.sliceBound (.int k (l:Nat)) y code).run P w = .ok l w:=fun k y code hy=>by
  have:=run_sliceBound (P:=P) w k (l:Nat) y code (by omega) (by omega);simpa using this
 have hh':∀ k (y:Nat) code,h≤y→(Instr.sliceBound (.int k (h:Nat)) y code).run P w = .ok h w:=fun k y code hy=>by
  have:=run_sliceBound (P:=P) w k (h:Nat) y code (by omega) (by omega);simpa using this
 unfold execOp
 simp only[ho,ha.ev hx]
 rcases hlo with ⟨rfl,rfl⟩ | ⟨kl,zl,rfl,hzl⟩<;>rcases hhi with ⟨rfl,rfl⟩ | ⟨kh,zh,rfl,hzh⟩
 ·
  simp[Instr.sliceAt,Instr.slice,Instr.sliceBounds,run_underlying hu,hsz]
 ·
  simp[Instr.sliceAt,Instr.slice,Instr.sliceBounds,run_underlying hu,hsz,ha.ev hzh,hh' kh c .sliceAcap (by omega)]
 ·
  simp[Instr.sliceAt,Instr.slice,Instr.sliceBounds,run_underlying hu,hsz,ha.ev hzl,hl' kl h .sliceB (by omega)]
 ·
  simp[Instr.sliceAt,Instr.slice,Instr.sliceBounds,run_underlying hu,hsz,ha.ev hzl,ha.ev hzh,hh' kh c .sliceAcap (by omega),hl' kl h .sliceB (by omega)]
abbrev spl (cs:Array Value) (off:Nat) (news:List Value):Array Value:=(cs.toList.take off++news++cs.toList.drop (off+news.length)).toArray
theorem spl_size {cs:Array Value} {off:Nat} {news:List Value} (h:off+news.length≤cs.size):(spl cs off news).size=cs.size:=by
 simp only[spl,List.size_toArray,List.length_append,List.length_take,List.length_drop,Array.length_toList];omega
theorem spl_two {N:Array Value} {i:Nat} {a:Value} {r:List Value} (h:i+1+r.length≤N.size):(spl (spl N i [a]) (i+1) r).toList.take (i+1+r.length)=N.toList.take i++a::r:=by
 have hl:N.toList.length=N.size:=Array.length_toList
 have e1:(N.toList.take i++[a]++N.toList.drop (i+1)).take (i+1)=N.toList.take i++[a]:=List.take_left' (by simp only[List.length_append,List.length_take,List.length_cons,List.length_nil];omega)
 simp only[spl,List.length_cons,List.length_nil,Nat.zero_add,e1]
 rw[List.take_left' (by simp only[List.length_append,List.length_take,List.length_cons,List.length_nil];omega)]
 simp
theorem spl_owt {N:Array Value} {i:Nat} {a:Value} {r:List Value} (h:i+1+r.length≤N.size):(spl (spl N (i+1) r) i [a]).toList.take (i+1+r.length)=N.toList.take i++a::r:=by
 have hl:N.toList.length=N.size:=Array.length_toList
 have e0:N.toList.take (i+1)++r++N.toList.drop (i+1+r.length)=N.toList.take (i+1)++(r++N.toList.drop (i+1+r.length)):=List.append_assoc _ _ _
 have e1:(N.toList.take (i+1)++r++N.toList.drop (i+1+r.length)).take i=N.toList.take i:=by
  rw[e0,List.take_append_of_le_length (by rw[List.length_take];omega),List.take_take,Nat.min_eq_left (by omega)]
 have e2:(N.toList.take (i+1)++r++N.toList.drop (i+1+r.length)).drop (i+1)=r++N.toList.drop (i+1+r.length):=by
  rw[e0];exact List.drop_left' (by rw[List.length_take];omega)
 simp only[spl,List.length_cons,List.length_nil,Nat.zero_add,e1,e2]
 rw[←List.append_assoc,List.take_left' (by simp only[List.length_append,List.length_take,List.length_cons,List.length_nil];omega)]
 simp
theorem run_first {r:Res} {ad:Addr} {news:List Value} {sz k m c:Nat} (hH:Holds r ad news) (hin:In r w) (hl:news.length=k*sz):(Builtin.firstCells sz k (.slice (some ad) m c)).run P w = .ok news.toArray w :=
 run_firstCells_some w sz k ad m c news hl (fun _ _ hj=>hH.cell hin hj)
theorem RL.copy {t t2 e:TypeId} {sz by_ k m c g off i:Nat} (q:Nat) {src:Value} {news:List Value} {cs:Array Value} {el:TypeId} (hg:wants ops E o=some true) (hd:o.dst=some d) (hb:Nat.blt d n=true)
  (ho:o.op = .call { callee:= .builtin .copy,args:= #[x,y],argTypes:= #[t,t2] }) (ht:slc P t=some (e,sz,by_))
  (hx:ev E x=some (.slice (some ⟨g,off,none⟩) k c)) (hy:ev E y=some src) (hlen:∀ w',(Builtin.lenOf src).run P w' = .ok m w')
  (hq:Nat.min m k=q) (hnew:(Builtin.firstCells sz q src).run P w = .ok news.toArray w)
  (hG:Good w s os) (hi:os[i]?=some A) (hA:A g=some (.cells cs el (0,0))) (hfit:off+news.length≤cs.size) (hone:∀ v∈news,v.oneCell'=true)
  (h:∀ w',Good w' s (os.set i (A.put g (.cells (spl cs off news) el (0,0))))→Aux w w'→S w'∧RL P n ops Q S rest ((d,.int .i64 q)::E) w'):RL P n ops Q S ((false,o)::rest) E w:=by
 subst hq
 have hf:=hG.front i hi
 have hwb:=hf.1 g _ hA
 have hst:=run_storeCells_at P g off el news 0 cs w hwb (by simpa using hfit) hone
 simp only[Nat.add_zero] at hst
 have hw:=hf.write (w':=w.setRow g (spl cs off news)) hA (setRow_heap w g cs _ el (0,0) hwb) (fun k' _ hk'=>setRow_other w g k' _ hk')
 obtain⟨h2,h3⟩:=h _ (Good.back i hi hw) ⟨rfl,rfl,rfl,by simp⟩
 refine RL.step hg hd hb (fun ac ha=>?_) h2 h3
 obtain⟨hu,inf,hi',rfl,_⟩:=slc_spec ht
 have hsz:∀ w:World,(sizeOf e).run P w = .ok inf.size w:=fun w=>by simp[sizeOf,typeInfo,hi']
 unfold execOp
 simp only[ho]
 simp only[resolve,invoke,builtin,Builtin.copy_,Sem.run_bind,Sem.run_pure,Result.andThen_ok,List.map_toArray,List.map_cons,List.map_nil,ha.ev hx,ha.ev hy,List.getElem?_toArray,List.getElem?_cons_zero,List.getElem?_cons_succ,run_underlying hu,hlen,hsz,hnew,hst,goInt]
theorem RL.clear {t e:TypeId} {sz by_ k c g off i:Nat} {z:List Value} {cs:Array Value} {el:TypeId} (hg:wants ops E o=some true) (hd:o.dst=none)
  (ho:o.op = .call { callee:= .builtin .clear,args:= #[x],argTypes:= #[t] }) (ht:slc P t=some (e,sz,by_)) (hz:zer P e=some z)
  (hx:ev E x=some (.slice (some ⟨g,off,none⟩) k c))
  (hG:Good w s os) (hi:os[i]?=some A) (hA:A g=some (.cells cs el (0,0))) (hfit:off+k*z.length≤cs.size) (hone:∀ v∈z,v.oneCell'=true)
  (h:∀ w',Good w' s (os.set i (A.put g (.cells (spl cs off (Builtin.zeroCells z.toArray k).toList) el (0,0))))→Aux w w'→S w'∧RL P n ops Q S rest E w'):RL P n ops Q S ((false,o)::rest) E w:=by
 have hf:=hG.front i hi
 have hwb:=hf.1 g _ hA
 obtain⟨hu,inf,hi',rfl,_⟩:=slc_spec ht
 have hzl:(Builtin.zeroCells z.toArray k).toList.length=k*z.length:=by simp[size_zeroCells]
 have hzo:∀ v∈(Builtin.zeroCells z.toArray k).toList,v.oneCell'=true:=fun v hv=>by
  simp only[Builtin.zeroCells,Array.toList_map,List.mem_map] at hv
  obtain⟨j,hj,rfl⟩:=hv
  have hj':j<k*z.length:=by simpa using hj
  have hz0:0<z.length:=by
   rcases Nat.eq_zero_or_pos z.length with h | h
   ·
    rw[h,Nat.mul_zero] at hj';omega
   ·
    exact h
  have hlt:j % z.toArray.size<z.toArray.size:=by simpa using Nat.mod_lt _ hz0
  rw[getElem!_pos z.toArray _ hlt]
  exact hone _ (by simp)
 by_cases hk:k=0
 ·
  subst hk
  have e0:Builtin.zeroCells z.toArray 0 = #[]:=by
   apply Array.eq_empty_of_size_eq_zero
   rw[size_zeroCells];simp
  have hsame:A.put g (.cells (spl cs off (Builtin.zeroCells z.toArray 0).toList) el (0,0))=A:=by
   funext b
   by_cases hb:b=g
   ·
    subst hb
    rw[put_same,hA,e0]
    simp[spl]
   ·
    simp[Res.put,hb]
  have hset:os.set i A=os:=by
   have hlt:=(List.getElem?_eq_some_iff.1 hi)
   obtain⟨hlt,he⟩:=hlt
   rw[←he];exact List.set_getElem_self hlt
  obtain⟨h2,h3⟩:=h w (by rw[hsame,hset];exact hG) (Aux.refl _)
  refine RL.drop (v:= .tuple #[]) hg hd (fun ac ha=>?_) h2 h3
  unfold execOp
  simp only[ho]
  simp[resolve,invoke,builtin,Builtin.clear_,ha.ev hx,run_underlying hu]
 ·
  obtain⟨k',rfl⟩:∃ k',k=k'+1:=⟨k-1,by omega⟩
  have hst:=run_storeCells_at P g off el (Builtin.zeroCells z.toArray (k'+1)).toList 0 cs w hwb (by simp only[Nat.add_zero];rw[hzl];exact hfit) hzo
  simp only[Nat.add_zero] at hst
  have hw:=hf.write (w':=w.setRow g (spl cs off (Builtin.zeroCells z.toArray (k'+1)).toList)) hA (setRow_heap w g cs _ el (0,0) hwb) (fun k' _ hk'=>setRow_other w g k' _ hk')
  obtain⟨h2,h3⟩:=h _ (Good.back i hi hw) ⟨rfl,rfl,rfl,by simp⟩
  refine RL.drop (v:= .tuple #[]) hg hd (fun ac ha=>?_) h2 h3
  unfold zer at hz
  cases hzi:inf.zero with
  | none=>simp[hi',hzi] at hz
  | some zv =>
   simp only[hi',Option.bind_some,hzi,Option.map_some,Option.some.injEq] at hz
   have hze:zv.cells=z.toArray:=by rw[←hz]
   have hzv:(zeroValue e).run P w = .ok zv w:=by simp[zeroValue,typeInfo,hi',hzi]
   unfold execOp
   simp only[ho]
   simp only[resolve,invoke,builtin,Builtin.clear_,Sem.run_bind,Sem.run_pure,Result.andThen_ok,List.map_toArray,List.map_cons,List.map_nil,ha.ev hx,List.getElem?_toArray,List.getElem?_cons_zero,run_underlying hu,hzv,hze,hst]
theorem RL.appendZ {t t2 e:TypeId} {sz by_ k m c:Nat} {kk:IntKind} {a:Option Addr} {olds z:List Value} (hg:wants ops E o=some true) (hd:o.dst=some d) (hb:Nat.blt d n=true)
  (ho:o.op = .call { callee:= .builtin .append,args:= #[x,y],argTypes:= #[t,t2] }) (ht:slc P t=some (e,sz,by_)) (hz:zer P e=some z) (ht2:P.underlying t2=some (.int kk)) (hsz0:0<sz)
  (hx:ev E x=some (.slice a k c)) (hy:ev E y=some (.int kk (m:Nat))) (hold:∀ w':World,w'.heap=w.heap→(Builtin.firstCells sz k (.slice a k c)).run P w' = .ok olds.toArray w')
  (hroom:c<k+m) (hm:0<m) (hbytes:(k+m)*by_≤140737488355328) (hby:0<by_) (hG:Good w s os)
  (h:∀ g w' c',k+m≤c'→c'≤maxLen→Good w' s (Res.one g (.cells (olds.toArray++Builtin.zeroCells z.toArray m++Builtin.zeroCells z.toArray (c'-(k+m))) e)::os)→Aux w w'→S w'∧RL P n ops Q S rest ((d,.slice (some ⟨g,0,none⟩) (k+m) c')::E) w') :
  RL P n ops Q S ((false,o)::rest) E w:=by
 obtain⟨hu,i,hi,rfl,rfl⟩:=slc_spec ht
 have hk1:k+m≤(k+m)*i.bytes:=Nat.le_mul_of_pos_right _ hby
 have h63:k+m≤9223372036854775807:=by omega
 have hmax:k+m≤maxLen:=by simp only[maxLen];omega
 have hn:¬ (k+m≤c):=by omega
 have h63':¬ (9223372036854775807<((k:Int)+(m:Int))):=by omega
 have hfit:=growslice_fits (bytes:=i.bytes) hroom hbytes
 have h48':¬ (281474976710656<Builtin.nextslicecap (k+m) c*i.bytes):=by omega
 have hw:IntKind.i64.wrap (m:Int)=m:=by rw[IntKind.wrap_i64];omega
 have hm0:¬ ((m:Int)<0):=by omega
 have hmb:m*i.bytes≤(k+m)*i.bytes:=Nat.mul_le_mul_right _ (by omega)
 have hmb1:¬ (281474976710656<(m:Int)*(i.bytes:Int)):=by
  have:((m:Int)*(i.bytes:Int))=((m*i.bytes:Nat):Int):=by simp
  rw[this];omega
 have hmz:¬ (m*i.size=0):=by
  have:0<m*i.size:=Nat.mul_pos hm hsz0
  omega
 have ho':=hold w.drew rfl
 unfold zer at hz
 simp only[hi,Option.bind_some] at hz
 cases hzi:i.zero with
 | none=>simp[hzi] at hz
 | some zv =>
  simp only[hzi,Option.map_some,Option.some.injEq] at hz
  have hze:zv.cells=z.toArray:=by rw[←hz]
  obtain⟨h2,h3⟩:=h w.heap.size (w.drew.alloc (.cells (olds.toArray++Builtin.zeroCells z.toArray m++Builtin.zeroCells z.toArray (grownCap w (k+m) c e-(k+m))) e)) (grownCap w (k+m) c e) (grownCap_ge w (k+m) c e) (grownCap_le_maxLen w _ c e hmax) (hG.drew.alloc _) ((Aux.drew w).trans (Aux.alloc _ _))
  refine RL.step hg hd hb (fun ac ha=>?_) h2 h3
  have hrun:(Builtin.append_ #[t,t2] o.type #[.slice a k c,.int kk (m:Nat)]).run P w = .ok (.slice (some ⟨w.heap.size,0,none⟩) (k+m) (grownCap w (k+m) c e)) (w.drew.alloc (.cells (olds.toArray++Builtin.zeroCells z.toArray m++Builtin.zeroCells z.toArray (grownCap w (k+m) c e-(k+m))) e)):=by
   simp[Builtin.append_,run_underlying hu,run_underlying ht2,sizeOf,typeInfo,zeroValue,hi,hzi,asInt,asIntOf,hw,hm0,hmb1,hmz,hn,h63',h48',Question.forced,ho',newRow,grownCap,hze]
  unfold execOp
  simp only[ho]
  simp only[resolve,invoke,builtin,Sem.run_bind,Sem.run_pure,Result.andThen_ok,List.map_toArray,List.map_cons,List.map_nil,ha.ev hx,ha.ev hy,hrun]
theorem add0 (a:Option Addr) (sz:Nat):a.map (·.add (0*sz))=a:=by
 cases a with
 | none=>rfl
 | some ad=>simp[Addr.add]
theorem addLit (g l:Nat):(⟨g,0,none⟩:Addr).add l=⟨g,l,none⟩:=by unfold Addr.add;split<;>simp_all
theorem RL.cutHi {t e:TypeId} {sz by_ m c:Nat} {k:IntKind} {a:Option Addr} {i:Int} (h:Nat) (hg:wants ops E o=some true) (hd:o.dst=some d) (hb:Nat.blt d n=true)
  (ho:o.op = .slice t x none (some y) none) (ht:slc P t=some (e,sz,by_)) (hx:ev E x=some (.slice a m c)) (hy:ev E y=some (.int k i)) (hi:i=(h:Nat)) (h2:h≤c)
  (hK:RL P n ops Q S rest ((d,.slice a h c)::E) w):RL P n ops Q S ((T,o)::rest) E w:=by
 subst hi
 refine RL.cut 0 h hg hd hb ho ht hx (.inl ⟨rfl,rfl⟩) (.inr ⟨_,_,rfl,hy⟩) (Nat.zero_le _) h2 ?_
 rw[add0,if_same]
 exact hK
where if_same {a:Option Addr} {p:Prop} [Decidable p]:(if p then a else a)=a:=by split<;>rfl
theorem RL.cutLo {t e:TypeId} {sz by_ m c g off:Nat} {k:IntKind} {i:Int} (l:Nat) (hg:wants ops E o=some true) (hd:o.dst=some d) (hb:Nat.blt d n=true)
  (ho:o.op = .slice t x (some y) none none) (ht:slc P t=some (e,sz,by_)) (hx:ev E x=some (.slice (some ⟨g,off,none⟩) m c)) (hy:ev E y=some (.int k i)) (hi:i=(l:Nat)) (h1:l≤m) (h2:l<c) (h3:m≤c)
  (hK:RL P n ops Q S rest ((d,.slice (some ⟨g,off+l*sz,none⟩) (m-l) (c-l))::E) w):RL P n ops Q S ((T,o)::rest) E w:=by
 subst hi
 refine RL.cut l m hg hd hb ho ht hx (.inr ⟨_,_,rfl,hy⟩) (.inl ⟨rfl,rfl⟩) h1 h3 ?_
 rw[if_neg (by omega)]
 have e:(some (⟨g,off,none⟩:Addr)).map (·.add (l*sz))=some ⟨g,off+l*sz,none⟩:=by
  simp only[Option.map_some,Addr.add]
  split
  ·
   rename_i h0;rw[h0];rfl
  ·
   rfl
 rw[e]
 exact hK
end
section
variable {α:Type} {R:Res→List Value→α→Prop} {sz c g:Nat} {el:TypeId} {s A:Res} {xs ys:List α} {cs ds:Array Value}
theorem Own.front {a:Option Addr} (h:Own R sz el s A a c (xs++ys)):Own R sz el s A a c xs:=by
 rcases h with ⟨h1,h2,h3⟩ | ⟨g,cs,h1,h2,h3,h4,h5,h6⟩
 ·
  exact .inl ⟨h1,h2,(List.append_eq_nil_iff.1 h3).1⟩
 ·
  refine .inr ⟨g,cs,h1,h2,by simp only[List.length_append] at h3;omega,h4,h5,?_⟩
  have:=(Chunks.part h6).1
  rw[List.take_take,List.length_append,Nat.min_eq_left (Nat.mul_le_mul_right _ (by omega))] at this
  exact this
theorem Own.tail (h:Own R sz el s A (some ⟨g,0,none⟩) c xs) (hA:A g=some (.cells cs el (0,0))) (hs:ds.size=cs.size) (ht:ds.toList.take (xs.length*sz)=cs.toList.take (xs.length*sz)) :
  Own R sz el s (A.put g (.cells ds el (0,0))) (some ⟨g,0,none⟩) c xs:=by
 rcases h with ⟨h1,_⟩ | ⟨g',cs',h1,h2,h3,h4,h5,h6⟩
 ·
  cases h1
 ·
  cases h1
  rw[hA] at h2
  cases h2
  exact .inr ⟨g,ds,rfl,put_same _ _ _,h3,h4,by rw[hs,h5],by rw[ht];exact h6⟩
end
end Go.Lw
namespace Go.Lw
section
variable {P:Program} {ops:Array Oper} {Q:Exit→Act→World→Prop} {S:World→Prop} {K:Array Bool→Act→World→Prop}
def lows (m:Nat) (listed:Array Bool):Bool:=(List.range m).all fun k=>listed.getD k false
def highs (m:Nat) (listed:Array Bool):Bool:=(List.range listed.size).all fun k=>Nat.blt k m || !listed.getD k true
def maskL (ops:Array Oper) (m i:Nat):Nat→List Bool
 | 0=>[]
 | j+1=>maskL ops m i j++[Nat.blt j m && !Nat.beq j i && (match ops[j]? with | some o=>o.after.all fun e=> !(Region.binds .any e) || !(Nat.blt e.on j) || (maskL ops m i j).getD e.on true | none=>true)]
def mask (ops:Array Oper) (m i:Nat):Array Bool:=(maskL ops m i ops.size).toArray
def Closed (ops:Array Oper) (listed:Array Bool):Prop:=∀ j o,ops[j]?=some o→listed.getD j false=true→∀ e∈o.after,Region.binds .any e=true→listed.getD e.on false=true
def closedB (ops:Array Oper) (listed:Array Bool):Bool:=(List.range ops.size).all fun j=> !listed.getD j false || (match ops[j]? with | some o=>o.after.all fun e=> !(Region.binds .any e) || listed.getD e.on false | none=>true)
theorem closed_of {listed:Array Bool} (h:closedB ops listed=true):Closed ops listed:=fun j o ho hl e he hb=>by
 have hj:j<ops.size:=(Array.getElem?_eq_some_iff.1 ho).1
 have h1:=List.all_eq_true.1 h j (List.mem_range.2 hj)
 simp only[hl,Bool.not_true,Bool.false_or,ho] at h1
 have h2:=Array.all_eq_true'.1 h1 e he
 simpa [hb] using h2
theorem closed_set {listed:Array Bool} {i:Nat} (h:Closed ops listed) (hi:i∈Region.ready .any ops listed):Closed ops (listed.setIfInBounds i true):=fun j o ho hl e he hb=>by
 have up:∀ k,listed.getD k false=true→(listed.setIfInBounds i true).getD k false=true:=fun k hk=>by
  by_cases hki:i=k
  ·
   subst hki
   rcases Nat.lt_or_ge i listed.size with h' | h'
   ·
    simp[h']
   ·
    simp[Array.getElem?_eq_none h'] at hk
  ·
   rw[getD_set_ne false hki];exact hk
 by_cases hji:i=j
 ·
  subst hji
  obtain⟨_,o',ho',hall⟩:=mem_ready.1 hi
  rw[ho] at ho';cases ho'
  exact up _ (hall e he hb)
 ·
  rw[getD_set_ne false hji] at hl
  exact up _ (h j o ho hl e he hb)
theorem maskL_length (m i:Nat):∀ k,(maskL ops m i k).length=k
 | 0=>rfl
 | k+1=>by simp[maskL,maskL_length m i k]
def wpAnyP (P:Program) (ops:Array Oper) (Q:Exit→Act→World→Prop) (S:World→Prop) (m:Nat) (K:Array Bool→Act→World→Prop):Nat→Array Bool→Act→World→Prop
 | 0,listed,a,w=>lows m listed=true∧K listed a w
 | fuel+1,listed,a,w =>
  (lows m listed=true→K listed a w) ∧
  (lows m listed=false→Region.ready .any ops listed≠[]∧∀ i∈Region.ready .any ops listed,i<m∧wpOp P ops Q i (fun a' w'=>S w'∧wpAnyP P ops Q S m K fuel (listed.setIfInBounds i true) a' w') a w)
theorem lows_get {m k:Nat} {listed:Array Bool} (h:lows m listed=true) (hk:k<m):listed.getD k false=true:=by
 have:=List.all_eq_true.1 h k (List.mem_range.2 hk)
 simpa using this
theorem lows_no {m k:Nat} {listed:Array Bool} (h:listed.getD k true=false) (hk:k<m):lows m listed=false:=by
 cases hl:lows m listed with
 | false=>rfl
 | true =>
  have h1:=lows_get hl hk
  rcases Nat.lt_or_ge k listed.size with h' | h'
  ·
   simp[h'] at h h1;rw[h] at h1;cases h1
  ·
   simp[Array.getElem?_eq_none h'] at h
theorem highs_get {m k:Nat} {listed:Array Bool} (h:highs m listed=true) (hk:m≤k) (hs:k<listed.size):listed.getD k true=false:=by
 have:=List.all_eq_true.1 h k (List.mem_range.2 hs)
 simp only[Nat.blt,Bool.or_eq_true,Nat.ble_eq,Bool.not_eq_true'] at this
 rcases this with h1 | h1
 ·
  omega
 ·
  exact h1
theorem highs_set {m i:Nat} {listed:Array Bool} (h:highs m listed=true) (hi:i<m):highs m (listed.setIfInBounds i true)=true:=by
 refine List.all_eq_true.2 fun k hk=>?_
 rw[Array.size_setIfInBounds] at hk
 have hk:=List.mem_range.1 hk
 by_cases hkm:k<m
 ·
  simp only[Nat.blt,Bool.or_eq_true,Nat.ble_eq];exact .inl hkm
 ·
  have:i≠k:=by omega
  rw[getD_set_ne true this,highs_get h (by omega) hk]
  simp
theorem maskL_get {m i:Nat} {listed:Array Bool} (hcl:Closed ops listed) (hsz:listed.size=ops.size) (hh:highs m listed=true) (hi:listed.getD i true=false):∀ k,k≤ops.size→∀ j,j<k→listed.getD j false=true→(maskL ops m i k).getD j false=true
 | 0,_,j,hj,_=>absurd hj (Nat.not_lt_zero j)
 | k+1,hk,j,hj,hl=>by
  have ih:=maskL_get hcl hsz hh hi k (by omega)
  rcases Nat.lt_or_ge j k with h | h
  ·
   have:=ih j h hl
   simp only[maskL,List.getD_eq_getElem?_getD] at this ⊢
   rw[List.getElem?_append_left (by rw[maskL_length];exact h)]
   exact this
  ·
   have e:j=k:=by omega
   subst e
   simp only[maskL,List.getD_eq_getElem?_getD]
   rw[List.getElem?_append_right (by rw[maskL_length];exact Nat.le_refl _),maskL_length,Nat.sub_self]
   have hjs:j<listed.size:=by omega
   have h1:Nat.blt j m=true:=by
    by_cases hjm:j<m
    ·
     simp[Nat.blt];omega
    ·
     have:=highs_get hh (Nat.le_of_not_lt hjm) hjs
     simp[hjs] at this hl;rw[hl] at this;cases this
   have h2:Nat.beq j i=false:=Bool.eq_false_iff.2 fun hb=>by
    have:=Nat.eq_of_beq_eq_true hb
    subst this
    simp[hjs] at hi hl;rw[hl] at hi;cases hi
   have h3:ops[j]?=some (ops[j]'(by omega)):=Array.getElem?_eq_getElem _
   simp only[List.getElem?_cons_zero,Option.getD_some,h1,h2,h3,Bool.not_false,Bool.true_and]
   refine Array.all_eq_true'.2 fun e he=>?_
   cases hb:Region.binds .any e with
   | false=>simp
   | true =>
    by_cases hej:e.on<j
    ·
     have h4:=ih e.on hej (hcl j _ h3 hl e he hb)
     have h5:(maskL ops m i j).getD e.on true=true:=by
      rw[List.getD_eq_getElem?_getD] at h4 ⊢
      rw[List.getElem?_eq_getElem (by rw[maskL_length];exact hej)] at h4 ⊢
      simpa using h4
     rw[List.getD_eq_getElem?_getD] at h5;rw[h5];simp
    ·
     have hbl:Nat.blt e.on j=false:=Bool.eq_false_iff.2 fun hx=>hej (by simpa [Nat.blt,Nat.lt_iff_add_one_le] using hx)
     rw[hbl];simp
theorem no_high {m i j:Nat} {listed:Array Bool} (hsz:listed.size=ops.size) (hcl:Closed ops listed) (hh:highs m listed=true) (hi:listed.getD i true=false) (hm:Region.ready .any ops (mask ops m i)=[i]) (hj:j∈Region.ready .any ops listed):j<m∨j=i:=by
 by_cases hjm:j<m
 ·
  exact .inl hjm
 ·
  right
  obtain⟨h0,o,ho,hall⟩:=mem_ready.1 hj
  have hlt:j<ops.size:=(Array.getElem?_eq_some_iff.1 ho).1
  have:j∈Region.ready .any ops (mask ops m i):=by
   refine mem_ready.2 ⟨?_,o,ho,fun e he hb=>?_⟩
   ·
    have hg:∀ k,j<k→(maskL ops m i k).getD j true=false:=by
     intro k
     induction k with
     | zero=>intro h;omega
     | succ k ih =>
      intro h
      simp only[maskL,List.getD_eq_getElem?_getD] at ih ⊢
      rcases Nat.lt_or_ge j k with h' | h'
      ·
       rw[List.getElem?_append_left (by rw[maskL_length];exact h')];exact ih h'
      ·
       have e:j=k:=by omega
       subst e
       rw[List.getElem?_append_right (by rw[maskL_length];exact Nat.le_refl _),maskL_length,Nat.sub_self]
       have hbl:Nat.blt j m=false:=Bool.eq_false_iff.2 fun hx=>hjm (by simpa [Nat.blt,Nat.lt_iff_add_one_le] using hx)
       simp[hbl]
    have:=hg ops.size hlt
    simpa [mask,List.getD_eq_getElem?_getD] using this
   ·
    have h1:=hall e he hb
    have h2:e.on<ops.size:=by
     rcases Nat.lt_or_ge e.on listed.size with h' | h'
     ·
      omega
     ·
      simp[Array.getElem?_eq_none h'] at h1
    have:=maskL_get hcl hsz hh hi ops.size (Nat.le_refl _) e.on h2 h1
    simpa [mask,List.getD_eq_getElem?_getD] using this
  rw[hm] at this
  simpa using this
theorem wpAnyP_first {m i:Nat} {oi:Oper} {v:Value} (him:i<m) (hi:ops[i]?=some oi) (hsel:∀ (j:Nat) (o:Oper) cs b,ops[j]?=some o→o.op ≠ .select cs b)
  (hQ:∀ c a w,Q (.panic c) (a.put oi.dst v) w→Q (.panic c) a w) (hm:Region.ready .any ops (mask ops m i)=[i]) :
  ∀ (fuel:Nat) (listed:Array Bool) (a:Act) (w:World),listed.size=ops.size→Closed ops listed→highs m listed=true →
   (∀ j oj,ops[j]?=some oj→j≠i→listed.getD j true=false→(∀ e∈oj.after,Region.binds .any e=true→e.on≠i)→oi.apart ops oj=true) →
   i∈Region.ready .any ops listed→YieldsIf P ops S oi v a→S w →
   wpAnyP P ops Q S m K fuel (listed.setIfInBounds i true) (a.put oi.dst v) w→wpAnyP P ops Q S m K (fuel+1) listed a w:=by
 intro fuel
 induction fuel with
 | zero =>
  intro listed a w hsz hcl hh hfree hr hy hS H
  have hun:=(mem_ready.1 hr).1
  refine⟨fun h=>(by rw[lows_no hun him] at h;cases h),fun _=>⟨fun h=>(by rw[h] at hr;cases hr),fun j hj=>?_⟩⟩
  by_cases hji:j=i
  ·
   subst hji;exact⟨him,hy.wpOp hi hS ⟨hS,H⟩⟩
  ·
   have hjm:j<m:=(no_high hsz hcl hh hun hm hj).resolve_right hji
   have h1:=lows_get H.1 hjm
   have h2:=(mem_ready.1 hj).1
   have h3:(listed.setIfInBounds i true).getD j true=false:=by rw[getD_set_ne true (Ne.symm hji)];exact h2
   have:=lows_no h3 hjm
   rw[H.1] at this;cases this
 | succ fuel ih =>
  intro listed a w hsz hcl hh hfree hr hy hS H
  have hun:=(mem_ready.1 hr).1
  refine⟨fun h=>(by rw[lows_no hun him] at h;cases h),fun _=>⟨fun h=>(by rw[h] at hr;cases hr),fun j hj=>?_⟩⟩
  by_cases hji:j=i
  ·
   subst hji;exact⟨him,hy.wpOp hi hS ⟨hS,H⟩⟩
  ·
   have hjm:j<m:=(no_high hsz hcl hh hun hm hj).resolve_right hji
   refine⟨hjm,?_⟩
   have hlow:lows m (listed.setIfInBounds i true)=false:=lows_no (k:=j) (by rw[getD_set_ne true (Ne.symm hji)];exact (mem_ready.1 hj).1) hjm
   have h1:=((H.2 hlow).2 j (ready_mono hj hji)).2
   obtain⟨hjun,oj,hoj,hall⟩:=mem_ready.1 hj
   have hnot:∀ e∈oj.after,Region.binds .any e=true→e.on≠i:=fun e he hb heq=>by
    have h1:=hall e he hb
    rw[heq] at h1
    rcases Nat.lt_or_ge i listed.size with h' | h'
    ·
     simp[h'] at hun h1;rw[hun] at h1;cases h1
    ·
     simp[Array.getElem?_eq_none h'] at h1
   have h2:=wpOp_putIf hoj (hfree j oj hoj hji hjun hnot) (fun cs b=>hsel i oi cs b hi) (fun cs b=>hsel j oj cs b hoj) hQ hy h1
   have hfree':∀ k ok,ops[k]?=some ok→k≠i→(listed.setIfInBounds j true).getD k true=false →
     (∀ e∈ok.after,Region.binds .any e=true→e.on≠i)→oi.apart ops ok=true:=fun k ok hk hki hun hno=>by
    refine hfree k ok hk hki ?_ hno
    by_cases hjk:j=k
    ·
     subst hjk;exact hjun
    ·
     rw[getD_set_ne true hjk] at hun;exact hun
   refine wpOp_mono (fun a' w' h3=>⟨h3.2.1,ih (listed.setIfInBounds j true) a' w' (by simp[hsz]) (closed_set hcl hj) (highs_set hh hjm) hfree' (ready_mono hr (Ne.symm hji)) h3.1 h3.2.1 ?_⟩) h2
   rw[Array.setIfInBounds_comm _ _ hji]
   exact h3.2.2
def chkP (ops:Array Oper) (m:Nat) (F:Array Bool):List (Bool × Nat)→Array Bool→Bool
 | [],listed=>lows m listed && listed==F
 | (true,i)::r,listed=>Nat.blt i m && Region.free .any ops listed i && (Region.ready .any ops listed).contains i && Region.ready .any ops (mask ops m i)==[i] && closedB ops listed && highs m listed && Nat.beq listed.size ops.size && chkP ops m F r (listed.setIfInBounds i true)
 | (false,i)::r,listed=>Nat.blt i m && Region.ready .any ops listed==[i] && !lows m listed && chkP ops m F r (listed.setIfInBounds i true)
theorem anyP_of_RA (hs:Region.noSelect ops=true) (m:Nat) (F:Array Bool) (K:Act→World→Prop) (Q1:Exit→Act→World→Prop) (hK:∀ a w,Q1 .normal a w→K a w):∀ (l:List (Bool × Nat)) (listed:Array Bool) (a:Act) (w:World),(∀ x∈l,x.2<ops.size)→chkP ops m F l listed=true→S w →
  RA P ops Q1 S (l.map fun x=>(x.1,ops.getD x.2 default)) a w→wpAnyP P ops (noPanic Q) S m (fun z a w=>z=F∧K a w) l.length listed a w
 | [],listed,a,w,_,hc,_,h=>by
  simp only[chkP,Bool.and_eq_true,beq_iff_eq] at hc
  exact⟨hc.1,hc.2,hK _ _ h⟩
 | (true,i)::r,listed,a,w,hl,hc,hS,h=>by
  simp only[chkP,Bool.and_eq_true,beq_iff_eq] at hc
  obtain⟨⟨⟨⟨⟨⟨⟨h1,h2⟩,h3⟩,h4⟩,h4c⟩,h5⟩,h6⟩,h7⟩:=hc
  obtain⟨v,hy,h'⟩:=h
  have hi:i<ops.size:=hl (true,i) (by simp)
  have ho:ops[i]?=some (ops.getD i default):=by simp[hi]
  have hlt:i<m:=by simpa [Nat.blt,Nat.lt_iff_add_one_le] using h1
  exact wpAnyP_first hlt ho (Region.noSelect_spec hs) (fun _ _ _ hh=>hh) h4 _ _ _ _ (Nat.eq_of_beq_eq_true h6) (closed_of h4c) h5 (Region.free_spec ho h2) (by simpa using h3) hy hS (anyP_of_RA hs m F K Q1 hK r _ _ _ (fun x hx=>hl x (by simp[hx])) h7 hS h')
 | (false,i)::r,listed,a,w,hl,hc,hS,h=>by
  simp only[chkP,Bool.and_eq_true,beq_iff_eq,Bool.not_eq_true'] at hc
  obtain⟨⟨⟨h1,h2⟩,h3⟩,h4⟩:=hc
  have hi:i<ops.size:=hl (false,i) (by simp)
  have ho:ops[i]?=some (ops.getD i default):=by simp[hi]
  have hlt:i<m:=by simpa [Nat.blt,Nat.lt_iff_add_one_le] using h1
  refine⟨fun hx=>(by rw[h3] at hx;cases hx),fun _=>⟨by rw[h2];simp,fun j hj=>?_⟩⟩
  rw[h2,List.mem_singleton] at hj
  subst hj
  refine⟨hlt,?_⟩
  have ih:∀ a' w',S w'∧RA P ops Q1 S (r.map fun x=>(x.1,ops.getD x.2 default)) a' w'→S w'∧wpAnyP P ops (noPanic Q) S m (fun z a w=>z=F∧K a w) r.length (listed.setIfInBounds j true) a' w' :=
   fun a' w' ⟨hS',h'⟩=>⟨hS',anyP_of_RA hs m F K Q1 hK r _ a' w' (fun x hx=>hl x (by simp[hx])) h4 hS' h'⟩
  simp only[List.map_cons,RA] at h
  generalize ops.getD j default=oj at *
  unfold wpOp
  simp only[ho]
  by_cases hw:Region.wanted oj (yielded ops a.tmps)=true
  ·
   rw[if_pos hw] at h ⊢
   exact .inl (Oper.wp_mono ih (wp_never h))
  ·
   rw[if_neg hw] at h ⊢
   exact ih _ _ ⟨hS,h⟩
theorem anyH_of_P {m f2:Nat} (hK:∀ listed a w,K listed a w→wpAnyH P .any ops Q (fun _=>True) f2 listed a w):∀ (fuel:Nat) (listed:Array Bool) (a:Act) (w:World),wpAnyP P ops Q S m K fuel listed a w→wpAnyH P .any ops Q (fun _=>True) (f2+fuel) listed a w
 | 0,listed,a,w,h=>hK _ _ _ h.2
 | fuel+1,listed,a,w,h=>by
  cases hl:lows m listed with
  | true=>exact anyH_le (by omega) (hK _ _ _ (h.1 hl))
  | false =>
   obtain⟨h1,h2⟩:=h.2 hl
   refine⟨fun h0=>absurd h0 h1,fun i hi=>?_⟩
   exact wpOp_mono (fun a' w' h3=>⟨trivial,anyH_of_P hK fuel _ a' w' h3.2⟩) (h2 i hi).2
theorem wp_draws2 {id:Nat} {a:Act} {w:World} (l1 l2:List (Bool × Nat)) (m:Nat) (F:Array Bool) (hm:P.follows .mixedOrders=true) (hs:Region.noSelect ops=true) (hlen:Nat.beq (l2.length+l1.length) ops.size=true)
  (hl:((l1++l2).all fun x=>Nat.blt x.2 ops.size)=true) (hc1:chkP ops m F l1 (Array.replicate ops.size false)=true) (hc2:chk ops l2 F=true) (hS:S w.drew)
  (h:RA P ops (fun _ a w=>RA P ops Q (fun _=>True) (l2.map fun x=>(x.1,ops.getD x.2 default)) a w) S (l1.map fun x=>(x.1,ops.getD x.2 default)) a w.drew):(Code.region id ops true).wp P Q a w:=by
 refine Code.wp_mono noPanic_imp (wp_region_held (S:=fun _=>True) hm ?_)
 rw[←Nat.eq_of_beq_eq_true hlen]
 rw[←Nat.eq_of_beq_eq_true hlen] at hc1
 have hin:∀ x∈l1++l2,x.2<ops.size:=fun x hx=>by
  have:=List.all_eq_true.1 hl x hx
  simpa [Nat.blt,Nat.lt_iff_add_one_le] using this
 refine anyH_of_P (K:=fun z a w=>z=F∧RA P ops Q (fun _=>True) (l2.map fun x=>(x.1,ops.getD x.2 default)) a w) (fun z a w hz=>?_) _ _ _ _ (anyP_of_RA hs m F _ _ (fun _ _ hh=>hh) l1 _ a _ (fun x hx=>hin x (by simp[hx])) hc1 hS h)
 obtain⟨rfl,hz⟩:=hz
 exact anyH_of_RA hs l2 _ a _ (fun x hx=>hin x (by simp[hx])) hc2 trivial hz
end
section
variable {P:Program} {n:Nat} {Q:Exit→Act→World→Prop} {E:Env} {w:World}
theorem CW.draws2 {id:Nat} {l:List Oper} (l1 l2:List (Bool × Nat)) (m:Nat) (F:Array Bool) (S:World→Prop) (hm:P.follows .mixedOrders=true) (hs:Region.noSelect l.toArray=true) (hlen:Nat.beq (l2.length+l1.length) l.toArray.size=true)
  (hl:((l1++l2).all fun x=>Nat.blt x.2 l.toArray.size)=true) (hc1:chkP l.toArray m F l1 (Array.replicate l.toArray.size false)=true) (hc2:chk l.toArray l2 F=true) (hS:S w.drew)
  (h:RL P n l.toArray (fun _ a w=>RA P l.toArray Q (fun _=>True) (l2.map fun x=>(x.1,l.toArray.getD x.2 default)) a w) S (l1.map fun x=>(x.1,l.toArray.getD x.2 default)) E w.drew):CW P n (.region id l.toArray true) Q E w :=
 fun a ha=>wp_draws2 l1 l2 m F hm hs hlen hl hc1 hc2 hS (h hS a ha)
theorem RL.next {ops:Array Oper} {S2:World→Prop} {l2:List (Bool × Oper)} (hS:S2 w) (h:RL P n ops Q S2 l2 E w):∀ a,At n E a→RA P ops Q S2 l2 a w:=fun a ha=>h hS a ha
end
end Go.Lw
namespace Go.Lw
open Go.RowKit
section
variable {α:Type} {R:Res→List Value→α→Prop} {sz c:Nat} {el:TypeId} {r r' s s' A A':Res} {a:Option Addr} {xs ys:List α}
def Lies (R:Res→List Value→α→Prop) (sz:Nat) (r s:Res) (a:Option Addr) (c:Nat) (xs:List α):Prop:=xs.length≤c∧c≤maxLen∧(xs=[]∨∃ ad,a=some ad∧Row R sz r s ad xs)
theorem Imm.lies (h:Imm R sz s a c xs):Lies R sz s s a c xs:=h
theorem Own.lies (h:Own R sz el s A a c xs):Lies R sz A s a c xs:=by
 have hr:=h.row
 rcases h with ⟨rfl,rfl,rfl⟩ | ⟨g,cs,rfl,hg,hl,hc,hcs,hch⟩
 ·
  exact⟨Nat.le_refl _,Nat.zero_le _,.inl rfl⟩
 ·
  exact⟨hl,hc,hr⟩
theorem Lies.up (hR:Up R) (h:Lies R sz r s a c xs) (hl:Le s s'):Lies R sz r s' a c xs:=⟨h.1,h.2.1,h.2.2.imp id fun ⟨ad,e,hr⟩=>⟨ad,e,hr.le hR hl⟩⟩
theorem Lies.mem (h:Lies R sz r s a c xs) (hl:Le r r'):Lies R sz r' s a c xs:=⟨h.1,h.2.1,h.2.2.imp id fun ⟨ad,e,hr⟩=>⟨ad,e,hr.mem hl⟩⟩
theorem Lies.imm (hR:Up R) (h:Lies R sz r s a c xs) (h1:Le s s') (h2:Le r s'):Imm R sz s' a c xs:=(h.up hR h1).mem h2
theorem Lies.le_max (h:Lies R sz r s a c xs):xs.length≤maxLen:=Nat.le_trans h.1 h.2.1
theorem Lies.nil (r s:Res) (a:Option Addr) (c:Nat) (hc:c≤maxLen):Lies R sz r s a c []:=⟨Nat.zero_le _,hc,.inl rfl⟩
theorem Lies.part {l h:Nat} (hI:Lies R sz r s a c xs) (hl:l≤h) (hh:h≤xs.length) :
  Lies R sz r s (if c=l then a else a.map (·.add (l*sz))) (c-l) ((xs.take h).drop l)∧((xs.take h).drop l).length=h-l:=by
 have hlen:((xs.take h).drop l).length=h-l:=by simp;omega
 refine⟨⟨by rw[hlen];have:=hI.1;omega,by have:=hI.2.1;omega,?_⟩,hlen⟩
 by_cases he:h-l=0
 ·
  exact .inl (List.eq_nil_of_length_eq_zero (by rw[hlen];exact he))
 ·
  refine .inr ?_
  have hc:=hI.1
  rcases hI.2.2 with rfl | ⟨ad,rfl,hr⟩
  ·
   simp at hh;omega
  ·
   have hne:¬ c=l:=by omega
   have e1:xs=(xs.take h).take l++((xs.take h).drop l++xs.drop h):=by rw[←List.append_assoc,List.take_append_drop,List.take_append_drop]
   rw[e1] at hr
   have hr2:=hr.drop
   have e2:((xs.take h).take l).length=l:=by simp;omega
   rw[e2] at hr2
   exact⟨ad.add (l*sz),by simp[hne],hr2.take⟩
def Dj (a b:Option Addr):Prop:=∀ x y,a=some x→b=some y→x.block≠y.block
theorem Dj.symm {a b:Option Addr} (h:Dj a b):Dj b a:=fun x y hx hy=>(h y x hy hx).symm
theorem Dj.none_left (b:Option Addr):Dj none b:=fun _ _ h=>nomatch h
theorem Dj.none_right (a:Option Addr):Dj a none:=fun _ _ _ h=>nomatch h
theorem Own.dj {β:Type} {R':Res→List Value→β→Prop} {sz' c':Nat} {el':TypeId} {s2:Res} {b:Option Addr} {zs:List β} (h:Own R sz el s A a c xs) (h':Own R' sz' el' s2 A b c' zs) (hne:el≠el'):Dj a b:=by
 rintro x y rfl rfl e
 rcases h with ⟨h,_⟩ | ⟨g,cs,hx,hg,_⟩
 ·
  cases h
 ·
  rcases h' with ⟨h',_⟩ | ⟨g',cs',hy,hg',_⟩
  ·
   cases h'
  ·
   cases hx;cases hy
   simp only at e
   subst e
   rw[hg] at hg'
   injection hg' with hg'
   injection hg' with _ h2
   exact hne h2
theorem Own.kept {b:Option Addr} (h:Own R sz el s A a c xs) (hd:Dj b a) (hk:∀ k,A k≠none→(∀ ad,b=some ad→ad.block≠k)→A' k=A k):Own R sz el s A' a c xs:=by
 rcases h with h | ⟨g,cs,rfl,hg,h⟩
 ·
  exact .inl h
 ·
  exact .inr ⟨g,cs,rfl,by rw[hk g (by rw[hg];simp) (fun ad he=>hd _ _ he rfl)];exact hg,h⟩
theorem Own.addr (h:Own R sz el s A a c xs) {ad:Addr} (ha:a=some ad):A ad.block≠none:=by
 rcases h with ⟨h,_⟩ | ⟨g,cs,hx,hg,_⟩
 ·
  rw[h] at ha;cases ha
 ·
  rw[hx] at ha;cases ha;simp[hg]
end
section
variable {P:Program} {n:Nat} {ops:Array Oper} {Q:Exit→Act→World→Prop} {S:World→Prop} {rest:List (Bool × Oper)} {E:Env} {w:World} {o:Oper} {d:Nat} {v:Value}
variable {s A r:Res} {os:List Res} {x y:Operand} {T:Bool}
theorem RL.idxL {α:Type} {R:Res→List Value→α→Prop} {t e:TypeId} {sz by_ c:Nat} {k:IntKind} {a:Option Addr} {xs:List α} {i:Int} (hg:wants ops E o=some true) (hd:o.dst=some d) (hb:Nat.blt d n=true)
  (ho:o.op = .indexAddr t x y) (ht:slc P t=some (e,sz,by_)) (hx:ev E x=some (.slice a xs.length c)) (hy:ev E y=some (.int k i)) (hI:Lies R sz r s a c xs) (h0:0≤i) (h1:i<xs.length)
  (h:∀ q vs,vs.length=sz→Holds r q vs→R s vs (xs[i.toNat]'(by omega))→RL P n ops Q S rest ((d,.pointer (some (q.add 0)))::E) w):RL P n ops Q S ((T,o)::rest) E w:=by
 have hlt:i.toNat<xs.length:=by omega
 rcases hI.2.2 with rfl | ⟨ad,rfl,hr⟩
 ·
  simp at hlt
 ·
  obtain⟨vs,hl,hh,hR⟩:=hr.get (List.getElem?_eq_getElem hlt)
  have e0:(ad.add (i.toNat*sz)).add 0=ad.add (i.toNat*sz):=by unfold Addr.add;simp
  have:=h _ vs hl hh hR
  rw[e0] at this
  refine RL.val hg hd hb (fun w ac ha=>?_) this
  unfold execOp
  simp only[ho,ha.ev hx,ha.ev hy]
  simp[run_indexAt ht h0 h1]
theorem RL.partL {α:Type} {R:Res→List Value→α→Prop} {t e:TypeId} {sz by_ c:Nat} {a:Option Addr} {xs:List α} {lo hi:Option Operand} (l h:Int) (hg:wants ops E o=some true) (hd:o.dst=some d) (hb:Nat.blt d n=true)
  (ho:o.op = .slice t x lo hi none) (ht:slc P t=some (e,sz,by_)) (hx:ev E x=some (.slice a xs.length c))
  (hlo:(lo=none∧l=0)∨∃ k z,lo=some z∧ev E z=some (.int k l)) (hhi:(hi=none∧h=xs.length)∨∃ k z,hi=some z∧ev E z=some (.int k h))
  (hI:Lies R sz r s a c xs) (h0:0≤l) (h1:l≤h) (h2:h≤xs.length)
  (hK:∀ a' c',Lies R sz r s a' c' ((xs.take h.toNat).drop l.toNat)→RL P n ops Q S rest ((d,.slice a' ((xs.take h.toNat).drop l.toNat).length c')::E) w):RL P n ops Q S ((T,o)::rest) E w:=by
 obtain⟨hI',hlen⟩:=hI.part (l:=l.toNat) (h:=h.toNat) (by omega) (by omega)
 refine RL.val hg hd hb (fun w ac ha=>?_) (hK _ _ hI')
 obtain⟨hu,inf,hi',rfl,_⟩:=slc_spec ht
 have hsz:∀ w:World,(sizeOf e).run P w = .ok inf.size w:=fun w=>by simp[sizeOf,typeInfo,hi']
 have hcap:=hI.1
 have hl':∀ k (y:Nat) code,l≤y→(Instr.sliceBound (.int k l) y code).run P w = .ok l.toNat w:=fun k y code hy=>run_sliceBound w k l y code h0 hy
 have hh':∀ k (y:Nat) code,h≤y→(Instr.sliceBound (.int k h) y code).run P w = .ok h.toNat w:=fun k y code hy=>run_sliceBound w k h y code (by omega) hy
 rw[hlen]
 unfold execOp
 simp only[ho,ha.ev hx]
 rcases hlo with ⟨rfl,rfl⟩ | ⟨kl,zl,rfl,hzl⟩<;>rcases hhi with ⟨rfl,rfl⟩ | ⟨kh,zh,rfl,hzh⟩
 ·
  simp[Instr.sliceAt,Instr.slice,Instr.sliceBounds,run_underlying hu,hsz]
 ·
  simp[Instr.sliceAt,Instr.slice,Instr.sliceBounds,run_underlying hu,hsz,ha.ev hzh,hh' kh c .sliceAcap (by omega)]
 ·
  simp[Instr.sliceAt,Instr.slice,Instr.sliceBounds,run_underlying hu,hsz,ha.ev hzl,hl' kl xs.length .sliceB (by omega)]
 ·
  simp[Instr.sliceAt,Instr.slice,Instr.sliceBounds,run_underlying hu,hsz,ha.ev hzl,ha.ev hzh,hh' kh c .sliceAcap (by omega),hl' kl h.toNat .sliceB (by omega)]
theorem Src.lies {α:Type} {R:Res→List Value→α→Prop} {t e:TypeId} {sz by_:Nat} {a:Option Addr} {c:Nat} {ys:List α} (ht:slc P t=some (e,sz,by_)) (h:Lies R sz r s a c ys) (hin:In r w) :
  ∃ news,Src P w t sz (.slice a ys.length c) ys.length news∧Chunks R sz s news ys:=Src.row ht h.2.2 hin
theorem append_law2 {α:Type} {R:Res→List Value→α→Prop} {t t2 ty e:TypeId} {sz by_ c:Nat} {x:Value} {news z:List Value} {a:Option Addr} {xs ys:List α}
  (hg:Good w s (A::os)) (hs:slc P t=some (e,sz,by_)) (hz:zer P e=some z) (hzl:z.length=sz) (hone:One R)
  (hown:Own R sz e s A a c xs) (hsrc:Src P w t2 sz x ys.length news) (hch:Chunks R sz s news ys) (hbytes:(xs.length+ys.length)*by_≤140737488355328) (hmax:xs.length+ys.length≤maxLen) :
  ∃ a' c' A' w',(Builtin.append_ #[t,t2] ty #[.slice a xs.length c,x]).run P w = .ok (.slice a' (xs++ys).length c') w'∧Good w' s (A'::os)∧Own R sz e s A' a' c' (xs++ys)∧Aux w w' ∧
   (∀ b,A b≠none→(∀ ad,a=some ad→ad.block≠b)→A' b=A b)∧(∀ ad,a'=some ad→a=some ad∨A ad.block=none):=by
 have h63:xs.length+ys.length≤9223372036854775807:=by simp only[maxLen] at hmax;omega
 -- a new block
 have moved:∀ olds,(∀ w':World,w'.heap=w.heap→(Builtin.firstCells sz xs.length (.slice a xs.length c)).run P w' = .ok olds.toArray w')→Chunks R sz s olds xs→c<xs.length+ys.length →
   ∃ a' c' A' w',(Builtin.append_ #[t,t2] ty #[.slice a xs.length c,x]).run P w = .ok (.slice a' (xs++ys).length c') w'∧Good w' s (A'::os)∧Own R sz e s A' a' c' (xs++ys)∧Aux w w' ∧
    (∀ b,A b≠none→(∀ ad,a=some ad→ad.block≠b)→A' b=A b)∧(∀ ad,a'=some ad→a=some ad∨A ad.block=none):=by
  intro olds hold hco hroom
  have hrun:=run_append_move (ty:=ty) hs hz hsrc hold hroom h63 hbytes
  have hge:=grownCap_ge w (xs.length+ys.length) c e
  have hcm:grownCap w (xs.length+ys.length) c e≤maxLen:=grownCap_le_maxLen w _ c e hmax
  have hg':=(hg.drew.alloc (.cells (olds.toArray++news.toArray++Builtin.zeroCells z.toArray (grownCap w (xs.length+ys.length) c e-(xs.length+ys.length))) e)).join
  have hnone:A w.heap.size=none:=by
   cases hA:A w.heap.size with
   | none=>rfl
   | some o=>exact absurd (hg.1.lt (by rw[hA];simp)) (Nat.lt_irrefl _)
  refine⟨_,_,_,_,by rw[List.length_append];exact hrun,hg',.inr ⟨w.heap.size,_,rfl,one_join_same _ _ _,by rw[List.length_append];exact hge,hcm,?_,?_⟩,(Aux.drew w).trans (Aux.alloc _ _),fun b hb _=>?_,fun ad he=>by cases he;exact .inr hnone⟩
  ·
   have h1:=hco.length
   have h2:=hch.length
   simp only[Array.size_append,List.size_toArray,size_zeroCells,hzl,h1,h2,← Nat.add_mul]
   congr 1
   omega
  ·
   have h1:=hco.length
   have h2:=hch.length
   have e1:(olds.toArray++news.toArray++Builtin.zeroCells z.toArray (grownCap w (xs.length+ys.length) c e-(xs.length+ys.length))).toList.take ((xs++ys).length*sz)=olds++news:=by
    simp only[Array.toList_append,List.length_append,Nat.add_mul,← h1,← h2]
    rw[←List.length_append]
    exact List.take_left
   rw[e1]
   exact hco.append hch
  ·
   have hbs:b≠w.heap.size:=fun h=>by subst h;exact hb hnone
   simp[Res.join,Res.one,hbs]
 rcases hown with ⟨rfl,rfl,rfl⟩ | ⟨g,cs,rfl,hAg,hlc,hcm,hcs,hco⟩
 ·
  by_cases hm:ys.length=0
  ·
   have hy:ys=[]:=List.eq_nil_of_length_eq_zero hm
   subst hy
   have hn:news=[]:=hch
   subst hn
   exact⟨none,0,A,w,run_append_stay (a:=none) hs hsrc (by simp) (fun _=>rfl),hg,.inl ⟨rfl,rfl,rfl⟩,Aux.refl w,(fun _ _ _=>rfl),fun _ he=>nomatch he⟩
  ·
   exact moved [] (fun w' _=>by simp[Builtin.firstCells]) rfl (by simp;omega)
 ·
  have hrow:Holds A ⟨g,0,none⟩ (cs.toList.take (xs.length*sz)):=⟨cs,e,(0,0),hAg,rfl,fun j u hu=>by
   rw[List.getElem?_take] at hu
   split at hu
   ·
    simpa using hu
   ·
    cases hu⟩
  by_cases hroom:xs.length+ys.length≤c
  ·
   have hwg:=hg.1 g _ hAg
   have h1:=hco.length
   have h2:=hch.length
   have hadd:(⟨g,0,none⟩:Addr).add (xs.length*sz)=⟨g,xs.length*sz,none⟩:=by unfold Addr.add;split<;>simp_all
   have hfit:xs.length*sz+news.length≤cs.size:=by rw[h2,hcs,← Nat.add_mul];exact Nat.mul_le_mul_right _ hroom
   have hst:=run_storeCells_at P g (xs.length*sz) e news 0 cs w hwg (by simpa using hfit) (hch.one hone)
   simp only[Nat.add_zero] at hst
   have hrun:=run_append_stay (ty:=ty) (a:=some ⟨g,0,none⟩) hs hsrc hroom (by simp)
   simp only[hadd,hst,Result.andThen_ok] at hrun
   let new:=(cs.toList.take (xs.length*sz)++news++cs.toList.drop (xs.length*sz+news.length)).toArray
   have hput:=hg.write (w':=w.setRow g new) hAg (setRow_heap w g cs new e (0,0) hwg) (fun k _ hk=>setRow_other w g k new hk)
   refine⟨_,_,_,_,by rw[List.length_append];exact hrun,hput,.inr ⟨g,_,rfl,put_same _ _ _,by rw[List.length_append];exact hroom,hcm,?_,?_⟩,⟨rfl,rfl,rfl,by simp⟩,fun b _ hb=>?_,fun ad he=> .inl he⟩
   ·
    rw[←hcs]
    simp only[new,List.size_toArray,List.length_append,List.length_take,List.length_drop,Array.length_toList]
    omega
   ·
    have e1:((cs.toList.take (xs.length*sz)++news++cs.toList.drop (xs.length*sz+news.length)).toArray).toList.take ((xs++ys).length*sz)=cs.toList.take (xs.length*sz)++news:=by
     rw[List.length_append,Nat.add_mul,← h2]
     conv=>lhs;arg 1;rw[←h1]
     rw[←List.length_append]
     exact List.take_left
    rw[e1]
    exact hco.append hch
   ·
    have:b≠g:=fun h=>hb ⟨g,0,none⟩ rfl h.symm
    simp[Res.put,this]
  ·
   exact moved _ (fun w' hw=>run_firstCells_some w' sz xs.length ⟨g,0,none⟩ xs.length c _ hco.length (fun j v hj=>by
    have:=hrow.cell hg.1 hj
    simpa [World.cell?,hw] using this)) hco (by omega)
theorem RL.append2 {α:Type} {R:Res→List Value→α→Prop} {t t2 e:TypeId} {sz by_ c:Nat} {i:Nat} {src:Value} {news z:List Value} {a:Option Addr} {xs ys:List α} (hg:wants ops E o=some true) (hd:o.dst=some d) (hb:Nat.blt d n=true)
  (ho:o.op = .call { callee:= .builtin .append,args:= #[x,y],argTypes:= #[t,t2] }) (ht:slc P t=some (e,sz,by_)) (hz:zer P e=some z) (hzl:z.length=sz) (hone:One R)
  (hx:ev E x=some (.slice a xs.length c)) (hy:ev E y=some src) (hG:Good w s os) (hi:os[i]?=some A) (hown:Own R sz e s A a c xs) (hsrc:Src P w t2 sz src ys.length news) (hch:Chunks R sz s news ys)
  (hbytes:(xs.length+ys.length)*by_≤140737488355328) (hby:0<by_)
  (h:∀ a' c' A' w',Good w' s (os.set i A')→Own R sz e s A' a' c' (xs++ys)→Aux w w'→(∀ b,A b≠none→(∀ ad,a=some ad→ad.block≠b)→A' b=A b)→(∀ ad,a'=some ad→a=some ad∨A ad.block=none)→S w'∧RL P n ops Q S rest ((d,.slice a' (xs++ys).length c')::E) w'):RL P n ops Q S ((false,o)::rest) E w:=by
 have hmax:xs.length+ys.length≤maxLen:=by
  have:(xs.length+ys.length)*1≤(xs.length+ys.length)*by_:=Nat.mul_le_mul_left _ hby
  simp only[maxLen];omega
 obtain⟨a',c',A',w',hrun,hG',hO',hA',hk,hnw⟩:=append_law2 (ty:=o.type) (hG.front i hi) ht hz hzl hone hown hsrc hch hbytes hmax
 obtain⟨h1,h2⟩:=h a' c' A' w' (Good.back i hi hG') hO' hA' hk hnw
 refine RL.step hg hd hb (fun ac ha=>?_) h1 h2
 unfold execOp
 simp only[ho]
 simp only[resolve,invoke,builtin,Sem.run_bind,Sem.run_pure,Result.andThen_ok,List.map_toArray,List.map_cons,List.map_nil,ha.ev hx,ha.ev hy,hrun]
end
end Go.Lw
namespace Go.Lw
def At1 (b:Nat) (x:Obj) (w:World):Prop:=w.heap[b]?=some x
theorem At1.inn {b:Nat} {x:Obj} {w:World} (h:At1 b x w):In (Res.one b x) w:=fun k y hk=>by
 simp only[Res.one] at hk
 split at hk
 ·
  rename_i e;cases hk;rw[e];exact h
 ·
  cases hk
theorem At1.holds {b:Nat} {cs:Array Value} {el:TypeId} {fr:Nat × Nat}:Holds (Res.one b (.cells cs el fr)) ⟨b,0,none⟩ cs.toList:=Holds.of (if_pos rfl)
theorem Good.at1 {w:World} {s r:Res} {os:List Res} {b:Nat} {x:Obj} (hg:Good w s os) (hr:r∈os) (h:r b=some x):At1 b x w:=hg.mem hr b x h
section
variable {P:Program} {n:Nat} {ops:Array Oper} {Q:Exit→Act→World→Prop} {S:World→Prop} {rest:List (Bool × Oper)} {E:Env} {w:World} {o:Oper} {d:Nat} {v:Value}
variable {s A:Res} {os:List Res} {x y:Operand} {T:Bool}
theorem RL.boxN {t:TypeId} (hg:wants ops E o=some true) (hd:o.dst=some d) (hb:Nat.blt d n=true) (ho:o.op = .box t x) (hx:ev E x=some v) (hG:Good w s os)
  (h:∀ b w' B,Good w' s (B::os)→Aux w w'→B b=some (.cells v.cells t (0,0))→S w'∧RL P n ops Q S rest ((d,.pointer (some ⟨b,0,none⟩))::E) w'):RL P n ops Q S ((false,o)::rest) E w :=
 RL.box hg hd hb ho hx hG fun b w' h1 h2=>h b w' _ h1 h2 (if_pos rfl)
theorem RL.allocN {t:TypeId} {z:List Value} (hg:wants ops E o=some true) (hd:o.dst=some d) (hb:Nat.blt d n=true) (ho:o.op = .alloc t) (hz:zer P t=some z) (hG:Good w s os)
  (h:∀ b w' B,Good w' s (B::os)→Aux w w'→B b=some (.cells z.toArray t (0,0))→S w'∧RL P n ops Q S rest ((d,.pointer (some ⟨b,0,none⟩))::E) w'):RL P n ops Q S ((false,o)::rest) E w :=
 RL.alloc hg hd hb ho hz hG fun b w' h1 h2=>h b w' _ h1 h2 (if_pos rfl)
theorem RL.buildN {t e:TypeId} {sz by_ len:Nat} {ps:Array (Nat × Operand)} {l:List (Nat × Value)} {z cs:List Value} (hg:wants ops E o=some true) (hd:o.dst=some d) (hb:Nat.blt d n=true)
  (ho:o.op = .buildSlice t len ps) (ht:slc P t=some (e,sz,by_)) (hz:zer P e=some z) (hzl:z.length=sz) (hlen:Nat.ble (len*sz) 16777216=true) (hps:parts E ps.toList=some l)
  (hf0:fillL (fun i=>some (i*sz,sz)) (zsL len z) l=some cs) (hG:Good w s os)
  (h:∀ b w' B,Good w' s (B::os)→Aux w w'→B b=some (.cells cs.toArray e (0,0))→S w'∧RL P n ops Q S rest ((d,.slice (some ⟨b,0,none⟩) len len)::E) w'):RL P n ops Q S ((false,o)::rest) E w :=
 RL.buildSlice hg hd hb ho ht hz hzl hlen hps hf0 hG fun b w' h1 h2=>h b w' _ h1 h2 (if_pos rfl)
theorem RL.storeB {t:TypeId} {b k j:Nat} {i:Nat} {ag:Bool} {cs:Array Value} {el:TypeId} {u:Value} {ds:List Value} (hg:wants ops E o=some true) (hd:o.dst=none) (ho:o.op = .store t x y) (ht:tyc P t=some (ag,k))
  (hx:ev E x=some (.pointer (some ((⟨b,0,none⟩:Addr).add j)))) (hy:ev E y=some u) (hG:Good w s os) (hi:os[i]?=some A) (hA:A b=some (.cells cs el (0,0))) (hk:u.cells.size=k) (h1:∀ z∈u.cells.toList,z.oneCell'=true) (hj:j+k≤cs.size)
  (he:cs.toList.take j++u.cells.toList++cs.toList.drop (j+k)=ds)
  (h:∀ w' A',Good w' s (os.set i A')→Aux w w'→A' b=some (.cells ds.toArray el (0,0))→S w'∧RL P n ops Q S rest E w'):RL P n ops Q S ((false,o)::rest) E w :=
 RL.store hg hd ho ht hx hy hG hi hA hk h1 hj fun w' h2 h3=>by
  rw[he] at h2
  exact h w' _ h2 h3 (put_same _ _ _)
theorem one_src {t e:TypeId} {sz by_ b len:Nat} {cs:List Value} {B:Res} (ht:slc P t=some (e,sz,by_)) (hl:cs.length=len*sz) (hB:B b=some (.cells cs.toArray e (0,0))) (hin:In B w):Src P w t sz (.slice (some ⟨b,0,none⟩) len len) len cs :=
 Src.slice ht hl (.inr ⟨_,rfl,Holds.of hB⟩) hin
end
end Go.Lw
namespace Go.Lw
open Go.Proofs
attribute [local irreducible] RL RA
structure Ste (k:Nat) (X:Prop):Prop where
 out:X
theorem zm0 {α:Type} {a:α} {l:List α}:a∈a::l:=List.mem_cons_self
theorem zm1 {α:Type} {a x0:α} {l:List α}:a∈x0::a::l:=List.mem_cons_of_mem _ zm0
theorem zm2 {α:Type} {a x0 x1:α} {l:List α}:a∈x0::x1::a::l:=List.mem_cons_of_mem _ zm1
theorem zm3 {α:Type} {a x0 x1 x2:α} {l:List α}:a∈x0::x1::x2::a::l:=List.mem_cons_of_mem _ zm2
theorem zm4 {α:Type} {a x0 x1 x2 x3:α} {l:List α}:a∈x0::x1::x2::x3::a::l:=List.mem_cons_of_mem _ zm3
theorem zm5 {α:Type} {a x0 x1 x2 x3 x4:α} {l:List α}:a∈x0::x1::x2::x3::x4::a::l:=List.mem_cons_of_mem _ zm4
theorem zm6 {α:Type} {a x0 x1 x2 x3 x4 x5:α} {l:List α}:a∈x0::x1::x2::x3::x4::x5::a::l:=List.mem_cons_of_mem _ zm5
theorem zm7 {α:Type} {a x0 x1 x2 x3 x4 x5 x6:α} {l:List α}:a∈x0::x1::x2::x3::x4::x5::x6::a::l:=List.mem_cons_of_mem _ zm6
theorem zm8 {α:Type} {a x0 x1 x2 x3 x4 x5 x6 x7:α} {l:List α}:a∈x0::x1::x2::x3::x4::x5::x6::x7::a::l:=List.mem_cons_of_mem _ zm7
theorem zm9 {α:Type} {a x0 x1 x2 x3 x4 x5 x6 x7 x8:α} {l:List α}:a∈x0::x1::x2::x3::x4::x5::x6::x7::x8::a::l:=List.mem_cons_of_mem _ zm8
theorem zm10 {α:Type} {a x0 x1 x2 x3 x4 x5 x6 x7 x8 x9:α} {l:List α}:a∈x0::x1::x2::x3::x4::x5::x6::x7::x8::x9::a::l:=List.mem_cons_of_mem _ zm9
theorem zm11 {α:Type} {a x0 x1 x2 x3 x4 x5 x6 x7 x8 x9 x10:α} {l:List α}:a∈x0::x1::x2::x3::x4::x5::x6::x7::x8::x9::x10::a::l:=List.mem_cons_of_mem _ zm10
theorem zm12 {α:Type} {a x0 x1 x2 x3 x4 x5 x6 x7 x8 x9 x10 x11:α} {l:List α}:a∈x0::x1::x2::x3::x4::x5::x6::x7::x8::x9::x10::x11::a::l:=List.mem_cons_of_mem _ zm11
theorem zm13 {α:Type} {a x0 x1 x2 x3 x4 x5 x6 x7 x8 x9 x10 x11 x12:α} {l:List α}:a∈x0::x1::x2::x3::x4::x5::x6::x7::x8::x9::x10::x11::x12::a::l:=List.mem_cons_of_mem _ zm12
theorem zm14 {α:Type} {a x0 x1 x2 x3 x4 x5 x6 x7 x8 x9 x10 x11 x12 x13:α} {l:List α}:a∈x0::x1::x2::x3::x4::x5::x6::x7::x8::x9::x10::x11::x12::x13::a::l:=List.mem_cons_of_mem _ zm13
theorem zm {α:Type} {a:α} {l:List α} (h:a∈l:=by first | exact zm0 | exact zm1 | exact zm2 | exact zm3 | exact zm4 | exact zm5 | exact zm6 | exact zm7 | exact zm8 | exact zm9 | exact zm10 | exact zm11 | exact zm12 | exact zm13 | exact zm14):a∈l:=h
theorem adL {b i j:Nat}:(⟨b,i,none⟩:Addr).add j=⟨b,i+j,none⟩:=by
 unfold Addr.add
 split<;>simp_all
theorem ad0 {b j:Nat}:(⟨b,j,none⟩:Addr)=⟨b,j,none⟩:=rfl
theorem ad1 {b j:Nat}:(⟨b,0,none⟩:Addr).add j=⟨b,j,none⟩:=by rw[adL,Nat.zero_add]
theorem ad2 {b i j:Nat}:((⟨b,0,none⟩:Addr).add i).add j=⟨b,i+j,none⟩:=by rw[ad1,adL]
theorem ad3 {b i j k:Nat}:(((⟨b,0,none⟩:Addr).add i).add j).add k=⟨b,i+j+k,none⟩:=by rw[ad2,adL]
theorem ad4 {b i j k l:Nat}:((((⟨b,0,none⟩:Addr).add i).add j).add k).add l=⟨b,i+j+k+l,none⟩:=by rw[ad3,adL]
section
variable {P:Program} {n:Nat} {ops:Array Oper} {Q:Exit→Act→World→Prop} {S:World→Prop} {rest:List (Bool × Oper)} {E:Env} {w:World} {o:Oper} {d:Nat} {v:Value} {x y:Operand} {T:Bool} {A s:Res} {os:List Res} {q:Nat} {X Y:Prop}
theorem Ste.pu {t:Bool} (h:Ste q (RL P n ops Q S rest ((d,v)::E) w)) (hg:wants ops E o=some true:=by exact rfl) (hp:pv (ev E) o.op=some v:=by exact rfl) (hd:o.dst=some d:=by exact rfl) (hb:Nat.blt d n=true:=by exact rfl):Ste (q+1) (RL P n ops Q S ((t,o)::rest) E w):=⟨RL.pure hg hd hb hp h.out⟩
theorem Ste.pa {t:Bool} (h:Ste q (RL P n ops Q S rest ((d,undef)::E) w)) (hg:wants ops E o=some false:=by exact rfl) (hd:o.dst=some d:=by exact rfl) (hb:Nat.blt d n=true:=by exact rfl):Ste (q+1) (RL P n ops Q S ((t,o)::rest) E w):=⟨RL.pass hg hd hb h.out⟩
theorem Ste.fi {t:TypeId} {i k off:Nat} {ad:Addr} (h:Ste q (RL P n ops Q S rest ((d,.pointer (some (ad.add off)))::E) w)) (ho:o.op = .fieldAddr t x i:=by exact rfl) (hg:wants ops E o=some true:=by exact rfl) (hd:o.dst=some d:=by exact rfl) (hb:Nat.blt d n=true:=by exact rfl) (hf:fld P t i=some (off,k):=by exact Fl.out) (hk:Nat.blt 0 k=true:=by exact rfl) (hx:ev E x=some (.pointer (some ad)):=by exact rfl):Ste (q+1) (RL P n ops Q S ((T,o)::rest) E w):=⟨RL.field hg hd hb ho hf hk hx h.out⟩
theorem Addr.add0 (b j:Nat):(⟨b,j,none⟩:Addr)=(⟨b,0,none⟩:Addr).add j:=by simp[Addr.add]
theorem Ste.lo {t:TypeId} {b j:Nat} {ad:Addr} {r:Res} {cs:Array Value} {el:TypeId} {fr:Nat × Nat} (h:Ste q (RL P n ops Q S rest ((d,v)::E) w)) (ho:o.op = .load t x:=by exact rfl) (hg:wants ops E o=some true:=by exact rfl) (hd:o.dst=some d:=by exact rfl) (hb:Nat.blt d n=true:=by exact rfl) (ht:tyc P t=some (false,1):=by exact Fk.out) (hx:ev E x=some (.pointer (some ad)):=by exact rfl) (ha:ad=⟨b,j,none⟩:=by first | exact ad1 | exact ad2 | exact ad3 | exact ad4 | exact ad0) (hG:Good w s os:=by assumption) (hc:r b=some (.cells cs el fr)∧r∈os:=by first | exact⟨(by assumption),zm⟩ | exact⟨Nd.cells (by assumption),zm⟩) (hv:cs.toList[j]?=some v:=by exact rfl):Ste (q+1) (RL P n ops Q S ((false,o)::rest) E w):=⟨RL.load (ad:=⟨b,0,none⟩) (j:=j) hg hd hb ho ht (by rw[hx,ha,Addr.add0]) (Holds.of hc.1) (hG.mem hc.2) hv h.out⟩
theorem Ste.ls {t:TypeId} {b j k:Nat} {ad:Addr} {r:Res} {cs:Array Value} {us:List Value} {el:TypeId} {fr:Nat × Nat} (h:Ste q (RL P n ops Q S rest ((d,.agg us.toArray)::E) w)) (ho:o.op = .load t x:=by exact rfl) (hg:wants ops E o=some true:=by exact rfl) (hd:o.dst=some d:=by exact rfl) (hb:Nat.blt d n=true:=by exact rfl) (ht:tyc P t=some (true,k):=by exact Fk.out) (hx:ev E x=some (.pointer (some ad)):=by exact rfl) (ha:ad=⟨b,j,none⟩:=by first | exact ad1 | exact ad2 | exact ad3 | exact ad4 | exact ad0) (hG:Good w s os:=by assumption) (hc:r b=some (.cells cs el fr)∧r∈os:=by first | exact⟨(by assumption),zm⟩ | exact⟨Nd.cells (by assumption),zm⟩) (hv:(cs.toList.drop j).take k=us:=by exact rfl) (hl:us.length=k:=by exact rfl):Ste (q+1) (RL P n ops Q S ((false,o)::rest) E w):=⟨RL.loads (ad:=⟨b,0,none⟩) (j:=j) hg hd hb ho ht (by rw[hx,ha,Addr.add0]) (Holds.of hc.1) (hG.mem hc.2) hv hl h.out⟩
theorem Ste.lt {t:TypeId} {b j:Nat} {ad:Addr} {cs:Array Value} {el:TypeId} {fr:Nat × Nat} (h:Ste q (RL P n ops Q S rest ((d,v)::E) w)) (ho:o.op = .load t x:=by exact rfl) (hg:wants ops E o=some true:=by exact rfl) (hd:o.dst=some d:=by exact rfl) (hb:Nat.blt d n=true:=by exact rfl) (ht:tyc P t=some (false,1):=by exact Fk.out) (hx:ev E x=some (.pointer (some ad)):=by exact rfl) (ha:ad=⟨b,j,none⟩:=by first | exact ad1 | exact ad2 | exact ad3 | exact ad4 | exact ad0) (hm:∀ w,S w→At1 b (.cells cs el fr) w:=by first | exact fun _ h=>h.1 | exact fun _ h=>h.2.1 | exact fun _ h=>h.2.2.1) (hv:cs.toList[j]?=some v:=by exact rfl):Ste (q+1) (RL P n ops Q S ((true,o)::rest) E w):=⟨RL.loadT (ad:=⟨b,0,none⟩) (j:=j) hg hd hb ho ht (by rw[hx,ha,Addr.add0]) At1.holds (fun w h=>(hm w h).inn) hv h.out⟩
theorem Ste.lu {t:TypeId} {b j k:Nat} {ad:Addr} {cs:Array Value} {us:List Value} {el:TypeId} {fr:Nat × Nat} (h:Ste q (RL P n ops Q S rest ((d,.agg us.toArray)::E) w)) (ho:o.op = .load t x:=by exact rfl) (hg:wants ops E o=some true:=by exact rfl) (hd:o.dst=some d:=by exact rfl) (hb:Nat.blt d n=true:=by exact rfl) (ht:tyc P t=some (true,k):=by exact Fk.out) (hx:ev E x=some (.pointer (some ad)):=by exact rfl) (ha:ad=⟨b,j,none⟩:=by first | exact ad1 | exact ad2 | exact ad3 | exact ad4 | exact ad0) (hm:∀ w,S w→At1 b (.cells cs el fr) w:=by first | exact fun _ h=>h.1 | exact fun _ h=>h.2.1 | exact fun _ h=>h.2.2.1) (hv:(cs.toList.drop j).take k=us:=by exact rfl) (hl:us.length=k:=by exact rfl):Ste (q+1) (RL P n ops Q S ((true,o)::rest) E w):=⟨RL.loadsT (ad:=⟨b,0,none⟩) (j:=j) hg hd hb ho ht (by rw[hx,ha,Addr.add0]) At1.holds (fun w h=>(hm w h).inn) hv hl h.out⟩
theorem Ste.ad {k:IntKind} {a b:Int} {t yt:TypeId} (h:Ste q (RL P n ops Q S rest ((d,.int k (a+b))::E) w)) (ho:o.op = .binOp .add t x y yt:=by exact rfl) (hg:wants ops E o=some true:=by exact rfl) (hd:o.dst=some d:=by exact rfl) (hb:Nat.blt d n=true:=by exact rfl) (hx:ev E x=some (.int k a):=by exact rfl) (hy:ev E y=some (.int k b):=by exact rfl) (hr:rng k (a+b):=by first | (simp only[rng];omega) | (simp only[rng] at *;omega)):Ste (q+1) (RL P n ops Q S ((T,o)::rest) E w):=⟨RL.add hg hd hb ho hx hy hr h.out⟩
theorem Ste.su {k:IntKind} {a b:Int} {t yt:TypeId} (h:Ste q (RL P n ops Q S rest ((d,.int k (a-b))::E) w)) (ho:o.op = .binOp .sub t x y yt:=by exact rfl) (hg:wants ops E o=some true:=by exact rfl) (hd:o.dst=some d:=by exact rfl) (hb:Nat.blt d n=true:=by exact rfl) (hx:ev E x=some (.int k a):=by exact rfl) (hy:ev E y=some (.int k b):=by exact rfl) (hr:rng k (a-b):=by first | (simp only[rng];omega) | (simp only[rng] at *;omega)):Ste (q+1) (RL P n ops Q S ((T,o)::rest) E w):=⟨RL.sub hg hd hb ho hx hy hr h.out⟩
theorem Ste.ln {t:TypeId} {e:TypeId} {sz by_ m c:Nat} {a:Option Addr} (h:Ste q (RL P n ops Q S rest ((d,.int .i64 m)::E) w)) (ho:o.op = .call { callee:= .builtin .len,args:= #[x],argTypes:= #[t] }:=by exact rfl) (hg:wants ops E o=some true:=by exact rfl) (hd:o.dst=some d:=by exact rfl) (hb:Nat.blt d n=true:=by exact rfl) (ht:slc P t=some (e,sz,by_):=by exact Fk.out) (hx:ev E x=some (.slice a m c):=by exact rfl):Ste (q+1) (RL P n ops Q S ((T,o)::rest) E w):=⟨RL.len hg hd hb ho ht hx h.out⟩
theorem Ste.bu {t:TypeId} {ps:Array (Nat × Operand)} {l:List (Nat × Value)} {pl:List (Nat × Nat)} {z cs:List Value} (h:Ste q (RL P n ops Q S rest ((d,.agg cs.toArray)::E) w)) (ho:o.op = .build t ps:=by exact rfl) (hg:wants ops E o=some true:=by exact rfl) (hd:o.dst=some d:=by exact rfl) (hb:Nat.blt d n=true:=by exact rfl) (hz:zer P t=some z:=by exact Fk.out) (hp:plc P t=some pl:=by exact Fk.out) (hps:parts E ps.toList=some l:=by exact rfl) (hf:fillL (fun i=>pl[i]?) z l=some cs:=by exact rfl):Ste (q+1) (RL P n ops Q S ((T,o)::rest) E w):=⟨RL.build hg hd hb ho hz hp hps hf h.out⟩
theorem Ste.bo {t:TypeId} (h:Ste q (∀ b w' B,Good w' s (B::os)→Aux w w'→B b=some (.cells v.cells t (0,0))→S w'∧RL P n ops Q S rest ((d,.pointer (some ⟨b,0,none⟩))::E) w')) (ho:o.op = .box t x:=by exact rfl) (hg:wants ops E o=some true:=by exact rfl) (hd:o.dst=some d:=by exact rfl) (hb:Nat.blt d n=true:=by exact rfl) (hx:ev E x=some v:=by exact rfl) (hG:Good w s os:=by assumption):Ste (q+1) (RL P n ops Q S ((false,o)::rest) E w):=⟨RL.boxN hg hd hb ho hx hG h.out⟩
theorem Ste.al {t:TypeId} {z:List Value} (h:Ste q (∀ b w' B,Good w' s (B::os)→Aux w w'→B b=some (.cells z.toArray t (0,0))→S w'∧RL P n ops Q S rest ((d,.pointer (some ⟨b,0,none⟩))::E) w')) (ho:o.op = .alloc t:=by exact rfl) (hg:wants ops E o=some true:=by exact rfl) (hd:o.dst=some d:=by exact rfl) (hb:Nat.blt d n=true:=by exact rfl) (hz:zer P t=some z:=by exact Fk.out) (hG:Good w s os:=by assumption):Ste (q+1) (RL P n ops Q S ((false,o)::rest) E w):=⟨RL.allocN hg hd hb ho hz hG h.out⟩
theorem Ste.bn {t e:TypeId} {sz by_ len:Nat} {ps:Array (Nat × Operand)} {l:List (Nat × Value)} {z cs:List Value} (h:Ste q (∀ b w' B,Good w' s (B::os)→Aux w w'→B b=some (.cells cs.toArray e (0,0))→S w'∧RL P n ops Q S rest ((d,.slice (some ⟨b,0,none⟩) len len)::E) w')) (ho:o.op = .buildSlice t len ps:=by exact rfl) (hg:wants ops E o=some true:=by exact rfl) (hd:o.dst=some d:=by exact rfl) (hb:Nat.blt d n=true:=by exact rfl) (ht:slc P t=some (e,sz,by_):=by exact Fk.out) (hz:zer P e=some z:=by exact Fk.out) (hzl:z.length=sz:=by exact rfl) (hlen:Nat.ble (len*sz) 16777216=true:=by exact rfl) (hps:parts E ps.toList=some l:=by exact rfl) (hf:fillL (fun i=>some (i*sz,sz)) (zsL len z) l=some cs:=by exact rfl) (hG:Good w s os:=by assumption):Ste (q+1) (RL P n ops Q S ((false,o)::rest) E w):=⟨RL.buildN hg hd hb ho ht hz hzl hlen hps hf hG h.out⟩
theorem ix0 {α:Type} {a:α} {l:List α}:(a::l)[0]?=some a:=rfl
theorem ix1 {α:Type} {a b:α} {l:List α}:(b::a::l)[1]?=some a:=rfl
theorem ix2 {α:Type} {a b c:α} {l:List α}:(b::c::a::l)[2]?=some a:=rfl
theorem ix3 {α:Type} {a b c d:α} {l:List α}:(b::c::d::a::l)[3]?=some a:=rfl
theorem ix4 {α:Type} {a b c d e:α} {l:List α}:(b::c::d::e::a::l)[4]?=some a:=rfl
theorem ix5 {α:Type} {a b c d e f:α} {l:List α}:(b::c::d::e::f::a::l)[5]?=some a:=rfl
theorem Ste.sb {t:TypeId} {b k j:Nat} {i:Nat} {ag:Bool} {ad:Addr} {cs:Array Value} {el:TypeId} {u:Value} {ds:List Value} (h:Ste q (∀ w' A',Good w' s (os.set i A')→Aux w w'→A' b=some (.cells ds.toArray el (0,0))→S w'∧RL P n ops Q S rest E w')) (ho:o.op = .store t x y:=by exact rfl) (hg:wants ops E o=some true:=by exact rfl) (hd:o.dst=none:=by exact rfl) (ht:tyc P t=some (ag,k):=by exact Fk.out) (hx:ev E x=some (.pointer (some ad)):=by exact rfl) (ha:ad=⟨b,j,none⟩:=by first | exact ad1 | exact ad2 | exact ad3 | exact ad4 | exact ad0) (hy:ev E y=some u:=by exact rfl) (hG:Good w s os:=by assumption) (hA:A b=some (.cells cs el (0,0))∧os[i]?=some A:=by refine⟨(by assumption),?_⟩;first | exact ix0 | exact ix1 | exact ix2 | exact ix3 | exact ix4 | exact ix5) (hk:u.cells.size=k:=by exact rfl) (he:cs.toList.take j++u.cells.toList++cs.toList.drop (j+k)=ds:=by exact rfl) (h1:∀ z∈u.cells.toList,z.oneCell'=true:=by first | (simp[Value.cells,Value.oneCell'];done) | simp[Value.cells,Value.oneCell',putL]) (hj:j+k≤cs.size:=by first | exact Nat.le_of_ble_eq_true rfl | (simp;done) | (simp;omega) | omega):Ste (q+1) (RL P n ops Q S ((false,o)::rest) E w):=⟨RL.storeB hg hd ho ht (by rw[hx,ha,Addr.add0]) hy hG hA.2 hA.1 hk h1 hj he h.out⟩
theorem Ste.ca {f:FuncId} {args:Array Operand} {ats:Array TypeId} {l:List Value} (h:Ste q (Calls P f l.toArray w (fun e w'=>∃ v,e = .returned v∧S w'∧RL P n ops Q S rest ((d,v)::E) w'))) (ho:o.op = .call { callee:= .value (.func f),args:=args,argTypes:=ats }:=by exact rfl) (hg:wants ops E o=some true:=by exact rfl) (hd:o.dst=some d:=by exact rfl) (hb:Nat.blt d n=true:=by exact rfl) (hl:evs E args.toList=some l:=by exact rfl) (hc:callable P f=true:=by exact Ca.out):Ste (q+1) (RL P n ops Q S ((false,o)::rest) E w):=⟨RL.callG hg hd hb ho hl hc h.out fun _ _ h=>h⟩
theorem zc {f:FuncId} {l:List Value} {w0:World} {s0:Res} {os0:List Res} {Φ:Res→Res→Value→Prop} {X:Value→World→Prop} (hct:Calls P f l.toArray w (Post w0 s0 os0 Φ)) (h:∀ v s' A w',Le s0 s'→Good w' s' (A::os0)→Aux w0 w'→Φ s' A v→S w'∧X v w'):Calls P f l.toArray w (fun e w'=>∃ v,e = .returned v∧S w'∧X v w'):=hct.mono fun _ w' ⟨v,s',A,he,h1,h2,h3,h4⟩=>⟨v,he,h v s' A w' h1 h2 h3 h4⟩
theorem zw {f:FuncId} {l:List Value} {w0:World} {s0:Res} {os0:List Res} {Φ:Value→Prop} {X:Value→World→Prop} (hct:Calls P f l.toArray w (PostV w0 s0 os0 Φ)) (h:∀ v w',Good w' s0 os0→Aux w0 w'→Φ v→S w'∧X v w'):Calls P f l.toArray w (fun e w'=>∃ v,e = .returned v∧S w'∧X v w'):=hct.mono fun _ w' ⟨v,he,h1,h2,h3⟩=>⟨v,he,h v w' h1 h2 h3⟩
theorem Good.at2 {r:Res} {b:Nat} {x:Obj} (hg:Good w s os) (h:r b=some x) (hr:r∈os):At1 b x w:=hg.at1 hr h
theorem Ste.dn (h:Ste q (∀ a,At n E a→Q .normal a w)):Ste (q+1) (RL P n ops Q S [] E w):=⟨RL.done h.out⟩
theorem Ste.nx {ops:Array Oper} {S2:World→Prop} {l2:List (Bool × Oper)} (h:Ste q (RL P n ops Q S2 l2 E w)) (hS:S2 w:=by exact trivial):Ste (q+1) (∀ a,At n E a→RA P ops Q S2 l2 a w):=⟨RL.next hS h.out⟩
theorem Ste.tr {B:Prop} (h:Ste q Y) (hb:B:=by first | exact trivial | (repeat (first | exact trivial | exact Good.at2 (by assumption) (by assumption) zm | exact Good.at2 (by assumption) (Nd.cells (by assumption)) zm | exact Good.mem (by assumption) zm | refine⟨?_,?_⟩))):Ste (q+1) (B∧Y):=⟨⟨hb,h.out⟩⟩
end
section
variable {P:Program} {n:Nat} {Q:Exit→Act→World→Prop} {E:Env} {w:World} {q:Nat} {X Y:Prop}
theorem Ste.sq {x y:Code} (h:Ste q (CW P n x (Exit.then (fun a w=>y.wp P Q a w) Q) E w)):Ste (q+1) (CW P n (.seq x y) Q E w):=⟨CW.seq h.out⟩
theorem Ste.bl {id:Nat} {c:Code} (h:Ste q (CW P n c (Exit.inBlock id Q) E w)):Ste (q+1) (CW P n (.block id c) Q E w):=⟨CW.block h.out⟩
theorem Ste.sk (h:Ste q (∀ a,At n E a→Q .normal a w)):Ste (q+1) (CW P n .skip Q E w):=⟨CW.skip h.out⟩
theorem Ste.ex {id:Nat} (h:Ste q (∀ a,At n E a→Q (.exit id) a w)):Ste (q+1) (CW P n (.exit id) Q E w):=⟨CW.exit h.out⟩
theorem Ste.pl {id:Nat} {l:List Oper} (h:Ste q (RL P n l.toArray Q (fun _=>True) (l.map fun o=>(false,o)) E w)):Ste (q+1) (CW P n (.region id l.toArray false) Q E w):=⟨CW.plain h.out⟩
theorem Ste.ys {c:Operand} {x y:Code} (h:Ste q (CW P n x Q E w)) (hc:ev E c=some (.bool true):=by first | rfl | exact congrArg (fun b=>some (Value.bool b)) (by assumption)):Ste (q+1) (CW P n (.cond c x y) Q E w):=⟨CW.yes hc h.out⟩
theorem Ste.no {c:Operand} {x y:Code} (h:Ste q (CW P n y Q E w)) (hc:ev E c=some (.bool false):=by first | rfl | exact congrArg (fun b=>some (Value.bool b)) (by assumption)):Ste (q+1) (CW P n (.cond c x y) Q E w):=⟨CW.no hc h.out⟩
def od:List Nat→List (Bool × Nat)
 | []=>[]
 | a::l=>(Nat.beq (Nat.mod a 2) 1,Nat.div a 2)::od l
def tf (a b:Nat):Array Bool:=(List.replicate a true++List.replicate b false).toArray
theorem CW.dw {id:Nat} {l:List Oper} (o:List Nat) (S:World→Prop) (h:RL P n l.toArray Q S ((od o).map fun x=>(x.1,l.toArray.getD x.2 default)) E w.drew) (hm:P.follows .mixedOrders=true:=by exact mixed) (hs:Region.noSelect l.toArray=true:=by kernel_rfl) (hlen:(od o).length=l.toArray.size:=by kernel_rfl) (hl:((od o).all fun x=>decide (x.2<l.toArray.size))=true:=by kernel_rfl) (hc:chk l.toArray (od o) (Array.replicate l.toArray.size false)=true:=by kernel_rfl) (hS:S w.drew:=by first | exact trivial | (repeat (first | exact trivial | exact Good.at2 (by assumption) (by assumption) zm | exact Good.at2 (by assumption) (Nd.cells (by assumption)) zm | exact Good.mem (by assumption) zm | refine⟨?_,?_⟩))):CW P n (.region id l.toArray true) Q E w:=CW.draws (od o) S hm hs hlen hl hc hS h
theorem CW.dx {id:Nat} {l:List Oper} (o1 o2:List Nat) (m r:Nat) (S:World→Prop) (h:RL P n l.toArray (fun _ a w=>RA P l.toArray Q (fun _=>True) ((od o2).map fun x=>(x.1,l.toArray.getD x.2 default)) a w) S ((od o1).map fun x=>(x.1,l.toArray.getD x.2 default)) E w.drew) (hm:P.follows .mixedOrders=true:=by exact mixed) (hs:Region.noSelect l.toArray=true:=by kernel_rfl) (hlen:Nat.beq ((od o2).length+(od o1).length) l.toArray.size=true:=by kernel_rfl) (hl:((od o1++od o2).all fun x=>Nat.blt x.2 l.toArray.size)=true:=by kernel_rfl) (hc1:chkP l.toArray m (tf m r) (od o1) (Array.replicate l.toArray.size false)=true:=by kernel_rfl) (hc2:chk l.toArray (od o2) (tf m r)=true:=by kernel_rfl) (hS:S w.drew:=by first | exact trivial | (repeat (first | exact trivial | exact Good.at2 (by assumption) (by assumption) zm | exact Good.at2 (by assumption) (Nd.cells (by assumption)) zm | exact Good.mem (by assumption) zm | refine⟨?_,?_⟩))):CW P n (.region id l.toArray true) Q E w:=CW.draws2 (od o1) (od o2) m (tf m r) S hm hs hlen hl hc1 hc2 hS h
theorem go (k:Nat) {X Y:Prop} (h:Y) (hh:Ste 0 Y→Ste k X:=by intro h;repeat (first | exact h | refine Ste.ad ?_ | refine Ste.su ?_ | refine Ste.pu ?_ | refine Ste.fi ?_ | refine Ste.lo ?_ | refine Ste.ls ?_ | refine Ste.lt ?_ | refine Ste.lu ?_ | refine Ste.dn ?_ | refine Ste.sq ?_ | refine Ste.pl ?_ | refine Ste.tr ?_ | refine Ste.pa ?_ | refine Ste.ca ?_ | refine Ste.sb ?_ | refine Ste.al ?_ | refine Ste.bu ?_ | refine Ste.bn ?_ | refine Ste.ln ?_ | refine Ste.bo ?_ | refine Ste.nx ?_ | refine Ste.bl ?_ | refine Ste.sk ?_ | refine Ste.ex ?_ | refine Ste.ys ?_ | refine Ste.no ?_)):X:=(hh ⟨h⟩).out
end
section
variable {P:Program} {n:Nat} {E:Env} {w:World} {fn:Func} {R:Ending→World→Prop} {v v2:Value}
theorem zr0 (h:R (.returned (whole [])) w) (hv:Gives P w E fn.results.toList []:=by exact rfl):∀ a,At n E a→bodyPost P fn R .ret a w:=ret hv h
theorem zr1 (h:R (.returned (whole [v])) w) (hv:Gives P w E fn.results.toList [v]:=by exact⟨_,_,rfl,rfl,rfl⟩):∀ a,At n E a→bodyPost P fn R .ret a w:=ret hv h
theorem zr2 (h:R (.returned (whole [v,v2])) w) (hv:Gives P w E fn.results.toList [v,v2]:=by exact⟨_,_,rfl,rfl,_,_,rfl,rfl,rfl⟩):∀ a,At n E a→bodyPost P fn R .ret a w:=ret hv h
theorem zl {s r:Res} {os:List Res} {t:TypeId} {b:Nat} {cs:Array Value} {el:TypeId} {fr:Nat × Nat} {k:Nat} (hb:r b=some (.cells cs el fr)) (ht:tyc P t=some (true,k):=by exact Fk.out) (hg:Good w s os:=by assumption) (hr:r∈os:=by simp) (hs:cs.size=k:=by exact rfl):(loadVar t ⟨b,0,none⟩).run P w = .ok (.agg cs) w:=loadVar_agg (P:=P) ht hb (hg.mem hr) hs
end
theorem Post.mq {w w':World} {s s' A:Res} {os:List Res} {Φ:Res→Res→Value→Prop} {v:Value} (hg:Good w' s' (A::os)) (h:Φ s' A v) (ha:Aux w w':=by repeat (first | assumption | exact Aux.refl _ | exact Aux.drew _ | refine Aux.trans ?_ (by first | assumption | exact Aux.drew _))) (hl:Le s s':=by repeat (first | assumption | exact Le.refl _ | refine Le.trans ?_ (by assumption))):Post w s os Φ (.returned v) w':=Post.mk hl hg ha h
theorem PostV.mq {w w':World} {s:Res} {os:List Res} {Φ:Value→Prop} {v:Value} (hg:Good w' s os) (h:Φ v) (ha:Aux w w':=by repeat (first | assumption | exact Aux.refl _ | exact Aux.drew _ | refine Aux.trans ?_ (by first | assumption | exact Aux.drew _))):PostV w s os Φ (.returned v) w':=PostV.mk hg ha h
end Go.Lw
namespace Go.Lw
open Go.Proofs
theorem mixed:Tryz.prog.follows .mixedOrders=true:=by kernel_rfl
abbrev nilSl:Value:= .slice none 0 0
end Go.Lw
namespace Go.Lw
structure Conf where
 voters:List Int
 learners:List Int
 deriving DecidableEq
structure Entry where
 index:Int
 term:Int
 kind:Int
 data:List Int
 conf:Conf
structure Snap where
 index:Int
 term:Int
 conf:Conf
 data:List Int
structure Range where
 lo:ByteArray
 hi:ByteArray
structure Record where
 offset:Int
 key:ByteArray
 value:List Int
 producer:Int
 seq:Int
def RConf:Res→List Value→Conf→Prop:=fun s vs x =>
 ∃ a c a' c',vs=[.slice a x.voters.length c,.slice a' x.learners.length c']∧Imm (RInt .i64) 1 s a c x.voters∧Imm (RInt .i64) 1 s a' c' x.learners
theorem RConf.up:Up RConf:=fun _ _ _ _ hl ⟨a,c,a',c',h,h1,h2⟩=>⟨a,c,a',c',h,h1.up (RInt.up _) hl,h2.up (RInt.up _) hl⟩
theorem RConf.one:One RConf:=fun _ _ _ ⟨a,c,a',c',h,_,_⟩ v hv=>by
 subst h
 simp only[List.mem_cons,List.not_mem_nil,or_false] at hv
 rcases hv with rfl | rfl<;>rfl
def REntry:Res→List Value→Entry→Prop:=fun s vs x =>
 ∃ a c a1 c1 a2 c2,vs=[.int .u64 x.index,.int .u64 x.term,.int .i64 x.kind,.slice a x.data.length c,.slice a1 x.conf.voters.length c1,.slice a2 x.conf.learners.length c2] ∧
  rng .u64 x.index∧rng .u64 x.term∧rng .i64 x.kind∧Imm (RInt .u8) 1 s a c x.data∧Imm (RInt .i64) 1 s a1 c1 x.conf.voters∧Imm (RInt .i64) 1 s a2 c2 x.conf.learners
theorem REntry.up:Up REntry:=fun _ _ _ _ hl ⟨a,c,a1,c1,a2,c2,h,r1,r2,r3,h1,h2,h3⟩=>⟨a,c,a1,c1,a2,c2,h,r1,r2,r3,h1.up (RInt.up _) hl,h2.up (RInt.up _) hl,h3.up (RInt.up _) hl⟩
theorem REntry.one:One REntry:=fun _ _ _ ⟨a,c,a1,c1,a2,c2,h,_⟩ v hv=>by
 subst h
 simp only[List.mem_cons,List.not_mem_nil,or_false] at hv
 rcases hv with rfl | rfl | rfl | rfl | rfl | rfl<;>rfl
def RSnap:Res→List Value→Snap→Prop:=fun s vs x =>
 ∃ a c a1 c1 a2 c2,vs=[.int .u64 x.index,.int .u64 x.term,.slice a1 x.conf.voters.length c1,.slice a2 x.conf.learners.length c2,.slice a x.data.length c] ∧
  rng .u64 x.index∧rng .u64 x.term∧Imm (RInt .u8) 1 s a c x.data∧Imm (RInt .i64) 1 s a1 c1 x.conf.voters∧Imm (RInt .i64) 1 s a2 c2 x.conf.learners
theorem RSnap.up:Up RSnap:=fun _ _ _ _ hl ⟨a,c,a1,c1,a2,c2,h,r1,r2,h1,h2,h3⟩=>⟨a,c,a1,c1,a2,c2,h,r1,r2,h1.up (RInt.up _) hl,h2.up (RInt.up _) hl,h3.up (RInt.up _) hl⟩
theorem RSnap.one:One RSnap:=fun _ _ _ ⟨a,c,a1,c1,a2,c2,h,_⟩ v hv=>by
 subst h
 simp only[List.mem_cons,List.not_mem_nil,or_false] at hv
 rcases hv with rfl | rfl | rfl | rfl | rfl<;>rfl
def RRange:Res→List Value→Range→Prop:=fun _ vs x=>vs=[.string x.lo,.string x.hi]∧x.lo.size≤maxLen∧x.hi.size≤maxLen
theorem RRange.up:Up RRange:=fun _ _ _ _ _ h=>h
theorem RRange.one:One RRange:=fun _ _ _ ⟨h,_⟩ v hv=>by
 subst h
 simp only[List.mem_cons,List.not_mem_nil,or_false] at hv
 rcases hv with rfl | rfl<;>rfl
def RRecord:Res→List Value→Record→Prop:=fun s vs x =>
 ∃ a c,vs=[.int .u64 x.offset,.string x.key,.slice a x.value.length c,.int .u64 x.producer,.int .u64 x.seq] ∧
  rng .u64 x.offset∧x.key.size≤maxLen∧Imm (RInt .u8) 1 s a c x.value∧rng .u64 x.producer∧rng .u64 x.seq
theorem RRecord.up:Up RRecord:=fun _ _ _ _ hl ⟨a,c,h,r1,r2,h1,r3,r4⟩=>⟨a,c,h,r1,r2,h1.up (RInt.up _) hl,r3,r4⟩
theorem RRecord.one:One RRecord:=fun _ _ _ ⟨a,c,h,_⟩ v hv=>by
 subst h
 simp only[List.mem_cons,List.not_mem_nil,or_false] at hv
 rcases hv with rfl | rfl | rfl | rfl | rfl<;>rfl
end Go.Lw
namespace Go.Lw
structure Log where
 base:Snap
 entries:List Entry
def p62:Int:=4611686018427387904
def emptyC (c:Conf):Bool:=decide (c.voters.length+c.learners.length=0)
def kindOk (e:Entry):Bool :=
 if e.kind=1 then emptyC e.conf && decide (e.data.length=0) else if e.kind=2 then emptyC e.conf else if e.kind=3 then decide (e.data.length=0) else false
def followsP (e:Entry) (i t:Int):Bool:=decide (e.index=i+1) && decide (t≤e.term) && decide (e.term<p62) && kindOk e
def runE:Int→Int→List Entry→Bool
 | _,_,[]=>true
 | i,t,e::l=>followsP e i t && runE e.index e.term l
def runP (i t:Int) (l:List Entry):Bool:=decide (i<p62) && decide ((l.length:Int)<p62-i) && runE i t l
def logOk (l:Log):Bool:=decide (l.base.term<p62) && runP l.base.index l.base.term l.entries
def lastP (l:Log):Int × Int:=match l.entries.getLast? with
 | some e=>(e.index,e.term)
 | none=>(l.base.index,l.base.term)
def up1 (x:Int):Int:=IntKind.u64.wrap (x+1)
def sup1 (x:Int):Int:=IntKind.i64.wrap (x+1)
theorem up1_eq {x:Int} (h0:0≤x) (h:x<18446744073709551615):up1 x=x+1:=by
 unfold up1;exact rng.wrap (k:= .u64) (by simp only[rng];omega)
theorem up1_rng (x:Int):rng .u64 (up1 x):=rng_wrap _ _
def searchP (p:Nat→Bool) (i j:Nat):Nat :=
 if h:i<j then if p ((i+j) / 2)=true then searchP p i ((i+j) / 2) else searchP p ((i+j) / 2+1) j else i
termination_by j-i
theorem searchP_le (p:Nat→Bool):∀ (k i j:Nat),j-i≤k→i≤j→searchP p i j≤j∧i≤searchP p i j
 | 0,i,j,hk,h=>by rw[searchP,dif_neg (by omega)];omega
 | k+1,i,j,hk,h=>by
  rw[searchP]
  split
  ·
   split
   ·
    have:=searchP_le p k i ((i+j) / 2) (by omega) (by omega);omega
   ·
    have:=searchP_le p k ((i+j) / 2+1) j (by omega) (by omega);omega
  ·
   omega
theorem searchP_at {p:Nat→Bool} {c n:Nat} (hp:∀ k,k<n→p k=decide (c≤k)):∀ (k i j:Nat),j-i≤k→i≤c→c≤j→j≤n→searchP p i j=c
 | 0,i,j,hk,h1,h2,h3=>by rw[searchP,dif_neg (by omega)];omega
 | k+1,i,j,hk,h1,h2,h3=>by
  rw[searchP]
  split
  ·
   rw[hp _ (by omega)]
   by_cases hc:c≤(i+j) / 2
   ·
    rw[if_pos (by simpa using hc)];exact searchP_at hp k _ _ (by omega) h1 hc (by omega)
   ·
    rw[if_neg (by simpa using hc)];exact searchP_at hp k _ _ (by omega) (by omega) h2 h3
  ·
   omega
def notBelow (l:List Entry) (i:Int) (k:Nat):Bool:=match l[k]? with | some e=>decide (i≤e.index) | none=>true
def placeP (l:Log) (i:Int):Nat:=searchP (notBelow l.entries i) 0 l.entries.length
theorem placeP_le (l:Log) (i:Int):placeP l i≤l.entries.length:=(searchP_le _ _ _ _ (Nat.le_refl _) (Nat.zero_le _)).1
def termP (l:Log) (i:Int):Int × Bool :=
 if i=l.base.index then (l.base.term,true) else match l.entries[placeP l i]? with
 | some e=>if e.index=i then (e.term,true) else (0,false)
 | none=>(0,false)
def confE:List Entry→Option (Conf × Int)
 | []=>none
 | e::l=>match confE l with
  | some r=>some r
  | none=>if e.kind=3 then some (e.conf,e.index) else none
def confP (l:Log):Conf × Int:=(confE l.entries).getD (l.base.conf,0)
def sliceP (l:Log) (frm most:Int):List Entry × Int :=
 if frm≤l.base.index∨up1 (lastP l).1<frm then ([],61) else ((l.entries.drop (placeP l frm)).take most.toNat,0)
def newerP (l:Log) (i t:Int):Bool:=if t≠(lastP l).2 then decide ((lastP l).2<t) else decide ((lastP l).1≤i)
def otherP (l:Log) (e:Entry):Bool:=(termP l e.index).2 && decide ((termP l e.index).1≠e.term)
def freshP (l:Log) (e:Entry):Bool:= !(termP l e.index).2 || otherP l e
def Snap.none:Snap:=⟨0,0,⟨[],[]⟩,[]⟩
def Log.none:Log:=⟨Snap.none,[]⟩
structure Merged where
 log:Log
 cut:Int
 came:List Entry
 err:Int
def mergeP (l:Log) (commit i t:Int) (more:List Entry):Merged :=
 if runP i t more=false then ⟨Log.none,0,[],1⟩
 else if (termP l i).2=false∨(termP l i).1≠t then ⟨Log.none,0,[],61⟩
 else if (more.any fun e=>decide (e.index≤commit) && otherP l e)=true then ⟨Log.none,0,[],62⟩
 else match more.findIdx? (freshP l) with
  | none=>⟨l,0,[],0⟩
  | some k =>
   let frm:=(more[k]?.map (·.index)).getD 0
   ⟨⟨l.base,l.entries.take (placeP l frm)++more.drop k⟩,if placeP l frm<l.entries.length then frm else 0,more.drop k,0⟩
theorem runE_get:∀ {l:List Entry} {i t:Int},runE i t l=true→∀ (k:Nat) (e:Entry),l[k]?=some e→e.index=i+1+k
 | [],_,_,_,k,e,hk=>by simp at hk
 | x::l,i,t,h,k,e,hk=>by
  simp only[runE,followsP,Bool.and_eq_true,decide_eq_true_eq] at h
  cases k with
  | zero=>simp at hk;subst hk;simpa using h.1.1.1.1
  | succ k =>
   have:=runE_get h.2 k e (by simpa using hk)
   rw[h.1.1.1.1] at this;omega
end Go.Lw
namespace Go.Lw
open Go.Proofs
abbrev Ints (s:Res) (a:Option Addr) (c:Nat) (xs:List Int):Prop:=Imm (RInt .i64) 1 s a c xs
abbrev OwnI (s A:Res) (a:Option Addr) (c:Nat) (xs:List Int):Prop:=Own (RInt .i64) 1 3 s A a c xs
theorem Clone_ct {w:World} {s r:Res} {os:List Res} {xs:List Int} {xa:Option Addr} {xc:Nat} (hg:Good w s os) (hr:r=s∨r∈os) (hx:xs=[]∨∃ ad,xa=some ad∧Row (RInt .i64) 1 r s ad xs) (hl:xs.length*8≤140737488355328) :
  Calls Tryz.prog 90 #[.slice xa xs.length xc] w (Post w s os fun s' A v=>s'=s∧∃ a c,v = .slice a xs.length c∧OwnI s' A a c xs):=by
 refine enter (l:=[.slice xa xs.length xc]) Tryz.func90 rfl Tryz.ntmps90 rfl ?_
 refine go 4 ?_
 refine CW.seq (CW.seq (CW.plain ?_))
 refine go 1 ?_
 refine RL.nilEq rfl rfl rfl rfl sl25.out rfl rfl ?_
 refine go 1 ?_
 refine CW.cond rfl (fun h=>?_) (fun h=>?_)
 ·
  refine CW.seq (CW.plain ?_)
  refine go 2 ?_
  have hnil:xs=[]:=by
   rcases hx with hx | ⟨ad,rfl,_⟩
   ·
    exact hx
   ·
    cases h
  subst hnil
  exact CW.ret (ret (vs:=[_]) ⟨_,_,rfl,rfl,rfl⟩ (Post.mk (Le.refl _) hg.nil (Aux.refl _) ⟨rfl,none,0,rfl,Own.nil _ _ _ _ _⟩))
 ·
  refine CW.skip ?_
  refine go 2 ?_
  refine RL.buildSlice rfl rfl rfl rfl sl25.out ze3.out rfl rfl rfl rfl hg ?_
  rintro b w1 hg1 hax1
  refine go 2 ?_
  obtain⟨news,hsrc,hch⟩:=Src.row (c:=xc) sl25.out hx (hg1.drop.has hr)
  refine RL.append (i:=0) (ys:=xs) rfl rfl rfl rfl sl25.out ze3.out rfl (by first | exact RInt.one _ | exact RStr.one | exact RBool.one | assumption) rfl rfl hg1 rfl (Own.fresh (R:=RInt .i64) (sz:=1) (el:=3) (s:=s) (b:=b)) (hsrc) (hch) ((by simp;omega)) (by omega) ?_
  rintro a2 c2 A2 w2 hg2 hown2 hax2 hkeep
  refine go 3 ?_
  exact CW.ret (ret (vs:=[_]) ⟨_,_,rfl,rfl,rfl⟩ (Post.mk (Le.refl _) hg2 (hax1.trans hax2) ⟨rfl,a2,c2,rfl,hown2⟩))
theorem Index_ct {w:World} {s:Res} {os:List Res} {xs:List Int} {xa:Option Addr} {xc:Nat} {v:Int} (hg:Good w s os) (hx:Ints s xa xc xs) :
  Calls Tryz.prog 127 #[.slice xa xs.length xc,i64 v] w (PostV w s os fun r=>∃ i:Int,r=i64 i∧Lw.rng .i64 i∧(0≤i↔v∈xs)):=by
 refine enter (l:=[.slice xa xs.length xc,i64 v]) Tryz.func127 rfl Tryz.ntmps127 rfl ?_
 refine go 4 ?_
 refine CW.seq (CW.seq (CW.plain ?_))
 refine go 4 ?_
 have hlen:=hx.le_max
 simp only[maxLen] at hlen
 refine CW.block (CW.loop (σ:=Nat) (fun j E w'=>w'=w∧∃ k:Nat,E=[(0,.slice xa xs.length xc),(1,i64 v),(7,i64 xs.length),(8,i64 k)]∧k+j=xs.length∧v∉xs.take k)
  (fun j=>j) xs.length [(0,.slice xa xs.length xc),(1,i64 v),(7,i64 xs.length),(8,i64 0)] ⟨rfl,rfl,rfl,rfl,trivial⟩ ⟨rfl,0,rfl,by omega,by simp⟩ ?_)
 rintro j E w' ⟨rfl,k,rfl,hk,hno⟩
 refine go 4 ?_
 refine CW.seq (CW.test rfl (fun h=>?_) (fun h=>?_))
 ·
  refine CW.skip ?_
  have hkl:k<xs.length:=by omega
  refine CW.seq (CW.block (CW.seq (CW.plain ?_)))
  refine go 8 ?_
  refine RL.idx rfl rfl rfl rfl sl25.out rfl rfl (hx) (by omega) (by omega) ?_
  rintro q vs hvl hH ⟨rfl,hr'⟩
  refine RL.load rfl rfl rfl rfl ty3.out rfl (hH) (hg.sh) rfl ?_
  refine go 2 ?_
  refine CW.eq rfl (fun he=>?_) (fun he=>?_)
  ·
   refine CW.seq (CW.plain ?_)
   refine go 3 ?_
   have hm:v∈xs:=by subst he;exact List.getElem_mem _
   exact CW.ret (ret (vs:=[_]) ⟨_,_,rfl,rfl,rfl⟩ (PostV.mk hg (Aux.refl _) ⟨k,rfl,by simp only[Lw.rng];omega,by simp[hm]⟩))
  ·
   refine CW.skip ?_
   refine go 4 ?_
   cases j with
   | zero=>omega
   | succ j =>
    refine fun ac ha=>⟨j,[(0,.slice xa xs.length xc),(1,i64 v),(7,i64 xs.length),(8,i64 ((k:Int)+1))],ha.sub ⟨rfl,rfl,rfl,rfl,trivial⟩,⟨rfl,k+1,rfl,by omega,?_⟩,Nat.lt_succ_self j⟩
    rw[List.take_succ_eq_append_getElem hkl]
    simp only[List.mem_append,List.mem_singleton,not_or]
    exact⟨hno,he⟩
 ·
  refine CW.exit (CW.seq (CW.plain ?_))
  have hkl:k=xs.length:=by omega
  refine go 2 ?_
  rw[hkl,List.take_length] at hno
  exact CW.ret (ret (vs:=[_]) ⟨_,_,rfl,rfl,rfl⟩ (PostV.mk hg (Aux.refl _) ⟨-1,rfl,by simp only[Lw.rng];omega,by simp[hno]⟩))
theorem Contains_ct {w:World} {s:Res} {os:List Res} {xs:List Int} {xa:Option Addr} {xc:Nat} {v:Int} (hg:Good w s os) (hx:Ints s xa xc xs) :
  Calls Tryz.prog 98 #[.slice xa xs.length xc,i64 v] w (PostV w s os fun r=>r = .bool (decide (v∈xs))):=by
 refine enter (l:=[.slice xa xs.length xc,i64 v]) Tryz.func98 rfl Tryz.ntmps98 rfl ?_
 refine go 9 ?_
 refine zw (Index_ct hg hx) ?_
 rintro r w1 hg1 hax1 ⟨i,rfl,hr,hm⟩
 refine go 4 ?_
 exact CW.ret (ret (vs:=[_]) ⟨_,_,rfl,rfl,rfl⟩ (PostV.mk hg1 hax1 (congrArg Value.bool (by simp only[hm]))))
end Go.Lw
namespace Go.Lw
def msort (xs:List Int):List Int:=xs.mergeSort fun x y=>decide (x≤y)
theorem msort_perm (xs:List Int):(msort xs).Perm xs:=List.mergeSort_perm _ _
theorem msort_sorted (xs:List Int):(msort xs).Pairwise (· ≤ ·):=by
 have:=List.pairwise_mergeSort (le:=fun x y:Int=>decide (x≤y)) (fun a b c h1 h2=>by simp at *;omega) (fun a b=>by simp;omega) xs
 exact this.imp (by simp)
theorem msort_length (xs:List Int):(msort xs).length=xs.length:=(msort_perm xs).length_eq
theorem take_put (cs:Array Value) (ts:List Int) (h:ts.length≤cs.size):(Go.Sort.putCells (Value.int .i64) 0 ts.toArray cs).toList.take ts.length=ts.map (Value.int .i64):=by
 refine List.ext_getElem? fun j=>?_
 by_cases hj:j<ts.length
 ·
  have:j<cs.size:=by omega
  simp[Go.Sort.putCells,hj,this]
 ·
  rw[List.getElem?_eq_none (by simp;omega),List.getElem?_eq_none (by simp;omega)]
theorem Good.putRow {w:World} {s A:Res} {os:List Res} {g n:Nat} {cs:Array Value} {el:TypeId} {ts:List Int} {ns:Array Obj} (hg:Good w s (A::os)) (hA:A g=some (.cells cs el (0,0))) :
  Good (Go.Sort.grow (Go.Sort.putRow (Value.int .i64) (Go.Sort.ahead w n) g 0 ts.toArray) ns) s (A.put g (.cells (Go.Sort.putCells (Value.int .i64) 0 ts.toArray cs) el (0,0))::os) ∧
  Aux w (Go.Sort.grow (Go.Sort.putRow (Value.int .i64) (Go.Sort.ahead w n) g 0 ts.toArray) ns):=by
 have hw:=hg.1 g _ hA
 have hlt:g<w.heap.size:=hg.1.lt (by rw[hA];simp)
 refine⟨hg.write hA ?_ (fun k hk hne=>?_),⟨rfl,rfl,rfl,?_⟩⟩
 ·
  show ((w.heap.modify g (Go.Sort.onCells (Go.Sort.putCells (Value.int .i64) 0 ts.toArray)))++ns)[g]?=_
  rw[Array.getElem?_append_left (by simpa using hlt),Array.getElem?_modify,if_pos rfl,hw]
  rfl
 ·
  show ((w.heap.modify g (Go.Sort.onCells (Go.Sort.putCells (Value.int .i64) 0 ts.toArray)))++ns)[k]?=_
  rw[Array.getElem?_append_left (by simpa using hk),Array.getElem?_modify,if_neg (Ne.symm hne)]
 ·
  simp[Go.Sort.grow,Go.Sort.putRow,Go.Sort.mapBlock,Go.Sort.ahead]
end Go.Lw
namespace Go.Proofs
open Go.Shelf
def Tryz.compactI_ren:Go.Shelf.Ren:=⟨fun | 43=>126 | n=>n,fun | 22=>25 | 23=>3 | 3=>3 | 4=>4 | 0=>0 | n=>n,fun | n=>n⟩
theorem Tryz.compactI:SlLaysN.n43 Tryz.prog Tryz.compactI_ren where
 mixed:=by kernel_rfl
 f43:=⟨Tryz.f126.name,by kernel_rfl,Tryz.func126.trans (congrArg some (by kernel_rfl))⟩
 t0:=Tryz.underlying0
 a0:=Tryz.isAgg0
 z0:=Tryz.sizeOf0
 v0:=Tryz.zeroValue0
 t3:=Tryz.underlying3
 a3:=Tryz.isAgg3
 z3:=Tryz.sizeOf3
 v3:=Tryz.zeroValue3
 t4:=Tryz.underlying4
 a4:=Tryz.isAgg4
 z4:=Tryz.sizeOf4
 v4:=Tryz.zeroValue4
 t22:=Tryz.underlying25
 a22:=Tryz.isAgg25
 z22:=Tryz.sizeOf25
 v22:=Tryz.zeroValue25
 t23:=Tryz.underlying3
 a23:=Tryz.isAgg3
 z23:=Tryz.sizeOf3
 v23:=Tryz.zeroValue3
 i23:=by kernel_rfl
end Go.Proofs
namespace Go.Lw
open Go.Proofs
theorem Compact_plain (blk off cap:Nat) (zs:List Int) (w:World) (hH:Go.Sort.Holds (Value.int .i64) w blk off zs.toArray) (hsz:zs.length≤9223372036854775807) (hcap:zs.length≤cap) :
  Calls Tryz.prog 126 #[.slice (some ⟨blk,off,none⟩) zs.length cap] w fun e w'=>e = .returned (.slice (some ⟨blk,off,none⟩) (Lib.compact zs).length cap) ∧
   ∃ q,w'=Go.Sort.putRow (Value.int .i64) (Go.Sort.ahead w q) blk off (Lib.compact zs++List.replicate (zs.length-(Lib.compact zs).length) 0).toArray :=
 AnyG.slices_Compact_int Tryz.compactI blk off cap zs w hH hsz hcap
theorem compact_le (xs:List Int):(Lib.compact xs).length≤xs.length:=by
 simp only[Lib.compact,Lib.compactUpTo,List.length_map]
 exact Nat.le_trans (List.length_filter_le _ _) (by simp)
theorem compact_mem_imp {xs:List Int} {x:Int} (h:x∈Lib.compact xs):x∈xs:=by
 simp only[Lib.compact,Lib.compactUpTo,List.mem_map,List.mem_filter,List.mem_range] at h
 obtain⟨j,⟨hj,_⟩,rfl⟩:=h
 simp[hj]
theorem compact_mem {xs:List Int} {x:Int}:x∈Lib.compact xs↔x∈xs:=by
 refine⟨compact_mem_imp,fun h=>?_⟩
 have key:∀ j,(hj:j<xs.length)→∃ i,i<xs.length∧Lib.keeps xs.toArray i=true∧xs.toArray[i]! = xs[j]:=by
  intro j
  induction j with
  | zero=>exact fun hj=>⟨0,hj,by simp[Lib.keeps],by simp[hj]⟩
  | succ j ih =>
   intro hj
   by_cases he:xs.toArray[j+1]! = xs.toArray[j]!
   ·
    obtain⟨i,h1,h2,h3⟩:=ih (by omega)
    refine⟨i,h1,h2,h3.trans ?_⟩
    have hj':j<xs.length:=by omega
    simpa [hj,hj'] using he.symm
   ·
    exact⟨j+1,hj,by simpa [Lib.keeps] using he,by simp[hj]⟩
 obtain⟨j,hj,rfl⟩:=List.getElem_of_mem h
 obtain⟨i,h1,h2,h3⟩:=key j hj
 simp only[Lib.compact,Lib.compactUpTo,List.mem_map,List.mem_filter,List.mem_range]
 exact⟨i,⟨h1,h2⟩,h3⟩
theorem compact_strict {xs:List Int} (h:xs.Pairwise (· ≤ ·)):(Lib.compact xs).Pairwise (· < ·):=by
 simp only[Lib.compact,Lib.compactUpTo,List.pairwise_map]
 rw[List.pairwise_filter]
 have h0:(List.range xs.length).Pairwise (· < ·):=List.pairwise_lt_range
 rw[List.pairwise_iff_getElem] at h0 ⊢
 intro i j hi hj hij _ hk
 have hi':i<xs.length:=by simpa using hi
 have hj':j<xs.length:=by simpa using hj
 simp only[List.getElem_range] at *
 have hp:=List.pairwise_iff_getElem.1 h
 have h1:xs[i]≤xs[j-1]:=by
  by_cases e:i=j-1
  ·
   subst e;exact Int.le_refl _
  ·
   exact hp i (j-1) hi' (by omega) (by omega)
 have h2:xs[j-1]≤xs[j]:=hp (j-1) j (by omega) hj' (by omega)
 have hj1:j-1<xs.length:=by omega
 have h3:xs[j]≠xs[j-1]:=by
  have:¬ j=0:=by omega
  simpa [Lib.keeps,this,hj',hj1] using hk
 simp only[List.getElem!_toArray,hi',hj',getElem!_pos]
 omega
def uniq (xs:List Int):List Int:=Lib.compact (msort xs)
theorem uniq_mem {xs:List Int} {x:Int}:x∈uniq xs↔x∈xs:=by rw[uniq,compact_mem];exact (msort_perm xs).mem_iff
theorem uniq_strict (xs:List Int):(uniq xs).Pairwise (· < ·):=compact_strict (msort_sorted xs)
theorem uniq_nodup (xs:List Int):(uniq xs).Nodup:=(uniq_strict xs).imp (fun h=>by omega)
theorem uniq_le (xs:List Int):(uniq xs).length≤xs.length:=by
 have:=compact_le (msort xs)
 rwa[msort_length] at this
theorem Compact_ct {w:World} {s A:Res} {os:List Res} {xs:List Int} {a:Option Addr} {c:Nat} (hg:Good w s (A::os)) (ho:OwnI s A a c xs) :
  Calls Tryz.prog 126 #[.slice a xs.length c] w (Post w s os fun s' A' r=>s'=s∧r = .slice a (Lib.compact xs).length c∧OwnI s' A' a c (Lib.compact xs)):=by
 have hmx:=ho.le_max
 simp only[maxLen] at hmx
 rcases ho with ⟨rfl,rfl,rfl⟩ | ⟨g,cs,rfl,hA,hl,hc,hcs,hch⟩
 ·
  refine (AnyG.slices_Compact_int_empty Tryz.compactI none 0 w).mono ?_
  rintro e w' ⟨rfl,rfl⟩
  exact Post.mq hg ⟨rfl,rfl,.inl ⟨rfl,rfl,rfl⟩⟩
 ·
  obtain⟨h1,h2⟩:=int_chunks hch
  rw[Nat.mul_one] at h1 hcs
  have hw:=hg.1 g _ hA
  have hH:Go.Sort.Holds (Value.int .i64) w g 0 xs.toArray:=by
   intro j hj
   have hj':j<xs.length:=by simpa using hj
   have e:cs.toList[j]?=(xs.map (Value.int .i64))[j]?:=by
    rw[←h1,List.getElem?_take,if_pos hj']
   have e2:cs[j]?=some (Value.int .i64 xs[j]):=by
    rw[←Array.getElem?_toList,e];simp[hj']
   have e3:xs.toArray[j]! = xs[j]:=by simp[hj']
   rw[e3]
   exact⟨by simp[World.cell?,hw,e2],by simp[World.frozen?,hw]⟩
  refine (Compact_plain g 0 c xs w hH (by omega) hl).mono ?_
  rintro e w' ⟨rfl,n,rfl⟩
  have hle:=compact_le xs
  obtain⟨hg',hax⟩:=Good.putRow (n:=n) (ts:=Lib.compact xs++List.replicate (xs.length-(Lib.compact xs).length) 0) (ns:= #[]) hg hA
  rw[Go.Sort.grow_empty] at hg' hax
  refine Post.mq hg' ⟨rfl,rfl,.inr ⟨g,Go.Sort.putCells (Value.int .i64) 0 (Lib.compact xs++List.replicate (xs.length-(Lib.compact xs).length) 0).toArray cs,rfl,put_same _ _ _,by omega,hc,by simp[Go.Sort.putCells];omega,?_⟩⟩
  have ht:=take_put cs (Lib.compact xs++List.replicate (xs.length-(Lib.compact xs).length) 0) (by simp;omega)
  have ht2:=congrArg (List.take (Lib.compact xs).length) ht
  rw[List.take_take,Nat.min_eq_left (by simp)] at ht2
  rw[Nat.mul_one,ht2,List.map_append,List.take_left' (by simp)]
  exact chunks_int fun x hx=>h2 x (compact_mem_imp hx)
theorem Compact_ct' {w:World} {s A:Res} {os:List Res} {xs:List Int} {a:Option Addr} {c m:Nat} (hg:Good w s (A::os)) (ho:OwnI s A a c xs) (hm:m=xs.length) :
  Calls Tryz.prog 126 #[.slice a m c] w (Post w s os fun s' A' r=>s'=s∧r = .slice a (Lib.compact xs).length c∧OwnI s' A' a c (Lib.compact xs)):=by
 subst hm
 exact Compact_ct hg ho
end Go.Lw
namespace Go.Proofs
open Go.Shelf
def Tryz.sortI_ren:Go.Shelf.Ren:=⟨fun | 5=>163 | 8=>178 | 7=>177 | 19=>189 | 20=>190 | 10=>181 | 11=>182 | 12=>183 | 13=>184 | 14=>185 | 15=>186 | 16=>146 | 17=>187 | 18=>188 | 30=>201 | 31=>202 | 32=>203 | 33=>204 | 34=>205 | 35=>167 | 40=>210 | n=>n,fun | 23=>25 | 25=>3 | 3=>3 | 32=>200 | 22=>25 | 0=>0 | 44=>213 | 46=>22 | 4=>4 | 36=>207 | 35=>206 | 41=>190 | 5=>5 | 9=>9 | 53=>221 | 57=>224 | 63=>229 | 64=>230 | n=>n,fun | n=>n⟩
theorem Tryz.sortI:SlLaysM.n5 Tryz.prog Tryz.sortI_ren where
 mixed:=by kernel_rfl
 f5:=⟨Tryz.f163.name,by kernel_rfl,Tryz.func163.trans (congrArg some (by kernel_rfl))⟩
 f7:=⟨Tryz.f177.name,by kernel_rfl,Tryz.func177.trans (congrArg some (by kernel_rfl))⟩
 f8:=Tryz.func178.trans (congrArg some (by kernel_rfl))
 f10:=⟨Tryz.f181.name,by kernel_rfl,Tryz.func181.trans (congrArg some (by kernel_rfl))⟩
 f11:=⟨Tryz.f182.name,by kernel_rfl,Tryz.func182.trans (congrArg some (by kernel_rfl))⟩
 f12:=⟨Tryz.f183.name,by kernel_rfl,Tryz.func183.trans (congrArg some (by kernel_rfl))⟩
 f13:=⟨Tryz.f184.name,by kernel_rfl,Tryz.func184.trans (congrArg some (by kernel_rfl))⟩
 f14:=⟨Tryz.f185.name,by kernel_rfl,Tryz.func185.trans (congrArg some (by kernel_rfl))⟩
 f15:=⟨Tryz.f186.name,by kernel_rfl,Tryz.func186.trans (congrArg some (by kernel_rfl))⟩
 f16:=⟨Tryz.f146.name,by kernel_rfl,Tryz.func146.trans (congrArg some (by kernel_rfl))⟩
 f17:=⟨Tryz.f187.name,by kernel_rfl,Tryz.func187.trans (congrArg some (by kernel_rfl))⟩
 f18:=⟨Tryz.f188.name,by kernel_rfl,Tryz.func188.trans (congrArg some (by kernel_rfl))⟩
 f19:=Tryz.func189.trans (congrArg some (by kernel_rfl))
 f20:=Tryz.func190.trans (congrArg some (by kernel_rfl))
 f30:=⟨Tryz.f201.name,by kernel_rfl,Tryz.func201.trans (congrArg some (by kernel_rfl))⟩
 f31:=Tryz.func202.trans (congrArg some (by kernel_rfl))
 f32:=Tryz.func203.trans (congrArg some (by kernel_rfl))
 f33:=⟨Tryz.f204.name,by kernel_rfl,Tryz.func204.trans (congrArg some (by kernel_rfl))⟩
 f34:=⟨Tryz.f205.name,by kernel_rfl,Tryz.func205.trans (congrArg some (by kernel_rfl))⟩
 f35:=⟨Tryz.f167.name,by kernel_rfl,Tryz.func167.trans (congrArg some (by kernel_rfl))⟩
 f40:=⟨Tryz.f210.name,by kernel_rfl,Tryz.func210.trans (congrArg some (by kernel_rfl))⟩
 t0:=Tryz.underlying0
 a0:=Tryz.isAgg0
 z0:=Tryz.sizeOf0
 v0:=Tryz.zeroValue0
 t3:=Tryz.underlying3
 a3:=Tryz.isAgg3
 z3:=Tryz.sizeOf3
 v3:=Tryz.zeroValue3
 t4:=Tryz.underlying4
 a4:=Tryz.isAgg4
 z4:=Tryz.sizeOf4
 v4:=Tryz.zeroValue4
 t5:=Tryz.underlying5
 a5:=Tryz.isAgg5
 z5:=Tryz.sizeOf5
 v5:=Tryz.zeroValue5
 t9:=Tryz.underlying9
 a9:=Tryz.isAgg9
 z9:=Tryz.sizeOf9
 v9:=Tryz.zeroValue9
 t22:=Tryz.underlying25
 a22:=Tryz.isAgg25
 z22:=Tryz.sizeOf25
 v22:=Tryz.zeroValue25
 t23:=Tryz.underlying25
 a23:=Tryz.isAgg25
 z23:=Tryz.sizeOf25
 v23:=Tryz.zeroValue25
 t25:=Tryz.underlying3
 a25:=Tryz.isAgg3
 z25:=Tryz.sizeOf3
 v25:=Tryz.zeroValue3
 t32:=Tryz.underlying200
 a32:=Tryz.isAgg200
 z32:=Tryz.sizeOf200
 v32:=Tryz.zeroValue200
 t35:=Tryz.underlying206
 a35:=Tryz.isAgg206
 z35:=Tryz.sizeOf206
 v35:=Tryz.zeroValue206
 t36:=Tryz.underlying207
 a36:=Tryz.isAgg207
 z36:=Tryz.sizeOf207
 v36:=Tryz.zeroValue207
 t41:=Tryz.underlying190
 a41:=Tryz.isAgg190
 z41:=Tryz.sizeOf190
 v41:=Tryz.zeroValue190
 t44:=Tryz.underlying213
 a44:=Tryz.isAgg213
 z44:=Tryz.sizeOf213
 v44:=Tryz.zeroValue213
 t46:=Tryz.underlying22
 a46:=Tryz.isAgg22
 z46:=Tryz.sizeOf22
 v46:=Tryz.zeroValue22
 t53:=Tryz.underlying221
 a53:=Tryz.isAgg221
 z53:=Tryz.sizeOf221
 v53:=Tryz.zeroValue221
 t57:=Tryz.underlying224
 a57:=Tryz.isAgg224
 z57:=Tryz.sizeOf224
 v57:=Tryz.zeroValue224
 t63:=Tryz.underlying229
 a63:=Tryz.isAgg229
 z63:=Tryz.sizeOf229
 v63:=Tryz.zeroValue229
 t64:=Tryz.underlying230
 a64:=Tryz.isAgg230
 z64:=Tryz.sizeOf230
 v64:=Tryz.zeroValue230
end Go.Proofs
namespace Go.Lw
open Go.Proofs
theorem Sort_plain (blk off cap:Nat) (zs:List Int) (w:World) (hH:Go.Sort.Holds (Value.int .i64) w blk off zs.toArray) (hblk:blk<w.heap.size) (hsz:zs.length<4611686018427387904) :
  Calls Tryz.prog 163 #[.slice (some ⟨blk,off,none⟩) zs.length cap] w fun e w' =>
   e = .returned (.tuple #[])∧∃ n os,w'=Go.Sort.grow (Go.Sort.putRow (Value.int .i64) (Go.Sort.ahead w n) blk off (msort zs).toArray) os :=
 calls_of_every_depth fun D=>AnySM.slices_Sort_int_in Tryz.sortI D blk off cap zs w hH hblk hsz
theorem Sort_ct {w:World} {s A:Res} {os:List Res} {xs:List Int} {a:Option Addr} {c:Nat} {el:TypeId} (hg:Good w s (A::os)) (ho:Own (RInt .i64) 1 el s A a c xs) (hsz:xs.length*8≤140737488355328) :
  Calls Tryz.prog 163 #[.slice a xs.length c] w (Post w s os fun s' A' r=>r = .tuple #[]∧s'=s∧Own (RInt .i64) 1 el s' A' a c (msort xs)):=by
 rcases ho with ⟨rfl,rfl,rfl⟩ | ⟨g,cs,rfl,hA,hl,hc,hcs,hch⟩
 ·
  refine (AnyM.slices_Sort_int_none Tryz.sortI none 0 w).mono ?_
  rintro e w' ⟨rfl,rfl⟩
  exact Post.mq hg ⟨rfl,rfl,.inl ⟨rfl,rfl,by simp[msort]⟩⟩
 ·
  obtain⟨h1,h2⟩:=int_chunks hch
  rw[Nat.mul_one] at h1 hcs
  have hw:=hg.1 g _ hA
  have hlt:g<w.heap.size:=hg.1.lt (by rw[hA];simp)
  have hH:Go.Sort.Holds (Value.int .i64) w g 0 xs.toArray:=by
   intro j hj
   have hj':j<xs.length:=by simpa using hj
   have e:cs.toList[j]?=(xs.map (Value.int .i64))[j]?:=by
    rw[←h1,List.getElem?_take,if_pos hj']
   have e2:cs[j]?=some (Value.int .i64 xs[j]):=by
    rw[←Array.getElem?_toList,e];simp[hj']
   have e3:xs.toArray[j]! = xs[j]:=by simp[hj']
   rw[e3]
   exact⟨by simp[World.cell?,hw,e2],by simp[World.frozen?,hw]⟩
  refine (Sort_plain g 0 c xs w hH hlt (by omega)).mono ?_
  rintro e w' ⟨rfl,n,ns,rfl⟩
  obtain⟨hg',hax⟩:=Good.putRow (n:=n) (ts:=msort xs) (ns:=ns) hg hA
  refine Post.mq hg' ⟨rfl,rfl,.inr ⟨g,Go.Sort.putCells (Value.int .i64) 0 (msort xs).toArray cs,rfl,put_same _ _ _,by rw[msort_length];exact hl,hc,by simp[Go.Sort.putCells];omega,?_⟩⟩
  rw[Nat.mul_one,take_put cs (msort xs) (by rw[msort_length];omega)]
  exact chunks_int fun x hx=>h2 x ((msort_perm xs).mem_iff.1 hx)
end Go.Lw
namespace Go.Lw
open Go.Proofs
def most (n:Int):Int:=if n<1 then 0 else n / 2+1
theorem Most_ct {w:World} {s:Res} {os:List Res} {n:Int} (hg:Good w s os) (hn:rng .i64 n) :
  Calls Tryz.prog 166 #[i64 n] w (PostV w s os fun r=>r=i64 (most n)):=by
 simp only[rng] at hn
 refine enter (l:=[i64 n]) Tryz.func166 rfl Tryz.ntmps166 rfl ?_
 refine go 4 ?_
 refine CW.seq (CW.seq (CW.plain ?_))
 refine go 3 ?_
 refine CW.test rfl (fun h=>?_) (fun h=>?_)
 ·
  refine CW.seq (CW.plain ?_)
  refine go 2 ?_
  exact CW.ret (ret (vs:=[_]) ⟨_,_,rfl,rfl,rfl⟩ (PostV.mk hg (Aux.refl _) (by rw[most,if_pos h];rfl)))
 ·
  refine CW.skip ?_
  refine go 3 ?_
  refine RL.quo rfl rfl rfl rfl rfl rfl ((by omega)) ((by decide)) ((by simp only[rng];omega)) ?_
  refine go 3 ?_
  exact CW.ret (ret (vs:=[_]) ⟨_,_,rfl,rfl,rfl⟩ (PostV.mk hg (Aux.refl _) (by rw[most,if_neg h];rfl)))
theorem countP_take {α:Type} (p:α→Bool) (xs:List α) (k:Nat) (hk:k<xs.length):(xs.take (k+1)).countP p=(xs.take k).countP p+if p xs[k] then 1 else 0:=by
 rw[List.take_succ_eq_append_getElem hk,List.countP_append,List.countP_singleton]
theorem count_ct {w:World} {s:Res} {os:List Res} {xs:List Int} {xa:Option Addr} {xc g:Nat} {cap:Array Value} {p:Int→Bool} (hg:Good w s os) (hx:Ints s xa xc xs) (hc:callable Tryz.prog g=true)
  (hp:∀ x∈xs,∀ w',Good w' s os→Calls Tryz.prog g (#[i64 x]++cap) w' (PostV w' s os fun r=>r = .bool (p x))) :
  Calls Tryz.prog 172 #[.slice xa xs.length xc,.func (.func g) #[] cap] w (PostV w s os fun r=>r=i64 (xs.countP p)):=by
 refine enter (l:=[.slice xa xs.length xc,.func (.func g) #[] cap]) Tryz.func172 rfl Tryz.ntmps172 rfl ?_
 refine go 8 ?_
 refine CW.seq (CW.seq (CW.plain ?_))
 refine go 4 ?_
 have hlen:=hx.le_max
 simp only[maxLen] at hlen
 refine CW.block (CW.loop (σ:=Nat) (fun j E w'=>Good w' s os∧Aux w w'∧∃ k:Nat,E=[(1,.func (.func g) #[] cap),(5,i64 ((xs.take k).countP p)),(8,.slice xa xs.length xc),(9,i64 xs.length),(10,i64 k)]∧k+j=xs.length)
  (fun j=>j) xs.length [(1,.func (.func g) #[] cap),(5,i64 0),(8,.slice xa xs.length xc),(9,i64 xs.length),(10,i64 0)] ⟨rfl,rfl,rfl,rfl,rfl,trivial⟩ ⟨hg,Aux.refl _,0,rfl,by omega⟩ ?_)
 rintro j E w1 ⟨hg1,hax1,k,rfl,hk⟩
 refine go 4 ?_
 refine CW.seq (CW.test rfl (fun h=>?_) (fun h=>?_))
 ·
  refine CW.skip ?_
  have hkl:k<xs.length:=by omega
  have hcl:(xs.take k).countP p≤k:=Nat.le_trans List.countP_le_length (by simp;omega)
  refine CW.seq (CW.block (CW.seq (CW.plain ?_)))
  refine RL.idx rfl rfl rfl rfl sl25.out rfl rfl (hx) (by omega) (by omega) ?_
  rintro q vs hvl hH ⟨rfl,hr'⟩
  refine RL.load rfl rfl rfl rfl ty3.out rfl (hH) (hg1.sh) rfl ?_
  refine go 6 ?_
  refine RL.callF rfl rfl rfl rfl rfl rfl hc (hp xs[k] (List.getElem_mem hkl) w1 hg1) ?_
  rintro e w2 ⟨v2,rfl,hg2,hax2,rfl⟩
  refine⟨_,rfl,trivial,?_⟩
  refine go 1 ?_
  refine CW.cond rfl (fun hb=>?_) (fun hb=>?_)
  ·
   refine CW.plain ?_
   refine go 8 ?_
   cases j with
   | zero=>omega
   | succ j =>
    refine fun ac ha=>⟨j,[(1,.func (.func g) #[] cap),(5,i64 ((xs.take (k+1)).countP p)),(8,.slice xa xs.length xc),(9,i64 xs.length),(10,i64 ((k:Int)+1))],ha.sub ⟨rfl,by rw[countP_take p xs k hkl,if_pos hb];rfl,rfl,rfl,rfl,trivial⟩,⟨hg2,hax1.trans hax2,k+1,rfl,by omega⟩,Nat.lt_succ_self j⟩
  ·
   refine CW.skip ?_
   refine go 4 ?_
   cases j with
   | zero=>omega
   | succ j =>
    refine fun ac ha=>⟨j,[(1,.func (.func g) #[] cap),(5,i64 ((xs.take (k+1)).countP p)),(8,.slice xa xs.length xc),(9,i64 xs.length),(10,i64 ((k:Int)+1))],ha.sub ⟨rfl,by rw[countP_take p xs k hkl,hb];rfl,rfl,rfl,rfl,trivial⟩,⟨hg2,hax1.trans hax2,k+1,rfl,by omega⟩,Nat.lt_succ_self j⟩
 ·
  refine CW.exit (CW.seq (CW.plain ?_))
  have hkl:k=xs.length:=by omega
  subst hkl
  refine go 3 ?_
  exact CW.ret (ret (vs:=[_]) ⟨_,_,rfl,rfl,rfl⟩ (PostV.mk hg1 hax1 (by rw[List.take_length];rfl)))
theorem once_ct {w:World} {s:Res} {os:List Res} {xs:List Int} {xa:Option Addr} {xc:Nat} (hg:Good w s os) (hx:Ints s xa xc xs) (hl:xs.length*8≤140737488355328) :
  Calls Tryz.prog 164 #[.slice xa xs.length xc] w (Post w s os fun s' A v=>s'=s∧∃ a c,v = .slice a (uniq xs).length c∧OwnI s' A a c (uniq xs)):=by
 refine enter (l:=[.slice xa xs.length xc]) Tryz.func164 rfl Tryz.ntmps164 rfl ?_
 refine go 8 ?_
 refine zc (Clone_ct hg (.inl rfl) hx.2.2 hl) ?_
 rintro v1 s1 A1 w1 hle1 hg1 hax1 ⟨rfl,a1,c1,rfl,ho1⟩
 refine go 7 ?_
 refine zc (Sort_ct hg1 ho1 hl) ?_
 rintro v2 s2 A2 w2 hle2 hg2 hax2 ⟨rfl,rfl,ho2⟩
 refine go 6 ?_
 refine zc (Compact_ct' hg2 ho2 (msort_length xs).symm) ?_
 rintro v3 s3 A3 w3 hle3 hg3 hax3 ⟨rfl,rfl,ho3⟩
 refine go 3 ?_
 exact CW.ret (ret (vs:=[_]) ⟨_,_,rfl,rfl,rfl⟩ (Post.mk (Le.refl _) hg3 (hax1.trans (hax2.trans hax3)) ⟨rfl,a1,c1,rfl,ho3⟩))
end Go.Lw
namespace Go.Lw
open Go.Proofs
def hasP (v ys:List Int):Bool:=decide (0<v.length) && decide (most v.length≤(v.countP fun x=>decide (x∈ys):Nat))
theorem hasP_perm {v v' ys:List Int} (h:v.Perm v'):hasP v ys=hasP v' ys:=by rw[hasP,hasP,h.length_eq,h.countP_eq]
theorem rng_len {n:Nat} (h:n≤9223372036854775807):rng .i64 (n:Int):=by simp only[rng];omega
end Go.Lw
namespace Go.Lw
open Go.Proofs
abbrev Ballot:=Int × Bool
def RBallot:Res→List Value→Ballot→Prop:=fun _ vs x=>vs=[i64 x.1,.bool x.2]∧rng .i64 x.1
theorem RBallot.up:Up RBallot:=fun _ _ _ _ _ h=>h
theorem RBallot.one:One RBallot:=fun _ vs x h v hv=>by rw[h.1] at hv;simp at hv;rcases hv with rfl | rfl<;>rfl
abbrev Ballots (s:Res) (a:Option Addr) (c:Nat) (xs:List Ballot):Prop:=Imm RBallot 2 s a c xs
def isOf (n:Int) (b:Ballot):Bool:=b.1==n
def vote (l:List Ballot) (n:Int):Option Bool:=(l.find? (isOf n)).map (·.2)
def says (l:List Ballot) (y:Bool) (n:Int):Bool:=vote l n==some y
def tallyP (v:List Int) (l:List Ballot):Int :=
 if 0<v.length∧most v.length≤(v.countP (says l true):Nat) then 1 else if (v.length:Int)-(v.countP (says l false):Nat)<most v.length then -1 else 0
theorem find_take_none {α:Type} {p:α→Bool} {xs:List α} {k:Nat} (hk:k<xs.length) (h:(xs.take k).find? p=none) (hp:p xs[k]=false):(xs.take (k+1)).find? p=none:=by
 rw[List.take_succ_eq_append_getElem hk,List.find?_append,h]
 simp[hp]
theorem find_take_some {α:Type} {p:α→Bool} {xs:List α} {k:Nat} (hk:k<xs.length) (h:(xs.take k).find? p=none) (hp:p xs[k]=true):xs.find? p=some xs[k]:=by
 have e:xs=xs.take k++(xs[k]::xs.drop (k+1)):=by simp
 have e2:=congrArg (List.find? p) e
 rw[List.find?_append,h] at e2
 rw[e2,List.find?_cons,hp]
 rfl
theorem IndexBl_ct {w:World} {s:Res} {os:List Res} {xs:List Ballot} {xa:Option Addr} {xc g:Nat} {cap:Array Value} {p:Ballot→Bool} (hg:Good w s os) (hx:Ballots s xa xc xs) (hc:callable Tryz.prog g=true)
  (hp:∀ x∈xs,∀ w',Good w' s os→Calls Tryz.prog g (#[.agg #[i64 x.1,.bool x.2]]++cap) w' (PostV w' s os fun r=>r = .bool (p x))) :
  Calls Tryz.prog 170 #[.slice xa xs.length xc,.func (.func g) #[] cap] w
   (PostV w s os fun r=>∃ i:Int,r=i64 i∧rng .i64 i∧((i<0∧xs.find? p=none)∨(0≤i∧∃ h:i.toNat<xs.length,xs.find? p=some xs[i.toNat]))):=by
 refine enter (l:=[.slice xa xs.length xc,.func (.func g) #[] cap]) Tryz.func170 rfl Tryz.ntmps170 rfl ?_
 refine go 4 ?_
 refine CW.seq (CW.seq (CW.plain ?_))
 refine go 4 ?_
 have hlen:=hx.le_max
 simp only[maxLen] at hlen
 refine CW.block (CW.loop (σ:=Nat) (fun j E w'=>Good w' s os∧Aux w w'∧∃ k:Nat,E=[(0,.slice xa xs.length xc),(1,.func (.func g) #[] cap),(7,i64 xs.length),(8,i64 k)]∧k+j=xs.length∧(xs.take k).find? p=none)
  (fun j=>j) xs.length [(0,.slice xa xs.length xc),(1,.func (.func g) #[] cap),(7,i64 xs.length),(8,i64 0)] ⟨rfl,rfl,rfl,rfl,trivial⟩ ⟨hg,Aux.refl _,0,rfl,by omega,rfl⟩ ?_)
 rintro j E w1 ⟨hg1,hax1,k,rfl,hk,hno⟩
 refine go 4 ?_
 refine CW.seq (CW.test rfl (fun h=>?_) (fun h=>?_))
 ·
  refine CW.skip ?_
  have hkl:k<xs.length:=by omega
  refine CW.seq (CW.block (CW.seq (CW.plain ?_)))
  refine go 8 ?_
  refine RL.idx rfl rfl rfl rfl sl39.out rfl rfl (hx) (by omega) (by omega) ?_
  rintro q vs hvl hH ⟨rfl,hr'⟩
  refine RL.loads rfl rfl rfl rfl ty133.out rfl (hH) (hg1.sh) rfl rfl ?_
  refine RL.callF rfl rfl rfl rfl rfl rfl hc (hp xs[k] (List.getElem_mem hkl) w1 hg1) ?_
  rintro e w2 ⟨v2,rfl,hg2,hax2,rfl⟩
  refine⟨_,rfl,trivial,?_⟩
  refine go 1 ?_
  refine CW.cond rfl (fun hb=>?_) (fun hb=>?_)
  ·
   refine CW.seq (CW.plain ?_)
   refine go 3 ?_
   exact CW.ret (ret (vs:=[_]) ⟨_,_,rfl,rfl,rfl⟩ (PostV.mk hg2 (hax1.trans hax2) ⟨k,rfl,by simp only[rng];omega,.inr ⟨by omega,by omega,find_take_some hkl hno hb⟩⟩))
  ·
   refine CW.skip ?_
   refine go 4 ?_
   cases j with
   | zero=>omega
   | succ j =>
    refine fun ac ha=>⟨j,[(0,.slice xa xs.length xc),(1,.func (.func g) #[] cap),(7,i64 xs.length),(8,i64 ((k:Int)+1))],ha.sub ⟨rfl,rfl,rfl,rfl,trivial⟩,⟨hg2,hax1.trans hax2,k+1,rfl,by omega,find_take_none hkl hno hb⟩,Nat.lt_succ_self j⟩
 ·
  refine CW.exit (CW.seq (CW.plain ?_))
  have hkl:k=xs.length:=by omega
  refine go 2 ?_
  rw[hkl,List.take_length] at hno
  exact CW.ret (ret (vs:=[_]) ⟨_,_,rfl,rfl,rfl⟩ (PostV.mk hg1 hax1 ⟨-1,rfl,by simp only[rng];omega,.inl ⟨by decide,hno⟩⟩))
theorem isOf_ct {w:World} {s:Res} {os:List Res} {x:Ballot} {n:Int} {b:Nat} (hg:Good w s os) (hb:Holds s ⟨b,0,none⟩ [i64 n]) :
  Calls Tryz.prog 171 #[.agg #[i64 x.1,.bool x.2],ptr b] w (PostV w s os fun r=>r = .bool (isOf n x)):=by
 refine enter (l:=[.agg #[i64 x.1,.bool x.2],ptr b]) Tryz.func171 rfl Tryz.ntmps171 rfl ?_
 refine go 2 ?_
 refine RL.box rfl rfl rfl rfl rfl hg ?_
 rintro p w1 hg1 hax1
 refine go 6 ?_
 refine RL.load rfl rfl rfl rfl ty3.out rfl ((Holds.of (if_pos rfl))) (hg1.1) rfl ?_
 refine RL.load (j:=0) rfl rfl rfl rfl ty3.out rfl (hb) (hg1.sh) rfl ?_
 refine go 3 ?_
 exact CW.ret (ret (vs:=[_]) ⟨_,_,rfl,rfl,rfl⟩ (PostV.mk hg1.drop hax1 rfl))
theorem says_ct {w:World} {s:Res} {os:List Res} {l:List Ballot} {la:Option Addr} {lc b1 b2:Nat} {n:Int} {y:Bool} (hg:Good w s os) (hl:Ballots s la lc l) (h1:Holds s ⟨b1,0,none⟩ [.slice la l.length lc]) (h2:Holds s ⟨b2,0,none⟩ [.bool y]) :
  Calls Tryz.prog 169 #[i64 n,ptr b1,ptr b2] w (PostV w s os fun r=>r = .bool (says l y n)):=by
 refine enter (l:=[i64 n,ptr b1,ptr b2]) Tryz.func169 rfl Tryz.ntmps169 rfl ?_
 refine go 2 ?_
 refine RL.box rfl rfl rfl rfl rfl hg ?_
 rintro p w1 hg1 hax1
 refine go 3 ?_
 obtain⟨hg1',hl1,hl2,hback⟩:=hg1.lend
 have hp:Holds (s.join (Res.one p (.cells #[i64 n] 3))) ⟨p,0,none⟩ [i64 n]:=(Holds.of (if_pos rfl)).le hl2
 refine go 2 ?_
 refine RL.load (j:=0) rfl rfl rfl rfl ty39.out rfl (h1) (hg1.sh) rfl ?_
 refine RL.makeF rfl rfl rfl rfl rfl ?_
 refine go 1 ?_
 refine zw (IndexBl_ct hg1' (hl.up RBallot.up hl1) ca171.out (p:=isOf n) (fun x _ w' hg'=>isOf_ct hg' hp)) ?_
 rintro v2 w2 hg2 hax2 ⟨i,rfl,hri,hfind⟩
 refine go 3 ?_
 have hg2':=hback w2 hg2
 refine go 1 ?_
 refine CW.draws [(true,0),(true,1),(true,2),(true,3),(true,4),(true,5),(true,6),(true,7),(true,8),(true,9),(true,10),(false,11)] (fun w'=>Good w' s os) mixed (by kernel_rfl) (by kernel_rfl) (by kernel_rfl) (by kernel_rfl) hg2'.drop.drew ?_
 refine go 3 ?_
 refine RL.part 11 rfl (fun h=>?_) (fun h=>?_)
 ·
  have hi:0≤i:=by simpa using h
  rcases hfind with ⟨h0,_⟩ | ⟨h0,hil,hf⟩
  ·
   omega
  refine RL.loadT (j:=0) rfl rfl rfl rfl ty39.out rfl (h1) (fun w h=>h.sh) rfl ?_
  refine go 1 ?_
  refine RL.idx rfl rfl rfl rfl sl39.out rfl rfl (hl) (h0) (by omega) ?_
  rintro q vs hvl hH ⟨rfl,hr'⟩
  refine go 1 ?_
  refine RL.loadT rfl rfl rfl rfl ty4.out rfl (hH) (fun w h=>h.sh) rfl ?_
  refine RL.loadT (j:=0) rfl rfl rfl rfl ty4.out rfl (h2) (fun w h=>h.sh) rfl ?_
  refine RL.bEq rfl rfl rfl rfl Tryz.underlying4 rfl rfl ?_
  refine go 3 ?_
  refine CW.ret (ret (vs:=[_]) ⟨_,_,rfl,rfl,rfl⟩ (PostV.mk hg2'.drop.drew (hax1.trans (hax2.trans (Aux.drew _))) (congrArg Value.bool ?_)))
  rw[says,vote,hf]
  simp
 ·
  have hi:i<0:=by simpa using h
  rcases hfind with ⟨_,hf⟩ | ⟨h0,hil,hf⟩
  ·
   refine RL.pass rfl rfl rfl ?_
   refine go 9 ?_
   refine CW.ret (ret (vs:=[_]) ⟨_,_,rfl,rfl,rfl⟩ (PostV.mk hg2'.drop.drew (hax1.trans (hax2.trans (Aux.drew _))) (congrArg Value.bool ?_)))
   rw[says,vote,hf]
   simp
  ·
   omega
theorem sayer_ct {w:World} {s:Res} {os:List Res} {b1:Nat} {y:Bool} (hg:Good w s os) :
  Calls Tryz.prog 168 #[.bool y,ptr b1] w (Post w s os fun _ A r=>∃ b2,A b2=some (.cells #[.bool y] 4)∧r = .func (.func 169) #[] #[ptr b1,ptr b2]):=by
 refine enter (l:=[.bool y,ptr b1]) Tryz.func168 rfl Tryz.ntmps168 rfl ?_
 refine go 2 ?_
 refine RL.box rfl rfl rfl rfl rfl hg ?_
 rintro p w1 hg1 hax1
 refine go 5 ?_
 refine RL.makeF rfl rfl rfl rfl rfl ?_
 refine go 2 ?_
 exact CW.ret (ret (vs:=[_]) ⟨_,_,rfl,rfl,rfl⟩ (Post.mk (Le.refl _) hg1 hax1 ⟨p,if_pos rfl,rfl⟩))
theorem Tally_ct {w:World} {s:Res} {os:List Res} {xs:List Int} {l:List Ballot} {xa la:Option Addr} {xc lc:Nat} (hg:Good w s os) (hx:Ints s xa xc xs) (hl:Ballots s la lc l) (hb:xs.length*8≤140737488355328) :
  Calls Tryz.prog 147 #[.slice xa xs.length xc,.slice la l.length lc] w (Post w s os fun _ _ r=>r=i64 (tallyP (uniq xs) l)):=by
 have hul:=uniq_le xs
 refine enter (l:=[.slice xa xs.length xc,.slice la l.length lc]) Tryz.func147 rfl Tryz.ntmps147 rfl ?_
 refine go 2 ?_
 refine RL.box rfl rfl rfl rfl rfl hg ?_
 rintro b w1 hg1 hax1
 refine go 3 ?_
 obtain⟨s1,hg1',hle1,hB1⟩:=hg1.letgo
 have h1:Holds s1 ⟨b,0,none⟩ [.slice la l.length lc]:=(Holds.of (if_pos rfl)).le hB1
 refine go 4 ?_
 refine zc (once_ct hg1' (hx.up (RInt.up _) hle1) hb) ?_
 rintro v2 s2 A2 w2 hle2 hg2 hax2 ⟨rfl,a2,c2,rfl,ho2⟩
 refine go 3 ?_
 obtain⟨s3,hg3,hle3,hA3⟩:=hg2.letgo
 have hv:Ints s3 a2 c2 (uniq xs):=ho2.imm (RInt.up _) hle3 hA3
 have hl3:Ballots s3 la lc l:=hl.up RBallot.up (hle1.trans hle3)
 have hP:∀ (y:Bool) (p:Int→Bool),(uniq xs).countP p≤(uniq xs).length:=fun _ p=>List.countP_le_length
 have hR:∀ n:Nat,n≤(uniq xs).length→rng .i64 (n:Int):=fun n hn=>rng_len (by omega)
 refine go 2 ?_
 refine RL.makeF rfl rfl rfl rfl rfl ?_
 refine go 2 ?_
 have hmost:∀ n:Nat,n≤140737488355328→0≤most n∧most n≤n+1:=fun n _=>by unfold most;split<;>omega
 refine CW.seq (CW.block (CW.seq (CW.plain ?_)))
 -- the first case
 refine go 4 ?_
 refine RL.part 14 rfl (fun h=>?_) (fun h=>?_)
 ·
  have h':0<(uniq xs).length:=by simpa using h
  refine go 2 ?_
  refine RL.callF rfl rfl rfl rfl rfl rfl ca168.out (sayer_ct (b1:=b) (y:=true) hg3) ?_
  rintro e w4 ⟨v4,s4,A4,rfl,hle4,hg4,hax4,b4,hA4,rfl⟩
  refine⟨_,rfl,trivial,?_⟩
  obtain⟨s5,hg5,hle5,hA5⟩:=hg4.letgo
  refine go 1 ?_
  refine zw (count_ct hg5 (hv.up (RInt.up _) (hle4.trans hle5)) ca169.out (p:=says l true) (fun x hx w' hg'=>says_ct hg' (hl3.up RBallot.up (hle4.trans hle5)) (h1.le (hle3.trans (hle4.trans hle5))) ((Holds.of hA4).le hA5))) ?_
  rintro v6 w6 hg6 hax6 rfl
  refine go 4 ?_
  refine zw (Most_ct hg6 (rng_len (by omega))) ?_
  rintro v7 w7 hg7 hax7 rfl
  refine go 5 ?_
  refine CW.test rfl (fun hc=>?_) (fun hc=>?_)
  ·
   refine CW.seq (CW.plain ?_)
   refine go 2 ?_
   refine CW.ret (ret (vs:=[_]) ⟨_,_,rfl,rfl,rfl⟩ (Post.mk (hle1.trans (hle3.trans (hle4.trans hle5))) hg7.nil (hax1.trans (hax2.trans (hax4.trans (hax6.trans hax7)))) (congrArg i64 ?_)))
   rw[tallyP,if_pos ⟨h',by omega⟩]
  ·
   have hneg:¬ (0<(uniq xs).length∧most (uniq xs).length≤((uniq xs).countP (says l true):Nat)):=by omega
   refine go 6 ?_
   refine RL.callF rfl rfl rfl rfl rfl rfl ca168.out (sayer_ct (b1:=b) (y:=false) hg7) ?_
   rintro e w14 ⟨v14,s14,A14,rfl,hle14,hg14,hax14,b14,hA14,rfl⟩
   refine⟨_,rfl,trivial,?_⟩
   obtain⟨s15,hg15,hle15,hA15⟩:=hg14.letgo
   have l3:=(hle4.trans hle5:Le s3 _)
   refine go 1 ?_
   refine zw (count_ct hg15 (hv.up (RInt.up _) (l3.trans (hle14.trans hle15))) ca169.out (p:=says l false) (fun x hx w' hg'=>says_ct hg' (hl3.up RBallot.up (l3.trans (hle14.trans hle15))) (h1.le (hle3.trans (l3.trans (hle14.trans hle15)))) ((Holds.of hA14).le hA15))) ?_
   rintro v16 w16 hg16 hax16 rfl
   refine go 1 ?_
   have hcf:=hP false (says l false)
   refine go 4 ?_
   refine zw (Most_ct hg16 (rng_len (by omega))) ?_
   rintro v17 w17 hg17 hax17 rfl
   refine go 4 ?_
   refine CW.test rfl (fun hd=>?_) (fun hd=>?_)
   ·
    refine CW.seq (CW.plain ?_)
    refine go 2 ?_
    refine CW.ret (ret (vs:=[_]) ⟨_,_,rfl,rfl,rfl⟩ (Post.mk ((hle1.trans (hle3.trans (hle4.trans hle5))).trans (hle14.trans hle15)) hg17.nil ((hax1.trans (hax2.trans (hax4.trans (hax6.trans hax7)))).trans (hax14.trans (hax16.trans hax17))) (congrArg i64 ?_)))
    rw[tallyP,if_neg hneg,if_pos hd]
   ·
    refine CW.skip ?_
    refine go 4 ?_
    refine CW.ret (ret (vs:=[_]) ⟨_,_,rfl,rfl,rfl⟩ (Post.mk ((hle1.trans (hle3.trans (hle4.trans hle5))).trans (hle14.trans hle15)) hg17.nil ((hax1.trans (hax2.trans (hax4.trans (hax6.trans hax7)))).trans (hax14.trans (hax16.trans hax17))) (congrArg i64 ?_)))
    rw[tallyP,if_neg hneg,if_neg hd]
 ·
  have h':¬ 0<(uniq xs).length:=by simpa using h
  have hneg:¬ (0<(uniq xs).length∧most (uniq xs).length≤((uniq xs).countP (says l true):Nat)):=by omega
  refine go 11 ?_
  refine CW.cond rfl (fun hc=>?_) (fun _=>?_)
  ·
   cases hc
  ·
   refine go 6 ?_
   refine RL.callF rfl rfl rfl rfl rfl rfl ca168.out (sayer_ct (b1:=b) (y:=false) hg3) ?_
   rintro e w14 ⟨v14,s14,A14,rfl,hle14,hg14,hax14,b14,hA14,rfl⟩
   refine⟨_,rfl,trivial,?_⟩
   obtain⟨s15,hg15,hle15,hA15⟩:=hg14.letgo
   have l3:=(Le.refl _:Le s3 _)
   refine go 1 ?_
   refine zw (count_ct hg15 (hv.up (RInt.up _) (l3.trans (hle14.trans hle15))) ca169.out (p:=says l false) (fun x hx w' hg'=>says_ct hg' (hl3.up RBallot.up (l3.trans (hle14.trans hle15))) (h1.le (hle3.trans (l3.trans (hle14.trans hle15)))) ((Holds.of hA14).le hA15))) ?_
   rintro v16 w16 hg16 hax16 rfl
   refine go 1 ?_
   have hcf:=hP false (says l false)
   refine go 4 ?_
   refine zw (Most_ct hg16 (rng_len (by omega))) ?_
   rintro v17 w17 hg17 hax17 rfl
   refine go 4 ?_
   refine CW.test rfl (fun hd=>?_) (fun hd=>?_)
   ·
    refine CW.seq (CW.plain ?_)
    refine go 2 ?_
    refine CW.ret (ret (vs:=[_]) ⟨_,_,rfl,rfl,rfl⟩ (Post.mk ((hle1.trans hle3).trans (hle14.trans hle15)) hg17.nil ((hax1.trans hax2).trans (hax14.trans (hax16.trans hax17))) (congrArg i64 ?_)))
    rw[tallyP,if_neg hneg,if_pos hd]
   ·
    refine CW.skip ?_
    refine go 4 ?_
    refine CW.ret (ret (vs:=[_]) ⟨_,_,rfl,rfl,rfl⟩ (Post.mk ((hle1.trans hle3).trans (hle14.trans hle15)) hg17.nil ((hax1.trans hax2).trans (hax14.trans (hax16.trans hax17))) (congrArg i64 ?_)))
    rw[tallyP,if_neg hneg,if_neg hd]
end Go.Lw
namespace Go.Lw
open Go.Proofs
end Go.Lw
namespace Go.Lw
theorem countP_two (p q:Int→Bool):∀ v:List Int,v.countP p+v.countP q≤v.length+v.countP fun x=>p x && q x
 | []=>by simp
 | x::v=>by
  have:=countP_two p q v
  simp only[List.countP_cons,List.length_cons]
  cases p x<;>cases q x<;>simp<;>omega
theorem countP_apart (p q:Int→Bool) (h:∀ x,p x=true→q x=false):∀ v:List Int,v.countP p+v.countP q≤v.length
 | []=>by simp
 | x::v=>by
  have:=countP_apart p q h v
  have hx:=h x
  simp only[List.countP_cons,List.length_cons]
  cases e1:p x<;>cases e2:q x<;>simp_all<;>omega
theorem countP_mono (p q:Int→Bool) (h:∀ x,p x=true→q x=true):∀ v:List Int,v.countP p≤v.countP q
 | []=>by simp
 | x::v=>by
  have:=countP_mono p q h v
  have hx:=h x
  simp only[List.countP_cons]
  cases e1:p x<;>cases e2:q x<;>simp_all<;>omega
theorem most_pos {n:Nat} (h:0<n):most (n:Int)=n / 2+1:=by unfold most;rw[if_neg (by omega)]
theorem hasP_spec {v ys:List Int} (h:hasP v ys=true):0<v.length∧v.length / 2+1≤v.countP fun x=>decide (x∈ys):=by
 simp only[hasP,Bool.and_eq_true,decide_eq_true_eq] at h
 obtain⟨h1,h2⟩:=h
 rw[most_pos h1] at h2
 omega
theorem meets_same {v us zs:List Int} (h1:hasP v us=true) (h2:hasP v zs=true):∃ x,x∈us∧x∈zs:=by
 obtain⟨h3,h4⟩:=hasP_spec h1
 obtain⟨_,h6⟩:=hasP_spec h2
 have h7:=countP_two (fun x=>decide (x∈us)) (fun x=>decide (x∈zs)) v
 have h8:0<v.countP fun x=>decide (x∈us) && decide (x∈zs):=by omega
 obtain⟨x,_,hx⟩:=List.countP_pos_iff.1 h8
 simp only[Bool.and_eq_true,decide_eq_true_eq] at hx
 exact⟨x,hx⟩
theorem uniq_more (xs:List Int) (m:Int):(uniq (xs++[m])).Perm (if m∈xs then uniq xs else m::uniq xs):=by
 split
 ·
  rename_i h
  refine (List.perm_ext_iff_of_nodup (uniq_nodup _) (uniq_nodup _)).2 fun y=>?_
  simp only[uniq_mem,List.mem_append,List.mem_singleton]
  exact⟨fun h'=>h'.elim id fun e=>e▸h,.inl⟩
 ·
  rename_i h
  refine (List.perm_ext_iff_of_nodup (uniq_nodup _) (List.nodup_cons.2 ⟨by rw[uniq_mem];exact h,uniq_nodup _⟩)).2 fun y=>?_
  simp only[uniq_mem,List.mem_append,List.mem_cons,List.not_mem_nil,or_false]
  exact Or.comm
theorem meets_more {xs us zs:List Int} {m:Int} (h1:hasP (uniq xs) us=true) (h2:hasP (uniq (xs++[m])) zs=true):∃ x,x∈us∧x∈zs:=by
 rw[hasP_perm (uniq_more xs m)] at h2
 split at h2
 ·
  exact meets_same h1 h2
 ·
  obtain⟨h3,h4⟩:=hasP_spec h1
  obtain⟨_,h6⟩:=hasP_spec h2
  have h7:=countP_two (fun x=>decide (x∈us)) (fun x=>decide (x∈zs)) (uniq xs)
  simp only[List.countP_cons,List.length_cons] at h6
  have h8:0<(uniq xs).countP fun x=>decide (x∈us) && decide (x∈zs):=by split at h6<;>omega
  obtain⟨x,_,hx⟩:=List.countP_pos_iff.1 h8
  simp only[Bool.and_eq_true,decide_eq_true_eq] at hx
  exact⟨x,hx⟩
theorem vote_more {l more:List Ballot} {n:Int} {y:Bool} (h:says l y n=true):says (l++more) y n=true:=by
 simp only[says,vote] at *
 rw[List.find?_append]
 cases hf:l.find? (isOf n) with
 | none=>simp[hf] at h
 | some b=>simpa [hf] using h
theorem says_apart {l:List Ballot} {n:Int} (h:says l true n=true):says l false n=false:=by
 simp only[says] at *
 have:vote l n=some true:=by simpa using h
 rw[this];rfl
theorem stays (v:List Int) (l more:List Ballot):tallyP v l=0∨tallyP v (l++more)=tallyP v l:=by
 have h1:=countP_mono (says l true) (says (l++more) true) (fun _ h=>vote_more h) v
 have h2:=countP_mono (says l false) (says (l++more) false) (fun _ h=>vote_more h) v
 have h3:=countP_apart (says (l++more) true) (says (l++more) false) (fun _ h=>says_apart h) v
 by_cases ha:0<v.length∧most v.length≤(v.countP (says l true):Nat)
 ·
  right
  have hb:0<v.length∧most v.length≤(v.countP (says (l++more) true):Nat):=⟨ha.1,by omega⟩
  simp only[tallyP,if_pos ha,if_pos hb]
 ·
  by_cases hc:(v.length:Int)-(v.countP (says l false):Nat)<most v.length
  ·
   right
   have hb:¬ (0<v.length∧most v.length≤(v.countP (says (l++more) true):Nat)):=by omega
   have hd:(v.length:Int)-(v.countP (says (l++more) false):Nat)<most v.length:=by omega
   simp only[tallyP,if_neg ha,if_pos hc,if_neg hb,if_pos hd]
  ·
   left
   simp only[tallyP,if_neg ha,if_neg hc]
end Go.Lw
namespace Go.Lw
structure Peer where
 node:Int
 next:Int
 mat:Int
def mx (a b:Int):Int:=if b>a then b else a
def matF (x:Int) (n:Int) (p:Peer):Int:=if p.node==x then mx n p.mat else n
def matchP (l:List Peer) (x:Int):Int:=l.foldl (matF x) 0
theorem matchP_take (l:List Peer) (x:Int) (k:Nat) (hk:k<l.length):matchP (l.take (k+1)) x=matF x (matchP (l.take k) x) l[k]:=by
 rw[List.take_succ_eq_append_getElem hk,matchP,List.foldl_append];rfl
theorem mx_le (a b:Int):a≤mx a b∧b≤mx a b∧(mx a b=a∨mx a b=b):=by unfold mx;split<;>omega
theorem fold_best {α:Type} (q:α→Bool) (f:α→Int):∀ (l:List α) (b0:Int),b0≤l.foldl (fun n x=>if q x then mx n (f x) else n) b0∧(∀ x∈l,q x=true→f x≤l.foldl (fun n x=>if q x then mx n (f x) else n) b0) ∧
  (l.foldl (fun n x=>if q x then mx n (f x) else n) b0=b0∨∃ x∈l,q x=true∧f x=l.foldl (fun n x=>if q x then mx n (f x) else n) b0)
 | [],b0=>by simp
 | y::l,b0=>by
  obtain⟨h1,h2,h3⟩:=fold_best q f l (if q y then mx b0 (f y) else b0)
  simp only[List.foldl_cons]
  generalize l.foldl (fun n x=>if q x then mx n (f x) else n) (if q y then mx b0 (f y) else b0)=r at *
  obtain⟨m1,m2,m3⟩:=mx_le b0 (f y)
  cases hq:q y with
  | true =>
   simp only[hq,if_true] at h1 h2 h3 ⊢
   refine⟨by omega,fun x hx hqx=>?_,?_⟩
   ·
    rcases List.mem_cons.1 hx with rfl | hx
    ·
     omega
    ·
     exact h2 x hx hqx
   ·
    rcases h3 with h3 | ⟨x,hx,hqx,he⟩
    ·
     rcases m3 with m3 | m3
     ·
      exact .inl (by omega)
     ·
      exact .inr ⟨y,by simp,hq,by omega⟩
    ·
     exact .inr ⟨x,by simp[hx],hqx,he⟩
  | false =>
   simp only[hq,Bool.false_eq_true,if_false] at h1 h2 h3 ⊢
   refine⟨h1,fun x hx hqx=>?_,?_⟩
   ·
    rcases List.mem_cons.1 hx with rfl | hx
    ·
     rw[hq] at hqx;cases hqx
    ·
     exact h2 x hx hqx
   ·
    rcases h3 with h3 | ⟨x,hx,hqx,he⟩
    ·
     exact .inl h3
    ·
     exact .inr ⟨x,by simp[hx],hqx,he⟩
theorem matchP_spec (l:List Peer) (x:Int):0≤matchP l x∧(∀ p∈l,p.node=x→p.mat≤matchP l x)∧(matchP l x=0∨∃ p∈l,p.node=x∧p.mat=matchP l x):=by
 have h:=fold_best (fun p:Peer=>p.node==x) (·.mat) l 0
 exact⟨h.1,fun p hp hn=>h.2.1 p hp (by simpa using hn),h.2.2.imp id fun ⟨p,h1,h2,h3⟩=>⟨p,h1,by simpa using h2,h3⟩⟩
def IsK (M:List Int) (K:Int) (c:Int):Prop:=c∈M∧K≤(M.countP (fun x=>decide (c≤x)):Nat)∧(M.countP (fun x=>decide (c<x)):Nat)<K
theorem IsK.perm {M M':List Int} {K c:Int} (h:IsK M K c) (hp:M.Perm M'):IsK M' K c:=by
 obtain⟨h1,h2,h3⟩:=h
 exact⟨hp.mem_iff.1 h1,by rw[←hp.countP_eq];exact h2,by rw[←hp.countP_eq];exact h3⟩
theorem countP_imp {α:Type} (p q:α→Bool) (l:List α) (h:∀ x∈l,p x=true→q x=true):l.countP p≤l.countP q:=by
 induction l with
 | nil=>simp
 | cons x l ih =>
  have h1:=ih fun y hy=>h y (by simp[hy])
  have h2:=h x (by simp)
  simp only[List.countP_cons]
  cases e1:p x<;>cases e2:q x<;>simp_all<;>omega
theorem IsK.above {M:List Int} {K c d:Int} (h:IsK M K c) (hd:K≤(M.countP (fun x=>decide (d≤x)):Nat)):d≤c:=by
 by_cases hlt:d≤c
 ·
  exact hlt
 ·
  have:=countP_imp (fun x=>decide (d≤x)) (fun x=>decide (c<x)) M (fun x _ hx=>by simp at *;omega)
  have h3:=h.2.2
  omega
theorem IsK.unique {M:List Int} {K c d:Int} (h:IsK M K c) (k:IsK M K d):c=d:=Int.le_antisymm (k.above h.2.1) (h.above k.2.1)
def Com (M:List Int) (c:Int):Prop:=(M=[]∧c=0)∨(M≠[]∧IsK M (most M.length) c)
theorem Com.unique {M M':List Int} {c d:Int} (h:Com M c) (k:Com M' d) (hp:M.Perm M'):c=d:=by
 rcases h with ⟨rfl,rfl⟩ | ⟨h1,h2⟩
 ·
  rcases k with ⟨_,rfl⟩ | ⟨k1,_⟩
  ·
   rfl
  ·
   exact absurd (List.nil_perm.1 hp) k1
 ·
  rcases k with ⟨rfl,_⟩ | ⟨k1,k2⟩
  ·
   exact absurd (List.perm_nil.1 hp) h1
  ·
   exact (h2.perm hp).unique (by rw[hp.length_eq];exact k2)
theorem Com.grows {v:List Int} {f f':Int→Int} {c d:Int} (hf:∀ x,f x≤f' x) (h:Com (v.map f) c) (k:Com (v.map f') d):c≤d:=by
 rcases h with ⟨h1,rfl⟩ | ⟨h1,h2⟩
 ·
  rcases k with ⟨_,rfl⟩ | ⟨k1,_⟩
  ·
   omega
  ·
   simp at h1;subst h1;simp at k1
 ·
  rcases k with ⟨k1,_⟩ | ⟨k1,k2⟩
  ·
   simp at k1;subst k1;simp at h1
  ·
   simp only[List.length_map] at h2 k2
   refine k2.above ?_
   have:=countP_imp ((fun x=>decide (c≤x)) ∘ f) ((fun x=>decide (c≤x)) ∘ f') v (fun x _ hx=>by
    have:=hf x
    simp at *;omega)
   have h3:=h2.2.1
   rw[List.countP_map] at h3 ⊢
   omega
theorem sorted_isK {M:List Int} {d:Array Int} (hp:d.toList.Perm M) (hs:∀ i j,i<j→j<d.size→d[i]! ≤ d[j]!) {K:Nat} (h1:1≤K) (hK:K≤d.size):IsK M K d[d.size-K]! := by
 have hi:d.size-K<d.size:=by omega
 have hs2:∀ i j,i≤j→j<d.size→d[i]! ≤ d[j]! := fun i j hij hj=>by
  rcases Nat.lt_or_eq_of_le hij with h | rfl
  ·
   exact hs i j h hj
  ·
   exact Int.le_refl _
 have hget:∀ j,(hj:j<d.size)→d.toList[j]'(by simpa using hj)=d[j]! := fun j hj=>by simp[hj]
 refine IsK.perm ⟨?_,?_,?_⟩ hp
 ·
  rw[getElem!_pos d _ hi];simp
 ·
  have e:d.toList=d.toList.take (d.size-K)++d.toList.drop (d.size-K):=by simp
  rw[e,List.countP_append]
  have:(d.toList.drop (d.size-K)).countP (fun x=>decide (d[d.size-K]! ≤ x))=(d.toList.drop (d.size-K)).length:=by
   rw[List.countP_eq_length]
   intro x hx
   obtain⟨j,hj,rfl⟩:=List.getElem_of_mem hx
   simp only[List.length_drop,Array.length_toList] at hj
   rw[List.getElem_drop,hget _ (by omega)]
   exact decide_eq_true (hs2 _ _ (by omega) (by omega))
  rw[this,List.length_drop,Array.length_toList]
  omega
 ·
  have e:d.toList=d.toList.take (d.size-K+1)++d.toList.drop (d.size-K+1):=by simp
  rw[e,List.countP_append]
  have:(d.toList.take (d.size-K+1)).countP (fun x=>decide (d[d.size-K]! < x))=0:=by
   rw[List.countP_eq_zero]
   intro x hx
   obtain⟨j,hj,rfl⟩:=List.getElem_of_mem hx
   simp only[List.length_take,Array.length_toList] at hj
   rw[List.getElem_take,hget _ (by omega)]
   have:=hs2 j (d.size-K) (by omega) hi
   simp only[decide_eq_true_eq]
   omega
  have h2:=List.countP_le_length (p:=fun x=>decide (d[d.size-K]! < x)) (l:=d.toList.drop (d.size-K+1))
  rw[List.length_drop,Array.length_toList] at h2
  omega
theorem most_le {n:Nat} (h:0<n):1≤most (n:Int)∧most (n:Int)≤n:=by rw[most_pos h];omega
end Go.Lw
namespace Go.Lw
open Go.Proofs
open Go.Sort (swp size_swp)
abbrev KK:IntKind:= .u64
abbrev ET:TypeId:=22
def RowAt (A:Res) (g:Nat) (rest:List Value) (d:Array Int):Prop:=A g=some (.cells (d.toList.map (Value.int KK)++rest).toArray ET (0,0))
abbrev ltI:Int→Int→Bool:=Go.Sort.ltInt
theorem bang (d:Array Int) {m:Nat} (h:m<d.size):d[m]! = d[m]:=getElem!_pos d m h
theorem row_get {d:Array Int} {rest:List Value} {m:Nat} (h:m<d.size):(d.toList.map (Value.int KK)++rest)[m]?=some (Value.int KK d[m]!):=by
 rw[List.getElem?_append_left (by simpa using h)]
 simp[h,bang d h]
theorem row_set {d:Array Int} {rest:List Value} {m:Nat} (h:m<d.size) (x:Int) :
  (d.toList.map (Value.int KK)++rest).take m++[Value.int KK x]++(d.toList.map (Value.int KK)++rest).drop (m+1)=((d.setIfInBounds m x).toList.map (Value.int KK)++rest):=by
 have hl:m<(d.toList.map (Value.int KK)).length:=by simpa using h
 rw[Array.toList_setIfInBounds,List.map_set,List.take_append_of_le_length (by omega),List.drop_append_of_le_length (by omega),List.set_eq_take_append_cons_drop,if_pos hl]
 simp
section
variable {P:Program} {n:Nat} {ops:Array Oper} {Q:Exit→Act→World→Prop} {S:World→Prop} {rest':List (Bool × Oper)} {E:Env} {w:World} {o:Oper} {q:Nat}
variable {s A:Res} {os:List Res} {x y:Operand} {T:Bool} {g:Nat} {rest:List Value} {d:Array Int}
theorem RL.idxR {t e:TypeId} {by_ c k:Nat} {kk:IntKind} {i:Int} (m:Nat) (hg:wants ops E o=some true) (hd:o.dst=some q) (hb:Nat.blt q n=true)
  (ho:o.op = .indexAddr t x y) (ht:slc P t=some (e,1,by_)) (hx:ev E x=some (.slice (some ⟨g,0,none⟩) k c)) (hy:ev E y=some (.int kk i)) (hm:i=m) (h1:m<k)
  (h:RL P n ops Q S rest' ((q,.pointer (some ((⟨g,0,none⟩:Addr).add m)))::E) w):RL P n ops Q S ((T,o)::rest') E w:=by
 refine RL.val hg hd hb (fun w ac ha=>?_) h
 unfold execOp
 simp only[ho,ha.ev hx,ha.ev hy]
 subst hm
 simp[run_indexAt ht (Int.natCast_nonneg m) (by omega:((m:Nat):Int)<k)]
theorem RL.loadR {t:TypeId} (m:Nat) (hg:wants ops E o=some true) (hd:o.dst=some q) (hb:Nat.blt q n=true) (ho:o.op = .load t x) (ht:tyc P t=some (false,1))
  (hx:ev E x=some (.pointer (some ((⟨g,0,none⟩:Addr).add m)))) (h:RowAt A g rest d) (hin:In A w) (hm:m<d.size) (hr:RL P n ops Q S rest' ((q,.int KK d[m]!)::E) w):RL P n ops Q S ((false,o)::rest') E w :=
 RL.load hg hd hb ho ht hx (Holds.of h) hin (row_get hm) hr
theorem RL.loadRT {t:TypeId} (m:Nat) (hg:wants ops E o=some true) (hd:o.dst=some q) (hb:Nat.blt q n=true) (ho:o.op = .load t x) (ht:tyc P t=some (false,1))
  (hx:ev E x=some (.pointer (some ((⟨g,0,none⟩:Addr).add m)))) (h:RowAt A g rest d) (hin:∀ w,S w→In A w) (hm:m<d.size) (hr:RL P n ops Q S rest' ((q,.int KK d[m]!)::E) w):RL P n ops Q S ((true,o)::rest') E w :=
 RL.loadT hg hd hb ho ht hx (Holds.of h) hin (row_get hm) hr
theorem RL.storeR {t:TypeId} {v:Int} (m:Nat) (hg:wants ops E o=some true) (hd:o.dst=none) (ho:o.op = .store t x y) (ht:tyc P t=some (false,1))
  (hx:ev E x=some (.pointer (some ((⟨g,0,none⟩:Addr).add m)))) (hy:ev E y=some (.int KK v)) (hG:Good w s (A::os)) (h:RowAt A g rest d) (hm:m<d.size)
  (hr:∀ w' A',Good w' s (A'::os)→Aux w w'→RowAt A' g rest (d.setIfInBounds m v)→S w'∧RL P n ops Q S rest' E w'):RL P n ops Q S ((false,o)::rest') E w:=by
 refine RL.store (i:=0) (j:=m) hg hd ho ht hx hy hG rfl h rfl (by simp[Value.cells,Value.oneCell']) (by simp;omega) ?_
 intro w' hG' hax
 refine hr w' _ hG' hax ?_
 have e:=row_set (rest:=rest) hm v
 simp only[RowAt,Res.put,if_true]
 rw[←e]
 rfl
end
end Go.Lw
namespace Go.Lw
open Go.Proofs
open Go.Sort (swp size_swp)
abbrev SPost (w:World) (s:Res) (os:List Res) (g:Nat) (rest:List Value) (d:Array Int):Ending→World→Prop:=Post w s os fun s' A' r=>s'=s∧r = .tuple #[]∧RowAt A' g rest d
theorem isNaN_ct {w:World} {s:Res} {os:List Res} {x:Int} (hg:Good w s os):Calls Tryz.prog 209 #[.int KK x] w (PostV w s os fun r=>r = .bool false):=by
 refine enter (l:=[.int KK x]) Tryz.func209 rfl Tryz.ntmps209 rfl ?_
 refine go 11 ?_
 exact CW.ret (ret (vs:=[_]) ⟨_,_,rfl,rfl,rfl⟩ (PostV.mk hg (Aux.refl _) (congrArg Value.bool (by simp))))
theorem Less_ct {w:World} {s:Res} {os:List Res} {x y:Int} (hg:Good w s os):Calls Tryz.prog 197 #[.int KK x,.int KK y] w (PostV w s os fun r=>r = .bool (ltI x y)):=by
 refine enter (l:=[.int KK x,.int KK y]) Tryz.func197 rfl Tryz.ntmps197 rfl ?_
 refine go 8 ?_
 refine zw (isNaN_ct hg) ?_
 rintro v w1 hg1 hax1 rfl
 refine go 13 ?_
 exact CW.ret (ret (vs:=[_]) ⟨_,_,rfl,rfl,rfl⟩ (PostV.mk hg1 hax1 rfl))
theorem insInner_step {a j:Nat} {d:Array Int} (h:a<j) (hl:ltI d[j]! d[j-1]! = true):Go.Sort.insInner ltI a j d=Go.Sort.insInner ltI a (j-1) (swp d j (j-1)):=by
 obtain⟨j,rfl⟩:∃ i,j=i+1:=⟨j-1,by omega⟩
 rw[Go.Sort.insInner]
 simp only[Nat.add_sub_cancel] at *
 rw[if_pos (by simp[hl];omega)]
theorem insInner_end {a j:Nat} {d:Array Int} (h:¬ a<j∨ltI d[j]! d[j-1]! = false):Go.Sort.insInner ltI a j d=d:=by
 cases j with
 | zero=>rfl
 | succ j =>
  rw[Go.Sort.insInner,if_neg]
  rcases h with h | h
  ·
   simp;omega
  ·
   simp only[Nat.add_sub_cancel] at h;simp[h]
theorem insOuter_step {a b i:Nat} {d:Array Int} (h:i<b):Go.Sort.insOuter ltI a b i d=Go.Sort.insOuter ltI a b (i+1) (Go.Sort.insInner ltI a i d):=by
 rw[Go.Sort.insOuter,if_pos h]
theorem insOuter_end {a b i:Nat} {d:Array Int} (h:¬ i<b):Go.Sort.insOuter ltI a b i d=d:=by
 rw[Go.Sort.insOuter,if_neg h]
theorem insertionSort_ct {w:World} {s A:Res} {os:List Res} {g n c a b:Nat} {rest:List Value} {d:Array Int} (hg:Good w s (A::os)) (hrow:RowAt A g rest d) (hn:d.size=n) (hb:b≤n) (hab:a≤n) (hsz:n<4611686018427387904) :
  Calls Tryz.prog 191 #[.slice (some ⟨g,0,none⟩) n c,i64 a,i64 b] w (SPost w s os g rest (Go.Sort.insertionSort ltI d a b)):=by
 refine enter (l:=[.slice (some ⟨g,0,none⟩) n c,i64 a,i64 b]) Tryz.func191 rfl Tryz.ntmps191 rfl ?_
 refine go 6 ?_
 refine CW.block (CW.loop (σ:=Nat) (fun k E w'=>∃ A' dk i,Good w' s (A'::os)∧Aux w w'∧RowAt A' g rest dk∧dk.size=n∧a<i∧i≤n+1∧n+1-i≤k∧Go.Sort.insertionSort ltI d a b=Go.Sort.insOuter ltI a b i dk∧E=[(0,.slice (some ⟨g,0,none⟩) n c),(1,i64 a),(2,i64 b),(6,i64 (i:Nat))])
  (fun k=>k) (n+1) [(0,.slice (some ⟨g,0,none⟩) n c),(1,i64 a),(2,i64 b),(6,i64 ((a:Int)+1))] ⟨rfl,rfl,rfl,rfl,trivial⟩ ⟨A,d,a+1,hg,Aux.refl _,hrow,hn,by omega,by omega,by omega,rfl,rfl⟩ ?_)
 rintro k E w1 ⟨A1,d1,i,hg1,hax1,hrow1,hn1,hai,hin,hk,heq,rfl⟩
 refine CW.seq (CW.seq (CW.plain ?_))
 refine go 4 ?_
 refine CW.test rfl (fun h=>?_) (fun h=>?_)
 ·
  refine CW.skip ?_
  have hib:i<b:=by omega
  refine CW.seq (CW.block (CW.seq (CW.plain ?_)))
  refine go 3 ?_
  refine CW.block (CW.loop (σ:=Nat) (fun j E w'=>∃ A' dk,Good w' s (A'::os)∧Aux w w'∧RowAt A' g rest dk∧dk.size=n∧j≤i∧a≤j∧Go.Sort.insInner ltI a i d1=Go.Sort.insInner ltI a j dk∧E=[(0,.slice (some ⟨g,0,none⟩) n c),(1,i64 a),(2,i64 b),(6,i64 (i:Nat)),(7,i64 (j:Nat))])
   (fun j=>j) i [(0,.slice (some ⟨g,0,none⟩) n c),(1,i64 a),(2,i64 b),(6,i64 (i:Nat)),(7,i64 (i:Nat))] ⟨rfl,rfl,rfl,rfl,rfl,trivial⟩ ⟨A1,d1,hg1,hax1,hrow1,hn1,Nat.le_refl _,by omega,rfl,rfl⟩ ?_)
  rintro j E w2 ⟨A2,d2,hg,hax2,hrow,hn2,hji,haj,heq2,rfl⟩
  refine CW.seq (CW.seq ?_)
  refine CW.draws [(true,0),(true,1),(true,2),(true,3),(true,4),(true,5),(true,6),(true,7),(true,8),(true,9),(true,10),(true,11),(true,12),(false,13),(true,14)] (fun w'=>Good w' s (A2::os)) mixed (by kernel_rfl) (by kernel_rfl) (by kernel_rfl) (by kernel_rfl) hg.drew ?_
  refine go 4 ?_
  refine RL.part 19 rfl (fun hc=>?_) (fun hc=>?_)
  ·
   have haj':a<j:=by simpa using hc
   refine go 2 ?_
   refine RL.idxR j rfl rfl rfl rfl sl83.out rfl rfl rfl (by omega) ?_
   refine RL.loadRT j rfl rfl rfl rfl ty22.out rfl hrow (fun w h=>h.1) (by omega) ?_
   refine go 3 ?_
   refine RL.idxR (j-1) rfl rfl rfl rfl sl83.out rfl rfl (by omega) (by omega) ?_
   refine RL.loadRT (j-1) rfl rfl rfl rfl ty22.out rfl hrow (fun w h=>h.1) (by omega) ?_
   refine go 1 ?_
   refine zw (Less_ct hg.drew) ?_
   rintro v w3 hg3 hax3 rfl
   refine⟨hg3,?_⟩
   refine go 2 ?_
   have hg:=hg3
   refine CW.cond rfl (fun hl=>?_) (fun hl=>?_)
   ·
    refine CW.skip ?_
    refine CW.meet (fun E' w'=>∃ A',Good w' s (A'::os)∧Aux w w'∧RowAt A' g rest (swp d2 j (j-1))∧E'=[(0,.slice (some ⟨g,0,none⟩) n c),(1,i64 a),(2,i64 b),(6,i64 (i:Nat)),(7,i64 (j:Nat))]) ?_ ?_
    ·
     refine CW.block ?_
     refine CW.forks (.fork [(true,0),(true,1),(true,2),(true,3),(true,4),(true,5),(true,6),(true,7),(true,8),(true,10),(true,11),(true,12)] (.line [(false,9),(false,13),(true,14),(false,15),(true,16),(false,17)]) (.line [(false,13),(false,9),(true,14),(false,15),(true,16),(false,17)])) (fun _=>True) mixed (by kernel_rfl) (by kernel_rfl) (by kernel_rfl) (by kernel_rfl) trivial ?_
     refine RT.pre trivial ?_
     refine go 8 ?_
     refine RL.idxR (j-1) rfl rfl rfl rfl sl83.out rfl rfl (by omega) (by omega) ?_
     refine go 2 ?_
     refine RL.idxR (j) rfl rfl rfl rfl sl83.out rfl rfl (by omega) (by omega) ?_
     refine go 1 ?_
     refine RT.both (S:=fun _=>True) trivial (RT.end_ (S:=fun _=>True) trivial ?_) (RT.end_ (S:=fun _=>True) trivial ?_)
     ·
      refine RL.loadR (j-1) rfl rfl rfl rfl ty22.out rfl hrow hg.drew.1 (by omega) ?_
      refine RL.loadR (j) rfl rfl rfl rfl ty22.out rfl hrow hg.drew.1 (by omega) ?_
      refine RL.idxR (j) rfl rfl rfl rfl sl83.out rfl rfl (by omega) (by omega) ?_
      refine RL.storeR (j) rfl rfl rfl ty22.out rfl rfl hg.drew hrow (by omega) ?_
      intro ws1 As1 hgs1 haxs1 hrows1
      refine go 1 ?_
      refine RL.idxR (j-1) rfl rfl rfl rfl sl83.out rfl rfl (by omega) (by omega) ?_
      refine RL.storeR (j-1) rfl rfl rfl ty22.out rfl rfl hgs1 hrows1 (by simp;omega) ?_
      intro ws2 As2 hgs2 haxs2 hrows2
      refine go 2 ?_
      exact fun ac ha=>⟨_,ha.sub (E':=[(0,.slice (some ⟨g,0,none⟩) n c),(1,i64 a),(2,i64 b),(6,i64 (i:Nat)),(7,i64 (j:Nat))]) ⟨rfl,rfl,rfl,rfl,rfl,trivial⟩,As2,hgs2,hax2.trans ((Aux.drew _).trans (hax3.trans ((Aux.drew _).trans (haxs1.trans haxs2)))),hrows2,rfl⟩
     ·
      refine RL.loadR (j) rfl rfl rfl rfl ty22.out rfl hrow hg.drew.1 (by omega) ?_
      refine RL.loadR (j-1) rfl rfl rfl rfl ty22.out rfl hrow hg.drew.1 (by omega) ?_
      refine RL.idxR (j) rfl rfl rfl rfl sl83.out rfl rfl (by omega) (by omega) ?_
      refine RL.storeR (j) rfl rfl rfl ty22.out rfl rfl hg.drew hrow (by omega) ?_
      intro ws1 As1 hgs1 haxs1 hrows1
      refine go 1 ?_
      refine RL.idxR (j-1) rfl rfl rfl rfl sl83.out rfl rfl (by omega) (by omega) ?_
      refine RL.storeR (j-1) rfl rfl rfl ty22.out rfl rfl hgs1 hrows1 (by simp;omega) ?_
      intro ws2 As2 hgs2 haxs2 hrows2
      refine go 2 ?_
      exact fun ac ha=>⟨_,ha.sub (E':=[(0,.slice (some ⟨g,0,none⟩) n c),(1,i64 a),(2,i64 b),(6,i64 (i:Nat)),(7,i64 (j:Nat))]) ⟨rfl,rfl,rfl,rfl,rfl,trivial⟩,As2,hgs2,hax2.trans ((Aux.drew _).trans (hax3.trans ((Aux.drew _).trans (haxs1.trans haxs2)))),hrows2,rfl⟩
    ·
     rintro E' w5 ⟨A5,hg5,hax5,hrow5,rfl⟩
     refine go 5 ?_
     refine fun ac ha=>⟨j-1,[(0,.slice (some ⟨g,0,none⟩) n c),(1,i64 a),(2,i64 b),(6,i64 (i:Nat)),(7,i64 ((j-1:Nat):Int))],ha.sub ⟨rfl,rfl,rfl,rfl,congrArg (fun z=>some (i64 z)) (by omega),trivial⟩,⟨A5,_,hg5,hax5,hrow5,by rw[size_swp];exact hn2,by omega,by omega,by rw[heq2];exact insInner_step haj' hl,rfl⟩,by omega⟩
   ·
    refine CW.exit ?_
    refine go 5 ?_
    have heq3:=heq2.trans (insInner_end (.inr hl))
    refine fun ac ha=>⟨k-1,[(0,.slice (some ⟨g,0,none⟩) n c),(1,i64 a),(2,i64 b),(6,i64 ((i:Int)+1))],ha.sub ⟨rfl,rfl,rfl,rfl,trivial⟩,⟨A2,d2,i+1,hg3,hax2.trans ((Aux.drew _).trans hax3),hrow,hn2,by omega,by omega,by omega,by rw[heq,insOuter_step hib,heq3],rfl⟩,by omega⟩
  ·
   have haj':¬ a<j:=by simpa using hc
   refine go 12 ?_
   refine CW.no rfl ?_
   refine go 6 ?_
   have heq3:=heq2.trans (insInner_end (.inl haj'))
   refine fun ac ha=>⟨k-1,[(0,.slice (some ⟨g,0,none⟩) n c),(1,i64 a),(2,i64 b),(6,i64 ((i:Int)+1))],ha.sub ⟨rfl,rfl,rfl,rfl,trivial⟩,⟨A2,d2,i+1,hg.drew,hax2.trans (Aux.drew _),hrow,hn2,by omega,by omega,by omega,by rw[heq,insOuter_step hib,heq3],rfl⟩,by omega⟩
 ·
  refine CW.exit ?_
  refine fall (vs:=[]) rfl (Post.mk (Le.refl _) hg1 hax1 ⟨rfl,rfl,?_⟩)
  rw[heq,insOuter_end (by omega)]
  exact hrow1
end Go.Lw
