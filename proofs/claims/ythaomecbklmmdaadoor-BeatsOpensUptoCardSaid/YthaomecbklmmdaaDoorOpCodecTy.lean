/-
  What the codec's values are; their readings in memory.
-/
import Derived.Test.YthaomecbklmmdaaDoorOpA2
namespace Go.Lw

structure Conf where
  voters : List Int
  learners : List Int
  deriving DecidableEq
structure Entry where
  index : Int
  term : Int
  kind : Int
  data : List Int
  conf : Conf
structure Snap where
  index : Int
  term : Int
  conf : Conf
  data : List Int
structure Range where
  lo : ByteArray
  hi : ByteArray
structure Record where
  offset : Int
  key : ByteArray
  value : List Int
  producer : Int
  seq : Int

/-! ### readings -/
def RConf : Res → List Value → Conf → Prop := fun s vs x =>
  ∃ a c a' c', vs = [.slice a x.voters.length c, .slice a' x.learners.length c'] ∧ Imm (RInt .i64) 1 s a c x.voters ∧ Imm (RInt .i64) 1 s a' c' x.learners
theorem RConf.up : Up RConf := fun _ _ _ _ hl ⟨a, c, a', c', h, h1, h2⟩ => ⟨a, c, a', c', h, h1.up (RInt.up _) hl, h2.up (RInt.up _) hl⟩
theorem RConf.one : One RConf := fun _ _ _ ⟨a, c, a', c', h, _, _⟩ v hv => by
  subst h
  simp only [List.mem_cons, List.not_mem_nil, or_false] at hv
  rcases hv with rfl | rfl <;> rfl
def REntry : Res → List Value → Entry → Prop := fun s vs x =>
  ∃ a c a1 c1 a2 c2, vs = [.int .u64 x.index, .int .u64 x.term, .int .i64 x.kind, .slice a x.data.length c, .slice a1 x.conf.voters.length c1, .slice a2 x.conf.learners.length c2] ∧
    rng .u64 x.index ∧ rng .u64 x.term ∧ rng .i64 x.kind ∧ Imm (RInt .u8) 1 s a c x.data ∧ Imm (RInt .i64) 1 s a1 c1 x.conf.voters ∧ Imm (RInt .i64) 1 s a2 c2 x.conf.learners
theorem REntry.up : Up REntry := fun _ _ _ _ hl ⟨a, c, a1, c1, a2, c2, h, r1, r2, r3, h1, h2, h3⟩ => ⟨a, c, a1, c1, a2, c2, h, r1, r2, r3, h1.up (RInt.up _) hl, h2.up (RInt.up _) hl, h3.up (RInt.up _) hl⟩
theorem REntry.one : One REntry := fun _ _ _ ⟨a, c, a1, c1, a2, c2, h, _⟩ v hv => by
  subst h
  simp only [List.mem_cons, List.not_mem_nil, or_false] at hv
  rcases hv with rfl | rfl | rfl | rfl | rfl | rfl <;> rfl
def RSnap : Res → List Value → Snap → Prop := fun s vs x =>
  ∃ a c a1 c1 a2 c2, vs = [.int .u64 x.index, .int .u64 x.term, .slice a1 x.conf.voters.length c1, .slice a2 x.conf.learners.length c2, .slice a x.data.length c] ∧
    rng .u64 x.index ∧ rng .u64 x.term ∧ Imm (RInt .u8) 1 s a c x.data ∧ Imm (RInt .i64) 1 s a1 c1 x.conf.voters ∧ Imm (RInt .i64) 1 s a2 c2 x.conf.learners
theorem RSnap.up : Up RSnap := fun _ _ _ _ hl ⟨a, c, a1, c1, a2, c2, h, r1, r2, h1, h2, h3⟩ => ⟨a, c, a1, c1, a2, c2, h, r1, r2, h1.up (RInt.up _) hl, h2.up (RInt.up _) hl, h3.up (RInt.up _) hl⟩
theorem RSnap.one : One RSnap := fun _ _ _ ⟨a, c, a1, c1, a2, c2, h, _⟩ v hv => by
  subst h
  simp only [List.mem_cons, List.not_mem_nil, or_false] at hv
  rcases hv with rfl | rfl | rfl | rfl | rfl <;> rfl
def RRange : Res → List Value → Range → Prop := fun _ vs x => vs = [.string x.lo, .string x.hi] ∧ x.lo.size ≤ maxLen ∧ x.hi.size ≤ maxLen
theorem RRange.up : Up RRange := fun _ _ _ _ _ h => h
theorem RRange.one : One RRange := fun _ _ _ ⟨h, _⟩ v hv => by
  subst h
  simp only [List.mem_cons, List.not_mem_nil, or_false] at hv
  rcases hv with rfl | rfl <;> rfl
def RRecord : Res → List Value → Record → Prop := fun s vs x =>
  ∃ a c, vs = [.int .u64 x.offset, .string x.key, .slice a x.value.length c, .int .u64 x.producer, .int .u64 x.seq] ∧
    rng .u64 x.offset ∧ x.key.size ≤ maxLen ∧ Imm (RInt .u8) 1 s a c x.value ∧ rng .u64 x.producer ∧ rng .u64 x.seq
theorem RRecord.up : Up RRecord := fun _ _ _ _ hl ⟨a, c, h, r1, r2, h1, r3, r4⟩ => ⟨a, c, h, r1, r2, h1.up (RInt.up _) hl, r3, r4⟩
theorem RRecord.one : One RRecord := fun _ _ _ ⟨a, c, h, _⟩ v hv => by
  subst h
  simp only [List.mem_cons, List.not_mem_nil, or_false] at hv
  rcases hv with rfl | rfl | rfl | rfl | rfl <;> rfl
end Go.Lw
