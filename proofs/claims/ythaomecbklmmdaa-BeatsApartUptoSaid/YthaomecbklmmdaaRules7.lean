/-
  THE WALK ENGINE, part 11: results that lie in a variable.
-/
import Derived.Test.YthaomecbklmmdaaRules6
namespace Go.Lw
theorem loadVar_agg {P : Program} {w : World} {t : TypeId} {k b : Nat} {A : Res} {cs : Array Value} {el : TypeId} {fr : Nat × Nat} (ht : tyc P t = some (true, k)) (hA : A b = some (.cells cs el fr)) (hin : In A w) (hk : cs.size = k) :
    (loadVar t ⟨b, 0, none⟩).run P w = .ok (.agg cs) w := by
  have hr := run_loadCells_list (P := P) w ⟨b, 0, none⟩ cs.toList (fun i u hu => (Holds.of hA).cell hin hu)
  have hl : cs.toList.length = k := by simpa using hk
  rw [hl] at hr
  simp [loadVar, (tyc_agg ht).1, (tyc_agg ht).2, hr]
theorem loadVar_one {P : Program} {w : World} {t : TypeId} {b : Nat} {A : Res} {cs : Array Value} {el : TypeId} {fr : Nat × Nat} {v : Value} (ht : tyc P t = some (false, 1)) (hA : A b = some (.cells cs el fr)) (hin : In A w) (hv : cs[0]? = some v) :
    (loadVar t ⟨b, 0, none⟩).run P w = .ok v w := by
  have hc := (Holds.of hA).cell hin (j := 0) (u := v) (by simpa using hv)
  have hz : (⟨b, 0, none⟩ : Addr).add 0 = ⟨b, 0, none⟩ := rfl
  rw [hz] at hc
  simp [loadVar, (tyc_agg ht).1, load, Sem.run, hc, Sem.run_bind]
end Go.Lw
