/- What this seat's rows list as laid: the sentinel of package sum; a world in which it lies so; what it gives to the walks. -/
import Derived.Test.YtooobbbpcpfddaaDoorRows
import Derived.Test.YtooobbbpcpfddaaDoorGSum
import Derived.LaidLaws
import Derived.Stop.ErrReads
import Derived.ProofKit
import Derived.Handed
namespace Go.Proofs.YtooobbbpcpfddaaDoor
open Go.ChangeShapes Go.WideShapes Go.RowKit
theorem errOver_named : Tryd.prog.globalNamed "keelson/sum.errOver" = some 0 := by kernel_rfl
theorem errOver_type : (Tryd.prog.globals[0]?).map (·.type) = some 102 := by kernel_rfl
theorem name_star : "*" ++ "errors.errorString" = "*errors.errorString" := by decide
theorem row_star (u : TypeId) (h : Tryd.prog.typeName? 3 u = some "*errors.errorString") : u = 165 :=
  typeName_ptr_named (nm := "errors.errorString") (by rw [name_star]; kernel_rfl) (by kernel_rfl) (by decide) u (by rw [name_star]; exact h)
set_option maxRecDepth 100000 in
theorem errOver_of_laid {W : World} (h : laidMet Tryd.prog [("keelson/sum.errOver", Rows.laid_keelson_sum_errOver)] W) : PA.GlobErrOver W := by
  obtain ⟨ps, ⟨g0, t0, cs0, f0, p0, q0, hg0, ht0, hv0, hd0, _, e0⟩, _, hrows⟩ := h
  subst e0
  obtain rfl := Option.some.inj (errOver_named.symm.trans hg0)
  obtain rfl := Option.some.inj (errOver_type.symm.trans ht0)
  obtain ⟨l0⟩ := cs0
  have ok0 : ∀ u v, l0 = [.iface u v] → Value.okWide Tryd.prog W .any 0 u v := fun u v e => by
    subst e
    exact (hrows 0 0 (by simp [MemPlace.row])).2 u v (by simpa using World.var?_cell hg0 hv0 0)
  obtain ⟨a0, s0, rfl, _⟩ := errorString_of_trod Tryd.underlying102 row_star Tryd.underlying165 Tryd.underlying187 rfl rfl Tryd.underlying9 (by kernel_rfl) (by kernel_rfl) hd0 ok0
  exact ⟨a0, by simpa using World.var?_cell errOver_named hv0 0⟩
abbrev overS : ByteArray := { data := #[111, 118, 101, 114] }
noncomputable def low : Nat := (World.holding Tryd.prog default ⟨#[], #[], []⟩).heap.size
noncomputable def laidWorld (os : Os) : World :=
  let w0 := World.holding Tryd.prog os ⟨#[.cells #[.string overS] 187], #[], []⟩
  { w0 with heap := w0.heap.modify 0 fun
      | .cells _ t frozen => .cells #[.iface 165 (.pointer (some ⟨low, 0, none⟩))] t frozen
      | o => o }
theorem laid_met_errOver (os : Os) (args : Array Value) : laidMet Tryd.prog [("keelson/sum.errOver", Rows.laid_keelson_sum_errOver)] ((laidWorld os).forCall (fun _ _ => 0) ⟨#[], args, []⟩).memory :=
  laidMet_of_run (ps := [.cell 0 0, .cell low 0]) 8 (by kernel_rfl) (by kernel_rfl) (by kernel_rfl)
end Go.Proofs.YtooobbbpcpfddaaDoor
