/- What this seat's rows list as laid: two tables of utf8; a world in which they lie so; what the world's shape gives to the walks. -/
import Derived.Test.YtekplcjgmnahmaaDoorRows
import Derived.Test.YtekplcjgmnahmaaDoorGField5
import Derived.Test.YtekplcjgmnahmaaDoorRShape
import Derived.LaidLaws
import Derived.ProofKit
import Derived.Handed
import Derived.Shelf.Vars
namespace Go.Proofs.YtekplcjgmnahmaaDoor
open Go.ChangeShapes Go.WideShapes Go.RowKit
theorem maxLen_of_shape {W : World} (h : W.ShapedOpen Tryd.prog) : PA.GlobMaxLen W :=
  cell_of_shapedOpen_int (P := Tryd.prog) (g := 0) (t := 3) (zero := #[.int .i64 0]) h (of_decide_eq_true (by kernel_rfl)) (by kernel_rfl) rfl (by kernel_rfl) (by kernel_rfl) Tryd.underlying3
def setCells (cs : Array Value) : Obj → Obj | .cells _ t frozen => .cells cs t frozen | o => o
noncomputable def laidWorld (os : Os) : World :=
  let w0 := World.holding Tryd.prog os ⟨#[], #[], []⟩
  { w0 with heap := ((w0.heap.modify 2 (setCells #[.int .u8 128, .int .u8 191, .int .u8 160, .int .u8 191, .int .u8 128, .int .u8 159, .int .u8 144, .int .u8 191, .int .u8 128, .int .u8 143, .int .u8 0, .int .u8 0, .int .u8 0, .int .u8 0, .int .u8 0, .int .u8 0, .int .u8 0, .int .u8 0, .int .u8 0, .int .u8 0, .int .u8 0, .int .u8 0, .int .u8 0, .int .u8 0, .int .u8 0, .int .u8 0, .int .u8 0, .int .u8 0, .int .u8 0, .int .u8 0, .int .u8 0, .int .u8 0])).modify 1 (setCells (Go.Pinned.utf8FirstZ.map fun n : Nat => Value.int .u8 (n : Int)).toArray)) }
set_option maxRecDepth 100000 in
theorem laid_met_acceptRanges_first (os : Os) (args : Array Value) : laidMet Tryd.prog [("unicode/utf8.acceptRanges", Rows.laid_unicode_utf8_acceptRanges), ("unicode/utf8.first", Rows.laid_unicode_utf8_first)] ((laidWorld os).forCall (fun _ _ => 0) ⟨#[], args, []⟩).memory :=
  laidMet_of_run' 8 (by kernel_rfl) (by kernel_rfl)
end Go.Proofs.YtekplcjgmnahmaaDoor
