/- Function values as they are made. No condition. -/
import Derived.Test.YtekplcjgmnahmaaDoorGBase
namespace Go.Proofs.YtekplcjgmnahmaaDoor.PA
open Go.RowKit
theorem makeFunc_run (fn : Fn) (first cap : Array Value) (w : World) : (Instr.makeFunc fn first cap).run Tryd.prog w = .ok (.func fn first cap) w := rfl
end Go.Proofs.YtekplcjgmnahmaaDoor.PA
