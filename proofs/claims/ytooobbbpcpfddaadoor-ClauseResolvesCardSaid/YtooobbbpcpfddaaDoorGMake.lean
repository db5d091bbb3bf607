/- Function values as they are made. No condition. -/
import Derived.Test.YtooobbbpcpfddaaDoorGBase
namespace Go.Proofs.YtooobbbpcpfddaaDoor.PA
open Go.RowKit
theorem makeFunc_run (fn : Fn) (first cap : Array Value) (w : World) : (Instr.makeFunc fn first cap).run Tryd.prog w = .ok (.func fn first cap) w := rfl
end Go.Proofs.YtooobbbpcpfddaaDoor.PA
