/- ClauseResolves' plain law: the walk shows it outright. -/
import Derived.Test.YtooobbbpcpfddaaDoorGLawResolves
import Derived.Test.YtooobbbpcpfddaaDoorROpen
namespace Go.Proofs.YtooobbbpcpfddaaDoor.PA
open Go.RowKit Go.Proofs.YtooobbbpcpfddaaDoorW.PrintWords Go.Proofs.YtooobbbpcpfddaaDoorW.PrintLast Go.Proofs.YtooobbbpcpfddaaDoorW.PrintMore
theorem ClauseResolves_pure (l0 : List Int) (_ok0 : okL (Tryd.prog.bytesOf 3) (okI .i64) l0) (l1 : List Int) (_ok1 : okL (Tryd.prog.bytesOf 3) (okI .i64) l1) (a2 : Int) (_ok2 : okI .i64 a2) : ∃ k, keelsonlaw12_ClauseResolves.f k l0 l1 a2 = some true := ⟨0, rfl⟩
end Go.Proofs.YtooobbbpcpfddaaDoor.PA
