/- math/bits.Len: off the library's shelf. The number is a uint. -/
import Derived.Test.YtooobbbpcpfddaaDoorGBase
import Derived.Test.YtooobbbpcpfddaaDoorShelf
namespace Go.Proofs.YtooobbbpcpfddaaDoor.PA
open Go.RowKit Go.Proofs.YtooobbbpcpfddaaDoorW.PrintWords Go.Proofs.YtooobbbpcpfddaaDoorW.PrintLast Go.Proofs.YtooobbbpcpfddaaDoorW.PrintMore
def bits_Len.f (a0 : Int) : Option Int := if 0 ≤ a0 ∧ a0 ≤ 18446744073709551615 then some (Lib.bitLen a0.toNat : Nat) else none
theorem bits_Len.calls (a0 : Int) (r : Int) (w : World) (h : bits_Len.f a0 = some r) :
    Calls Tryd.prog 48 #[.int .u64 a0] w fun e w' => e = .returned (.int .i64 r) ∧ Drawn0 w w' := by
  unfold bits_Len.f at h
  split at h
  · rename_i hb
    obtain rfl := Option.some.inj h
    exact (Tryd.bits_Len a0 w hb.1 hb.2).mono fun e w' h => ⟨h.1, ⟨0, h.2⟩⟩
  · cases h
end Go.Proofs.YtooobbbpcpfddaaDoor.PA
