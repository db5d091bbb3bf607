/- What strconv.Itoa asks of memory: the table of powers of ten lies as its initialiser lays it; numbers as text. -/
import Derived.Test.YtooobbbpcpfddaaDoorGBase
import Derived.Test.YtooobbbpcpfddaaDoorShelf
import Derived.Lib.LaidTab
namespace Go.Proofs.YtooobbbpcpfddaaDoor.PA
open Go.RowKit Go.Proofs.YtooobbbpcpfddaaDoorW.PrintWords Go.Proofs.YtooobbbpcpfddaaDoorW.PrintLast Go.Proofs.YtooobbbpcpfddaaDoorW.PrintMore
def GlobPow10 (w : World) : Prop := Lib.TabIs Tryd.prog w "internal/strconv.uint64pow10" .u64 Lib.pow10Tab
theorem pow10_named : Tryd.prog.globalNamed "internal/strconv.uint64pow10" = some 1 := by kernel_rfl
theorem GlobPow10.below {w0 w : World} (h : GlobPow10 w0) (hb : Below w0.heap.size w0 w) : GlobPow10 w := by
  unfold GlobPow10 Lib.TabIs World.var? at h ⊢
  rw [pow10_named] at h ⊢
  simp only [Option.bind_some] at h ⊢
  cases hh : w0.heap[1]? with
  | none => rw [hh] at h; cases h
  | some o =>
    have hlt : 1 < w0.heap.size := (Array.getElem?_eq_some_iff.1 hh).1
    rw [hb.block _ hlt]
    exact h
theorem below_grown_drewN (w : World) (k : Nat) (os : Array Obj) : Below w.heap.size w (Go.Sort.grow (w.drewN k) os) :=
  ⟨rfl, rfl, rfl, by show w.heap.size ≤ (w.heap ++ os).size; rw [Array.size_append]; omega, fun _ hj => Go.Sort.heap_grow_old (w.drewN k) os hj⟩
theorem itoa_calls (n : Int) (hn : -9223372036854775808 ≤ n ∧ n ≤ 9223372036854775807) (w : World) (h : GlobPow10 w) :
    Calls Tryd.prog 87 #[.int .i64 n] w fun e w' => e = .returned (.string ⟨(Lib.itoa n).toArray⟩) ∧ Below w.heap.size w w' :=
  (Tryd.strconv_Itoa n hn.1 hn.2 w h).mono fun _ _ ⟨he, k, os, hw⟩ => ⟨he, by rw [hw]; exact below_grown_drewN w k os⟩
end Go.Proofs.YtooobbbpcpfddaaDoor.PA
