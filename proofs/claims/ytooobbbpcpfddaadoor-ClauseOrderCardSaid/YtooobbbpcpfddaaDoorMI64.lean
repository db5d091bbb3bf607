/- Variables of int64 literals: the program's and the reference's words agree. -/
import Derived.Test.YtooobbbpcpfddaaDoorMRef12
import Derived.Test.YtooobbbpcpfddaaDoorGClause
namespace Go.Proofs.YtooobbbpcpfddaaDoor.PA
open Go.RowKit Go.Proofs.YtooobbbpcpfddaaDoorW.PrintWords Go.Proofs.YtooobbbpcpfddaaDoorW.PrintLast Go.Proofs.YtooobbbpcpfddaaDoorW.PrintMore
def i64 (x : Int) : Prop := -9223372036854775808 ≤ x ∧ x ≤ 9223372036854775807
theorem i64_wrap (x : Int) : i64 (wrap64 x) := by unfold i64 wrap64; omega

theorem varG_i64 {x n : Int} (hx : i64 x) (hn : n < 4611686018427387904) : varG x n = if varR x ≤ n then varR x else 0 := by
  unfold i64 at hx
  by_cases h : x < 0
  · by_cases h2 : x > -4611686018427387904
    · have hv : varR x = -x := by unfold varR; rw [if_pos ⟨h, h2⟩]
      have hw : wrap64 (-x) = -x := wrap_id (by omega) (by omega)
      rw [hv]
      unfold varG
      rw [if_pos h, hw]
      by_cases h3 : -x ≤ n
      · rw [if_pos h3, if_neg (by omega)]
      · rw [if_neg h3, if_pos (by omega)]
    · have hv : varR x = 0 := by unfold varR; rw [if_neg (by omega), if_neg (by omega)]
      have hw : wrap64 (-x) < 1 ∨ wrap64 (-x) > n := by unfold wrap64; omega
      rw [hv]
      unfold varG
      rw [if_pos h, if_pos hw]; split <;> rfl
  · by_cases h2 : x > 0 ∧ x < 4611686018427387904
    · have hv : varR x = x := by unfold varR; rw [if_neg (fun z => h z.1), if_pos h2]
      rw [hv]
      unfold varG
      rw [if_neg h]
      by_cases h3 : x ≤ n
      · rw [if_pos h3, if_neg (by omega)]
      · rw [if_neg h3, if_pos (by omega)]
    · have hv : varR x = 0 := by unfold varR; rw [if_neg (fun z => h z.1), if_neg h2]
      rw [hv]
      unfold varG
      rw [if_neg h, if_pos (by omega)]; split <;> rfl
end Go.Proofs.YtooobbbpcpfddaaDoor.PA
