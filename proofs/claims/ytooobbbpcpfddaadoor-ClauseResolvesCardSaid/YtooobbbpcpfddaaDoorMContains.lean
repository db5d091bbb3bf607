/- slices.Contains of numbers, as a plain function. For slices within the machine's room. -/
import Derived.Test.YtooobbbpcpfddaaDoorMBase
import Derived.Test.YtooobbbpcpfddaaDoorPAslices0
namespace Go.Proofs.YtooobbbpcpfddaaDoor.PA
open Go.RowKit Go.Proofs.YtooobbbpcpfddaaDoorW.PrintWords Go.Proofs.YtooobbbpcpfddaaDoorW.PrintLast Go.Proofs.YtooobbbpcpfddaaDoorW.PrintMore
theorem index_loop (l : List Int) (x : Int) (hn : l.length ≤ 9223372036854775807) (d : Nat) : ∀ i : Nat, i + d = l.length →
    Ev (fun k => slices_Index_int_int.l0 k l x (l.length : Int) (i : Int)) (match (l.drop i).findIdx? (fun y => decide (x = y)) with | some j => ((i + j : Nat) : Int) | none => -1) := by
  induction d with
  | zero =>
    intro i hi
    refine Ev.succ ?_
    simp only [slices_Index_int_int.l0]
    rw [List.drop_eq_nil_of_le (by omega)]
    exact Ev.neg (by omega) (Ev.some rfl)
  | succ d ih =>
    intro i hi
    have hil : i < l.length := by omega
    refine Ev.succ ?_
    simp only [slices_Index_int_int.l0]
    refine Ev.pos (by omega) (Ev.pos (by omega) (Ev.pos (by omega) ?_))
    rw [rd_nat _ _ hil, wrap_step hil hn, List.drop_eq_getElem_cons hil, List.findIdx?_cons]
    by_cases h : x = l[i]
    · refine Ev.pos h (Ev.some ?_)
      simp [h]
    · refine Ev.neg h ?_
      have hq := ih (i + 1) (by omega)
      rw [decide_eq_false h]
      simp only [Bool.false_eq_true, if_false]
      cases hf : (l.drop (i + 1)).findIdx? (fun y => decide (x = y)) with
      | none => rw [hf] at hq; exact hq
      | some j =>
        rw [hf] at hq
        simp only [Option.map_some]
        rw [show i + (j + 1) = i + 1 + j from by omega]
        exact hq
theorem contains_ev (l : List Int) (x : Int) (hn : l.length ≤ 9223372036854775807) : Ev (fun k => slices_Contains_int_int.f k l x) (decide (x ∈ l)) := by
  unfold slices_Contains_int_int.f slices_Index_int_int.f
  refine Ev.bind (index_loop l x hn l.length 0 (by omega)) (Ev.some ?_)
  rw [List.drop_zero]
  cases hf : l.findIdx? (fun y => decide (x = y)) with
  | none =>
    rw [List.findIdx?_eq_none_iff] at hf
    have : ¬ x ∈ l := fun hx => by have := hf x hx; simp at this
    simp [this]
  | some j =>
    obtain ⟨hj, hp, _⟩ := List.findIdx?_eq_some_iff_getElem.1 hf
    have : x ∈ l := by
      have e : x = l[j] := of_decide_eq_true hp
      rw [e]; exact List.getElem_mem hj
    simp [this]

end Go.Proofs.YtooobbbpcpfddaaDoor.PA
