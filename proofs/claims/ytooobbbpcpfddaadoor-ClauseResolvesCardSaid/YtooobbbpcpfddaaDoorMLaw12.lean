/- The words of keelsonlaw12 as plain functions. For lists within the machine's room. -/
import Derived.Test.YtooobbbpcpfddaaDoorMUnits
import Derived.Test.YtooobbbpcpfddaaDoorPAkeelsonlaw120
import Derived.Test.YtooobbbpcpfddaaDoorPAkeelsonlaw122
namespace Go.Proofs.YtooobbbpcpfddaaDoor.PA
open Go.RowKit Go.Proofs.YtooobbbpcpfddaaDoorW.PrintWords Go.Proofs.YtooobbbpcpfddaaDoorW.PrintLast Go.Proofs.YtooobbbpcpfddaaDoorW.PrintMore

theorem sameInts_loop (a b : List Int) (hl : a.length = b.length) (hn : a.length ≤ 9223372036854775807) (d : Nat) : ∀ i : Nat, i + d = a.length → Ev (fun k => keelsonlaw12_sameInts.l0 k a b (i : Int)) (decide (a.drop i = b.drop i)) := by
  induction d with
  | zero =>
    intro i hi
    refine Ev.succ ?_
    simp only [keelsonlaw12_sameInts.l0]
    rw [List.drop_eq_nil_of_le (by omega), List.drop_eq_nil_of_le (by omega)]
    exact Ev.neg (by omega) (Ev.some rfl)
  | succ d ih =>
    intro i hi
    have hil : i < a.length := by omega
    have hil' : i < b.length := by omega
    refine Ev.succ ?_
    simp only [keelsonlaw12_sameInts.l0]
    have hd : (a.drop i = b.drop i) ↔ (a[i] = b[i] ∧ a.drop (i + 1) = b.drop (i + 1)) := by rw [List.drop_eq_getElem_cons hil, List.drop_eq_getElem_cons hil', List.cons.injEq]
    rw [rd_nat _ _ hil, rd_nat _ _ hil', wrap_step hil hn]
    refine Ev.pos (by omega) (Ev.pos (by omega) (Ev.pos (by omega) ?_))
    by_cases h : a[i] = b[i]
    · refine Ev.pos h ?_
      rw [decide_eq_decide.2 (hd.trans (and_iff_right h))]
      exact ih (i + 1) (by omega)
    · exact Ev.neg h (Ev.some (decide_eq_false (fun z => h (hd.1 z).1)).symm)
theorem sameInts_ev (a b : List Int) (hn : a.length ≤ 9223372036854775807) : Ev (fun k => keelsonlaw12_sameInts.f k a b) (decide (a = b)) := by
  unfold keelsonlaw12_sameInts.f
  by_cases h : (a.length : Int) = (b.length : Int)
  · exact Ev.pos h (by simpa using sameInts_loop a b (by omega) hn a.length 0 (by omega))
  · exact Ev.neg h (Ev.some (by rw [decide_eq_false]; rintro rfl; exact h rfl))
theorem small_loop12 (l : List (List Int)) (hn : l.length ≤ 9223372036854775807) (d : Nat) : ∀ i : Nat, i + d = l.length → Ev (fun k => keelsonlaw12_small.l0 k l (i : Int)) ((l.drop i).all fun c => !(decide ((c.length : Int) > 310))) := by
  induction d with
  | zero =>
    intro i hi
    refine Ev.succ ?_
    simp only [keelsonlaw12_small.l0]
    rw [List.drop_eq_nil_of_le (by omega)]
    exact Ev.neg (by omega) (Ev.some rfl)
  | succ d ih =>
    intro i hi
    have hil : i < l.length := by omega
    refine Ev.succ ?_
    simp only [keelsonlaw12_small.l0]
    rw [rdL_nat _ _ hil, wrap_step hil hn, List.drop_eq_getElem_cons hil, List.all_cons]
    refine Ev.pos (by omega) (Ev.pos (by omega) ?_)
    by_cases h : (l[i].length : Int) > 310
    · rw [decide_eq_true h]; exact Ev.pos h (Ev.some rfl)
    · rw [decide_eq_false h]; exact Ev.neg h (by simpa using ih (i + 1) (by omega))
def smallC (l : List (List Int)) : Bool := if (l.length : Int) > 100 then false else l.all fun c => !(decide ((c.length : Int) > 310))
theorem small12_ev (l : List (List Int)) (hn : l.length ≤ 9223372036854775807) : Ev (fun k => keelsonlaw12_small.f k l) (smallC l) := by
  unfold keelsonlaw12_small.f smallC
  exact Ev.ite (fun _ => Ev.some rfl) (fun _ => by simpa using small_loop12 l hn l.length 0 (by omega))
theorem smallC_spec {l : List (List Int)} (h : smallC l = true) : l.length ≤ 100 ∧ ∀ c ∈ l, c.length ≤ 310 := by
  unfold smallC at h
  split at h
  · cases h
  · refine ⟨by omega, fun c hc => ?_⟩
    have := List.all_eq_true.1 h c hc
    simp at this; omega
theorem tidy_s1 : ([3,-1,3,1] : List Int).mergeSort (fun x y => !(ltOf cfL) y x) = [1,-1,3,3] := by
  have e : (fun x y => !(ltOf cfL) y x) = fun x y : Int => !decide (keyL y < keyL x ∨ (keyL y = keyL x ∧ x < y)) := by funext x y; rw [cfL_lt]
  rw [e]
  have k3 : keyL 3 = 3 := by decide +kernel
  have k1 : keyL 1 = 1 := by decide +kernel
  have km : keyL (-1) = 1 := by decide +kernel
  simp [List.mergeSort, List.MergeSort.Internal.splitInTwo, k3, k1, km]
theorem tidy_s2 : ([2,3] : List Int).mergeSort (fun x y => !(ltOf cfL) y x) = [2,3] := by
  have e : (fun x y => !(ltOf cfL) y x) = fun x y : Int => !decide (keyL y < keyL x ∨ (keyL y = keyL x ∧ x < y)) := by funext x y; rw [cfL_lt]
  rw [e]
  have k3 : keyL 3 = 3 := by decide +kernel
  have k1 : keyL 2 = 2 := by decide +kernel
  simp [List.mergeSort, List.MergeSort.Internal.splitInTwo, k3, k1]
theorem tidy_t1 : clause_Tidy.f [3,-1,3,1] = some ([1,-1,3], true) := by
  unfold clause_Tidy.f; rw [if_pos (by decide)]; unfold tidyL; rw [tidy_s1]; decide +kernel
theorem tidy_t2 : clause_Resolve.f [1,2] [-1,3] 1 = some ([2,3], true) := by
  unfold clause_Resolve.f resolveG
  have e : lessL [1,2] 1 ++ lessL [-1,3] (wrap64 (-1)) = [2,3] := by decide +kernel
  rw [e, if_pos (by decide), if_neg (by decide +kernel)]; unfold tidyL; rw [tidy_s2]; decide +kernel
theorem shown12_ev : Ev (fun k => keelsonlaw12_shown.f k) true := by
  refine Ev.of (fun k => keelsonlaw12_shown.mono k) (k := 40) ?_
  unfold keelsonlaw12_shown.f
  rw [tidy_t1, tidy_t2]
  decide +kernel
end Go.Proofs.YtooobbbpcpfddaaDoor.PA
