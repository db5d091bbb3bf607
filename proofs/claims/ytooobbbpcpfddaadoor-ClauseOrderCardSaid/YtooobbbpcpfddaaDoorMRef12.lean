/- The reference of chapter 12, as plain functions: a literal's variable, whether clauses hold by a truth. -/
import Derived.Test.YtooobbbpcpfddaaDoorMBase
import Derived.Test.YtooobbbpcpfddaaDoorPAkeelsonref120
namespace Go.Proofs.YtooobbbpcpfddaaDoor.PA
open Go.RowKit Go.Proofs.YtooobbbpcpfddaaDoorW.PrintWords Go.Proofs.YtooobbbpcpfddaaDoorW.PrintLast Go.Proofs.YtooobbbpcpfddaaDoorW.PrintMore

def varR (x : Int) : Int := if x < 0 ∧ x > -4611686018427387904 then -x else if x > 0 ∧ x < 4611686018427387904 then x else 0
def litR (m : List Bool) (x : Int) : Bool := decide (varR x ≥ 1) && (decide (varR x ≤ (m.length : Int)) && (m.getD (varR x - 1).toNat false == decide (x > 0)))
def holdsR (l : List (List Int)) (m : List Bool) : Bool := l.all fun c => c.any (litR m)

theorem var_at (x : Int) (k : Nat) : keelsonref12_Var.f (k + 1) x = some (varR x) := by
  unfold varR
  simp only [keelsonref12_Var.f, keelsonref12_Var.j0]
  by_cases h : x < 0
  · by_cases h2 : x > -4611686018427387904
    · have hw : wrap64 (-x) = -x := wrap_id (by omega) (by omega)
      simp only [h, h2, hw, if_true, decide_true, and_self]
    · have h3 : ¬ x > 0 := by omega
      simp only [h, h2, h3, if_true, if_false, decide_false, and_false, false_and, Bool.false_eq_true]
  · simp only [h, if_false, false_and, Bool.false_eq_true]
    by_cases h2 : x > 0
    · by_cases h3 : x < 4611686018427387904
      · simp only [h2, h3, if_true, and_self]
      · simp only [h2, h3, if_true, if_false, and_false]
    · simp only [h2, if_false, false_and]
theorem var_ev (x : Int) : Ev (fun k => keelsonref12_Var.f k x) (varR x) := Ev.succ (Ev.at 0 fun k _ => var_at x k)
theorem varR_bounds (x : Int) : 0 ≤ varR x ∧ varR x < 4611686018427387904 := by
  unfold varR; split
  · omega
  · split <;> omega

/-- The rest of a clause, from the place j on. -/
theorem holdsR_l1 (l : List (List Int)) (m : List Bool) (_hm : m.length ≤ 9223372036854775807) (i : Nat) (hi : i < l.length) (hl : l[i].length ≤ 9223372036854775807) (r : Bool)
    (hnext : ∀ b : Bool, b = l[i].any (litR m) → Ev (fun k => if b = true then keelsonref12_Holds.l0 k l m (wrap64 ((i : Int) + 1)) else some false) r) (d : Nat) :
    ∀ (j : Nat) (s : Bool), j + d = l[i].length → (s || (l[i].drop j).any (litR m)) = l[i].any (litR m) → Ev (fun k => keelsonref12_Holds.l1 k l m (i : Int) s (j : Int)) r := by
  have hrd : rd_L1 l (i : Int) = l[i] := by unfold rd_L1; simp [List.getD_eq_getElem?_getD, List.getElem?_eq_getElem hi]
  induction d with
  | zero =>
    intro j s hj hs
    refine Ev.succ ?_
    simp only [keelsonref12_Holds.l1, hrd]
    refine Ev.pos (by omega) (Ev.pos (by omega) (Ev.neg (by omega) ?_))
    rw [List.drop_eq_nil_of_le (by omega)] at hs
    simp only [List.any_nil, Bool.or_false] at hs
    exact hnext s hs
  | succ d ih =>
    intro j s hj hs
    have hjl : j < l[i].length := by omega
    refine Ev.succ ?_
    simp only [keelsonref12_Holds.l1, hrd]
    refine Ev.pos (by omega) (Ev.pos (by omega) (Ev.pos (by omega) (Ev.pos (by omega) ?_)))
    rw [rd_nat _ _ hjl, wrap_step hjl hl]
    refine Ev.bind (var_ev _) ?_
    rw [List.drop_eq_getElem_cons hjl, List.any_cons, ← Bool.or_assoc] at hs
    have hb := varR_bounds l[i][j]
    by_cases h1 : s = true
    · subst h1
      exact Ev.pos rfl (ih (j + 1) true (by omega) (by simpa using hs))
    · have h1' : s = false := by simpa using h1
      subst h1'
      refine Ev.neg (by decide) ?_
      rw [Bool.false_or] at hs
      by_cases h2 : varR l[i][j] ≥ 1
      · refine Ev.pos h2 ?_
        by_cases h3 : varR l[i][j] ≤ (m.length : Int)
        · refine Ev.pos h3 ?_
          have hw : wrap64 (varR l[i][j] - 1) = varR l[i][j] - 1 := wrap_id (by omega) (by omega)
          rw [hw]
          refine Ev.pos (by omega) (Ev.pos (by omega) ?_)
          refine ih (j + 1) _ (by omega) ?_
          rw [← hs]
          unfold litR rdOf
          rw [decide_eq_true h2, decide_eq_true h3]
          rfl
        · refine Ev.neg h3 (ih (j + 1) false (by omega) ?_)
          rw [← hs]
          unfold litR
          rw [decide_eq_false h3]
          simp
      · refine Ev.neg h2 (ih (j + 1) false (by omega) ?_)
        rw [← hs]
        unfold litR
        rw [decide_eq_false h2]
        simp
theorem holdsR_l0 (l : List (List Int)) (m : List Bool) (hm : m.length ≤ 9223372036854775807) (hl : ∀ c ∈ l, c.length ≤ 9223372036854775807) (hn : l.length ≤ 9223372036854775807) (d : Nat) :
    ∀ i : Nat, i + d = l.length → Ev (fun k => keelsonref12_Holds.l0 k l m (i : Int)) (holdsR (l.drop i) m) := by
  induction d with
  | zero =>
    intro i hi
    refine Ev.succ ?_
    simp only [keelsonref12_Holds.l0]
    refine Ev.neg (by omega) (Ev.some ?_)
    rw [List.drop_eq_nil_of_le (by omega)]
    rfl
  | succ d ih =>
    intro i hi
    have hil : i < l.length := by omega
    refine Ev.succ ?_
    simp only [keelsonref12_Holds.l0]
    refine Ev.pos (by omega) ?_
    refine holdsR_l1 l m hm i hil (hl _ (List.getElem_mem hil)) _ ?_ l[i].length 0 false (by omega) (by simp)
    intro b hb
    rw [List.drop_eq_getElem_cons hil]
    unfold holdsR
    rw [List.all_cons, ← hb, wrap_step hil hn]
    cases b with
    | true => exact Ev.pos rfl (by simpa [holdsR] using ih (i + 1) (by omega))
    | false => exact Ev.neg (by decide) (Ev.some (by simp))
theorem holdsR_ev (l : List (List Int)) (m : List Bool) (hm : m.length ≤ 9223372036854775807) (hl : ∀ c ∈ l, c.length ≤ 9223372036854775807) (hn : l.length ≤ 9223372036854775807) :
    Ev (fun k => keelsonref12_Holds.f k l m) (holdsR l m) := by
  unfold keelsonref12_Holds.f
  exact holdsR_l0 l m hm hl hn l.length 0 (by omega)
end Go.Proofs.YtooobbbpcpfddaaDoor.PA
