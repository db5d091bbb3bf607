/- keelson/clause: what Value comes to, as a fold over a clause. No condition but that a list's length is an int. -/
import Derived.Test.YtooobbbpcpfddaaDoorGBase
import Derived.Test.YtooobbbpcpfddaaDoorPAclause0
namespace Go.Proofs.YtooobbbpcpfddaaDoor.PA
open Go.RowKit Go.Proofs.YtooobbbpcpfddaaDoorW.PrintWords Go.Proofs.YtooobbbpcpfddaaDoorW.PrintLast Go.Proofs.YtooobbbpcpfddaaDoorW.PrintMore

def varG (x n : Int) : Int := if x < 0 then (if wrap64 (-x) < 1 ∨ wrap64 (-x) > n then 0 else wrap64 (-x)) else (if x < 1 ∨ x > n then 0 else x)
def sgnG (x : Int) : Int := if x < 0 then -1 else if x > 0 then 1 else 0
def litG (x : Int) (a : List Int) : Int :=
  if varG x (a.length : Int) = 0 then 0 else if x < 0 then -(sgnG (a.getD (varG x (a.length : Int) - 1).toNat 0)) else sgnG (a.getD (varG x (a.length : Int) - 1).toNat 0)
def valueG (c a : List Int) : Int := c.foldl (fun n x => max n (litG x a)) (-1)
def encM (m : List Bool) : List Int := m.map fun b => if b then (1 : Int) else -1
def holdsG (l : List (List Int)) (m : List Bool) : Bool := l.all fun c => !decide (valueG c (encM m) < 1)

theorem variable_eq (x n : Int) : clause_variable.f x n = some (varG x n) := by
  unfold clause_variable.f varG
  by_cases h : x < 0
  · simp only [h, if_true]
    by_cases h1 : wrap64 (-x) < 1
    · simp [h1]
    · by_cases h2 : wrap64 (-x) > n <;> simp [h1, h2]
  · simp only [h, if_false]
    by_cases h1 : x < 1
    · simp [h1]
    · by_cases h2 : x > n <;> simp [h1, h2]
theorem varG_range (x n : Int) : varG x n = 0 ∨ (1 ≤ varG x n ∧ varG x n ≤ n) := by
  unfold varG
  split
  · split
    · exact .inl rfl
    · right; omega
  · split
    · exact .inl rfl
    · right; omega
theorem compare_eq (x : Int) : cmp_Compare_int.f x 0 = some (sgnG x) := by
  unfold cmp_Compare_int.f cmp_isNaN_int.f sgnG
  by_cases h : x < 0
  · simp [h]
  · by_cases h2 : 0 < x <;> simp [h, h2]
theorem sgnG_range (x : Int) : -1 ≤ sgnG x ∧ sgnG x ≤ 1 := by unfold sgnG; split <;> (try split) <;> omega
theorem litG_range (x : Int) (a : List Int) : -1 ≤ litG x a ∧ litG x a ≤ 1 := by
  unfold litG
  have := sgnG_range (a.getD (varG x (a.length : Int) - 1).toNat 0)
  split <;> (try split) <;> omega
theorem lit_eq (x : Int) (a : List Int) (hn : a.length ≤ 9223372036854775807) : clause_lit.f x a = some (litG x a) := by
  unfold clause_lit.f litG
  rw [variable_eq]
  simp only [Option.bind_some]
  rcases varG_range x (a.length : Int) with h | ⟨h1, h2⟩
  · rw [if_pos h, if_pos h]
  · have hw : wrap64 (varG x (a.length : Int) - 1) = varG x (a.length : Int) - 1 := by unfold wrap64; omega
    have h0 : ¬ varG x (a.length : Int) = 0 := by omega
    rw [hw, if_neg h0, if_neg h0, if_pos (by omega), if_pos (by omega), compare_eq]
    simp only [Option.bind_some, rd]
    have := sgnG_range (a.getD (varG x (a.length : Int) - 1).toNat 0)
    split
    · congr 1; unfold wrap64; omega
    · rfl
theorem value_loop (a c : List Int) (ha : a.length ≤ 9223372036854775807) (hc : c.length ≤ 9223372036854775807) (d : Nat) : ∀ (k i : Nat) (n : Int), i + d = c.length → d < k →
    clause_Value.l0 k a n c (c.length : Int) (i : Int) = some ((c.drop i).foldl (fun n x => max n (litG x a)) n) := by
  induction d with
  | zero =>
    intro k i n hi hk
    obtain ⟨k, rfl⟩ : ∃ m, k = m + 1 := ⟨k - 1, by omega⟩
    simp only [clause_Value.l0]
    rw [if_neg (by omega), List.drop_eq_nil_of_le (by omega)]
    rfl
  | succ d ih =>
    intro k i n hi hk
    obtain ⟨k, rfl⟩ : ∃ m, k = m + 1 := ⟨k - 1, by omega⟩
    simp only [clause_Value.l0]
    rw [if_pos (by omega), if_pos (by omega), if_pos (by omega), lit_eq _ _ ha]
    simp only [Option.bind_some]
    have hw : wrap64 ((i : Int) + 1) = ((i + 1 : Nat) : Int) := by unfold wrap64; omega
    rw [hw, ih k (i + 1) _ (by omega) (by omega), List.drop_eq_getElem_cons (by omega : i < c.length)]
    have hr : rd c (i : Int) = c[i] := by unfold rd; simp [List.getD_eq_getElem?_getD, List.getElem?_eq_getElem (by omega : i < c.length)]
    rw [hr, List.foldl_cons]
    congr 2
    unfold mx; omega
theorem value_eq (a c : List Int) (ha : a.length ≤ 9223372036854775807) (hc : c.length ≤ 9223372036854775807) : clause_Value.f (c.length + 1) c a = some (valueG c a) := by
  unfold clause_Value.f valueG
  exact value_loop a c ha hc c.length (c.length + 1) 0 (-1) (by omega) (by omega)

/-- Value, as a contract. -/
theorem value_calls (A0 : Option Addr) (c0 : Nat) (l0 : List Int) (A1 : Option Addr) (c1 : Nat) (l1 : List Int) (w : World) (hr0 : Kd.C (Kd.int .i64) w A0 l0.length l0) (hc0 : l0.length ≤ c0) (hr1 : Kd.C (Kd.int .i64) w A1 l1.length l1) (hc1 : l1.length ≤ c1) :
    Calls Tryd.prog 44 #[.slice A0 l0.length c0, .slice A1 l1.length c1] w fun e w' => e = .returned (.int .i64 (valueG l0 l1)) ∧ Below w.heap.size w w' :=
  clause_Value.calls (l0.length + 1) A0 c0 l0 A1 c1 l1 _ w hr0 hc0 hr1 hc1 (value_eq l1 l0 hr1.2.1 hr0.2.1)
end Go.Proofs.YtooobbbpcpfddaaDoor.PA
