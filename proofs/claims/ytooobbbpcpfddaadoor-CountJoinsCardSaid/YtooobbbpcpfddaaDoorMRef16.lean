/- The references of chapters 15 and 16 that limits speak of, as plain functions: a truth by its number, the number of bits, what errs. -/
import Derived.Test.YtooobbbpcpfddaaDoorMRef12
import Derived.Test.YtooobbbpcpfddaaDoorPAkeelsonref150
import Derived.Test.YtooobbbpcpfddaaDoorPAkeelsonref160
namespace Go.Proofs.YtooobbbpcpfddaaDoor.PA
open Go.RowKit Go.Proofs.YtooobbbpcpfddaaDoorW.PrintWords Go.Proofs.YtooobbbpcpfddaaDoorW.PrintLast Go.Proofs.YtooobbbpcpfddaaDoorW.PrintMore

def limitsR (l : List Int) : Int := if (0 : Int) ∈ l then 1 else if l.length > 40 then 1 else 0
theorem limits_loop (l : List Int) (hn : l.length ≤ 9223372036854775807) (d : Nat) : ∀ i : Nat, i + d = l.length → Ev (fun k => keelsonref16_Limits.l0 k l (i : Int)) (if (0 : Int) ∈ l.drop i then 1 else if l.length > 40 then 1 else 0) := by
  induction d with
  | zero =>
    intro i hi
    refine Ev.succ ?_
    simp only [keelsonref16_Limits.l0]
    rw [List.drop_eq_nil_of_le (by omega)]
    refine Ev.neg (by omega) ?_
    by_cases h : l.length > 40
    · simp only [List.not_mem_nil, if_false, h, if_true]
      exact Ev.pos (by omega) (Ev.some rfl)
    · simp only [List.not_mem_nil, if_false, h]
      exact Ev.neg (by omega) (Ev.some rfl)
  | succ d ih =>
    intro i hi
    have hil : i < l.length := by omega
    refine Ev.succ ?_
    simp only [keelsonref16_Limits.l0]
    refine Ev.pos (by omega) (Ev.pos (by omega) ?_)
    rw [rd_nat _ _ hil, wrap_step hil hn, List.drop_eq_getElem_cons hil]
    by_cases h : l[i] = 0
    · refine Ev.pos h (Ev.some ?_)
      rw [h]; simp
    · refine Ev.neg h ?_
      have h' : ¬ (0 : Int) = l[i] := fun e => h e.symm
      have e : ((0 : Int) ∈ l[i] :: l.drop (i + 1)) = ((0 : Int) ∈ l.drop (i + 1)) := propext ⟨fun z => (List.mem_cons.1 z).resolve_left h', fun z => List.mem_cons_of_mem _ z⟩
      simp only [e]
      exact ih (i + 1) (by omega)
theorem limits_ev (l : List Int) (hn : l.length ≤ 9223372036854775807) : Ev (fun k => keelsonref16_Limits.f k l) (limitsR l) := by
  unfold keelsonref16_Limits.f
  exact limits_loop l hn l.length 0 (by omega)

/-- The number of bits, the lowest one first. -/
def numR (m : List Bool) : List Int → Int
  | [] => 0
  | x :: l => (if litR m x = true then 1 else 0) + 2 * numR m l
theorem numR_bounds (m : List Bool) (l : List Int) : 0 ≤ numR m l ∧ numR m l < 2 ^ l.length := by
  induction l with
  | nil => simp [numR]
  | cons x l ih =>
    simp only [numR, List.length_cons, Int.pow_succ]
    split <;> omega
theorem two_pow_pos (n : Nat) : (0 : Int) < 2 ^ n := Int.pow_pos (by decide)
theorem two_pow_mono {i j : Nat} (h : i ≤ j) : (2 : Int) ^ i ≤ 2 ^ j := by
  have h1 : 2 ^ i ≤ 2 ^ j := Nat.pow_le_pow_right (by decide) h
  have h2 : ((2 ^ i : Nat) : Int) ≤ ((2 ^ j : Nat) : Int) := by omega
  simpa using h2
theorem value_loop16 (b : List Int) (m : List Bool) (hm : m.length ≤ 9223372036854775807) (hn : b.length ≤ 9223372036854775807) (d : Nat) :
    ∀ (i : Nat) (s : Int), i + d = min b.length 40 → 0 ≤ s → s < 2 ^ i → Ev (fun k => keelsonref16_Value.l0 k b m s (i : Int)) (s + 2 ^ i * numR m ((b.take 40).drop i)) := by
  induction d with
  | zero =>
    intro i s hi h0 h1
    refine Ev.succ ?_
    simp only [keelsonref16_Value.l0]
    rw [List.drop_eq_nil_of_le (by rw [List.length_take]; omega)]
    simp only [numR, Int.mul_zero, Int.add_zero]
    have hj : Ev (fun k => keelsonref16_Value.j1 k b m s (i : Int) false) s := by
      refine Ev.succ ?_
      simp only [keelsonref16_Value.j1]
      exact Ev.neg (by decide) (Ev.some rfl)
    by_cases hil : (i : Int) < (b.length : Int)
    · refine Ev.pos hil ?_
      rw [decide_eq_false (show ¬ (i : Int) < 40 by omega)]
      exact hj
    · exact Ev.neg hil hj
  | succ d ih =>
    intro i s hi h0 h1
    have hil : i < b.length := by omega
    have hi40 : i < 40 := by omega
    refine Ev.succ ?_
    simp only [keelsonref16_Value.l0]
    refine Ev.pos (by omega) ?_
    rw [decide_eq_true (show (i : Int) < 40 by omega)]
    refine Ev.succ ?_
    simp only [keelsonref16_Value.j1]
    refine Ev.pos trivial (Ev.pos (by omega) (Ev.pos (by omega) ?_))
    rw [rd_nat _ _ hil, wrap_step hil hn]
    refine Ev.bind (holdsR_ev [[b[i]]] m hm (by simp) (by simp)) ?_
    have hh : holdsR [[b[i]]] m = litR m b[i] := by simp [holdsR]
    rw [hh]
    have hp := two_pow_pos i
    have hpm : (2 : Int) ^ (i + 1) ≤ 2 ^ 40 := two_pow_mono (by omega)
    have hs2 : (2 : Int) ^ (i + 1) = 2 ^ i * 2 := Int.pow_succ _ _
    have e40 : (2 : Int) ^ 40 = 1099511627776 := by decide +kernel
    have hshl : shl .i64 1 (i : Int) = 2 ^ i := by
      unfold shl
      rw [Int.toNat_natCast, show IntKind.i64.bits = 64 from rfl, Nat.min_eq_left (by omega), Int.one_mul]
      rw [e40] at hpm
      rw [IntKind.wrap_i64]
      omega
    rw [e40] at hpm
    rw [hshl, wrap_id (x := s + 2 ^ i) (by omega) (by omega)]
    have hd : (b.take 40).drop i = b[i] :: (b.take 40).drop (i + 1) := by
      rw [List.drop_eq_getElem_cons (by rw [List.length_take]; omega)]
      simp
    rw [hd]
    simp only [numR]
    by_cases hb : litR m b[i] = true
    · refine Ev.pos hb ?_
      have h := ih (i + 1) (s + 2 ^ i) (by omega) (by omega) (by omega)
      rw [hs2] at h
      rw [if_pos hb]
      have e : s + 2 ^ i * (1 + 2 * numR m ((b.take 40).drop (i + 1))) = s + 2 ^ i + 2 ^ i * 2 * numR m ((b.take 40).drop (i + 1)) := by
        rw [Int.mul_add, Int.mul_one, Int.mul_assoc, Int.add_assoc]
      rw [e]
      exact h
    · refine Ev.neg hb ?_
      have h := ih (i + 1) s (by omega) (by omega) (by omega)
      rw [hs2] at h
      rw [if_neg hb, Int.zero_add, ← Int.mul_assoc]
      exact h
theorem value16_ev (b : List Int) (m : List Bool) (hm : m.length ≤ 9223372036854775807) (hn : b.length ≤ 9223372036854775807) : Ev (fun k => keelsonref16_Value.f k b m) (numR m (b.take 40)) := by
  unfold keelsonref16_Value.f
  have h := value_loop16 b m hm hn (min b.length 40) 0 0 (by omega) (by omega) (by decide)
  simpa using h

/-- A truth of n variables, by its number. -/
def modelR (x : Int) (n : Nat) : List Bool := (List.range n).reverse.map fun j : Nat => Int.tmod (x / 2 ^ j) 2 == 1
theorem model_loop (x : Int) (n : Nat) : ∀ (acc : List Bool), n ≤ 64 → acc.length + n ≤ 1000 → Ev (fun k => keelsonref15_Model.l0 k x acc ((n : Int) - 1)) (acc ++ modelR x n) := by
  induction n with
  | zero =>
    intro acc _ _
    refine Ev.succ ?_
    simp only [keelsonref15_Model.l0]
    exact Ev.neg (by omega) (Ev.some (by simp [modelR]))
  | succ n ih =>
    intro acc hn ha
    refine Ev.succ ?_
    simp only [keelsonref15_Model.l0]
    refine Ev.pos (by omega) (Ev.pos (by omega) (Ev.pos (by omega) ?_))
    have e : ((n + 1 : Nat) : Int) - 1 = (n : Int) := by omega
    rw [e, shr_div _ _ (by omega), wrap_id (by omega) (by omega)]
    have h := ih (acc ++ [Int.tmod (x / 2 ^ n) 2 == 1]) (by omega) (by simp; omega)
    have hm : modelR x (n + 1) = (Int.tmod (x / 2 ^ n) 2 == 1) :: modelR x n := by
      unfold modelR
      rw [List.range_succ, List.reverse_append, List.reverse_singleton, List.singleton_append, List.map_cons]
    rw [hm]
    rw [List.append_assoc] at h
    exact h
theorem model_ev (x : Int) (n : Nat) (hn : n ≤ 64) : Ev (fun k => keelsonref15_Model.f k x (n : Int)) (modelR x n) := by
  unfold keelsonref15_Model.f
  rw [wrap_id (by omega) (by omega)]
  simpa using model_loop x n [] hn (by simp; omega)
theorem modelR_len (x : Int) (n : Nat) : (modelR x n).length = n := by simp [modelR]
end Go.Proofs.YtooobbbpcpfddaaDoor.PA
