/- keelson/count's Width and Limit as plain functions; limits hold just where the bits are at most the number. -/
import Derived.Test.YtooobbbpcpfddaaDoorMRef16
import Derived.Test.YtooobbbpcpfddaaDoorGBits
import Derived.Test.YtooobbbpcpfddaaDoorPAcount1
import Derived.Lib.ItoaNum
namespace Go.Proofs.YtooobbbpcpfddaaDoor.PA
open Go.RowKit Go.Proofs.YtooobbbpcpfddaaDoorW.PrintWords Go.Proofs.YtooobbbpcpfddaaDoorW.PrintLast Go.Proofs.YtooobbbpcpfddaaDoorW.PrintMore

def widthG (k : Int) : Int := if k < 0 then 0 else (Lib.bitLen k.toNat : Nat)
theorem width_eq (k : Int) (h1 : k ≤ 9223372036854775807) : count_Width.f k = some (widthG k) := by
  unfold count_Width.f widthG
  by_cases h : k < 0
  · rw [if_pos h, if_pos h]
  · rw [if_neg h, if_neg h]
    have hw : IntKind.u64.wrap k = k := by
      simp [IntKind.wrap, IntKind.bits, IntKind.signed]; omega
    rw [hw]
    unfold bits_Len.f
    rw [if_pos ⟨by omega, by omega⟩]
    rfl
theorem width_lt (k : Int) (h0 : 0 ≤ k) (h1 : k ≤ 9223372036854775807) (n : Nat) (h : widthG k ≤ n) : k < 2 ^ n := by
  unfold widthG at h
  rw [if_neg (by omega)] at h
  have hh : Lib.bitLen k.toNat ≤ n := by omega
  have h2 : (k.toNat : Int) < 2 ^ n := by
    by_cases hz : k.toNat = 0
    · rw [hz]; exact two_pow_pos n
    · have hb := (Lib.bitLenAux_bounds 64 k.toNat (by omega) hz).2.2
      have hp : 2 ^ (Lib.bitLen k.toNat) ≤ 2 ^ n := Nat.pow_le_pow_right (by decide) hh
      have hlt : k.toNat < 2 ^ n := Nat.lt_of_lt_of_le hb hp
      have h3 : ((k.toNat : Nat) : Int) < ((2 ^ n : Nat) : Int) := by omega
      simpa using h3
  omega
theorem width_ge (k : Int) (h0 : 0 ≤ k) (h1 : k ≤ 9223372036854775807) (n : Nat) (h : ¬ widthG k ≤ n) : 2 ^ n ≤ k := by
  unfold widthG at h
  rw [if_neg (by omega)] at h
  have hh : n < Lib.bitLen k.toNat := by omega
  have hz : k.toNat ≠ 0 := by
    intro e
    rw [e] at hh
    have : Lib.bitLen 0 = 0 := by decide
    omega
  have hb := (Lib.bitLenAux_bounds 64 k.toNat (by omega) hz).2.1
  have hp : 2 ^ n ≤ 2 ^ (Lib.bitLen k.toNat - 1) := Nat.pow_le_pow_right (by decide) (by omega)
  have hlt : 2 ^ n ≤ k.toNat := Nat.le_trans hp hb
  have h3 : ((2 ^ n : Nat) : Int) ≤ ((k.toNat : Nat) : Int) := by omega
  have h4 : (2 : Int) ^ n ≤ (k.toNat : Int) := by simpa using h3
  omega

theorem index_loop (l : List Int) (x : Int) (hn : l.length ≤ 9223372036854775807) (d : Nat) : ∀ i : Nat, i + d = l.length →
    Ev (fun k => slices_Index_int_int.l0 k l x (l.length : Int) (i : Int)) (match (l.drop i).findIdx? (fun y => decide (x = y)) with | some j => ((i + j : Nat) : Int) | none => -1) := by
  induction d with
  | zero =>
    intro i hi
    refine Ev.succ ?_
    simp only [slices_Index_int_int.l0]
    rw [List.drop_eq_nil_of_le (by omega)]
    exact Ev.neg (by omega) (Ev.some rfl)
  | succ d ih =>
    intro i hi
    have hil : i < l.length := by omega
    refine Ev.succ ?_
    simp only [slices_Index_int_int.l0]
    refine Ev.pos (by omega) (Ev.pos (by omega) (Ev.pos (by omega) ?_))
    rw [rd_nat _ _ hil, wrap_step hil hn, List.drop_eq_getElem_cons hil, List.findIdx?_cons]
    by_cases h : x = l[i]
    · refine Ev.pos h (Ev.some ?_)
      simp [h]
    · refine Ev.neg h ?_
      have hq := ih (i + 1) (by omega)
      rw [decide_eq_false h]
      simp only [Bool.false_eq_true, if_false]
      cases hf : (l.drop (i + 1)).findIdx? (fun y => decide (x = y)) with
      | none => rw [hf] at hq; exact hq
      | some j =>
        rw [hf] at hq
        simp only [Option.map_some]
        rw [show i + (j + 1) = i + 1 + j from by omega]
        exact hq
theorem contains_ev (l : List Int) (x : Int) (hn : l.length ≤ 9223372036854775807) : Ev (fun k => slices_Contains_int_int.f k l x) (decide (x ∈ l)) := by
  unfold slices_Contains_int_int.f slices_Index_int_int.f
  refine Ev.bind (index_loop l x hn l.length 0 (by omega)) (Ev.some ?_)
  rw [List.drop_zero]
  cases hf : l.findIdx? (fun y => decide (x = y)) with
  | none =>
    rw [List.findIdx?_eq_none_iff] at hf
    have : ¬ x ∈ l := fun hx => by have := hf x hx; simp at this
    simp [this]
  | some j =>
    obtain ⟨hj, hp, _⟩ := List.findIdx?_eq_some_iff_getElem.1 hf
    have : x ∈ l := by
      have e : x = l[j] := of_decide_eq_true hp
      rw [e]; exact List.getElem_mem hj
    simp [this]

/-- The rest of a clause: the turned literals at which the number has a one. -/
def tailL : List Int → Int → List Int
  | [], _ => []
  | x :: l, k => (if k % 2 = 1 then [wrap64 (-x)] else []) ++ tailL l (k / 2)
def clL : List Int → Int → List (List Int)
  | [], _ => []
  | x :: l, k => (if k % 2 = 1 then [] else [wrap64 (-x) :: tailL l (k / 2)]) ++ clL l (k / 2)
def limG (l : List Int) (k : Int) : List (List Int) × Int :=
  if l.length > 40 ∨ (0 : Int) ∈ l then ([], 1) else if k < 0 then ([[]], 0) else if widthG k > (l.length : Int) then ([], 0) else (clL l k, 0)
theorem tailL_len (l : List Int) : ∀ k, (tailL l k).length ≤ l.length := by
  induction l with
  | nil => intro k; simp [tailL]
  | cons x l ih =>
    intro k
    have := ih (k / 2)
    simp only [tailL, List.length_append, List.length_cons]
    split <;> simp <;> omega
theorem clL_len (l : List Int) : ∀ k, (clL l k).length ≤ l.length := by
  induction l with
  | nil => intro k; simp [clL]
  | cons x l ih =>
    intro k
    have := ih (k / 2)
    simp only [clL, List.length_append, List.length_cons]
    split <;> simp <;> omega
theorem div_two_pow (k : Int) (i : Nat) : k / 2 ^ i / 2 = k / 2 ^ (i + 1) := by
  rw [Int.pow_succ, Int.ediv_ediv_of_nonneg (Int.le_of_lt (two_pow_pos i))]
theorem limit_l1 (l : List Int) (k : Int) (hk : 0 ≤ k) (hl : l.length ≤ 40) (acc : List (List Int)) (i : Nat) (hacc : acc.length ≤ i) (r : List (List Int) × Int) (hi : i < l.length) (d : Nat) :
    ∀ (j : Nat) (c : List Int), j + d = l.length → c.length ≤ j →
      (Ev (fun m => count_Limit.l0 m l k (acc ++ [c ++ tailL (l.drop j) (k / 2 ^ j)]) l (l.length : Int) (wrap64 ((i : Int) + 1))) r) → Ev (fun m => count_Limit.l1 m l k acc c (j : Int) l (l.length : Int) (i : Int)) r := by
  induction d with
  | zero =>
    intro j c hj hc h
    refine Ev.succ ?_
    simp only [count_Limit.l1]
    rw [List.drop_eq_nil_of_le (by omega)] at h
    simp only [tailL, List.append_nil] at h
    exact Ev.neg (by omega) (Ev.pos (by omega) h)
  | succ d ih =>
    intro j c hj hc h
    have hjl : j < l.length := by omega
    refine Ev.succ ?_
    simp only [count_Limit.l1]
    rw [rd_nat _ _ hjl, wrap_step hjl (by omega), shr_div _ _ (by omega), tmod_two (Int.ediv_nonneg hk (Int.le_of_lt (two_pow_pos j)))]
    rw [List.drop_eq_getElem_cons hjl] at h
    simp only [tailL] at h
    rw [div_two_pow] at h
    refine Ev.pos (by omega) (Ev.pos (by omega) ?_)
    by_cases hb : k / 2 ^ j % 2 = 1
    · refine Ev.pos hb (Ev.pos (by omega) ?_)
      refine ih (j + 1) _ (by omega) (by simp; omega) ?_
      rw [if_pos hb] at h
      simpa using h
    · refine Ev.neg hb ?_
      refine ih (j + 1) _ (by omega) (by omega) ?_
      rw [if_neg hb] at h
      simpa using h
theorem limit_l0 (l : List Int) (k : Int) (hk : 0 ≤ k) (hl : l.length ≤ 40) (d : Nat) : ∀ (i : Nat) (acc : List (List Int)), i + d = l.length → acc.length ≤ i →
    Ev (fun m => count_Limit.l0 m l k acc l (l.length : Int) (i : Int)) (acc ++ clL (l.drop i) (k / 2 ^ i), 0) := by
  induction d with
  | zero =>
    intro i acc hi _
    refine Ev.succ ?_
    simp only [count_Limit.l0]
    rw [List.drop_eq_nil_of_le (by omega)]
    exact Ev.neg (by omega) (Ev.some (by simp [clL]))
  | succ d ih =>
    intro i acc hi ha
    have hil : i < l.length := by omega
    refine Ev.succ ?_
    simp only [count_Limit.l0]
    rw [rd_nat _ _ hil, wrap_step hil (by omega), shr_div _ _ (by omega), tmod_two (Int.ediv_nonneg hk (Int.le_of_lt (two_pow_pos i)))]
    refine Ev.pos (by omega) (Ev.pos (by omega) (Ev.pos (by omega) ?_))
    rw [List.drop_eq_getElem_cons hil]
    simp only [clL]
    rw [div_two_pow]
    by_cases hb : k / 2 ^ i % 2 = 1
    · refine Ev.pos hb ?_
      rw [if_pos hb]
      simpa using ih (i + 1) acc (by omega) (by omega)
    · refine Ev.neg hb ?_
      rw [if_neg hb]
      refine limit_l1 l k hk hl acc i ha _ hil d (i + 1) _ (by omega) (by simp) ?_
      rw [wrap_step hil (by omega)]
      have h := ih (i + 1) (acc ++ [[wrap64 (-l[i])] ++ tailL (l.drop (i + 1)) (k / 2 ^ (i + 1))]) (by omega) (by simp; omega)
      rw [List.append_assoc] at h
      exact h
theorem limit_ev (l : List Int) (k : Int) (hk : k ≤ 9223372036854775807) (hn : l.length ≤ 9223372036854775807) : Ev (fun m => count_Limit.f m l k) (limG l k) := by
  unfold count_Limit.f
  have hj : ∀ b : Bool, b = decide (l.length > 40 ∨ (0 : Int) ∈ l) → Ev (fun m => count_Limit.j0 m l k b) (limG l k) := by
    intro b hb
    refine Ev.succ ?_
    simp only [count_Limit.j0]
    unfold limG
    by_cases h : l.length > 40 ∨ (0 : Int) ∈ l
    · rw [hb, decide_eq_true h, if_pos h]
      exact Ev.pos rfl (Ev.some rfl)
    · rw [hb, decide_eq_false h, if_neg h]
      refine Ev.neg (by decide) ?_
      have h40 : l.length ≤ 40 := by
        rcases Nat.lt_or_ge 40 l.length with z | z
        · exact absurd (Or.inl z) h
        · exact z
      by_cases h0 : k < 0
      · rw [if_pos h0]; exact Ev.pos h0 (Ev.some rfl)
      · rw [if_neg h0]
        refine Ev.neg h0 (Ev.call (width_eq k hk) ?_)
        by_cases hw : widthG k > (l.length : Int)
        · rw [if_pos hw]; exact Ev.pos hw (Ev.some rfl)
        · rw [if_neg hw]
          refine Ev.neg hw ?_
          simpa using limit_l0 l k (by omega) h40 l.length 0 [] (by omega) (by simp)
  by_cases h : (l.length : Int) > 40
  · exact Ev.pos h (hj true (by rw [decide_eq_true (.inl (by omega))]))
  · refine Ev.neg h (Ev.bind (contains_ev l 0 hn) (hj _ ?_))
    by_cases hz : (0 : Int) ∈ l
    · simp [hz]
    · have h1 : ¬ (l.length > 40) := by omega
      simp [hz, h1]
end Go.Proofs.YtooobbbpcpfddaaDoor.PA
