/- Weights as plain functions: keelson/count's and the reference's come to the same; the program's clause.Holds and the reference's agree on int64 literals. -/
import Derived.Test.YtooobbbpcpfddaaDoorMRef16
import Derived.Test.YtooobbbpcpfddaaDoorPAcount1
import Derived.Test.YtooobbbpcpfddaaDoorPAkeelsonref10
import Derived.Test.YtooobbbpcpfddaaDoorGHolds
import Derived.Test.YtooobbbpcpfddaaDoorGCount
import Derived.Test.YtooobbbpcpfddaaDoorGSum
namespace Go.Proofs.YtooobbbpcpfddaaDoor.PA
open Go.RowKit Go.Proofs.YtooobbbpcpfddaaDoorW.PrintWords Go.Proofs.YtooobbbpcpfddaaDoorW.PrintLast Go.Proofs.YtooobbbpcpfddaaDoorW.PrintMore

def i64 (x : Int) : Prop := -9223372036854775808 ≤ x ∧ x ≤ 9223372036854775807
theorem i64_wrap (x : Int) : i64 (wrap64 x) := by unfold i64 wrap64; omega

theorem varG_i64 {x n : Int} (hx : i64 x) (hn : n < 4611686018427387904) : varG x n = if varR x ≤ n then varR x else 0 := by
  unfold i64 at hx
  by_cases h : x < 0
  · by_cases h2 : x > -4611686018427387904
    · have hv : varR x = -x := by unfold varR; rw [if_pos ⟨h, h2⟩]
      have hw : wrap64 (-x) = -x := wrap_id (by omega) (by omega)
      rw [hv]
      unfold varG
      rw [if_pos h, hw]
      by_cases h3 : -x ≤ n
      · rw [if_pos h3, if_neg (by omega)]
      · rw [if_neg h3, if_pos (by omega)]
    · have hv : varR x = 0 := by unfold varR; rw [if_neg (by omega), if_neg (by omega)]
      have hw : wrap64 (-x) < 1 ∨ wrap64 (-x) > n := by unfold wrap64; omega
      rw [hv]
      unfold varG
      rw [if_pos h, if_pos hw]; split <;> rfl
  · by_cases h2 : x > 0 ∧ x < 4611686018427387904
    · have hv : varR x = x := by unfold varR; rw [if_neg (fun z => h z.1), if_pos h2]
      rw [hv]
      unfold varG
      rw [if_neg h]
      by_cases h3 : x ≤ n
      · rw [if_pos h3, if_neg (by omega)]
      · rw [if_neg h3, if_pos (by omega)]
    · have hv : varR x = 0 := by unfold varR; rw [if_neg (fun z => h z.1), if_neg h2]
      rw [hv]
      unfold varG
      rw [if_neg h, if_pos (by omega)]; split <;> rfl
theorem encM_get (m : List Bool) (i : Nat) (hi : i < m.length) : (encM m).getD i 0 = if m.getD i false = true then 1 else -1 := by
  unfold encM
  simp [List.getD_eq_getElem?_getD, List.getElem?_eq_getElem hi]
theorem lit_holds {x : Int} (hx : i64 x) (m : List Bool) (hm : m.length ≤ 35184372088832) : (1 ≤ litG x (encM m)) ↔ litR m x = true := by
  have hl : (encM m).length = m.length := by simp [encM]
  have hb := varR_bounds x
  unfold litG litR
  rw [hl, varG_i64 hx (by omega)]
  by_cases h1 : varR x ≥ 1
  · by_cases h2 : varR x ≤ (m.length : Int)
    · rw [if_pos h2, if_neg (by omega), encM_get m _ (by omega), decide_eq_true h1, decide_eq_true h2]
      have hsx : x ≠ 0 := by
        intro e; subst e; simp [varR] at h1
      cases hv : m.getD (varR x - 1).toNat false with
      | true =>
        by_cases hx0 : x < 0
        · have : ¬ x > 0 := by omega
          simp [sgnG, hx0, this]
        · have : x > 0 := by omega
          simp [sgnG, hx0, this]
      | false =>
        by_cases hx0 : x < 0
        · have : ¬ x > 0 := by omega
          simp [sgnG, hx0, this]
        · have : x > 0 := by omega
          simp [sgnG, hx0, this]
    · rw [if_neg h2, if_pos rfl, decide_eq_true h1, decide_eq_false h2]; simp
  · have h0 : varR x = 0 := by omega
    rw [h0, decide_eq_false (by decide)]
    split <;> simp
theorem foldl_max (f : Int → Int) (c : List Int) : ∀ n : Int, (1 ≤ c.foldl (fun n x => max n (f x)) n) ↔ (1 ≤ n ∨ c.any (fun x => decide (1 ≤ f x)) = true) := by
  induction c with
  | nil => intro n; simp
  | cons x c ih =>
    intro n
    rw [List.foldl_cons, ih, List.any_cons, Bool.or_eq_true, decide_eq_true_iff, ← or_assoc]
    have e : (1 ≤ max n (f x)) ↔ (1 ≤ n ∨ 1 ≤ f x) := by omega
    rw [e]
theorem value_holds (c : List Int) (hc : ∀ x ∈ c, i64 x) (m : List Bool) (hm : m.length ≤ 35184372088832) : (!decide (valueG c (encM m) < 1)) = c.any (litR m) := by
  have h := foldl_max (fun x => litG x (encM m)) c (-1)
  have e : c.any (fun x => decide (1 ≤ litG x (encM m))) = c.any (litR m) := by
    rw [Bool.eq_iff_iff, List.any_eq_true, List.any_eq_true]
    constructor
    · rintro ⟨x, hx, h⟩; exact ⟨x, hx, (lit_holds (hc x hx) m hm).1 (of_decide_eq_true h)⟩
    · rintro ⟨x, hx, h⟩; exact ⟨x, hx, decide_eq_true ((lit_holds (hc x hx) m hm).2 h)⟩
  rw [e] at h
  unfold valueG
  by_cases hv : c.foldl (fun n x => max n (litG x (encM m))) (-1) < 1
  · rw [decide_eq_true hv]
    cases ha : c.any (litR m) with
    | false => rfl
    | true => have := h.2 (.inr ha); omega
  · rw [decide_eq_false hv]
    rcases h.1 (by omega) with h | h
    · omega
    · rw [h]; rfl
theorem holds_eq (l : List (List Int)) (hl : ∀ c ∈ l, ∀ x ∈ c, i64 x) (m : List Bool) (hm : m.length ≤ 35184372088832) : holdsG l m = holdsR l m := by
  unfold holdsG holdsR
  rw [Bool.eq_iff_iff, List.all_eq_true, List.all_eq_true]
  constructor
  · intro h c hc; rw [← value_holds c (hl c hc) m hm]; exact h c hc
  · intro h c hc; rw [value_holds c (hl c hc) m hm]; exact h c hc
theorem holds_one (x : Int) (hx : i64 x) (m : List Bool) (hm : m.length ≤ 35184372088832) : holdsG [[x]] m = litR m x := by
  rw [holds_eq _ (by simp [hx]) m hm]; simp [holdsR]

/-- What terms weigh. -/
def picks (l : List S40) (m : List Bool) : List Int := (l.filter fun t => holdsG [[t.f0]] m).map (·.f1)
def weightG (l : List S40) (m : List Bool) : Int × Int := errI (sum_totG (picks l m) 0)
def mostG (l : List S40) : Int × Int := errI (sum_totG (l.map (·.f1)) 0)
theorem rdT_nat (l : List S40) (i : Nat) (h : i < l.length) : rd_T40 l (i : Int) = l[i] := by unfold rd_T40; simp [List.getD_eq_getElem?_getD, List.getElem?_eq_getElem h]
theorem picks_drop (l : List S40) (m : List Bool) (i : Nat) (h : i < l.length) : picks (l.drop i) m = (if holdsG [[l[i].f0]] m = true then [l[i].f1] else []) ++ picks (l.drop (i + 1)) m := by
  unfold picks
  rw [List.drop_eq_getElem_cons h, List.filter_cons]
  split <;> simp
theorem picks_len (l : List S40) (m : List Bool) : (picks l m).length ≤ l.length := by
  unfold picks; rw [List.length_map]; exact List.length_filter_le _ _
theorem weight_loop (l : List S40) (m : List Bool) (hm : m.length ≤ 35184372088832) (hn : l.length < 8796093022208) (d : Nat) : ∀ (i : Nat) (acc : List Int), i + d = l.length → acc.length ≤ i →
    Ev (fun k => count_Weight.l0 k m acc l (l.length : Int) (i : Int)) (errI (sum_totG (acc ++ picks (l.drop i) m) 0)) := by
  induction d with
  | zero =>
    intro i acc hi _
    refine Ev.succ ?_
    simp only [count_Weight.l0]
    rw [List.drop_eq_nil_of_le (by omega)]
    refine Ev.neg (by omega) ?_
    simp only [picks, List.filter_nil, List.map_nil, List.append_nil]
    refine Ev.call (o := sum_Total.f acc) (v := errI (sum_totG acc 0)) rfl (Ev.some rfl)
  | succ d ih =>
    intro i acc hi ha
    have hil : i < l.length := by omega
    refine Ev.succ ?_
    simp only [count_Weight.l0]
    rw [rdT_nat _ _ hil, wrap_step hil (by omega), picks_drop _ _ _ hil]
    refine Ev.pos (by omega) (Ev.pos (by omega) (Ev.pos (by omega) (Ev.call (v := holdsG [[l[i].f0]] m) (by unfold clause_Holds.f; rw [if_pos hm]) ?_)))
    by_cases h : holdsG [[l[i].f0]] m = true
    · refine Ev.pos h (Ev.pos (by omega) ?_)
      rw [if_pos h]
      have hh := ih (i + 1) (acc ++ [l[i].f1]) (by omega) (by simp; omega)
      rw [List.append_assoc] at hh
      exact hh
    · refine Ev.neg h ?_
      rw [if_neg h]
      exact ih (i + 1) acc (by omega) (by omega)
theorem weight_ev (l : List S40) (m : List Bool) (hm : m.length ≤ 35184372088832) (hn : l.length < 8796093022208) : Ev (fun k => count_Weight.f k l m) (weightG l m) := by
  unfold count_Weight.f weightG
  simpa using weight_loop l m hm hn l.length 0 [] (by omega) (by simp)
theorem most_loop (l : List S40) (hn : l.length < 8796093022208) (d : Nat) : ∀ (i : Nat) (acc : List Int), i + d = l.length → acc.length ≤ i →
    Ev (fun k => count_Most.l0 k acc l (l.length : Int) (i : Int)) (errI (sum_totG (acc ++ (l.drop i).map (·.f1)) 0)) := by
  induction d with
  | zero =>
    intro i acc hi _
    refine Ev.succ ?_
    simp only [count_Most.l0]
    rw [List.drop_eq_nil_of_le (by omega)]
    refine Ev.neg (by omega) ?_
    simp only [List.map_nil, List.append_nil]
    refine Ev.call (o := sum_Total.f acc) (v := errI (sum_totG acc 0)) rfl (Ev.some rfl)
  | succ d ih =>
    intro i acc hi ha
    have hil : i < l.length := by omega
    refine Ev.succ ?_
    simp only [count_Most.l0]
    rw [rdT_nat _ _ hil, wrap_step hil (by omega), List.drop_eq_getElem_cons hil]
    refine Ev.pos (by omega) (Ev.pos (by omega) (Ev.pos (by omega) (Ev.pos (by omega) ?_)))
    have hh := ih (i + 1) (acc ++ [l[i].f1]) (by omega) (by simp; omega)
    rw [List.append_assoc] at hh
    exact hh
theorem most_ev (l : List S40) (hn : l.length < 8796093022208) : Ev (fun k => count_Most.f k l) (mostG l) := by
  unfold count_Most.f mostG
  simpa using most_loop l hn l.length 0 [] (by omega) (by simp)

/-! The reference -/
theorem add1_eq (a b : Int) (ha : i64 a) (hb : i64 b) : keelsonref1_Add.f a b = some (errI (sum_addG a b)) := by
  unfold i64 at ha hb
  have key : sum_addG a b = if -9223372036854775808 ≤ a + b ∧ a + b ≤ 9223372036854775807 then some (a + b) else none := by
    unfold sum_addG
    by_cases h : -9223372036854775808 ≤ a + b ∧ a + b ≤ 9223372036854775807
    · rw [if_pos h, wrap_id h.1 h.2, if_neg]
      by_cases h1 : a < 0 <;> by_cases h2 : b < 0 <;> by_cases h3 : a + b < 0 <;> simp [h1, h2, h3] <;> omega
    · rw [if_neg h, if_pos]
      have hw : wrap64 (a + b) = if a + b > 9223372036854775807 then a + b - 18446744073709551616 else a + b + 18446744073709551616 := by unfold wrap64; split <;> omega
      rw [hw]
      by_cases h1 : a + b > 9223372036854775807
      · rw [if_pos h1, decide_eq_false (show ¬ a < 0 by omega), decide_eq_false (show ¬ b < 0 by omega), decide_eq_true (show a + b - 18446744073709551616 < 0 by omega)]; rfl
      · rw [if_neg h1, decide_eq_true (show a < 0 by omega), decide_eq_true (show b < 0 by omega), decide_eq_false (show ¬ a + b + 18446744073709551616 < 0 by omega)]; rfl
  rw [key]
  unfold keelsonref1_Add.f
  by_cases h1 : b > 0
  · rw [if_pos h1, wrap_id (by omega) (by omega)]
    by_cases h2 : a > 9223372036854775807 - b
    · rw [if_pos h2, if_neg (by omega)]; rfl
    · rw [if_neg h2, if_neg (by omega), if_pos (by omega), wrap_id (by omega) (by omega)]; rfl
  · rw [if_neg h1]
    by_cases h2 : b < 0
    · rw [if_pos h2, wrap_id (x := -9223372036854775808 - b) (by omega) (by omega)]
      by_cases h3 : a < -9223372036854775808 - b
      · rw [if_pos h3, if_neg (by omega)]; rfl
      · rw [if_neg h3, if_pos (by omega), wrap_id (by omega) (by omega)]; rfl
    · rw [if_neg h2, if_pos (by omega), wrap_id (by omega) (by omega)]; rfl
theorem addG_i64 {a b n : Int} (h : sum_addG a b = some n) : i64 n := by
  unfold sum_addG at h
  split at h
  · cases h
  · cases h; exact i64_wrap _
theorem total1_loop (l : List Int) (hl : ∀ x ∈ l, i64 x) (hn : l.length ≤ 9223372036854775807) (d : Nat) : ∀ (i : Nat) (s : Int), i + d = l.length → i64 s →
    Ev (fun k => keelsonref1_Total.l0 k l s (i : Int)) (errI (sum_totG (l.drop i) s)) := by
  induction d with
  | zero =>
    intro i s hi _
    refine Ev.succ ?_
    simp only [keelsonref1_Total.l0]
    rw [List.drop_eq_nil_of_le (by omega)]
    exact Ev.neg (by omega) (Ev.some rfl)
  | succ d ih =>
    intro i s hi hs
    have hil : i < l.length := by omega
    refine Ev.succ ?_
    simp only [keelsonref1_Total.l0]
    rw [rd_nat _ _ hil, wrap_step hil hn, List.drop_eq_getElem_cons hil]
    refine Ev.pos (by omega) (Ev.pos (by omega) (Ev.call (add1_eq _ _ hs (hl _ (List.getElem_mem hil))) ?_))
    rw [sum_totG]
    cases h : sum_addG s l[i] with
    | none => exact Ev.neg (by decide) (Ev.some rfl)
    | some n => exact Ev.pos rfl (ih (i + 1) n (by omega) (addG_i64 h))
theorem total1_ev (l : List Int) (hl : ∀ x ∈ l, i64 x) (hn : l.length ≤ 9223372036854775807) : Ev (fun k => keelsonref1_Total.f k l) (errI (sum_totG l 0)) := by
  unfold keelsonref1_Total.f
  simpa using total1_loop l hl hn l.length 0 0 (by omega) ⟨by decide, by decide⟩
theorem weightR_loop (l : List S40) (m : List Bool) (hm : m.length ≤ 35184372088832) (hl : ∀ t ∈ l, i64 t.f0 ∧ i64 t.f1) (hn : l.length < 8796093022208) (d : Nat) : ∀ (i : Nat) (acc : List Int), i + d = l.length → acc.length ≤ i → (∀ x ∈ acc, i64 x) →
    Ev (fun k => keelsonref16_Weight.l0 k l m acc (i : Int)) (errI (sum_totG (acc ++ picks (l.drop i) m) 0)) := by
  induction d with
  | zero =>
    intro i acc hi ha hacc
    refine Ev.succ ?_
    simp only [keelsonref16_Weight.l0]
    rw [List.drop_eq_nil_of_le (by omega)]
    refine Ev.neg (by omega) ?_
    simp only [picks, List.filter_nil, List.map_nil, List.append_nil]
    exact Ev.bind (total1_ev acc hacc (by omega)) (Ev.some rfl)
  | succ d ih =>
    intro i acc hi ha hacc
    have hil : i < l.length := by omega
    have hit := hl _ (List.getElem_mem hil)
    refine Ev.succ ?_
    simp only [keelsonref16_Weight.l0]
    rw [rdT_nat _ _ hil, wrap_step hil (by omega), picks_drop _ _ _ hil]
    refine Ev.pos (by omega) (Ev.pos (by omega) (Ev.bind (holdsR_ev [[l[i].f0]] m (by omega) (by simp) (by simp)) ?_))
    have hh : holdsR [[l[i].f0]] m = holdsG [[l[i].f0]] m := (holds_eq _ (by simpa using hit.1) m hm).symm
    rw [hh]
    by_cases h : holdsG [[l[i].f0]] m = true
    · refine Ev.pos h (Ev.pos (by omega) ?_)
      rw [if_pos h]
      have hh := ih (i + 1) (acc ++ [l[i].f1]) (by omega) (by simp; omega) (by intro x hx; rcases List.mem_append.1 hx with hx | hx; exact hacc x hx; rw [List.mem_singleton.1 hx]; exact hit.2)
      rw [List.append_assoc] at hh
      exact hh
    · refine Ev.neg h ?_
      rw [if_neg h]
      exact ih (i + 1) acc (by omega) (by omega) hacc
theorem weightR_ev (l : List S40) (m : List Bool) (hm : m.length ≤ 35184372088832) (hl : ∀ t ∈ l, i64 t.f0 ∧ i64 t.f1) (hn : l.length < 8796093022208) : Ev (fun k => keelsonref16_Weight.f k l m) (weightG l m) := by
  unfold keelsonref16_Weight.f weightG
  simpa using weightR_loop l m hm hl hn l.length 0 [] (by omega) (by simp) (by simp)
theorem mostR_loop (l : List S40) (hl : ∀ t ∈ l, i64 t.f0 ∧ i64 t.f1) (hn : l.length < 8796093022208) (d : Nat) : ∀ (i : Nat) (acc : List Int), i + d = l.length → acc.length ≤ i → (∀ x ∈ acc, i64 x) →
    Ev (fun k => keelsonref16_Most.l0 k l acc (i : Int)) (errI (sum_totG (acc ++ (l.drop i).map (·.f1)) 0)) := by
  induction d with
  | zero =>
    intro i acc hi ha hacc
    refine Ev.succ ?_
    simp only [keelsonref16_Most.l0]
    rw [List.drop_eq_nil_of_le (by omega)]
    refine Ev.neg (by omega) ?_
    simp only [List.map_nil, List.append_nil]
    exact Ev.bind (total1_ev acc hacc (by omega)) (Ev.some rfl)
  | succ d ih =>
    intro i acc hi ha hacc
    have hil : i < l.length := by omega
    have hit := hl _ (List.getElem_mem hil)
    refine Ev.succ ?_
    simp only [keelsonref16_Most.l0]
    rw [rdT_nat _ _ hil, wrap_step hil (by omega), List.drop_eq_getElem_cons hil]
    refine Ev.pos (by omega) (Ev.pos (by omega) (Ev.pos (by omega) ?_))
    have hh := ih (i + 1) (acc ++ [l[i].f1]) (by omega) (by simp; omega) (by intro x hx; rcases List.mem_append.1 hx with hx | hx; exact hacc x hx; rw [List.mem_singleton.1 hx]; exact hit.2)
    rw [List.append_assoc] at hh
    exact hh
theorem mostR_ev (l : List S40) (hl : ∀ t ∈ l, i64 t.f0 ∧ i64 t.f1) (hn : l.length < 8796093022208) : Ev (fun k => keelsonref16_Most.f k l) (mostG l) := by
  unfold keelsonref16_Most.f mostG
  simpa using mostR_loop l hl hn l.length 0 [] (by omega) (by simp) (by simp)
end Go.Proofs.YtooobbbpcpfddaaDoor.PA
