/- CountTells' plain law: whether terms are right, what they weigh, at most, how wide a number is, and what bits are, is as the reference has it. -/
import Derived.Test.YtooobbbpcpfddaaDoorMWeight
import Derived.Test.YtooobbbpcpfddaaDoorMCount
import Derived.Test.YtooobbbpcpfddaaDoorROpen
import Derived.Test.YtooobbbpcpfddaaDoorPALCountTells
namespace Go.Proofs.YtooobbbpcpfddaaDoor.PA
open Go.RowKit Go.Proofs.YtooobbbpcpfddaaDoorW.PrintWords Go.Proofs.YtooobbbpcpfddaaDoorW.PrintLast Go.Proofs.YtooobbbpcpfddaaDoorW.PrintMore

theorem shown16_evT : Ev (fun k => keelsonlaw16_shown.f k) true := by
  refine Ev.of (fun k => keelsonlaw16_shown.mono k) (k := 30) ?_
  decide +kernel

/-! right -/
def rightR16 (n : Int) (l : List S40) : Bool := (l.all fun t => !(decide (varR t.f0 < 1)) && !(decide (varR t.f0 > n)) && !(decide (t.f1 < 0))) && (decide (n ≥ 0) && (decide (n ≤ 20000) && decide ((l.length : Int) ≤ 1000)))
theorem right16_loop (n : Int) (l : List S40) (hn : l.length ≤ 9223372036854775807) (d : Nat) : ∀ i : Nat, i + d = l.length →
    Ev (fun k => keelsonref16_Right.l0 k n l (i : Int)) (((l.drop i).all fun t => !(decide (varR t.f0 < 1)) && !(decide (varR t.f0 > n)) && !(decide (t.f1 < 0))) && (decide (n ≥ 0) && (decide (n ≤ 20000) && decide ((l.length : Int) ≤ 1000)))) := by
  induction d with
  | zero =>
    intro i hi
    refine Ev.succ ?_
    simp only [keelsonref16_Right.l0]
    rw [List.drop_eq_nil_of_le (by omega), List.all_nil, Bool.true_and]
    refine Ev.neg (by omega) ?_
    by_cases h1 : n ≥ 0
    · rw [decide_eq_true h1, Bool.true_and]
      refine Ev.pos h1 ?_
      by_cases h2 : n ≤ 20000
      · rw [decide_eq_true h2]; exact Ev.pos h2 (Ev.some rfl)
      · rw [decide_eq_false h2]; exact Ev.neg h2 (Ev.some rfl)
    · rw [decide_eq_false h1]; exact Ev.neg h1 (Ev.some rfl)
  | succ d ih =>
    intro i hi
    have hil : i < l.length := by omega
    refine Ev.succ ?_
    simp only [keelsonref16_Right.l0]
    rw [rdT_nat _ _ hil, wrap_step hil hn, List.drop_eq_getElem_cons hil, List.all_cons]
    refine Ev.pos (by omega) (Ev.pos (by omega) (Ev.bind (var_ev _) ?_))
    by_cases h1 : varR l[i].f0 < 1
    · rw [decide_eq_true h1]; exact Ev.pos h1 (Ev.some (by simp))
    · rw [decide_eq_false h1]
      refine Ev.neg h1 ?_
      by_cases h2 : varR l[i].f0 > n
      · rw [decide_eq_true h2]; exact Ev.pos h2 (Ev.some (by simp))
      · rw [decide_eq_false h2]
        refine Ev.neg h2 ?_
        by_cases h3 : l[i].f1 < 0
        · rw [decide_eq_true h3]; exact Ev.pos h3 (Ev.some (by simp))
        · rw [decide_eq_false h3]
          refine Ev.neg h3 ?_
          have h := ih (i + 1) (by omega)
          simpa using h
theorem right16_ev (n : Int) (l : List S40) (hn : l.length ≤ 9223372036854775807) : Ev (fun k => keelsonref16_Right.f k n l) (rightR16 n l) := by
  unfold keelsonref16_Right.f rightR16
  have h := right16_loop n l hn l.length 0 (by omega)
  rw [List.drop_zero] at h
  exact h
theorem right_one (n x : Int) (hx : i64 x) (h0 : 0 ≤ n) (h1 : n ≤ 20000) : rightG n [[x]] = (!(decide (varR x < 1)) && !(decide (varR x > n))) := by
  have hb := varR_bounds x
  have hv := varG_i64 (n := n) hx (by omega)
  unfold rightG badC
  rw [decide_eq_false (show ¬ n < 0 by omega), decide_eq_false (show ¬ n > 20000 by omega)]
  simp only [List.length_cons, List.length_nil, List.any_cons, List.any_nil, Bool.or_false, Bool.false_or, hv]
  by_cases h2 : varR x ≤ n
  · rw [if_pos h2, decide_eq_false (show ¬ varR x > n by omega)]
    by_cases h3 : varR x < 1
    · have : varR x = 0 := by omega
      rw [this]; rfl
    · rw [decide_eq_false h3]
      have : (varR x == 0) = false := beq_eq_false_iff_ne.2 (by omega)
      rw [this]; rfl
  · rw [if_neg h2, decide_eq_true (show varR x > n by omega)]
    simp
theorem right16_eq (n : Int) (l : List S40) (hl : ∀ t ∈ l, i64 t.f0 ∧ i64 t.f1) : cRightG n l = rightR16 n l := by
  unfold cRightG rightR16
  by_cases h0 : n ≥ 0
  · by_cases h1 : n ≤ 20000
    · have hr : rightG n [] = true := by
        unfold rightG
        rw [decide_eq_false (show ¬ n < 0 by omega), decide_eq_false (show ¬ n > 20000 by omega)]; rfl
      rw [hr, decide_eq_true h0, decide_eq_true h1]
      have e : (!(l.any (badT n))) = l.all fun t => !(decide (varR t.f0 < 1)) && !(decide (varR t.f0 > n)) && !(decide (t.f1 < 0)) := by
        rw [List.not_any_eq_all_not, Bool.eq_iff_iff, List.all_eq_true, List.all_eq_true]
        have key : ∀ t ∈ l, (!(badT n t)) = (!(decide (varR t.f0 < 1)) && !(decide (varR t.f0 > n)) && !(decide (t.f1 < 0))) := by
          intro t ht
          unfold badT
          rw [right_one n t.f0 (hl t ht).1 h0 h1]
          cases decide (t.f1 < 0) <;> cases decide (varR t.f0 < 1) <;> cases decide (varR t.f0 > n) <;> rfl
        constructor
        · intro h t ht; rw [← key t ht]; exact h t ht
        · intro h t ht; rw [key t ht]; exact h t ht
      rw [e]
      cases decide ((l.length : Int) ≤ 1000) <;> simp
    · have hr : rightG n [] = false := by
        unfold rightG
        rw [decide_eq_false (show ¬ n < 0 by omega), decide_eq_true (show n > 20000 by omega)]; rfl
      rw [hr, decide_eq_false h1]; simp
  · have hr : rightG n [] = false := by
      unfold rightG
      rw [decide_eq_true (show n < 0 by omega)]; rfl
    rw [hr, decide_eq_false h0]; simp

/-! width -/
theorem width16_loop (j : Nat) : ∀ (x s : Int), 0 ≤ x → x < 2 ^ j → j ≤ 63 → 0 ≤ s → s + j ≤ 1000 → Ev (fun k => keelsonref16_Width.l0 k x s) (s + Lib.bitLenAux j x.toNat) := by
  induction j with
  | zero =>
    intro x s h0 h1 _ _ _
    have hx : x = 0 := by simp at h1; omega
    subst hx
    refine Ev.succ ?_
    simp only [keelsonref16_Width.l0]
    exact Ev.neg (by decide) (Ev.some (by simp [Lib.bitLenAux]))
  | succ j ih =>
    intro x s h0 h1 hj hs hs2
    refine Ev.succ ?_
    simp only [keelsonref16_Width.l0]
    rw [Int.pow_succ] at h1
    simp only [Lib.bitLenAux]
    by_cases hx : x > 0
    · refine Ev.pos hx ?_
      have hd : Int.tdiv x 2 = x / 2 := Int.tdiv_eq_ediv_of_nonneg h0
      have h62 : (2 : Int) ^ j ≤ 2 ^ 62 := two_pow_mono (by omega)
      have e62 : (2 : Int) ^ 62 = 4611686018427387904 := by decide +kernel
      rw [e62] at h62
      rw [hd, wrap_id (x := x / 2) (by omega) (by omega), wrap_id (x := s + 1) (by omega) (by omega), if_neg (by omega)]
      have h := ih (x / 2) (s + 1) (by omega) (by omega) (by omega) (by omega) (by omega)
      have e : (x / 2).toNat = x.toNat / 2 := by omega
      rw [e] at h
      have e2 : s + ((1 + Lib.bitLenAux j (x.toNat / 2) : Nat) : Int) = s + 1 + (Lib.bitLenAux j (x.toNat / 2) : Nat) := by omega
      rw [e2]
      exact h
    · refine Ev.neg hx (Ev.some ?_)
      rw [if_pos (by omega)]; simp
theorem width16_ev (k : Int) (h1 : k ≤ 9223372036854775807) : Ev (fun m => keelsonref16_Width.f m k) (widthG k) := by
  unfold keelsonref16_Width.f widthG
  by_cases h : k < 0
  · rw [if_pos h]
    refine Ev.succ ?_
    simp only [keelsonref16_Width.l0]
    exact Ev.neg (by omega) (Ev.some rfl)
  · rw [if_neg h]
    have e63 : (2 : Int) ^ 63 = 9223372036854775808 := by decide +kernel
    have hh := width16_loop 63 k 0 (by omega) (by rw [e63]; omega) (by omega) (by omega) (by omega)
    have e : Lib.bitLen k.toNat = Lib.bitLenAux 63 k.toNat := by
      unfold Lib.bitLen
      exact Lib.bitLenAux_fuel 63 k.toNat (by omega) 64 (by omega)
    rw [e]
    simpa using hh

/-! value -/
theorem cval_num (m : List Bool) (hm : m.length ≤ 35184372088832) (l : List Int) : (∀ x ∈ l, i64 x) → ∀ (i : Nat) (s : Int), i + l.length ≤ 40 → 0 ≤ s → s < 2 ^ i → cvalG m l i s = s + 2 ^ i * numR m l := by
  induction l with
  | nil => intro _ i s _ _ _; simp [cvalG, numR]
  | cons x l ih =>
    intro hl i s hi h0 h1
    simp only [List.length_cons] at hi
    have hp := two_pow_pos i
    have hs2 : (2 : Int) ^ (i + 1) = 2 ^ i * 2 := Int.pow_succ _ _
    have hpm : (2 : Int) ^ (i + 1) ≤ 2 ^ 40 := two_pow_mono (by omega)
    have e40 : (2 : Int) ^ 40 = 1099511627776 := by decide +kernel
    rw [e40] at hpm
    simp only [cvalG, numR, holds_one x (hl x List.mem_cons_self) m hm]
    by_cases hb : litR m x = true
    · rw [if_pos hb, if_pos hb, wrap_id (by omega) (by omega), ih (fun y hy => hl y (List.mem_cons_of_mem _ hy)) (i + 1) _ (by omega) (by omega) (by omega), hs2, Int.mul_add, Int.mul_one, Int.mul_assoc, Int.add_assoc]
    · rw [if_neg hb, if_neg hb, ih (fun y hy => hl y (List.mem_cons_of_mem _ hy)) (i + 1) _ (by omega) (by omega) (by omega), hs2, Int.zero_add, Int.mul_assoc]

theorem CountTells_pure (a : Int) (_ : okI .i64 a) (l : List S40) (ok1 : okL (Tryd.prog.bytesOf 40) (fun x : S40 => (okP (okI .i64) (okI .i64)) (x.f0, x.f1)) l) (m : List Bool) (_ : okL (Tryd.prog.bytesOf 4) okB m)
    (b : List Int) (ok3 : okL (Tryd.prog.bytesOf 3) (okI .i64) b) (k : Int) (ok4 : okI .i64 k) : ∃ n, keelsonlaw16_CountTells.f n a l m b k = some true := by
  have hb3 : Tryd.prog.bytesOf 3 = 8 := by kernel_rfl
  have hb1 : Tryd.prog.bytesOf 40 = 16 := by kernel_rfl
  have hl := ok1.1
  have hbl := ok3.1
  rw [hb1] at hl
  rw [hb3] at hbl
  have hl64 : ∀ t ∈ l, i64 t.f0 ∧ i64 t.f1 := fun t ht => ⟨okI_i64 (ok1.2 t ht).1, okI_i64 (ok1.2 t ht).2⟩
  have hb64 : ∀ x ∈ b, i64 x := fun x hx => okI_i64 (ok3.2 x hx)
  have hk := okI_i64 ok4
  refine Ev.rounds ?_
  unfold keelsonlaw16_CountTells.f
  refine Ev.bind shown16_evT (Ev.pos rfl ?_)
  have hj : ∀ f : Bool, (f = false → m.length ≤ 100) → Ev (fun n => keelsonlaw16_CountTells.j0 n a l m b k true f) true := by
    intro f hf
    refine Ev.succ ?_
    simp only [keelsonlaw16_CountTells.j0]
    cases f with
    | true => exact Ev.pos rfl (Ev.some rfl)
    | false =>
      have hm := hf rfl
      refine Ev.neg (by decide) ?_
      refine Ev.bind (weight_ev l m (by omega) (by omega)) (Ev.bind (weightR_ev l m (by omega) hl64 (by omega)) (Ev.bind (most_ev l (by omega)) (Ev.bind (mostR_ev l hl64 (by omega)) ?_)))
      refine Ev.call (v := cRightG a l) rfl (Ev.bind (right16_ev a l (by omega)) ?_)
      rw [right16_eq a l hl64]
      refine Ev.pos (by simp) (Ev.pos rfl (Ev.pos rfl (Ev.pos rfl (Ev.pos rfl ?_))))
      refine Ev.call (width_eq k hk.2) (Ev.bind (width16_ev k hk.2) (Ev.pos rfl ?_))
      refine Ev.call (v := cvalG m (b.take 40) 0 0) (by unfold count_Value.f; rw [if_pos (by omega)]) (Ev.bind (value16_ev b m (by omega) (by omega)) (Ev.some ?_))
      have hc := cval_num m (by omega) (b.take 40) (fun x hx => hb64 x (List.mem_of_mem_take hx)) 0 0 (by rw [List.length_take]; omega) (by omega) (by decide)
      rw [hc]; simp
  by_cases h1 : (l.length : Int) > 1100
  · exact Ev.pos h1 (hj true (fun h => by cases h))
  · refine Ev.neg h1 ?_
    by_cases h2 : (m.length : Int) > 100
    · exact Ev.pos h2 (hj true (fun h => by cases h))
    · exact Ev.neg h2 (hj _ (fun _ => by omega))
end Go.Proofs.YtooobbbpcpfddaaDoor.PA
