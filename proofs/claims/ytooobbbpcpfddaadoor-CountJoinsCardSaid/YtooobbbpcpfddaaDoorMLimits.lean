/- Clauses that limit bits hold just by those truths by which the bits are at most the number: for literals of a truth's variables. -/
import Derived.Test.YtooobbbpcpfddaaDoorMCount
namespace Go.Proofs.YtooobbbpcpfddaaDoor.PA
open Go.RowKit Go.Proofs.YtooobbbpcpfddaaDoorW.PrintWords Go.Proofs.YtooobbbpcpfddaaDoorW.PrintLast Go.Proofs.YtooobbbpcpfddaaDoorW.PrintMore

def goodL (m : List Bool) (x : Int) : Prop := 1 ≤ varR x ∧ varR x ≤ (m.length : Int)
theorem lit_neg (m : List Bool) (x : Int) (h : goodL m x) : litR m (wrap64 (-x)) = !litR m x := by
  have hb := varR_bounds x
  obtain ⟨h1, h2⟩ := h
  have hx : (x < 0 ∧ x > -4611686018427387904) ∨ (x > 0 ∧ x < 4611686018427387904) := by
    unfold varR at h1
    split at h1
    · rename_i z; exact .inl z
    · split at h1
      · rename_i z; exact .inr z
      · omega
  have hw : wrap64 (-x) = -x := wrap_id (by omega) (by omega)
  rw [hw]
  have hv : varR (-x) = varR x := by
    unfold varR
    rcases hx with ⟨a, b⟩ | ⟨a, b⟩
    · rw [if_neg (by omega), if_pos (by omega), if_pos ⟨a, b⟩]
    · rw [if_pos (by omega), if_neg (by omega), if_pos (by omega)]; omega
  unfold litR
  rw [hv, decide_eq_true h1, decide_eq_true h2]
  have hs : decide (-x > 0) = !decide (x > 0) := by
    rcases hx with ⟨a, b⟩ | ⟨a, b⟩
    · rw [decide_eq_true (show -x > 0 by omega), decide_eq_false (show ¬ x > 0 by omega)]; rfl
    · rw [decide_eq_false (show ¬ -x > 0 by omega), decide_eq_true (show x > 0 by omega)]; rfl
  rw [hs]
  cases m.getD (varR x - 1).toNat false <;> cases decide (x > 0) <;> rfl
theorem tail_any (m : List Bool) (l : List Int) : (∀ x ∈ l, goodL m x) → ∀ k : Int, 0 ≤ k → k < 2 ^ l.length →
    ((tailL l k).any (litR m) = false → k ≤ numR m l) ∧ (numR m l = k → (tailL l k).any (litR m) = false) := by
  induction l with
  | nil =>
    intro _ k h0 h1
    simp only [List.length_nil, Int.pow_zero] at h1
    refine ⟨fun _ => ?_, fun _ => rfl⟩
    simp only [numR]; omega
  | cons x l ih =>
    intro hg k h0 h1
    simp only [List.length_cons, Int.pow_succ] at h1
    obtain ⟨ih1, ih2⟩ := ih (fun y hy => hg y (List.mem_cons_of_mem _ hy)) (k / 2) (by omega) (by omega)
    have hn := lit_neg m x (hg x List.mem_cons_self)
    simp only [tailL, numR, List.any_append, Bool.or_eq_false_iff]
    by_cases hb : k % 2 = 1
    · rw [if_pos hb]
      simp only [List.any_cons, List.any_nil, Bool.or_false, hn]
      refine ⟨fun ⟨a, b⟩ => ?_, fun e => ?_⟩
      · have := ih1 b
        have ht : litR m x = true := by simpa using a
        rw [if_pos ht]; omega
      · by_cases ht : litR m x = true
        · rw [if_pos ht] at e
          exact ⟨by rw [ht]; rfl, ih2 (by omega)⟩
        · rw [if_neg ht] at e; omega
    · rw [if_neg hb]
      simp only [List.any_nil, true_and]
      refine ⟨fun b => ?_, fun e => ?_⟩
      · have := ih1 b
        split <;> omega
      · refine ih2 ?_
        split at e <;> omega
theorem cl_holds (m : List Bool) (l : List Int) : (∀ x ∈ l, goodL m x) → ∀ k : Int, 0 ≤ k → k < 2 ^ l.length → (holdsR (clL l k) m = true ↔ numR m l ≤ k) := by
  induction l with
  | nil =>
    intro _ k h0 h1
    simp only [numR]
    exact ⟨fun _ => h0, fun _ => rfl⟩
  | cons x l ih =>
    intro hg k h0 h1
    simp only [List.length_cons, Int.pow_succ] at h1
    have hi := ih (fun y hy => hg y (List.mem_cons_of_mem _ hy)) (k / 2) (by omega) (by omega)
    obtain ⟨t1, t2⟩ := tail_any m l (fun y hy => hg y (List.mem_cons_of_mem _ hy)) (k / 2) (by omega) (by omega)
    have hn := lit_neg m x (hg x List.mem_cons_self)
    simp only [clL, numR]
    by_cases hb : k % 2 = 1
    · rw [if_pos hb, List.nil_append, hi]
      split <;> omega
    · rw [if_neg hb]
      have hs : holdsR ([wrap64 (-x) :: tailL l (k / 2)] ++ clL l (k / 2)) m = ((!litR m x || (tailL l (k / 2)).any (litR m)) && holdsR (clL l (k / 2)) m) := by
        unfold holdsR
        rw [List.singleton_append, List.all_cons, List.any_cons, hn]
      rw [hs, Bool.and_eq_true, Bool.or_eq_true, hi]
      by_cases ht : litR m x = true
      · rw [if_pos ht, ht]
        constructor
        · rintro ⟨a, b⟩
          have ha : (tailL l (k / 2)).any (litR m) = true := by simpa using a
          have : ¬ numR m l = k / 2 := fun e => by rw [t2 e] at ha; cases ha
          omega
        · intro h
          refine ⟨.inr ?_, by omega⟩
          cases hz : (tailL l (k / 2)).any (litR m) with
          | true => rfl
          | false => have := t1 hz; omega
      · rw [if_neg ht]
        have hf : litR m x = false := by simpa using ht
        rw [hf]
        constructor
        · rintro ⟨_, b⟩; omega
        · intro h; exact ⟨.inl rfl, by omega⟩
/-- T3: what Limit makes. -/
theorem lim_holds (m : List Bool) (l : List Int) (hg : ∀ x ∈ l, goodL m x) (k : Int) (hk : k ≤ 9223372036854775807) (he : (limG l k).2 = 0) :
    holdsR (limG l k).1 m = decide (numR m l ≤ k) := by
  have hb := numR_bounds m l
  unfold limG at he ⊢
  split at he
  · simp at he
  · rename_i h0
    rw [if_neg h0]
    by_cases h1 : k < 0
    · rw [if_pos h1, decide_eq_false (by omega)]; rfl
    · rw [if_neg h1]
      by_cases h2 : widthG k > (l.length : Int)
      · rw [if_pos h2]
        have := width_ge k (by omega) hk l.length (by omega)
        rw [decide_eq_true (by omega)]; rfl
      · rw [if_neg h2]
        have h := cl_holds m l hg k (by omega) (width_lt k (by omega) hk l.length (by omega))
        rw [Bool.eq_iff_iff, decide_eq_true_iff]
        exact h
end Go.Proofs.YtooobbbpcpfddaaDoor.PA
