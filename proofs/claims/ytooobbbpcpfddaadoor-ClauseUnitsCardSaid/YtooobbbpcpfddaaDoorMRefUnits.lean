/- The reference's Units comes to the same as the program's, for int64 literals. -/
import Derived.Test.YtooobbbpcpfddaaDoorMUnits
import Derived.Test.YtooobbbpcpfddaaDoorMI64
import Derived.Test.YtooobbbpcpfddaaDoorPAkeelsonref120
namespace Go.Proofs.YtooobbbpcpfddaaDoor.PA
open Go.RowKit Go.Proofs.YtooobbbpcpfddaaDoorW.PrintWords Go.Proofs.YtooobbbpcpfddaaDoorW.PrintLast Go.Proofs.YtooobbbpcpfddaaDoorW.PrintMore

/-! Right -/
def okR (n : Int) (c : List Int) : Bool := (c.all fun x => !(decide (varR x < 1)) && !(decide (varR x > n))) && !(decide ((c.length : Int) > 20000))
def rightR (n : Int) (l : List (List Int)) : Bool := l.all (okR n) && (decide (n ≥ 0) && (decide (n ≤ 20000) && decide ((l.length : Int) ≤ 400000)))
theorem rightR_l1 (n : Int) (l : List (List Int)) (hl : l.length ≤ 9223372036854775807) (i : Nat) (hi : i < l.length) (hc : l[i].length ≤ 9223372036854775807) (r : Bool) (d : Nat) : ∀ j : Nat, j + d = l[i].length →
    (((l[i].drop j).all fun x => !(decide (varR x < 1)) && !(decide (varR x > n))) = true → ¬ (l[i].length : Int) > 20000 → Ev (fun k => keelsonref12_Right.l0 k n l ((i + 1 : Nat) : Int)) r) →
    (¬ (((l[i].drop j).all fun x => !(decide (varR x < 1)) && !(decide (varR x > n))) = true ∧ ¬ (l[i].length : Int) > 20000) → r = false) →
    Ev (fun k => keelsonref12_Right.l1 k n l (i : Int) (j : Int)) r := by
  induction d with
  | zero =>
    intro j hj h1 h2
    rw [List.drop_eq_nil_of_le (by omega)] at h1 h2
    refine Ev.succ ?_
    simp only [keelsonref12_Right.l1]
    rw [rdL_nat _ _ hi, wrap_step hi hl]
    refine Ev.pos (by omega) (Ev.pos (by omega) (Ev.neg (by omega) ?_))
    by_cases h : (l[i].length : Int) > 20000
    · exact Ev.pos h (Ev.some (h2 (fun z => z.2 h)).symm)
    · exact Ev.neg h (h1 rfl h)
  | succ d ih =>
    intro j hj h1 h2
    have hjl : j < l[i].length := by omega
    rw [List.drop_eq_getElem_cons hjl, List.all_cons] at h1 h2
    refine Ev.succ ?_
    simp only [keelsonref12_Right.l1]
    rw [rdL_nat _ _ hi, rd_nat _ _ hjl, wrap_step hjl hc]
    refine Ev.pos (by omega) (Ev.pos (by omega) (Ev.pos (by omega) (Ev.pos (by omega) (Ev.bind (var_ev _) ?_))))
    by_cases h3 : varR l[i][j] < 1
    · exact Ev.pos h3 (Ev.some (h2 (by rw [decide_eq_true h3]; simp)).symm)
    · refine Ev.neg h3 ?_
      by_cases h4 : varR l[i][j] > n
      · exact Ev.pos h4 (Ev.some (h2 (by rw [decide_eq_true h4]; simp)).symm)
      · rw [decide_eq_false h3, decide_eq_false h4] at h1 h2
        exact Ev.neg h4 (ih (j + 1) (by omega) (by simpa using h1) (by simpa using h2))
theorem rightR_l0 (n : Int) (l : List (List Int)) (hl : l.length ≤ 9223372036854775807) (hc : ∀ c ∈ l, c.length ≤ 9223372036854775807) (d : Nat) : ∀ i : Nat, i + d = l.length →
    Ev (fun k => keelsonref12_Right.l0 k n l (i : Int)) ((l.drop i).all (okR n) && (decide (n ≥ 0) && (decide (n ≤ 20000) && decide ((l.length : Int) ≤ 400000)))) := by
  induction d with
  | zero =>
    intro i hi
    refine Ev.succ ?_
    simp only [keelsonref12_Right.l0]
    rw [List.drop_eq_nil_of_le (by omega), List.all_nil, Bool.true_and]
    refine Ev.neg (by omega) ?_
    by_cases h1 : n ≥ 0
    · rw [decide_eq_true h1, Bool.true_and]
      refine Ev.pos h1 ?_
      by_cases h2 : n ≤ 20000
      · rw [decide_eq_true h2]; exact Ev.pos h2 (Ev.some rfl)
      · rw [decide_eq_false h2]; exact Ev.neg h2 (Ev.some rfl)
    · rw [decide_eq_false h1]; exact Ev.neg h1 (Ev.some rfl)
  | succ d ih =>
    intro i hi
    have hil : i < l.length := by omega
    refine Ev.succ ?_
    simp only [keelsonref12_Right.l0]
    refine Ev.pos (by omega) ?_
    rw [List.drop_eq_getElem_cons hil, List.all_cons]
    have h := rightR_l1 n l hl i hil (hc _ (List.getElem_mem hil)) ((okR n l[i] && (l.drop (i + 1)).all (okR n)) && (decide (n ≥ 0) && (decide (n ≤ 20000) && decide ((l.length : Int) ≤ 400000)))) l[i].length 0 (by omega) ?_ ?_
    · simpa using h
    · intro h1 h2
      rw [List.drop_zero] at h1
      have : okR n l[i] = true := by unfold okR; rw [h1, decide_eq_false h2]; rfl
      rw [this, Bool.true_and]
      exact ih (i + 1) (by omega)
    · intro h1
      rw [List.drop_zero] at h1
      have : okR n l[i] = false := by
        cases hq : okR n l[i] with
        | false => rfl
        | true =>
          unfold okR at hq
          rw [Bool.and_eq_true] at hq
          exact absurd ⟨hq.1, by simpa using hq.2⟩ h1
      rw [this]; rfl
theorem rightR_ev (n : Int) (l : List (List Int)) (hl : l.length ≤ 9223372036854775807) (hc : ∀ c ∈ l, c.length ≤ 9223372036854775807) : Ev (fun k => keelsonref12_Right.f k n l) (rightR n l) := by
  unfold keelsonref12_Right.f rightR
  simpa using rightR_l0 n l hl hc l.length 0 (by omega)
theorem bad_one (n x : Int) (hx : i64 x) (h0 : 0 ≤ n) (h1 : n ≤ 20000) : (varG x n == 0) = !(!(decide (varR x < 1)) && !(decide (varR x > n))) := by
  have hb := varR_bounds x
  rw [varG_i64 hx (by omega)]
  by_cases h2 : varR x ≤ n
  · rw [if_pos h2, decide_eq_false (show ¬ varR x > n by omega)]
    by_cases h3 : varR x < 1
    · have : varR x = 0 := by omega
      rw [this]; rfl
    · rw [decide_eq_false h3]
      have : (varR x == 0) = false := beq_eq_false_iff_ne.2 (by omega)
      rw [this]; rfl
  · rw [if_neg h2, decide_eq_true (show varR x > n by omega)]
    simp
theorem right_eq (n : Int) (l : List (List Int)) (hl : ∀ c ∈ l, ∀ x ∈ c, i64 x) : rightR n l = rightG n l := by
  unfold rightR rightG
  by_cases h0 : n < 0
  · rw [decide_eq_false (show ¬ n ≥ 0 by omega), decide_eq_true h0]; simp
  · by_cases h1 : n > 20000
    · rw [decide_eq_false (show ¬ n ≤ 20000 by omega), decide_eq_true h1]; simp
    · rw [decide_eq_true (show n ≥ 0 by omega), decide_eq_true (show n ≤ 20000 by omega), decide_eq_false h0, decide_eq_false h1]
      have e : l.all (okR n) = !(l.any (badC n)) := by
        rw [List.not_any_eq_all_not, Bool.eq_iff_iff, List.all_eq_true, List.all_eq_true]
        have key : ∀ c ∈ l, okR n c = !(badC n c) := by
          intro c hc
          unfold okR badC
          have e2 : (c.any fun x => varG x n == 0) = !(c.all fun x => !(decide (varR x < 1)) && !(decide (varR x > n))) := by
            rw [List.not_all_eq_any_not, Bool.eq_iff_iff, List.any_eq_true, List.any_eq_true]
            constructor
            · rintro ⟨x, hx, h⟩; exact ⟨x, hx, by rw [bad_one n x (hl c hc x hx) (by omega) (by omega)] at h; exact h⟩
            · rintro ⟨x, hx, h⟩; exact ⟨x, hx, by rw [bad_one n x (hl c hc x hx) (by omega) (by omega)]; exact h⟩
          rw [e2]
          cases (c.all fun x => !(decide (varR x < 1)) && !(decide (varR x > n))) <;> cases decide ((c.length : Int) > 20000) <;> rfl
        constructor
        · intro h c hc; rw [← key c hc]; exact h c hc
        · intro h c hc; rw [key c hc]; exact h c hc
      rw [e]
      by_cases h2 : (l.length : Int) > 400000
      · rw [decide_eq_true h2, decide_eq_false (show ¬ (l.length : Int) ≤ 400000 by omega)]; simp
      · rw [decide_eq_false h2, decide_eq_true (show (l.length : Int) ≤ 400000 by omega)]; simp

/-! Lit, set, last, Value -/
theorem litQ_ev (x : Int) (hx : i64 x) (a : List Int) (ha : a.length < 4611686018427387904) : Ev (fun k => keelsonref12_Lit.f k x a) (litG x a) := by
  have hb := varR_bounds x
  unfold keelsonref12_Lit.f litG
  rw [varG_i64 hx (by omega)]
  refine Ev.bind (var_ev _) ?_
  by_cases h1 : varR x < 1
  · have h0 : varR x = 0 := by omega
    refine Ev.pos h1 (Ev.succ ?_)
    simp only [keelsonref12_Lit.j0]
    refine Ev.pos trivial (Ev.some ?_)
    rw [if_pos]
    rw [h0]; split <;> rfl
  · refine Ev.neg h1 ?_
    by_cases h2 : varR x > (a.length : Int)
    · refine Ev.pos h2 (Ev.succ ?_)
      simp only [keelsonref12_Lit.j0]
      refine Ev.pos trivial (Ev.some ?_)
      rw [if_neg (show ¬ varR x ≤ (a.length : Int) by omega), if_pos rfl]
    · have hw : wrap64 (varR x - 1) = varR x - 1 := wrap_id (by omega) (by omega)
      rw [if_pos (show varR x ≤ (a.length : Int) by omega), if_neg (show ¬ varR x = 0 by omega), hw]
      refine Ev.neg h2 (Ev.pos (by omega) (Ev.pos (by omega) (Ev.succ ?_)))
      simp only [keelsonref12_Lit.j0]
      rw [hw, show rd a (varR x - 1) = a.getD (varR x - 1).toNat 0 from rfl]
      generalize a.getD (varR x - 1).toNat 0 = y
      have hx0 : x ≠ 0 := by rintro rfl; simp [varR] at h1
      by_cases hy : y = 0
      · subst hy
        refine Ev.pos rfl (Ev.some ?_)
        simp [sgnG]
      · refine Ev.neg (by simpa using hy) (Ev.pos (by omega) (Ev.pos (by omega) ?_))
        by_cases hx1 : x < 0
        · rw [if_pos hx1, decide_eq_false (show ¬ x > 0 by omega)]
          by_cases hy1 : y > 0
          · rw [decide_eq_true hy1]
            exact Ev.neg (by decide) (Ev.some (by unfold sgnG; rw [if_neg (by omega), if_pos hy1]))
          · rw [decide_eq_false hy1]
            exact Ev.pos rfl (Ev.some (by unfold sgnG; rw [if_pos (by omega)]; rfl))
        · rw [if_neg hx1, decide_eq_true (show x > 0 by omega)]
          by_cases hy1 : y > 0
          · rw [decide_eq_true hy1]
            exact Ev.pos rfl (Ev.some (by unfold sgnG; rw [if_neg (by omega), if_pos hy1]))
          · rw [decide_eq_false hy1]
            exact Ev.neg (by decide) (Ev.some (by unfold sgnG; rw [if_pos (by omega)]))
theorem setQ_ev (a : List Int) (x : Int) (hx : i64 x) (ha : a.length < 4611686018427387904) : Ev (fun k => keelsonref12_set.f k a x) (setG a x) := by
  have hb := varR_bounds x
  unfold keelsonref12_set.f setG
  rw [varG_i64 hx (by omega)]
  refine Ev.bind (var_ev _) ?_
  by_cases h1 : varR x < 1
  · have h0 : varR x = 0 := by omega
    refine Ev.pos h1 (Ev.succ ?_)
    simp only [keelsonref12_set.j0]
    refine Ev.pos trivial (Ev.some ?_)
    rw [if_pos]
    rw [h0]; split <;> rfl
  · refine Ev.neg h1 ?_
    by_cases h2 : varR x > (a.length : Int)
    · refine Ev.pos h2 (Ev.succ ?_)
      simp only [keelsonref12_set.j0]
      refine Ev.pos trivial (Ev.some ?_)
      rw [if_neg (show ¬ varR x ≤ (a.length : Int) by omega), if_pos rfl]
    · have hw : wrap64 (varR x - 1) = varR x - 1 := wrap_id (by omega) (by omega)
      have hx0 : x ≠ 0 := by rintro rfl; simp [varR] at h1
      rw [if_pos (show varR x ≤ (a.length : Int) by omega), if_neg (show ¬ varR x = 0 by omega)]
      refine Ev.neg h2 (Ev.bind (litQ_ev x hx a ha) (Ev.succ ?_))
      simp only [keelsonref12_set.j0]
      rw [hw]
      by_cases hl : litG x a < 0
      · rw [if_pos hl, decide_eq_true hl]; exact Ev.pos rfl (Ev.some rfl)
      · rw [if_neg hl, decide_eq_false hl]
        refine Ev.neg (by decide) (Ev.pos (by omega) (Ev.pos (by omega) (Ev.let ?_)))
        by_cases hx1 : x < 0
        · refine Ev.pos hx1 (Ev.some ?_)
          unfold sgnG; rw [if_pos hx1]; simp
        · refine Ev.neg hx1 (Ev.some ?_)
          unfold sgnG; rw [if_neg hx1, if_pos (by omega)]
theorem lastQ_loop (c a : List Int) (hci : ∀ x ∈ c, i64 x) (hn : c.length ≤ 9223372036854775807) (ha : a.length < 4611686018427387904) (d : Nat) : ∀ (i : Nat) (x : Int), i + d = c.length → Ev (fun k => keelsonref12_last.l0 k c a x (i : Int)) (unitGo a (c.drop i) x) := by
  induction d with
  | zero =>
    intro i x hi
    refine Ev.succ ?_
    simp only [keelsonref12_last.l0]
    rw [List.drop_eq_nil_of_le (by omega)]
    exact Ev.neg (by omega) (Ev.some rfl)
  | succ d ih =>
    intro i x hi
    have hil : i < c.length := by omega
    refine Ev.succ ?_
    simp only [keelsonref12_last.l0]
    rw [rd_nat _ _ hil, List.drop_eq_getElem_cons hil]
    refine Ev.pos (by omega) (Ev.pos (by omega) (Ev.bind (litQ_ev _ (hci _ (List.getElem_mem hil)) a ha) ?_))
    simp only [unitGo]
    have hj : ∀ b : Bool, b = decide (litG c[i] a > 0 ∨ (litG c[i] a = 0 ∧ x ≠ 0 ∧ x ≠ c[i])) → Ev (fun k => keelsonref12_last.j1 k c a x (i : Int) (litG c[i] a) b) (if litG c[i] a > 0 ∨ (litG c[i] a = 0 ∧ x ≠ 0 ∧ x ≠ c[i]) then 0 else if litG c[i] a = 0 then unitGo a (c.drop (i + 1)) c[i] else unitGo a (c.drop (i + 1)) x) := by
      intro b hb
      refine Ev.succ ?_
      simp only [keelsonref12_last.j1]
      rw [rd_nat _ _ hil, wrap_step hil hn]
      by_cases h : litG c[i] a > 0 ∨ (litG c[i] a = 0 ∧ x ≠ 0 ∧ x ≠ c[i])
      · rw [hb, decide_eq_true h, if_pos h]; exact Ev.pos rfl (Ev.some rfl)
      · rw [hb, decide_eq_false h, if_neg h]
        refine Ev.neg (by decide) ?_
        by_cases h0 : litG c[i] a = 0
        · rw [if_pos h0]; exact Ev.pos h0 (Ev.pos (by omega) (Ev.pos (by omega) (ih (i + 1) _ (by omega))))
        · rw [if_neg h0]; exact Ev.neg h0 (ih (i + 1) _ (by omega))
    by_cases h1 : litG c[i] a > 0
    · exact Ev.pos h1 (hj true (by simp [h1]))
    · refine Ev.neg h1 ?_
      by_cases h2 : litG c[i] a = 0
      · refine Ev.pos h2 ?_
        by_cases h3 : x = 0
        · exact Ev.pos h3 (hj false (by simp [h2, h3]))
        · refine Ev.neg h3 (hj _ ?_)
          by_cases h4 : x = c[i] <;> simp [h2, h3, h4]
      · exact Ev.neg h2 (hj false (by simp [h1, h2]))
theorem lastQ_ev (c a : List Int) (hci : ∀ x ∈ c, i64 x) (hn : c.length ≤ 9223372036854775807) (ha : a.length < 4611686018427387904) : Ev (fun k => keelsonref12_last.f k c a) (unitG c a) := by
  unfold keelsonref12_last.f unitG
  simpa using lastQ_loop c a hci hn ha c.length 0 0 (by omega)
def valueQ (a : List Int) : List Int → Bool → Int
  | [], b => if b = true then 0 else -1
  | x :: c, b => if litG x a > 0 then 1 else valueQ a c (b || litG x a == 0)
theorem valueQ_neg (a c : List Int) : ∀ (b : Bool) (n : Int), -1 ≤ n → n ≤ 0 → (b = true ↔ n = 0) → (valueQ a c b < 0 ↔ c.foldl (fun n x => max n (litG x a)) n < 0) := by
  induction c with
  | nil =>
    intro b n h1 h2 h3
    simp only [valueQ, List.foldl_nil]
    cases b with
    | true => have := h3.1 rfl; simp [this]
    | false =>
      have : n ≠ 0 := fun z => by have := h3.2 z; cases this
      simp; omega
  | cons x c ih =>
    intro b n h1 h2 h3
    simp only [valueQ, List.foldl_cons]
    have hr := litG_range x a
    by_cases h : litG x a > 0
    · rw [if_pos h]
      constructor
      · intro z; omega
      · intro z
        exfalso
        have mono : ∀ (c : List Int) (m : Int), 1 ≤ m → ¬ c.foldl (fun n x => max n (litG x a)) m < 0 := by
          intro c
          induction c with
          | nil => intro m hm; simp only [List.foldl_nil]; omega
          | cons y c ih => intro m hm; simp only [List.foldl_cons]; exact ih _ (by omega)
        exact mono c _ (by omega) z
    · rw [if_neg h]
      refine ih _ _ (by omega) (by omega) ?_
      rw [Bool.or_eq_true, beq_iff_eq, h3]
      omega
theorem valueQ_loop (c a : List Int) (hci : ∀ x ∈ c, i64 x) (hn : c.length ≤ 9223372036854775807) (ha : a.length < 4611686018427387904) (d : Nat) : ∀ (i : Nat) (b : Bool), i + d = c.length → Ev (fun k => keelsonref12_Value.l0 k c a b (i : Int)) (valueQ a (c.drop i) b) := by
  induction d with
  | zero =>
    intro i b hi
    refine Ev.succ ?_
    simp only [keelsonref12_Value.l0]
    rw [List.drop_eq_nil_of_le (by omega)]
    simp only [valueQ]
    exact Ev.neg (by omega) (Ev.ite (fun _ => Ev.some rfl) (fun _ => Ev.some rfl))
  | succ d ih =>
    intro i b hi
    have hil : i < c.length := by omega
    refine Ev.succ ?_
    simp only [keelsonref12_Value.l0]
    rw [rd_nat _ _ hil, wrap_step hil hn, List.drop_eq_getElem_cons hil]
    simp only [valueQ]
    refine Ev.pos (by omega) (Ev.pos (by omega) (Ev.bind (litQ_ev _ (hci _ (List.getElem_mem hil)) a ha) ?_))
    by_cases h : litG c[i] a > 0
    · rw [if_pos h]; exact Ev.pos h (Ev.some rfl)
    · rw [if_neg h]
      refine Ev.neg h ?_
      cases b with
      | true => exact Ev.pos rfl (by simpa using ih (i + 1) true (by omega))
      | false => exact Ev.neg (by decide) (by simpa using ih (i + 1) (litG c[i] a == 0) (by omega))
theorem valueQ_ev (c a : List Int) (hci : ∀ x ∈ c, i64 x) (hn : c.length ≤ 9223372036854775807) (ha : a.length < 4611686018427387904) : Ev (fun k => keelsonref12_Value.f k c a) (valueQ a c false) := by
  unfold keelsonref12_Value.f
  simpa using valueQ_loop c a hci hn ha c.length 0 false (by omega)
theorem valueQ_iff (c a : List Int) : valueQ a c false < 0 ↔ valueG c a < 0 := valueQ_neg a c false (-1) (by omega) (by omega) (by simp)
theorem neg_unit (c a : List Int) (h : valueG c a < 0) : unitG c a = 0 := by
  have key : ∀ (c : List Int) (b : Bool) (x : Int), (valueQ a c b < 0) → unitGo a c x = x := by
    intro c
    induction c with
    | nil => intro b x _; rfl
    | cons y c ih =>
      intro b x h
      have hr := litG_range y a
      simp only [valueQ] at h
      split at h
      · omega
      · rename_i hp
        by_cases h0 : litG y a = 0
        · exfalso
          have pos : ∀ (c : List Int), ¬ valueQ a c true < 0 := by
            intro c
            induction c with
            | nil => simp [valueQ]
            | cons z c ih => simp only [valueQ, Bool.true_or]; split <;> omega
          have e : (b || litG y a == 0) = true := by rw [Bool.or_eq_true]; exact .inr (by simpa using h0)
          rw [e] at h
          exact pos c h
        · simp only [unitGo]
          rw [if_neg (by rintro (z | z); exact hp z; exact h0 z.1), if_neg h0]
          exact ih _ _ h
  exact key c false 0 ((valueQ_iff c a).2 h)

/-! Units -/
theorem passQ_ev (l : List (List Int)) (hl : l.length ≤ 9223372036854775807) (hi64 : ∀ c ∈ l, ∀ x ∈ c, i64 x) (hc : ∀ c ∈ l, c.length ≤ 9223372036854775807) (r : List Int × Bool) (d : Nat) : ∀ (i : Nat) (a : List Int) (ag : Bool), i + d = l.length → a.length < 4611686018427387904 →
    (match passG (l.drop i) (a, ag) with | none => r = ([], false) | some s => Ev (fun k => keelsonref12_Units.l1 k l s.1 s.2) r) → Ev (fun k => keelsonref12_Units.l2 k l a ag (i : Int)) r := by
  induction d with
  | zero =>
    intro i a ag hi ha h
    rw [List.drop_eq_nil_of_le (by omega)] at h
    refine Ev.succ ?_
    simp only [keelsonref12_Units.l2]
    exact Ev.neg (by omega) h
  | succ d ih =>
    intro i a ag hi ha h
    have hil : i < l.length := by omega
    have hci := hc _ (List.getElem_mem hil)
    have hii := hi64 _ (List.getElem_mem hil)
    refine Ev.succ ?_
    simp only [keelsonref12_Units.l2]
    rw [rdL_nat _ _ hil, wrap_step hil hl]
    rw [List.drop_eq_getElem_cons hil, passG] at h
    refine Ev.pos (by omega) (Ev.pos (by omega) (Ev.bind (valueQ_ev _ a hii hci ha) ?_))
    by_cases hv : valueG l[i] a < 0
    · have hu := neg_unit l[i] a hv
      have hs : stepG l[i] (a, ag) = none := by unfold stepG; rw [if_pos hu, if_pos hv]
      rw [hs] at h
      exact Ev.pos ((valueQ_iff _ _).2 hv) (Ev.some h.symm)
    · refine Ev.neg (fun z => hv ((valueQ_iff _ _).1 z)) (Ev.bind (lastQ_ev _ a hii hci ha) ?_)
      by_cases hu : unitG l[i] a = 0
      · have hs : stepG l[i] (a, ag) = some (a, ag) := by unfold stepG; rw [if_pos hu, if_neg hv]
        rw [hs] at h
        exact Ev.pos hu (ih (i + 1) a ag (by omega) ha h)
      · have hs : stepG l[i] (a, ag) = some ((setG a (unitG l[i] a)).2, (setG a (unitG l[i] a)).1) := by unfold stepG; rw [if_neg hu]
        rw [hs] at h
        refine Ev.neg hu (Ev.bind (setQ_ev a _ (hii _ (unitG_spec _ _ hu).1) ha) (ih (i + 1) _ _ (by omega) (by rw [setG_len]; exact ha) h))
theorem loopQ_ev (n : Int) (l : List (List Int)) (hl : l.length ≤ 9223372036854775807) (hi64 : ∀ c ∈ l, ∀ x ∈ c, i64 x) (hc : ∀ c ∈ l, c.length ≤ 9223372036854775807) (hv : ∀ c ∈ l, ∀ x ∈ c, varG x n ≠ 0) (z : Nat) : ∀ a : List Int, (a.length : Int) = n → n < 4611686018427387904 → zeros a < z →
    Ev (fun k => keelsonref12_Units.l1 k l a true) (endU (loopG l z a)) := by
  induction z with
  | zero => intro a _ _ h; omega
  | succ z ih =>
    intro a ha hn hz
    refine Ev.succ ?_
    simp only [keelsonref12_Units.l1]
    refine Ev.pos trivial (passQ_ev l hl hi64 hc _ l.length 0 a false (by omega) (by omega) ?_)
    rw [List.drop_zero]
    simp only [loopG]
    cases hp : passG l (a, false) with
    | none => rfl
    | some s =>
      obtain ⟨p1, p2, p3, p4⟩ := passG_zeros n hv ha hp
      have hlen := passG_len hp
      obtain ⟨a', ag⟩ := s
      cases ag with
      | true =>
        rcases p2 rfl with h | h
        · cases h
        · exact ih a' (by simp only at hlen; omega) hn (by simp only at h; omega)
      | false =>
        refine Ev.succ ?_
        simp only [keelsonref12_Units.l1]
        exact Ev.neg (by decide) (Ev.some rfl)
theorem givenQ_ev (n : Int) (l : List (List Int)) (hl : l.length ≤ 9223372036854775807) (hi64 : ∀ c ∈ l, ∀ x ∈ c, i64 x) (hc : ∀ c ∈ l, c.length ≤ 9223372036854775807) (hv : ∀ c ∈ l, ∀ x ∈ c, varG x n ≠ 0) (g : List Int) (hgi : ∀ x ∈ g, i64 x) (hg : g.length ≤ 9223372036854775807) (d : Nat) : ∀ (i : Nat) (a : List Int), i + d = g.length → (a.length : Int) = n → n < 4611686018427387904 →
    Ev (fun k => keelsonref12_Units.l0 k l g a (i : Int)) (endU ((givenG a (g.drop i)).bind fun a => loopG l (zeros a + 1) a)) := by
  induction d with
  | zero =>
    intro i a hi ha hn
    rw [List.drop_eq_nil_of_le (by omega)]
    refine Ev.succ ?_
    simp only [keelsonref12_Units.l0]
    exact Ev.neg (by omega) (loopQ_ev n l hl hi64 hc hv _ a ha hn (by omega))
  | succ d ih =>
    intro i a hi ha hn
    have hil : i < g.length := by omega
    refine Ev.succ ?_
    simp only [keelsonref12_Units.l0]
    rw [rd_nat _ _ hil, wrap_step hil hg, List.drop_eq_getElem_cons hil]
    refine Ev.pos (by omega) (Ev.pos (by omega) (Ev.bind (setQ_ev a _ (hgi _ (List.getElem_mem hil)) (by omega)) ?_))
    simp only [givenG]
    by_cases h : (setG a g[i]).1 = true
    · rw [if_pos h]; exact Ev.pos h (ih (i + 1) _ (by omega) (by rw [setG_len]; exact ha) hn)
    · rw [if_neg h]; exact Ev.neg h (Ev.some rfl)
theorem unitsQ_ev (n : Int) (l : List (List Int)) (hl : l.length ≤ 9223372036854775807) (hi64 : ∀ c ∈ l, ∀ x ∈ c, i64 x) (hc : ∀ c ∈ l, c.length ≤ 9223372036854775807) (g : List Int) (hgi : ∀ x ∈ g, i64 x) (hg : g.length ≤ 9223372036854775807) : Ev (fun k => keelsonref12_Units.f k n l g) (unitsG n l g) := by
  unfold keelsonref12_Units.f unitsG
  refine Ev.bind (rightR_ev n l hl hc) ?_
  rw [right_eq n l hi64]
  by_cases h : rightG n l = true
  · obtain ⟨s1, s2, s3⟩ := right_size h
    have hv := right_vars h
    rw [if_pos h]
    refine Ev.pos h (Ev.pos (by omega) (Ev.pos (by omega) ?_))
    exact givenQ_ev n l (by omega) hi64 hc (fun c hc => (hv c hc).2) g hgi hg g.length 0 _ (by omega) (by simp; omega) (by omega)
  · rw [if_neg h]; exact Ev.neg h (Ev.some rfl)
end Go.Proofs.YtooobbbpcpfddaaDoor.PA
