/- keelson/clause.Units as a plain function: what follows at once, clause by clause, till nothing is new. For lists within the machine's room. -/
import Derived.Test.YtooobbbpcpfddaaDoorMBase
import Derived.Test.YtooobbbpcpfddaaDoorGClause
import Derived.Test.YtooobbbpcpfddaaDoorGRight
import Derived.Test.YtooobbbpcpfddaaDoorPAclause1
namespace Go.Proofs.YtooobbbpcpfddaaDoor.PA
open Go.RowKit Go.Proofs.YtooobbbpcpfddaaDoorW.PrintWords Go.Proofs.YtooobbbpcpfddaaDoorW.PrintLast Go.Proofs.YtooobbbpcpfddaaDoorW.PrintMore

def setG (a : List Int) (x : Int) : Bool × List Int := if varG x a.length = 0 then (false, a) else if litG x a < 0 then (false, a) else (true, a.set (varG x a.length - 1).toNat (sgnG x))
theorem set_eq (a : List Int) (x : Int) (hn : a.length ≤ 9223372036854775807) : clause_set.f a x = some (setG a x) := by
  unfold clause_set.f setG
  rw [variable_eq, lit_eq x a hn, compare_eq]
  simp only [Option.bind_some]
  have hr := varG_range x a.length
  by_cases h : varG x a.length = 0
  · rw [if_pos h, if_pos h]
  · have hw : wrap64 (varG x a.length - 1) = varG x a.length - 1 := wrap_id (by omega) (by omega)
    rw [if_neg h, if_neg h]
    by_cases h2 : litG x a < 0
    · rw [if_pos h2, if_pos h2]
    · rw [if_neg h2, if_neg h2, hw, if_pos (by omega), if_pos (by omega)]
theorem setG_len (a : List Int) (x : Int) : (setG a x).2.length = a.length := by
  unfold setG; split
  · rfl
  · split <;> simp
def unitGo (a : List Int) : List Int → Int → Int
  | [], x => x
  | y :: c, x => if litG y a > 0 ∨ (litG y a = 0 ∧ x ≠ 0 ∧ x ≠ y) then 0 else if litG y a = 0 then unitGo a c y else unitGo a c x
def unitG (c a : List Int) : Int := unitGo a c 0
theorem unit_loop (c a : List Int) (hn : c.length ≤ 9223372036854775807) (ha : a.length ≤ 9223372036854775807) (d : Nat) : ∀ (i : Nat) (x : Int), i + d = c.length → Ev (fun k => clause_unit.l0 k a x c (c.length : Int) (i : Int)) (unitGo a (c.drop i) x) := by
  induction d with
  | zero =>
    intro i x hi
    refine Ev.succ ?_
    simp only [clause_unit.l0]
    rw [List.drop_eq_nil_of_le (by omega)]
    exact Ev.neg (by omega) (Ev.some rfl)
  | succ d ih =>
    intro i x hi
    have hil : i < c.length := by omega
    refine Ev.succ ?_
    simp only [clause_unit.l0]
    rw [rd_nat _ _ hil, List.drop_eq_getElem_cons hil]
    refine Ev.pos (by omega) (Ev.pos (by omega) (Ev.pos (by omega) (Ev.call (lit_eq _ a ha) ?_)))
    simp only [unitGo]
    have hj : ∀ b : Bool, b = decide (litG c[i] a > 0 ∨ (litG c[i] a = 0 ∧ x ≠ 0 ∧ x ≠ c[i])) → Ev (fun k => clause_unit.j1 k a x c[i] (litG c[i] a) c (c.length : Int) (i : Int) b) (if litG c[i] a > 0 ∨ (litG c[i] a = 0 ∧ x ≠ 0 ∧ x ≠ c[i]) then 0 else if litG c[i] a = 0 then unitGo a (c.drop (i + 1)) c[i] else unitGo a (c.drop (i + 1)) x) := by
      intro b hb
      refine Ev.succ ?_
      simp only [clause_unit.j1]
      rw [wrap_step hil hn]
      by_cases h : litG c[i] a > 0 ∨ (litG c[i] a = 0 ∧ x ≠ 0 ∧ x ≠ c[i])
      · rw [hb, decide_eq_true h, if_pos h]; exact Ev.pos rfl (Ev.some rfl)
      · rw [hb, decide_eq_false h, if_neg h]
        refine Ev.neg (by decide) ?_
        by_cases h0 : litG c[i] a = 0
        · rw [if_pos h0]; exact Ev.pos h0 (ih (i + 1) _ (by omega))
        · rw [if_neg h0]; exact Ev.neg h0 (ih (i + 1) _ (by omega))
    by_cases h1 : litG c[i] a > 0
    · exact Ev.pos h1 (hj true (by simp [h1]))
    · refine Ev.neg h1 ?_
      by_cases h2 : litG c[i] a = 0
      · refine Ev.pos h2 ?_
        by_cases h3 : x = 0
        · exact Ev.pos h3 (hj false (by simp [h2, h3]))
        · refine Ev.neg h3 (hj _ ?_)
          by_cases h4 : x = c[i] <;> simp [h2, h3, h4]
      · exact Ev.neg h2 (hj false (by simp [h1, h2]))
theorem unit_ev (c a : List Int) (hn : c.length ≤ 9223372036854775807) (ha : a.length ≤ 9223372036854775807) : Ev (fun k => clause_unit.f k c a) (unitG c a) := by
  unfold clause_unit.f unitG
  simpa using unit_loop c a hn ha c.length 0 0 (by omega)
theorem unitGo_spec (a c : List Int) : ∀ x : Int, unitGo a c x = 0 ∨ unitGo a c x = x ∨ (unitGo a c x ∈ c ∧ litG (unitGo a c x) a = 0) := by
  induction c with
  | nil => intro x; exact .inr (.inl rfl)
  | cons y c ih =>
    intro x
    simp only [unitGo]
    split
    · exact .inl rfl
    · split
      · rename_i h0
        rcases ih y with h | h | ⟨h, h'⟩
        · exact .inl h
        · rw [h]; exact .inr (.inr ⟨List.mem_cons_self, h0⟩)
        · exact .inr (.inr ⟨List.mem_cons_of_mem _ h, h'⟩)
      · rcases ih x with h | h | ⟨h, h'⟩
        · exact .inl h
        · exact .inr (.inl h)
        · exact .inr (.inr ⟨List.mem_cons_of_mem _ h, h'⟩)
theorem unitG_spec (c a : List Int) (h : unitG c a ≠ 0) : unitG c a ∈ c ∧ litG (unitG c a) a = 0 := by
  rcases unitGo_spec a c 0 with h' | h' | h'
  · exact absurd h' h
  · exact absurd h' h
  · exact h'
theorem value_ev (c a : List Int) (hc : c.length ≤ 9223372036854775807) (ha : a.length ≤ 9223372036854775807) : Ev (fun k => clause_Value.f k c a) (valueG c a) :=
  Ev.of (fun k => clause_Value.mono _ _ k) (value_eq a c ha hc)

/-! passes -/
def stepG (c : List Int) (s : List Int × Bool) : Option (List Int × Bool) := if unitG c s.1 = 0 then (if valueG c s.1 < 0 then none else some s) else some ((setG s.1 (unitG c s.1)).2, (setG s.1 (unitG c s.1)).1)
def passG : List (List Int) → List Int × Bool → Option (List Int × Bool)
  | [], s => some s
  | c :: l, s => (stepG c s).bind (passG l)
def zeros (a : List Int) : Nat := a.count 0
def loopG (l : List (List Int)) : Nat → List Int → Option (List Int)
  | 0, a => some a
  | k + 1, a => match passG l (a, false) with | none => none | some (a', true) => loopG l k a' | some (a', false) => some a'
def givenG (a : List Int) : List Int → Option (List Int)
  | [] => some a
  | x :: l => if (setG a x).1 = true then givenG (setG a x).2 l else none
def endU : Option (List Int) → List Int × Bool
  | none => ([], false)
  | some a => (a, true)
def unitsG (n : Int) (l : List (List Int)) (given : List Int) : List Int × Bool := if rightG n l = true then endU ((givenG (List.replicate n.toNat 0) given).bind fun a => loopG l (zeros a + 1) a) else ([], false)

theorem stepG_len {c : List Int} {s s' : List Int × Bool} (h : stepG c s = some s') : s'.1.length = s.1.length := by
  unfold stepG at h
  split at h
  · split at h
    · cases h
    · cases h; rfl
  · cases h; exact setG_len _ _
theorem passG_len {l : List (List Int)} : ∀ {s s' : List Int × Bool}, passG l s = some s' → s'.1.length = s.1.length := by
  induction l with
  | nil => intro s s' h; cases h; rfl
  | cons c l ih =>
    intro s s' h
    obtain ⟨t, h1, h2⟩ := Option.bind_eq_some_iff.1 h
    rw [ih h2, stepG_len h1]
/-- A unit that is set: one place less is open. -/
theorem set_unit {a : List Int} {x : Int} (hv : varG x a.length ≠ 0) (hl : litG x a = 0) : (setG a x).1 = true ∧ zeros (setG a x).2 < zeros a := by
  have hr := varG_range x a.length
  have hp : (varG x a.length - 1).toNat < a.length := by omega
  have h0 : a[(varG x a.length - 1).toNat] = 0 := by
    unfold litG at hl
    rw [if_neg hv] at hl
    rw [List.getD_eq_getElem?_getD, List.getElem?_eq_getElem hp, Option.getD_some] at hl
    have hz : ∀ y : Int, sgnG y = 0 → y = 0 := by
      intro y h; unfold sgnG at h
      split at h
      · omega
      · split at h <;> omega
    split at hl
    · exact hz _ (by omega)
    · exact hz _ hl
  have hs : sgnG x ≠ 0 := by
    unfold sgnG
    intro h
    split at h
    · cases h
    · split at h
      · cases h
      · have : x = 0 := by omega
        subst this
        apply hv
        unfold varG
        rfl
  unfold setG
  rw [if_neg hv, if_neg (by omega)]
  refine ⟨rfl, ?_⟩
  unfold zeros
  have hc : 0 < a.count 0 := List.count_pos_iff.2 (by rw [← h0]; exact List.getElem_mem hp)
  rw [List.count_set hp, h0]
  have hs' : (sgnG x == 0) = false := beq_eq_false_iff_ne.2 hs
  rw [hs']
  simp
  omega
/-- What a pass over right clauses does: nothing new and nothing turned, or one place less is open. -/
theorem passG_zeros (n : Int) {l : List (List Int)} : ∀ {s s' : List Int × Bool}, (∀ c ∈ l, ∀ x ∈ c, varG x n ≠ 0) → (s.1.length : Int) = n → passG l s = some s' →
    zeros s'.1 ≤ zeros s.1 ∧ (s'.2 = true → s.2 = true ∨ zeros s'.1 < zeros s.1) ∧ (s.2 = true → s'.2 = true) ∧ (s'.2 = false → s'.1 = s.1) := by
  induction l with
  | nil => intro s s' _ _ h; cases h; exact ⟨Nat.le_refl _, fun h => .inl h, fun h => h, fun _ => rfl⟩
  | cons c l ih =>
    intro s s' hv hn h
    obtain ⟨t, h1, h2⟩ := Option.bind_eq_some_iff.1 h
    have ht := stepG_len h1
    obtain ⟨i1, i2, i3, i4⟩ := ih (fun c hc => hv c (List.mem_cons_of_mem _ hc)) (by rw [ht]; exact hn) h2
    unfold stepG at h1
    split at h1
    · split at h1
      · cases h1
      · cases h1; exact ⟨i1, i2, i3, i4⟩
    · rename_i hu
      cases h1
      obtain ⟨hm, hl⟩ := unitG_spec c s.1 hu
      obtain ⟨q1, q2⟩ := set_unit (a := s.1) (x := unitG c s.1) (by rw [hn]; exact hv c List.mem_cons_self _ hm) hl
      simp only [q1] at i1 i2 i3 i4
      have hs' := i3 trivial
      refine ⟨by omega, fun _ => .inr (by omega), fun _ => hs', fun hf => ?_⟩
      rw [hs'] at hf; cases hf
theorem right_vars {n : Int} {l : List (List Int)} (h : rightG n l = true) : ∀ c ∈ l, (c.length : Int) ≤ 20000 ∧ ∀ x ∈ c, varG x n ≠ 0 := by
  unfold rightG at h
  rw [Bool.and_eq_true, Bool.not_eq_true', Bool.not_eq_true', List.any_eq_false] at h
  intro c hc
  have hb := h.2 c hc
  unfold badC at hb
  rw [Bool.not_eq_true, Bool.or_eq_false_iff, decide_eq_false_iff_not, List.any_eq_false] at hb
  refine ⟨by omega, fun x hx => ?_⟩
  have := hb.2 x hx
  simpa using this
theorem right_size {n : Int} {l : List (List Int)} (h : rightG n l = true) : 0 ≤ n ∧ n ≤ 20000 ∧ (l.length : Int) ≤ 400000 := by
  unfold rightG at h
  rw [Bool.and_eq_true, Bool.not_eq_true', Bool.or_eq_false_iff, Bool.or_eq_false_iff, decide_eq_false_iff_not, decide_eq_false_iff_not, decide_eq_false_iff_not] at h
  omega

theorem loopG_len (l : List (List Int)) (z : Nat) : ∀ (a : List Int) (r : List Int), loopG l z a = some r → r.length = a.length := by
  induction z with
  | zero => intro a r h; cases h; rfl
  | succ z ih =>
    intro a r h
    simp only [loopG] at h
    cases hp : passG l (a, false) with
    | none => rw [hp] at h; cases h
    | some s =>
      have hl := passG_len hp
      rw [hp] at h
      obtain ⟨a', ag⟩ := s
      cases ag with
      | true => rw [ih a' r h]; exact hl
      | false => cases h; exact hl
theorem givenG_len (g : List Int) : ∀ (a r : List Int), givenG a g = some r → r.length = a.length := by
  induction g with
  | nil => intro a r h; cases h; rfl
  | cons x g ih =>
    intro a r h
    simp only [givenG] at h
    split at h
    · rw [ih _ _ h, setG_len]
    · cases h
theorem unitsG_size (n : Int) (l : List (List Int)) (g : List Int) (hn : 0 ≤ n) : ((unitsG n l g).1.length : Int) ≤ n ∧ ((unitsG n l g).2 = true → ((unitsG n l g).1.length : Int) = n) := by
  unfold unitsG
  split
  · cases h : (givenG (List.replicate n.toNat 0) g).bind fun a => loopG l (zeros a + 1) a with
    | none => simp [endU, hn]
    | some r =>
      obtain ⟨a, h1, h2⟩ := Option.bind_eq_some_iff.1 h
      simp only [endU]
      rw [loopG_len _ _ _ _ h2, givenG_len _ _ _ h1, List.length_replicate]
      omega
  · simp [hn]

/-! the program's function is this one -/
theorem rdL_nat (l : List (List Int)) (i : Nat) (h : i < l.length) : rd_L1 l (i : Int) = l[i] := by unfold rd_L1; simp [List.getD_eq_getElem?_getD, List.getElem?_eq_getElem h]
theorem pass_ev (l : List (List Int)) (hl : l.length ≤ 9223372036854775807) (hc : ∀ c ∈ l, c.length ≤ 9223372036854775807) (r : List Int × Bool) (d : Nat) : ∀ (i : Nat) (a : List Int) (ag : Bool), i + d = l.length → a.length ≤ 9223372036854775807 →
    (match passG (l.drop i) (a, ag) with | none => r = ([], false) | some s => Ev (fun k => clause_Units.l1 k l s.1 s.2) r) → Ev (fun k => clause_Units.l2 k l a ag l (l.length : Int) (i : Int)) r := by
  induction d with
  | zero =>
    intro i a ag hi ha h
    rw [List.drop_eq_nil_of_le (by omega)] at h
    refine Ev.succ ?_
    simp only [clause_Units.l2]
    exact Ev.neg (by omega) h
  | succ d ih =>
    intro i a ag hi ha h
    have hil : i < l.length := by omega
    have hci := hc _ (List.getElem_mem hil)
    refine Ev.succ ?_
    simp only [clause_Units.l2]
    rw [rdL_nat _ _ hil, wrap_step hil hl]
    rw [List.drop_eq_getElem_cons hil, passG] at h
    refine Ev.pos (by omega) (Ev.pos (by omega) (Ev.pos (by omega) (Ev.bind (unit_ev _ a hci ha) ?_)))
    by_cases hu : unitG l[i] a = 0
    · refine Ev.pos hu (Ev.bind (value_ev _ a hci ha) ?_)
      by_cases hv : valueG l[i] a < 0
      · have hs : stepG l[i] (a, ag) = none := by unfold stepG; rw [if_pos hu, if_pos hv]
        rw [hs] at h
        exact Ev.pos hv (Ev.some h.symm)
      · have hs : stepG l[i] (a, ag) = some (a, ag) := by unfold stepG; rw [if_pos hu, if_neg hv]
        rw [hs] at h
        exact Ev.neg hv (ih (i + 1) a ag (by omega) ha h)
    · have hs : stepG l[i] (a, ag) = some ((setG a (unitG l[i] a)).2, (setG a (unitG l[i] a)).1) := by unfold stepG; rw [if_neg hu]
      rw [hs] at h
      refine Ev.neg hu (Ev.call (set_eq a _ ha) (ih (i + 1) _ _ (by omega) (by rw [setG_len]; exact ha) h))
theorem loop_ev (n : Int) (l : List (List Int)) (hl : l.length ≤ 9223372036854775807) (hc : ∀ c ∈ l, c.length ≤ 9223372036854775807) (hv : ∀ c ∈ l, ∀ x ∈ c, varG x n ≠ 0) (z : Nat) : ∀ a : List Int, (a.length : Int) = n → n ≤ 9223372036854775807 → zeros a < z →
    Ev (fun k => clause_Units.l1 k l a true) (endU (loopG l z a)) := by
  induction z with
  | zero => intro a _ _ h; omega
  | succ z ih =>
    intro a ha hn hz
    refine Ev.succ ?_
    simp only [clause_Units.l1]
    refine Ev.pos trivial (pass_ev l hl hc _ l.length 0 a false (by omega) (by omega) ?_)
    rw [List.drop_zero]
    simp only [loopG]
    cases hp : passG l (a, false) with
    | none => rfl
    | some s =>
      obtain ⟨p1, p2, p3, p4⟩ := passG_zeros n hv ha hp
      have hlen := passG_len hp
      obtain ⟨a', ag⟩ := s
      cases ag with
      | true =>
        rcases p2 rfl with h | h
        · cases h
        · exact ih a' (by simp only at hlen; omega) hn (by simp only at h; omega)
      | false =>
        refine Ev.succ ?_
        simp only [clause_Units.l1]
        exact Ev.neg (by decide) (Ev.some rfl)
theorem given_ev (n : Int) (l : List (List Int)) (hl : l.length ≤ 9223372036854775807) (hc : ∀ c ∈ l, c.length ≤ 9223372036854775807) (hv : ∀ c ∈ l, ∀ x ∈ c, varG x n ≠ 0) (g : List Int) (hg : g.length ≤ 9223372036854775807) (d : Nat) : ∀ (i : Nat) (a : List Int), i + d = g.length → (a.length : Int) = n → n ≤ 9223372036854775807 →
    Ev (fun k => clause_Units.l0 k l a g (g.length : Int) (i : Int)) (endU ((givenG a (g.drop i)).bind fun a => loopG l (zeros a + 1) a)) := by
  induction d with
  | zero =>
    intro i a hi ha hn
    rw [List.drop_eq_nil_of_le (by omega)]
    refine Ev.succ ?_
    simp only [clause_Units.l0]
    exact Ev.neg (by omega) (loop_ev n l hl hc hv _ a ha hn (by omega))
  | succ d ih =>
    intro i a hi ha hn
    have hil : i < g.length := by omega
    refine Ev.succ ?_
    simp only [clause_Units.l0]
    rw [rd_nat _ _ hil, wrap_step hil hg, List.drop_eq_getElem_cons hil]
    refine Ev.pos (by omega) (Ev.pos (by omega) (Ev.pos (by omega) (Ev.call (set_eq a _ (by omega)) ?_)))
    simp only [givenG]
    by_cases h : (setG a g[i]).1 = true
    · rw [if_pos h]; exact Ev.pos h (ih (i + 1) _ (by omega) (by rw [setG_len]; exact ha) hn)
    · rw [if_neg h]; exact Ev.neg h (Ev.some rfl)
theorem units_ev (n : Int) (l : List (List Int)) (g : List Int) (hg : g.length ≤ 9223372036854775807) : Ev (fun k => clause_Units.f k n l g) (unitsG n l g) := by
  unfold clause_Units.f unitsG
  refine Ev.call (o := clause_Right.f n l) (v := rightG n l) rfl ?_
  by_cases h : rightG n l = true
  · obtain ⟨s1, s2, s3⟩ := right_size h
    have hv := right_vars h
    rw [if_pos h]
    refine Ev.pos h (Ev.pos (by omega) (Ev.pos (by omega) ?_))
    exact given_ev n l (by omega) (fun c hc => by have := (hv c hc).1; omega) (fun c hc => (hv c hc).2) g hg g.length 0 _ (by omega) (by simp; omega) (by omega)
  · rw [if_neg h]; exact Ev.neg h (Ev.some rfl)
end Go.Proofs.YtooobbbpcpfddaaDoor.PA
