/- What follows at once is true in each model that has the given literals. No condition. -/
import Derived.Test.YtooobbbpcpfddaaDoorMUnits
namespace Go.Proofs.YtooobbbpcpfddaaDoor.PA
open Go.RowKit Go.Proofs.YtooobbbpcpfddaaDoorW.PrintWords Go.Proofs.YtooobbbpcpfddaaDoorW.PrintLast Go.Proofs.YtooobbbpcpfddaaDoorW.PrintMore

/-- An assignment says nothing that a truth denies. -/
def Agree (a : List Int) (x : List Bool) : Prop := a.length = x.length ∧ ∀ i, i < x.length → sgnG (a.getD i 0) = 0 ∨ sgnG (a.getD i 0) = if x.getD i false = true then 1 else -1
theorem encM_len (x : List Bool) : (encM x).length = x.length := by simp [encM]
theorem encM_at (x : List Bool) (i : Nat) (hi : i < x.length) : (encM x).getD i 0 = if x.getD i false = true then 1 else -1 := by
  unfold encM
  simp [List.getD_eq_getElem?_getD, List.getElem?_eq_getElem hi]
theorem lit_agree {a : List Int} {x : List Bool} (h : Agree a x) (y : Int) : litG y a = 0 ∨ litG y a = litG y (encM x) := by
  unfold litG
  rw [encM_len, h.1]
  by_cases hv : varG y (x.length : Int) = 0
  · rw [if_pos hv]; exact .inl rfl
  · rw [if_neg hv, if_neg hv]
    have hr := varG_range y x.length
    have hi : (varG y (x.length : Int) - 1).toNat < x.length := by omega
    rw [encM_at x _ hi]
    rcases h.2 _ hi with e | e
    · rw [e]; left; split <;> rfl
    · right
      rw [e]
      have hs : sgnG (if x.getD (varG y (x.length : Int) - 1).toNat false = true then 1 else -1) = if x.getD (varG y (x.length : Int) - 1).toNat false = true then 1 else -1 := by split <;> rfl
      rw [hs]
theorem enc_range (x : List Bool) (y : Int) (h : varG y (x.length : Int) ≠ 0) : litG y (encM x) = 1 ∨ litG y (encM x) = -1 := by
  unfold litG
  rw [encM_len, if_neg h]
  have hr := varG_range y x.length
  have hi : (varG y (x.length : Int) - 1).toNat < x.length := by omega
  rw [encM_at x _ hi]
  split <;> split <;> simp [sgnG]
theorem set_agree {a : List Int} {x : List Bool} (h : Agree a x) (y : Int) (hy : 1 ≤ litG y (encM x)) : (setG a y).1 = true ∧ Agree (setG a y).2 x := by
  have hv : varG y (x.length : Int) ≠ 0 := by
    intro z
    unfold litG at hy
    rw [encM_len, if_pos z] at hy
    omega
  have hr := varG_range y x.length
  have hi : (varG y (x.length : Int) - 1).toNat < x.length := by omega
  have hl := lit_agree h y
  have hsy : sgnG y = if x.getD (varG y (x.length : Int) - 1).toNat false = true then 1 else -1 := by
    unfold litG at hy
    rw [encM_len, if_neg hv, encM_at x _ hi] at hy
    have hy0 : y ≠ 0 := by rintro rfl; exact hv (by unfold varG; rfl)
    by_cases hn : y < 0
    · rw [if_pos hn] at hy
      unfold sgnG at hy ⊢
      rw [if_pos hn]
      split at hy <;> split at hy <;> (try split at hy) <;> simp_all
    · rw [if_neg hn] at hy
      unfold sgnG at hy ⊢
      rw [if_neg hn, if_pos (by omega)]
      split at hy <;> split at hy <;> (try split at hy) <;> simp_all
  unfold setG
  rw [h.1, if_neg hv, if_neg (by omega)]
  refine ⟨rfl, by rw [List.length_set]; exact h.1, fun i hix => ?_⟩
  by_cases e : i = (varG y (x.length : Int) - 1).toNat
  · right
    subst e
    rw [List.getD_eq_getElem?_getD, List.getElem?_set_self (by rw [h.1]; exact hi), Option.getD_some]
    have hss : sgnG (sgnG y) = sgnG y := by unfold sgnG; split <;> (try split) <;> simp_all
    rw [hss]; exact hsy
  · rw [List.getD_eq_getElem?_getD, List.getElem?_set_ne (Ne.symm e), ← List.getD_eq_getElem?_getD]
    exact h.2 i hix
theorem foldl_ge (c a : List Int) : ∀ n : Int, 1 ≤ c.foldl (fun n x => max n (litG x a)) n → 1 ≤ n ∨ ∃ y ∈ c, 1 ≤ litG y a := by
  induction c with
  | nil => intro n h; exact .inl h
  | cons y c ih =>
    intro n h
    rcases ih _ h with h | ⟨z, hz, h⟩
    · by_cases hn : 1 ≤ n
      · exact .inl hn
      · exact .inr ⟨y, List.mem_cons_self, by have h' : 1 ≤ max n (litG y a) := h; omega⟩
    · exact .inr ⟨z, List.mem_cons_of_mem _ hz, h⟩
theorem le_foldl (a : List Int) (c : List Int) : ∀ (n : Int), n ≤ c.foldl (fun n x => max n (litG x a)) n ∧ ∀ y ∈ c, litG y a ≤ c.foldl (fun n x => max n (litG x a)) n := by
  induction c with
  | nil => intro n; exact ⟨Int.le_refl _, by simp⟩
  | cons y c ih =>
    intro n
    obtain ⟨h1, h2⟩ := ih (max n (litG y a))
    simp only [List.foldl_cons]
    refine ⟨by omega, fun z hz => ?_⟩
    rcases List.mem_cons.1 hz with rfl | hz
    · omega
    · exact h2 z hz
theorem holds_some {c : List Int} {x : List Bool} (h : ¬ valueG c (encM x) < 1) : ∃ y ∈ c, 1 ≤ litG y (encM x) := by
  rcases foldl_ge c (encM x) (-1) (by unfold valueG at h; omega) with h | h
  · omega
  · exact h
/-- All literals of a clause that are not false are one: the unit. -/
theorem unitGo_only (a c : List Int) : (∀ y ∈ c, y ≠ 0) → ∀ (x u : Int), unitGo a c x = u → u ≠ 0 → (x = 0 ∨ x = u) ∧ ∀ y ∈ c, litG y a < 0 ∨ y = u := by
  induction c with
  | nil => intro _ x u h hu; exact ⟨.inr h, by simp⟩
  | cons y c ih =>
    intro hz0 x u h hu
    have hr := litG_range y a
    have ih := ih (fun z hz => hz0 z (List.mem_cons_of_mem _ hz))
    have hy0 := hz0 y List.mem_cons_self
    simp only [unitGo] at h
    split at h
    · exact absurd h.symm hu
    · rename_i hn
      split at h
      · rename_i h0
        obtain ⟨h1, h2⟩ := ih y u h hu
        have hy : x = 0 ∨ x = y := by
          by_cases z : x = 0
          · exact .inl z
          · by_cases z2 : x = y
            · exact .inr z2
            · exact absurd (.inr ⟨h0, z, z2⟩) hn
        have hyu : y = u := by
          rcases h1 with z | z
          · exact absurd z hy0
          · exact z
        refine ⟨by rcases hy with z | z; exact .inl z; exact .inr (by rw [z, hyu]), fun z hz => ?_⟩
        rcases List.mem_cons.1 hz with rfl | hz
        · exact .inr hyu
        · exact h2 z hz
      · rename_i h0
        obtain ⟨h1, h2⟩ := ih x u h hu
        refine ⟨h1, fun z hz => ?_⟩
        rcases List.mem_cons.1 hz with rfl | hz
        · exact .inl (by have : ¬ litG z a > 0 := fun q => hn (.inl q); omega)
        · exact h2 z hz
theorem step_agree {a : List Int} {x : List Bool} (h : Agree a x) (c : List Int) (hc0 : ∀ y ∈ c, y ≠ 0) (hc : ¬ valueG c (encM x) < 1) (ag : Bool) : ∃ s, stepG c (a, ag) = some s ∧ Agree s.1 x := by
  obtain ⟨y, hy, hy1⟩ := holds_some hc
  unfold stepG
  by_cases hu : unitG c a = 0
  · rw [if_pos hu]
    by_cases hv : valueG c a < 0
    · exfalso
      have hl := (le_foldl a c (-1)).2 y hy
      unfold valueG at hv
      rcases lit_agree h y with e | e <;> omega
    · rw [if_neg hv]; exact ⟨_, rfl, h⟩
  · rw [if_neg hu]
    have hyu : y = unitG c a := by
      rcases (unitGo_only a c hc0 0 (unitG c a) rfl hu).2 y hy with e | e
      · rcases lit_agree h y with e2 | e2 <;> omega
      · exact e
    rw [← hyu]
    exact ⟨_, rfl, (set_agree h y hy1).2⟩
theorem pass_agree {x : List Bool} (l : List (List Int)) (hl0 : ∀ c ∈ l, ∀ y ∈ c, y ≠ 0) (hl : ∀ c ∈ l, ¬ valueG c (encM x) < 1) : ∀ (a : List Int) (ag : Bool), Agree a x → ∃ s, passG l (a, ag) = some s ∧ Agree s.1 x := by
  induction l with
  | nil => intro a ag h; exact ⟨_, rfl, h⟩
  | cons c l ih =>
    intro a ag h
    obtain ⟨⟨a', ag'⟩, h1, h2⟩ := step_agree h c (hl0 c List.mem_cons_self) (hl c List.mem_cons_self) ag
    obtain ⟨s, h3, h4⟩ := ih (fun c hc => hl0 c (List.mem_cons_of_mem _ hc)) (fun c hc => hl c (List.mem_cons_of_mem _ hc)) a' ag' h2
    exact ⟨s, by rw [passG, h1]; exact h3, h4⟩
theorem loop_agree {x : List Bool} (l : List (List Int)) (hl0 : ∀ c ∈ l, ∀ y ∈ c, y ≠ 0) (hl : ∀ c ∈ l, ¬ valueG c (encM x) < 1) (z : Nat) : ∀ a : List Int, Agree a x → ∃ r, loopG l z a = some r ∧ Agree r x := by
  induction z with
  | zero => intro a h; exact ⟨_, rfl, h⟩
  | succ z ih =>
    intro a h
    obtain ⟨⟨a', ag'⟩, h1, h2⟩ := pass_agree l hl0 hl a false h
    simp only [loopG, h1]
    cases ag' with
    | true => exact ih a' h2
    | false => exact ⟨_, rfl, h2⟩
theorem given_agree {x : List Bool} (g : List Int) (hg : ∀ y ∈ g, 1 ≤ litG y (encM x)) : ∀ a : List Int, Agree a x → ∃ r, givenG a g = some r ∧ Agree r x := by
  induction g with
  | nil => intro a h; exact ⟨_, rfl, h⟩
  | cons y g ih =>
    intro a h
    obtain ⟨h1, h2⟩ := set_agree h y (hg y List.mem_cons_self)
    simp only [givenG, h1, if_true]
    exact ih (fun z hz => hg z (List.mem_cons_of_mem _ hz)) _ h2
/-- What follows agrees with each model that has the given literals; and there is something that follows. -/
theorem units_agree (n : Int) (l : List (List Int)) (g : List Int) (hr : rightG n l = true) (x : List Bool) (hx : (x.length : Int) = n) (hl : holdsG l x = true) (hg : ∀ y ∈ g, 1 ≤ litG y (encM x)) :
    (unitsG n l g).2 = true ∧ Agree (unitsG n l g).1 x := by
  have hv := right_vars hr
  have hl0 : ∀ c ∈ l, ∀ y ∈ c, y ≠ 0 := fun c hc y hy z => by
    subst z
    exact (hv c hc).2 0 hy (by unfold varG; rfl)
  have hlh : ∀ c ∈ l, ¬ valueG c (encM x) < 1 := fun c hc => by
    have := List.all_eq_true.1 hl c hc
    simpa using this
  have h0 : Agree (List.replicate n.toNat 0) x := by
    refine ⟨by simp; omega, fun i hi => .inl ?_⟩
    rw [List.getD_eq_getElem?_getD, List.getElem?_replicate, if_pos (by omega)]
    rfl
  obtain ⟨a, h1, h2⟩ := given_agree g hg _ h0
  obtain ⟨r, h3, h4⟩ := loop_agree l hl0 hlh (zeros a + 1) a h2
  unfold unitsG
  rw [if_pos hr, h1]
  simp only [Option.bind_some, h3, endU]
  exact ⟨trivial, h4⟩
end Go.Proofs.YtooobbbpcpfddaaDoor.PA
