/- What follows at once is the least assignment that has the given literals and leaves no clause open to a step: so the order of clauses and literals is nothing to it. No condition. -/
import Derived.Test.YtooobbbpcpfddaaDoorMFollows
namespace Go.Proofs.YtooobbbpcpfddaaDoor.PA
open Go.RowKit Go.Proofs.YtooobbbpcpfddaaDoorW.PrintWords Go.Proofs.YtooobbbpcpfddaaDoorW.PrintLast Go.Proofs.YtooobbbpcpfddaaDoorW.PrintMore

/-- a says no more than b. -/
def Leq (a b : List Int) : Prop := a.length = b.length ∧ ∀ i, i < b.length → a.getD i 0 = 0 ∨ a.getD i 0 = b.getD i 0
theorem Leq.refl (a : List Int) : Leq a a := ⟨rfl, fun _ _ => .inr rfl⟩
theorem Leq.antisymm {a b : List Int} (h1 : Leq a b) (h2 : Leq b a) : a = b := by
  apply List.ext_getElem h1.1
  intro i ha hb
  have e1 := h1.2 i hb
  have e2 := h2.2 i ha
  rw [List.getD_eq_getElem?_getD, List.getElem?_eq_getElem ha, Option.getD_some, List.getD_eq_getElem?_getD, List.getElem?_eq_getElem hb, Option.getD_some] at e1
  rw [List.getD_eq_getElem?_getD, List.getElem?_eq_getElem hb, Option.getD_some, List.getD_eq_getElem?_getD, List.getElem?_eq_getElem ha, Option.getD_some] at e2
  omega
theorem lit_leq {a b : List Int} (h : Leq a b) (y : Int) : litG y a = 0 ∨ litG y a = litG y b := by
  unfold litG
  rw [h.1]
  by_cases hv : varG y (b.length : Int) = 0
  · rw [if_pos hv]; exact .inl rfl
  · rw [if_neg hv, if_neg hv]
    have hr := varG_range y b.length
    have hi : (varG y (b.length : Int) - 1).toNat < b.length := by omega
    rcases h.2 _ hi with e | e
    · rw [e]; left; split <;> rfl
    · rw [e]; right; rfl
/-- Signs alone. -/
def Signs (a : List Int) : Prop := ∀ i, i < a.length → sgnG (a.getD i 0) = a.getD i 0
theorem lit_one_at {b : List Int} (hb : Signs b) {y : Int} (hy : litG y b = 1) : varG y (b.length : Int) ≠ 0 ∧ b.getD (varG y (b.length : Int) - 1).toNat 0 = sgnG y := by
  have hv : varG y (b.length : Int) ≠ 0 := by
    intro z; unfold litG at hy; rw [if_pos z] at hy; omega
  refine ⟨hv, ?_⟩
  have hr := varG_range y b.length
  have hi : (varG y (b.length : Int) - 1).toNat < b.length := by omega
  have hs := hb _ hi
  unfold litG at hy
  rw [if_neg hv, hs] at hy
  have hy0 : y ≠ 0 := by rintro rfl; exact hv (by unfold varG; rfl)
  unfold sgnG
  by_cases hn : y < 0
  · rw [if_pos hn] at hy ⊢; omega
  · rw [if_neg hn] at hy ⊢; rw [if_pos (by omega)]; omega
theorem set_leq {a b : List Int} (h : Leq a b) (hb : Signs b) (y : Int) (hy : litG y b = 1) : (setG a y).1 = true ∧ Leq (setG a y).2 b := by
  obtain ⟨hv, he⟩ := lit_one_at hb hy
  have hl := lit_leq h y
  unfold setG
  rw [h.1, if_neg hv, if_neg (by omega)]
  refine ⟨rfl, by rw [List.length_set]; exact h.1, fun i hi => ?_⟩
  have hr := varG_range y b.length
  by_cases e : i = (varG y (b.length : Int) - 1).toNat
  · right
    subst e
    rw [List.getD_eq_getElem?_getD, List.getElem?_set_self (by rw [h.1]; exact hi), Option.getD_some]
    exact he.symm
  · rw [List.getD_eq_getElem?_getD, List.getElem?_set_ne (Ne.symm e), ← List.getD_eq_getElem?_getD]
    exact h.2 i hi
/-- No step is left at a clause, and it can hold. -/
def Done (c b : List Int) : Prop := (∃ y ∈ c, ¬ litG y b < 0) ∧ ¬ ∃ u ∈ c, litG u b = 0 ∧ ∀ y ∈ c, litG y b < 0 ∨ y = u
theorem value_neg {c a : List Int} : valueG c a < 0 ↔ ∀ y ∈ c, litG y a < 0 := by
  constructor
  · intro h y hy
    have := (le_foldl a c (-1)).2 y hy
    unfold valueG at h
    omega
  · intro h
    have key : ∀ (c : List Int) (n : Int), n < 0 → (∀ y ∈ c, litG y a < 0) → c.foldl (fun n x => max n (litG x a)) n < 0 := by
      intro c
      induction c with
      | nil => intro n hn _; exact hn
      | cons y c ih =>
        intro n hn h
        exact ih _ (by have := h y List.mem_cons_self; show max n (litG y a) < 0; omega) (fun z hz => h z (List.mem_cons_of_mem _ hz))
    exact key c (-1) (by omega) h
theorem unitGo_neg (a c : List Int) : ∀ x : Int, (∀ y ∈ c, litG y a < 0) → unitGo a c x = x := by
  induction c with
  | nil => intro x _; rfl
  | cons y c ih =>
    intro x h
    have hy := h y List.mem_cons_self
    simp only [unitGo]
    rw [if_neg (by rintro (z | z); omega; omega), if_neg (by omega)]
    exact ih x (fun z hz => h z (List.mem_cons_of_mem _ hz))
theorem unitGo_is (a c : List Int) (u : Int) (hu : u ≠ 0) (h0 : litG u a = 0) : ∀ x : Int, (x = 0 ∨ x = u) → (∀ y ∈ c, litG y a < 0 ∨ y = u) → (x = u ∨ u ∈ c) → unitGo a c x = u := by
  induction c with
  | nil => intro x _ _ h; rcases h with h | h; exact h; cases h
  | cons y c ih =>
    intro x hx hc hm
    simp only [unitGo]
    rcases hc y List.mem_cons_self with hy | hy
    · rw [if_neg (by rintro (z | z); omega; omega), if_neg (by omega)]
      refine ih x hx (fun z hz => hc z (List.mem_cons_of_mem _ hz)) ?_
      rcases hm with h | h
      · exact .inl h
      · rcases List.mem_cons.1 h with e | h
        · subst e; omega
        · exact .inr h
    · subst hy
      rw [if_neg (by rintro (z | z); omega; rcases hx with q | q; exact z.2.1 q; exact z.2.2 q), if_pos h0]
      exact ih y (.inr rfl) (fun z hz => hc z (List.mem_cons_of_mem _ hz)) (.inl rfl)
theorem done_iff {c b : List Int} (hc0 : ∀ y ∈ c, y ≠ 0) : Done c b ↔ unitG c b = 0 ∧ ¬ valueG c b < 0 := by
  unfold Done
  rw [value_neg]
  constructor
  · rintro ⟨⟨y, hy, h1⟩, h2⟩
    refine ⟨?_, fun h => h1 (h y hy)⟩
    by_cases hu : unitG c b = 0
    · exact hu
    · exact absurd ⟨_, (unitG_spec c b hu).1, (unitG_spec c b hu).2, (unitGo_only b c hc0 0 _ rfl hu).2⟩ h2
  · rintro ⟨h1, h2⟩
    refine ⟨?_, ?_⟩
    · refine Classical.byContradiction fun h => h2 fun y hy => ?_
      refine Classical.byContradiction fun h3 => h ⟨y, hy, h3⟩
    · rintro ⟨u, hu, h3, h4⟩
      have := unitGo_is b c u (hc0 u hu) h3 0 (.inl rfl) h4 (.inr hu)
      unfold unitG at h1
      rw [this] at h1
      exact hc0 u hu h1
theorem step_leq {a b : List Int} (h : Leq a b) (hb : Signs b) (c : List Int) (hc0 : ∀ y ∈ c, y ≠ 0) (hd : Done c b) (ag : Bool) : ∃ s, stepG c (a, ag) = some s ∧ Leq s.1 b := by
  unfold stepG
  by_cases hu : unitG c a = 0
  · rw [if_pos hu]
    by_cases hv : valueG c a < 0
    · exfalso
      obtain ⟨y, hy, h1⟩ := hd.1
      have := value_neg.1 hv y hy
      rcases lit_leq h y with e | e <;> omega
    · rw [if_neg hv]; exact ⟨_, rfl, h⟩
  · rw [if_neg hu]
    obtain ⟨um, u0⟩ := unitG_spec c a hu
    have ho := (unitGo_only a c hc0 0 (unitG c a) rfl hu).2
    have hob : ∀ y ∈ c, litG y b < 0 ∨ y = unitG c a := by
      intro y hy
      rcases ho y hy with e | e
      · rcases lit_leq h y with e2 | e2
        · omega
        · exact .inl (by omega)
      · exact .inr e
    have hub : litG (unitG c a) b = 1 := by
      have hr := litG_range (unitG c a) b
      obtain ⟨y, hy, h1⟩ := hd.1
      have hyu : y = unitG c a := by
        rcases hob y hy with e | e
        · exact absurd e h1
        · exact e
      rw [hyu] at h1
      have : litG (unitG c a) b ≠ 0 := fun z => hd.2 ⟨_, um, z, hob⟩
      omega
    exact ⟨_, rfl, (set_leq h hb _ hub).2⟩
theorem pass_leq {b : List Int} (hb : Signs b) (l : List (List Int)) (hl0 : ∀ c ∈ l, ∀ y ∈ c, y ≠ 0) (hl : ∀ c ∈ l, Done c b) : ∀ (a : List Int) (ag : Bool), Leq a b → ∃ s, passG l (a, ag) = some s ∧ Leq s.1 b := by
  induction l with
  | nil => intro a ag h; exact ⟨_, rfl, h⟩
  | cons c l ih =>
    intro a ag h
    obtain ⟨⟨a', ag'⟩, h1, h2⟩ := step_leq h hb c (hl0 c List.mem_cons_self) (hl c List.mem_cons_self) ag
    obtain ⟨s, h3, h4⟩ := ih (fun c hc => hl0 c (List.mem_cons_of_mem _ hc)) (fun c hc => hl c (List.mem_cons_of_mem _ hc)) a' ag' h2
    exact ⟨s, by rw [passG, h1]; exact h3, h4⟩
theorem loop_leq {b : List Int} (hb : Signs b) (l : List (List Int)) (hl0 : ∀ c ∈ l, ∀ y ∈ c, y ≠ 0) (hl : ∀ c ∈ l, Done c b) (z : Nat) : ∀ a : List Int, Leq a b → ∃ r, loopG l z a = some r ∧ Leq r b := by
  induction z with
  | zero => intro a h; exact ⟨_, rfl, h⟩
  | succ z ih =>
    intro a h
    obtain ⟨⟨a', ag'⟩, h1, h2⟩ := pass_leq hb l hl0 hl a false h
    simp only [loopG, h1]
    cases ag' with
    | true => exact ih a' h2
    | false => exact ⟨_, rfl, h2⟩
theorem given_leq {b : List Int} (hb : Signs b) (g : List Int) (hg : ∀ y ∈ g, litG y b = 1) : ∀ a : List Int, Leq a b → ∃ r, givenG a g = some r ∧ Leq r b := by
  induction g with
  | nil => intro a h; exact ⟨_, rfl, h⟩
  | cons y g ih =>
    intro a h
    obtain ⟨h1, h2⟩ := set_leq h hb y (hg y List.mem_cons_self)
    simp only [givenG, h1, if_true]
    exact ih (fun z hz => hg z (List.mem_cons_of_mem _ hz)) _ h2
theorem right_nonzero {n : Int} {l : List (List Int)} (hr : rightG n l = true) : ∀ c ∈ l, ∀ y ∈ c, y ≠ 0 := fun c hc y hy z => by
  subst z
  exact (right_vars hr c hc).2 0 hy (by unfold varG; rfl)
/-- Least. -/
theorem units_least (n : Int) (l : List (List Int)) (g b : List Int) (hr : rightG n l = true) (hbn : (b.length : Int) = n) (hb : Signs b) (hl : ∀ c ∈ l, Done c b) (hg : ∀ y ∈ g, litG y b = 1) :
    (unitsG n l g).2 = true ∧ Leq (unitsG n l g).1 b := by
  have h0 : Leq (List.replicate n.toNat 0) b := by
    refine ⟨by simp; omega, fun i hi => .inl ?_⟩
    rw [List.getD_eq_getElem?_getD, List.getElem?_replicate, if_pos (by omega)]
    rfl
  obtain ⟨a, h1, h2⟩ := given_leq hb g hg _ h0
  obtain ⟨r, h3, h4⟩ := loop_leq hb l (right_nonzero hr) hl (zeros a + 1) a h2
  unfold unitsG
  rw [if_pos hr, h1]
  simp only [Option.bind_some, h3, endU]
  exact ⟨trivial, h4⟩

/-! what is found is one such -/
theorem Leq.trans {a b c : List Int} (h1 : Leq a b) (h2 : Leq b c) : Leq a c := by
  refine ⟨h1.1.trans h2.1, fun i hi => ?_⟩
  rcases h1.2 i (by rw [h2.1]; exact hi) with e | e
  · exact .inl e
  · rcases h2.2 i hi with e2 | e2
    · exact .inl (by omega)
    · exact .inr (by omega)
theorem sgn_sgn (x : Int) : sgnG (sgnG x) = sgnG x := by unfold sgnG; split <;> (try split) <;> simp_all
theorem set_up {a : List Int} (ha : Signs a) (x : Int) : Leq a (setG a x).2 ∧ Signs (setG a x).2 ∧ ((setG a x).1 = true → litG x (setG a x).2 = 1) := by
  unfold setG
  by_cases hv : varG x (a.length : Int) = 0
  · rw [if_pos hv]; exact ⟨Leq.refl _, ha, fun h => by cases h⟩
  · rw [if_neg hv]
    by_cases hl : litG x a < 0
    · rw [if_pos hl]; exact ⟨Leq.refl _, ha, fun h => by cases h⟩
    · rw [if_neg hl]
      have hr := varG_range x a.length
      have hi : (varG x (a.length : Int) - 1).toNat < a.length := by omega
      have hx0 : x ≠ 0 := by rintro rfl; exact hv (by unfold varG; rfl)
      have hold : a.getD (varG x (a.length : Int) - 1).toNat 0 = 0 ∨ a.getD (varG x (a.length : Int) - 1).toNat 0 = sgnG x := by
        by_cases h1 : litG x a = 1
        · exact .inr (lit_one_at ha h1).2
        · left
          have hr2 := litG_range x a
          have h0 : litG x a = 0 := by omega
          unfold litG at h0
          rw [if_neg hv, ha _ hi] at h0
          split at h0 <;> omega
      refine ⟨⟨by simp, fun i hi' => ?_⟩, fun i hi' => ?_, fun _ => ?_⟩
      · rw [List.length_set] at hi'
        by_cases e : i = (varG x (a.length : Int) - 1).toNat
        · subst e
          rw [List.getD_eq_getElem?_getD (l := a.set _ _), List.getElem?_set_self hi, Option.getD_some]
          exact hold
        · right
          rw [List.getD_eq_getElem?_getD (l := a.set _ _), List.getElem?_set_ne (Ne.symm e), ← List.getD_eq_getElem?_getD]
      · rw [List.length_set] at hi'
        by_cases e : i = (varG x (a.length : Int) - 1).toNat
        · subst e
          rw [List.getD_eq_getElem?_getD, List.getElem?_set_self hi, Option.getD_some]
          exact sgn_sgn x
        · rw [List.getD_eq_getElem?_getD, List.getElem?_set_ne (Ne.symm e), ← List.getD_eq_getElem?_getD]
          exact ha i hi'
      · unfold litG
        rw [List.length_set, if_neg hv, List.getD_eq_getElem?_getD, List.getElem?_set_self hi, Option.getD_some, sgn_sgn]
        unfold sgnG
        by_cases hn : x < 0
        · rw [if_pos hn, if_pos hn]; rfl
        · rw [if_neg hn, if_neg hn, if_pos (by omega)]
theorem step_up {c : List Int} {s s' : List Int × Bool} (h : stepG c s = some s') (hs : Signs s.1) : Leq s.1 s'.1 ∧ Signs s'.1 := by
  unfold stepG at h
  split at h
  · split at h
    · cases h
    · cases h; exact ⟨Leq.refl _, hs⟩
  · cases h; exact ⟨(set_up hs _).1, (set_up hs _).2.1⟩
theorem pass_up {l : List (List Int)} : ∀ {s s' : List Int × Bool}, passG l s = some s' → Signs s.1 → Leq s.1 s'.1 ∧ Signs s'.1 := by
  induction l with
  | nil => intro s s' h hs; cases h; exact ⟨Leq.refl _, hs⟩
  | cons c l ih =>
    intro s s' h hs
    obtain ⟨t, h1, h2⟩ := Option.bind_eq_some_iff.1 h
    obtain ⟨a1, a2⟩ := step_up h1 hs
    obtain ⟨b1, b2⟩ := ih h2 a2
    exact ⟨a1.trans b1, b2⟩
theorem pass_done (n : Int) {l : List (List Int)} : ∀ {a a' : List Int}, (∀ c ∈ l, ∀ x ∈ c, varG x n ≠ 0) → (a.length : Int) = n → passG l (a, false) = some (a', false) → a' = a ∧ ∀ c ∈ l, unitG c a = 0 ∧ ¬ valueG c a < 0 := by
  induction l with
  | nil => intro a a' _ _ h; cases h; exact ⟨rfl, by simp⟩
  | cons c l ih =>
    intro a a' hv hn h
    obtain ⟨t, h1, h2⟩ := Option.bind_eq_some_iff.1 h
    have ht := stepG_len h1
    unfold stepG at h1
    split at h1
    · rename_i hu
      split at h1
      · cases h1
      · rename_i hval
        cases h1
        obtain ⟨e1, e2⟩ := ih (fun c hc => hv c (List.mem_cons_of_mem _ hc)) hn h2
        refine ⟨e1, fun d hd => ?_⟩
        rcases List.mem_cons.1 hd with rfl | hd
        · exact ⟨hu, hval⟩
        · exact e2 d hd
    · rename_i hu
      exfalso
      cases h1
      obtain ⟨hm, hl⟩ := unitG_spec c a hu
      obtain ⟨q1, q2⟩ := set_unit (a := a) (x := unitG c a) (by rw [hn]; exact hv c List.mem_cons_self _ hm) hl
      obtain ⟨_, _, i3, _⟩ := passG_zeros n (fun c hc => hv c (List.mem_cons_of_mem _ hc)) (by rw [ht]; exact hn) h2
      have := i3 q1
      cases this
theorem loop_done (n : Int) {l : List (List Int)} (hv : ∀ c ∈ l, ∀ x ∈ c, varG x n ≠ 0) (z : Nat) : ∀ {a r : List Int}, (a.length : Int) = n → zeros a < z → Signs a → loopG l z a = some r → Leq a r ∧ Signs r ∧ ∀ c ∈ l, unitG c r = 0 ∧ ¬ valueG c r < 0 := by
  induction z with
  | zero => intro a r _ h; omega
  | succ z ih =>
    intro a r hn hz hs h
    simp only [loopG] at h
    cases hp : passG l (a, false) with
    | none => rw [hp] at h; cases h
    | some s =>
      rw [hp] at h
      obtain ⟨u1, u2⟩ := pass_up hp hs
      obtain ⟨p1, p2, p3, p4⟩ := passG_zeros n hv hn hp
      have hlen := passG_len hp
      obtain ⟨a', ag⟩ := s
      cases ag with
      | true =>
        simp only at h hlen u1 u2
        rcases p2 rfl with q | q
        · cases q
        · obtain ⟨v1, v2, v3⟩ := ih (by omega) (by simp only at q; omega) u2 h
          exact ⟨u1.trans v1, v2, v3⟩
      | false =>
        simp only at h
        cases h
        obtain ⟨e1, e2⟩ := pass_done n hv hn hp
        subst e1
        exact ⟨Leq.refl _, hs, e2⟩
theorem lit_up {a b : List Int} (h : Leq a b) {y : Int} (hy : litG y a = 1) : litG y b = 1 := by
  rcases lit_leq h y with e | e <;> omega
theorem given_done {g : List Int} : ∀ {a r : List Int}, Signs a → givenG a g = some r → Leq a r ∧ Signs r ∧ ∀ y ∈ g, litG y r = 1 := by
  induction g with
  | nil => intro a r hs h; cases h; exact ⟨Leq.refl _, hs, by simp⟩
  | cons x g ih =>
    intro a r hs h
    simp only [givenG] at h
    split at h
    · rename_i hx
      obtain ⟨s1, s2, s3⟩ := set_up hs x
      obtain ⟨r1, r2, r3⟩ := ih s2 h
      refine ⟨s1.trans r1, r2, fun y hy => ?_⟩
      rcases List.mem_cons.1 hy with rfl | hy
      · exact lit_up r1 (s3 hx)
      · exact r3 y hy
    · cases h
/-- What is found has the given literals, and leaves no step. -/
theorem units_done (n : Int) (l : List (List Int)) (g : List Int) (hr : rightG n l = true) (h : (unitsG n l g).2 = true) :
    ((unitsG n l g).1.length : Int) = n ∧ Signs (unitsG n l g).1 ∧ (∀ c ∈ l, Done c (unitsG n l g).1) ∧ ∀ y ∈ g, litG y (unitsG n l g).1 = 1 := by
  have hn := right_size hr
  refine ⟨(unitsG_size n l g hn.1).2 h, ?_⟩
  unfold unitsG at h ⊢
  rw [if_pos hr] at h ⊢
  cases hq : (givenG (List.replicate n.toNat 0) g).bind fun a => loopG l (zeros a + 1) a with
  | none => rw [hq] at h; cases h
  | some r =>
    obtain ⟨a, h1, h2⟩ := Option.bind_eq_some_iff.1 hq
    simp only [endU]
    have h0 : Signs (List.replicate n.toNat 0) := by
      intro i hi
      rw [List.length_replicate] at hi
      rw [List.getD_eq_getElem?_getD, List.getElem?_replicate, if_pos hi]; rfl
    obtain ⟨g1, g2, g3⟩ := given_done h0 h1
    have hal := givenG_len _ _ _ h1
    rw [List.length_replicate] at hal
    have hv := right_vars hr
    obtain ⟨l1, l2, l3⟩ := loop_done n (fun c hc => (hv c hc).2) _ (by omega) (Nat.lt_succ_self _) g2 h2
    exact ⟨l2, fun c hc => (done_iff (right_nonzero hr c hc)).2 (l3 c hc), fun y hy => lit_up l1 (g3 y hy)⟩
/-- Clauses whose literals are the same in another order. -/
theorem done_mem {c d b : List Int} (h : ∀ y, y ∈ c ↔ y ∈ d) : Done c b ↔ Done d b := by
  unfold Done
  constructor
  · rintro ⟨⟨y, hy, h1⟩, h2⟩
    exact ⟨⟨y, (h y).1 hy, h1⟩, fun ⟨u, hu, h3, h4⟩ => h2 ⟨u, (h u).2 hu, h3, fun z hz => h4 z ((h z).1 hz)⟩⟩
  · rintro ⟨⟨y, hy, h1⟩, h2⟩
    exact ⟨⟨y, (h y).2 hy, h1⟩, fun ⟨u, hu, h3, h4⟩ => h2 ⟨u, (h u).1 hu, h3, fun z hz => h4 z ((h z).2 hz)⟩⟩
/-- Whatever the order: the same follows. -/
theorem units_same (n : Int) (l l' : List (List Int)) (g : List Int) (hr : rightG n l = true) (hr' : rightG n l' = true) (h : ∀ b, (∀ c ∈ l, Done c b) ↔ (∀ c ∈ l', Done c b)) : unitsG n l g = unitsG n l' g := by
  cases h1 : (unitsG n l g).2 with
  | true =>
    obtain ⟨d1, d2, d3, d4⟩ := units_done n l g hr h1
    obtain ⟨e1, e2⟩ := units_least n l' g _ hr' d1 d2 ((h _).1 d3) d4
    obtain ⟨f1, f2, f3, f4⟩ := units_done n l' g hr' e1
    obtain ⟨_, e4⟩ := units_least n l g _ hr f1 f2 ((h _).2 f3) f4
    exact Prod.ext (e4.antisymm e2) (by rw [h1, e1])
  | false =>
    cases h2 : (unitsG n l' g).2 with
    | true =>
      obtain ⟨f1, f2, f3, f4⟩ := units_done n l' g hr' h2
      have := (units_least n l g _ hr f1 f2 ((h _).2 f3) f4).1
      rw [h1] at this; cases this
    | false =>
      have key : ∀ (l : List (List Int)), rightG n l = true → (unitsG n l g).2 = false → unitsG n l g = ([], false) := by
        intro l hr h
        unfold unitsG at h ⊢
        rw [if_pos hr] at h ⊢
        cases hq : (givenG (List.replicate n.toNat 0) g).bind fun a => loopG l (zeros a + 1) a with
        | none => rfl
        | some r => rw [hq] at h; cases h
      rw [key l hr h1, key l' hr' h2]
/-- What follows of what follows is the same. -/
theorem units_again (n : Int) (l : List (List Int)) (g all : List Int) (hr : rightG n l = true) (h : (unitsG n l g).2 = true)
    (ha : ∀ y ∈ all, litG y (unitsG n l g).1 = 1) (hb : ∀ b : List Int, (b.length : Int) = n → Signs b → (∀ y ∈ all, litG y b = 1) → Leq (unitsG n l g).1 b) : unitsG n l all = unitsG n l g := by
  obtain ⟨d1, d2, d3, d4⟩ := units_done n l g hr h
  obtain ⟨e1, e2⟩ := units_least n l all _ hr d1 d2 d3 ha
  obtain ⟨f1, f2, f3, f4⟩ := units_done n l all hr e1
  exact Prod.ext (e2.antisymm (hb _ f1 f2 f4)) (by rw [h, e1])
end Go.Proofs.YtooobbbpcpfddaaDoor.PA
