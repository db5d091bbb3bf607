/- ClauseOrder's plain law: in whatever order clauses and literals stand, the same follows at once; what follows of what follows is the same. -/
import Derived.Test.YtooobbbpcpfddaaDoorMOrder
import Derived.Test.YtooobbbpcpfddaaDoorMLaw12
import Derived.Test.YtooobbbpcpfddaaDoorROpen
import Derived.Test.YtooobbbpcpfddaaDoorMI64
import Derived.Test.YtooobbbpcpfddaaDoorPALClauseOrder
namespace Go.Proofs.YtooobbbpcpfddaaDoor.PA
open Go.RowKit Go.Proofs.YtooobbbpcpfddaaDoorW.PrintWords Go.Proofs.YtooobbbpcpfddaaDoorW.PrintLast Go.Proofs.YtooobbbpcpfddaaDoorW.PrintMore

def turnL (l : List (List Int)) (k : Nat) : List (List Int) := (List.range l.length).map fun i => (l.getD ((i + k) % l.length) []).reverse
theorem turnL_len (l : List (List Int)) (k : Nat) : (turnL l k).length = l.length := by simp [turnL]
theorem turn_sub (l : List (List Int)) (k : Nat) : ∀ d ∈ turnL l k, ∃ c ∈ l, d = c.reverse := by
  intro d hd
  unfold turnL at hd
  obtain ⟨i, hi, rfl⟩ := List.mem_map.1 hd
  have hl : 0 < l.length := by have := List.mem_range.1 hi; omega
  have hm : (i + k) % l.length < l.length := Nat.mod_lt _ hl
  refine ⟨l[(i + k) % l.length], List.getElem_mem hm, ?_⟩
  rw [List.getD_eq_getElem?_getD, List.getElem?_eq_getElem hm, Option.getD_some]
theorem turn_sup (l : List (List Int)) (k : Nat) (hk : k < l.length) : ∀ c ∈ l, c.reverse ∈ turnL l k := by
  intro c hc
  obtain ⟨j, hj, rfl⟩ := List.getElem_of_mem hc
  unfold turnL
  have hm : ((j + (l.length - k)) % l.length + k) % l.length = j := by
    rw [Nat.mod_add_mod, show j + (l.length - k) + k = j + l.length by omega, Nat.add_mod_right, Nat.mod_eq_of_lt hj]
  refine List.mem_map.2 ⟨(j + (l.length - k)) % l.length, List.mem_range.2 (Nat.mod_lt _ (by omega)), ?_⟩
  rw [hm, List.getD_eq_getElem?_getD, List.getElem?_eq_getElem hj, Option.getD_some]
theorem turn_done (l : List (List Int)) (k : Nat) (hk : k < l.length) (b : List Int) : (∀ c ∈ l, Done c b) ↔ (∀ c ∈ turnL l k, Done c b) := by
  constructor
  · intro h d hd
    obtain ⟨c, hc, rfl⟩ := turn_sub l k d hd
    exact (done_mem (fun y => (List.mem_reverse).symm)).1 (h c hc)
  · intro h c hc
    exact (done_mem (fun y => (List.mem_reverse).symm)).2 (h _ (turn_sup l k hk c hc))
theorem bad_reverse (n : Int) (c : List Int) : badC n c.reverse = badC n c := by
  unfold badC; rw [List.length_reverse, List.any_reverse]
theorem turn_right (n : Int) (l : List (List Int)) (k : Nat) (hk : k < l.length) : rightG n (turnL l k) = rightG n l := by
  unfold rightG
  rw [turnL_len]
  have : (turnL l k).any (badC n) = l.any (badC n) := by
    rw [Bool.eq_iff_iff, List.any_eq_true, List.any_eq_true]
    constructor
    · rintro ⟨d, hd, h⟩
      obtain ⟨c, hc, rfl⟩ := turn_sub l k d hd
      exact ⟨c, hc, by rw [bad_reverse] at h; exact h⟩
    · rintro ⟨c, hc, h⟩
      exact ⟨_, turn_sup l k hk c hc, by rw [bad_reverse]; exact h⟩
  rw [this]
theorem units_turn (n : Int) (l : List (List Int)) (g : List Int) (k : Nat) (hk : k < l.length) : unitsG n (turnL l k) g = unitsG n l g := by
  by_cases hr : rightG n l = true
  · exact units_same n _ _ g (by rw [turn_right n l k hk]; exact hr) hr (fun b => (turn_done l k hk b).symm)
  · unfold unitsG
    rw [turn_right n l k hk, if_neg hr, if_neg hr]

/-- The literals that an assignment has, from a place on. -/
def allL : List Int → Nat → List Int
  | [], _ => []
  | v :: a, i => if v = 0 then allL a (i + 1) else wrap64 (((i : Int) + 1) * v) :: allL a (i + 1)
theorem allL_len (a : List Int) : ∀ i, (allL a i).length ≤ a.length := by
  induction a with
  | nil => intro i; simp [allL]
  | cons v a ih => intro i; have := ih (i + 1); simp only [allL]; split <;> simp <;> omega
theorem allL_mem (a : List Int) : ∀ (i : Nat) (y : Int), y ∈ allL a i ↔ ∃ j, ∃ h : j < a.length, a[j] ≠ 0 ∧ y = wrap64 ((((i + j : Nat) : Int) + 1) * a[j]) := by
  induction a with
  | nil => intro i y; simp [allL]
  | cons v a ih =>
    intro i y
    simp only [allL]
    have hr : (∃ j, ∃ h : j < (v :: a).length, (v :: a)[j] ≠ 0 ∧ y = wrap64 ((((i + j : Nat) : Int) + 1) * (v :: a)[j])) ↔ (v ≠ 0 ∧ y = wrap64 (((i : Int) + 1) * v)) ∨ ∃ j, ∃ h : j < a.length, a[j] ≠ 0 ∧ y = wrap64 ((((i + 1 + j : Nat) : Int) + 1) * a[j]) := by
      constructor
      · rintro ⟨j, h, h1, h2⟩
        cases j with
        | zero => exact .inl ⟨h1, by simpa using h2⟩
        | succ j => exact .inr ⟨j, by simp at h; omega, by simpa using h1, by rw [show i + 1 + j = i + (j + 1) by omega]; simpa using h2⟩
      · rintro (⟨h1, h2⟩ | ⟨j, h, h1, h2⟩)
        · exact ⟨0, by simp, by simpa using h1, by simpa using h2⟩
        · exact ⟨j + 1, by simp; omega, by simpa using h1, by rw [show i + (j + 1) = i + 1 + j by omega]; simpa using h2⟩
    rw [hr, ← ih (i + 1) y]
    by_cases h : v = 0
    · rw [if_pos h]; simp [h]
    · rw [if_neg h, List.mem_cons]; simp [h]
theorem lit_place (b : List Int) (hbn : b.length ≤ 20000) (hb : Signs b) (j : Nat) (hj : j < b.length) (v : Int) (hv : v = 1 ∨ v = -1) : litG (wrap64 (((j : Int) + 1) * v)) b = 1 ↔ b[j] = v := by
  have hs := hb j hj
  rw [List.getD_eq_getElem?_getD, List.getElem?_eq_getElem hj, Option.getD_some] at hs
  have hr := sgnG_range b[j]
  rcases hv with rfl | rfl
  · have hw : wrap64 (((j : Int) + 1) * 1) = (j : Int) + 1 := by rw [Int.mul_one]; exact wrap_id (by omega) (by omega)
    have hvar : varG ((j : Int) + 1) (b.length : Int) = (j : Int) + 1 := by
      unfold varG; rw [if_neg (by omega), if_neg (by omega)]
    rw [hw]
    unfold litG
    rw [hvar, if_neg (by omega), if_neg (by omega), show ((j : Int) + 1 - 1).toNat = j by omega, List.getD_eq_getElem?_getD, List.getElem?_eq_getElem hj, Option.getD_some, hs]
  · have hw : wrap64 (((j : Int) + 1) * -1) = -((j : Int) + 1) := by rw [Int.mul_neg, Int.mul_one]; exact wrap_id (by omega) (by omega)
    have hw2 : wrap64 (-(-((j : Int) + 1))) = (j : Int) + 1 := by rw [Int.neg_neg]; exact wrap_id (by omega) (by omega)
    have hvar : varG (-((j : Int) + 1)) (b.length : Int) = (j : Int) + 1 := by
      unfold varG; rw [if_pos (by omega), hw2, if_neg (by omega)]
    rw [hw]
    unfold litG
    rw [hvar, if_neg (by omega), if_pos (by omega), show ((j : Int) + 1 - 1).toNat = j by omega, List.getD_eq_getElem?_getD, List.getElem?_eq_getElem hj, Option.getD_some, hs]
    omega
theorem sign_vals {b : List Int} (hb : Signs b) (j : Nat) (hj : j < b.length) (h0 : b[j] ≠ 0) : b[j] = 1 ∨ b[j] = -1 := by
  have hs := hb j hj
  rw [List.getD_eq_getElem?_getD, List.getElem?_eq_getElem hj, Option.getD_some] at hs
  have hr := sgnG_range b[j]
  omega
theorem units_of_all (n : Int) (l : List (List Int)) (g : List Int) (hr : rightG n l = true) (h : (unitsG n l g).2 = true) : unitsG n l (allL (unitsG n l g).1 0) = unitsG n l g := by
  obtain ⟨d1, d2, d3, d4⟩ := units_done n l g hr h
  have hn := right_size hr
  generalize hq : (unitsG n l g).1 = r at d1 d2 d3 d4
  have hlen : r.length ≤ 20000 := by omega
  refine units_again n l g _ hr h ?_ ?_
  · rw [hq]
    intro y hy
    obtain ⟨j, hj, h1, rfl⟩ := (allL_mem r 0 y).1 hy
    rw [Nat.zero_add]
    exact (lit_place r hlen d2 j hj _ (sign_vals d2 j hj h1)).2 rfl
  · rw [hq]
    intro b hbn hb hall
    refine ⟨by omega, fun i hi => ?_⟩
    have hir : i < r.length := by omega
    rw [List.getD_eq_getElem?_getD, List.getElem?_eq_getElem hir, Option.getD_some, List.getD_eq_getElem?_getD, List.getElem?_eq_getElem hi, Option.getD_some]
    by_cases h0 : r[i] = 0
    · exact .inl h0
    · right
      have hm : wrap64 (((i : Int) + 1) * r[i]) ∈ allL r 0 := (allL_mem r 0 _).2 ⟨i, hir, h0, by rw [Nat.zero_add]⟩
      exact ((lit_place b (by omega) hb i hi _ (sign_vals d2 i hir h0)).1 (hall _ hm)).symm

section
variable (n : Int) (l : List (List Int)) (g : List Int) (k : Nat)
theorem order_l1 (acc : List (List Int)) (i : Nat) (c : List Int) (hc : c.length ≤ 310) (ha : acc.length ≤ 100) (next : Ev (fun r => keelsonlaw12_ClauseOrder.l0 r n l g (k : Int) (acc ++ [c.reverse]) (wrap64 ((i : Int) + 1))) true) (j : Nat) : j ≤ c.length →
    Ev (fun r => keelsonlaw12_ClauseOrder.l1 r n l g (k : Int) acc (i : Int) c (c.drop j).reverse ((j : Int) - 1)) true := by
  induction j with
  | zero =>
    intro _
    refine Ev.succ ?_
    simp only [keelsonlaw12_ClauseOrder.l1]
    rw [List.drop_zero]
    exact Ev.neg (by omega) (Ev.pos (by omega) next)
  | succ j ih =>
    intro hj
    have hjl : j < c.length := by omega
    refine Ev.succ ?_
    simp only [keelsonlaw12_ClauseOrder.l1]
    have e : ((j + 1 : Nat) : Int) - 1 = (j : Int) := by omega
    rw [e, rd_nat _ _ hjl, wrap_id (x := (j : Int) - 1) (by omega) (by omega)]
    refine Ev.pos (by omega) (Ev.pos (by omega) (Ev.pos (by omega) (Ev.pos (by simp; omega) ?_)))
    have h := ih (by omega)
    rw [List.drop_eq_getElem_cons hjl, List.reverse_cons] at h
    exact h
theorem order_l2 (a : List Int) (fine : Bool) (ha : a.length ≤ 1000) (hfin : fine = true → unitsG n l (allL a 0) = (a, true)) (d : Nat) : ∀ (i : Nat) (acc : List Int), i + d = a.length → acc.length ≤ i → acc ++ allL (a.drop i) i = allL a 0 →
    Ev (fun r => keelsonlaw12_ClauseOrder.l2 r n l a fine acc (i : Int)) true := by
  induction d with
  | zero =>
    intro i acc hi hac he
    rw [List.drop_eq_nil_of_le (by omega)] at he
    simp only [allL, List.append_nil] at he
    subst he
    have hal := allL_len a 0
    refine Ev.succ ?_
    simp only [keelsonlaw12_ClauseOrder.l2]
    refine Ev.neg (by omega) (Ev.bind (units_ev n l _ (by omega)) ?_)
    cases fine with
    | true =>
      rw [hfin rfl]
      exact Ev.pos rfl (Ev.pos rfl (Ev.bind (sameInts_ev a a (by omega)) (Ev.some (by simp))))
    | false => exact Ev.neg (by decide) (Ev.some rfl)
  | succ d ih =>
    intro i acc hi hac he
    have hil : i < a.length := by omega
    rw [List.drop_eq_getElem_cons hil] at he
    simp only [allL] at he
    refine Ev.succ ?_
    simp only [keelsonlaw12_ClauseOrder.l2]
    rw [rd_nat _ _ hil, wrap_id (x := (i : Int) + 1) (by omega) (by omega)]
    refine Ev.pos (by omega) (Ev.pos (by omega) ?_)
    by_cases h0 : a[i] = 0
    · rw [if_pos h0] at he
      exact Ev.pos h0 (ih (i + 1) acc (by omega) (by omega) he)
    · rw [if_neg h0] at he
      exact Ev.neg h0 (Ev.pos (by omega) (ih (i + 1) _ (by omega) (by simp; omega) (by rw [List.append_assoc]; exact he)))
theorem order_l0 (hl : l.length ≤ 100) (hc : ∀ c ∈ l, c.length ≤ 310) (hk : k < l.length) (hn : n ≤ 1000) (hg : g.length ≤ 100) (d : Nat) : ∀ i : Nat, i + d = l.length → Ev (fun r => keelsonlaw12_ClauseOrder.l0 r n l g (k : Int) ((turnL l k).take i) (i : Int)) true := by
  induction d with
  | zero =>
    intro i hi
    refine Ev.succ ?_
    simp only [keelsonlaw12_ClauseOrder.l0]
    rw [List.take_of_length_le (by rw [turnL_len]; omega)]
    have e := units_turn n l g k hk
    refine Ev.neg (by omega) (Ev.bind (units_ev n l g (by omega)) (Ev.bind (units_ev n (turnL l k) g (by omega)) ?_))
    rw [e]
    have hsz : (unitsG n l g).1.length ≤ 1000 := by
      by_cases hr : rightG n l = true
      · have := (unitsG_size n l g (right_size hr).1).1; omega
      · unfold unitsG; rw [if_neg hr]; simp
    refine Ev.bind (sameInts_ev _ _ (by omega)) (Ev.pos (by simp) (Ev.succ ?_))
    simp only [keelsonlaw12_ClauseOrder.j4]
    refine Ev.neg (by simp) ?_
    refine order_l2 n l (unitsG n l g).1 (unitsG n l g).2 hsz ?_ (unitsG n l g).1.length 0 [] (by omega) (by simp) (by simp)
    intro hf
    have hr : rightG n l = true := by
      by_cases hr : rightG n l = true
      · exact hr
      · unfold unitsG at hf; rw [if_neg hr] at hf; cases hf
    rw [units_of_all n l g hr hf, ← hf]
  | succ d ih =>
    intro i hi
    have hil : i < l.length := by omega
    have hm : (i + k) % l.length < l.length := Nat.mod_lt _ (by omega)
    refine Ev.succ ?_
    simp only [keelsonlaw12_ClauseOrder.l0]
    have e1 : wrap64 ((i : Int) + (k : Int)) = ((i + k : Nat) : Int) := by rw [wrap_id (by omega) (by omega)]; omega
    have e2 : Int.tmod ((i + k : Nat) : Int) (l.length : Int) = (((i + k) % l.length : Nat) : Int) := by
      rw [Int.tmod_eq_emod_of_nonneg (by omega)]; exact (Int.natCast_emod _ _).symm
    rw [e1, e2, rdL_nat _ _ hm]
    refine Ev.pos (by omega) (Ev.neg (by omega) (Ev.pos (by omega) (Ev.pos (by omega) ?_)))
    have hcl := hc _ (List.getElem_mem hm)
    rw [wrap_id (x := ((l[(i + k) % l.length].length : Nat) : Int) - 1) (by omega) (by omega)]
    have htl := turnL_len l k
    have h := order_l1 n l g k ((turnL l k).take i) i l[(i + k) % l.length] hcl (by simp; omega) ?_ l[(i + k) % l.length].length (Nat.le_refl _)
    · rw [List.drop_eq_nil_of_le (Nat.le_refl _)] at h
      exact h
    · rw [wrap_step hil (by omega)]
      have hh := ih (i + 1) (by omega)
      have hil' : i < (turnL l k).length := by omega
      rw [List.take_succ_eq_append_getElem hil'] at hh
      have e3 : (turnL l k)[i] = (l[(i + k) % l.length]).reverse := by
        simp [turnL, List.getD_eq_getElem?_getD, List.getElem?_eq_getElem hm]
      rw [e3] at hh
      exact hh
end
theorem ClauseOrder_pure (n : Int) (_ : okI .i64 n) (l : List (List Int)) (ok1 : okL (Tryd.prog.bytesOf 22) (okL (Tryd.prog.bytesOf 3) (okI .i64)) l) (g : List Int) (_ : okL (Tryd.prog.bytesOf 3) (okI .i64) g) (turn : Int) (_ : okI .i64 turn) : ∃ k, keelsonlaw12_ClauseOrder.f k n l g turn = some true := by
  have hb1 : Tryd.prog.bytesOf 22 = 24 := by kernel_rfl
  have hl := ok1.1
  rw [hb1] at hl
  refine Ev.rounds ?_
  unfold keelsonlaw12_ClauseOrder.f
  refine Ev.bind shown12_ev (Ev.bind (small12_ev l (by omega)) (Ev.pos rfl ?_))
  have hj : ∀ f : Bool, (f = false → smallC l = true ∧ g.length ≤ 100 ∧ n ≤ 1000 ∧ l.length ≠ 0) → Ev (fun k => keelsonlaw12_ClauseOrder.j0 k n l g turn true f) true := by
    intro f hf
    refine Ev.succ ?_
    simp only [keelsonlaw12_ClauseOrder.j0]
    cases f with
    | true => exact Ev.pos rfl (Ev.some rfl)
    | false =>
      obtain ⟨h1, h2, h3, h4⟩ := hf rfl
      obtain ⟨s1, s2⟩ := smallC_spec h1
      have hlen : (0 : Int) < (l.length : Int) := by omega
      have b1 := Int.tmod_lt_of_pos turn hlen
      have b2 := Int.tmod_lt_of_pos (-turn) hlen
      rw [Int.neg_tmod] at b2
      have hj1 : ∀ kk : Nat, kk < l.length → Ev (fun k => keelsonlaw12_ClauseOrder.j1 k n l g (kk : Int)) true := by
        intro kk hkk
        refine Ev.succ ?_
        simp only [keelsonlaw12_ClauseOrder.j1]
        exact order_l0 n l g kk s1 s2 hkk h3 h2 l.length 0 (by omega)
      refine Ev.neg (by decide) (Ev.neg (by omega) ?_)
      by_cases hq : Int.tmod turn (l.length : Int) < 0
      · refine Ev.pos hq ?_
        rw [wrap_id (by omega) (by omega)]
        have := hj1 (-(Int.tmod turn (l.length : Int))).toNat (by omega)
        rw [Int.toNat_of_nonneg (by omega)] at this
        exact this
      · refine Ev.neg hq ?_
        have := hj1 (Int.tmod turn (l.length : Int)).toNat (by omega)
        rw [Int.toNat_of_nonneg (by omega)] at this
        exact this
  by_cases hs : smallC l = true
  · refine Ev.pos hs ?_
    by_cases h1 : (g.length : Int) > 100
    · exact Ev.pos h1 (hj true (fun h => by cases h))
    · refine Ev.neg h1 ?_
      by_cases h2 : n > 1000
      · exact Ev.pos h2 (hj true (fun h => by cases h))
      · refine Ev.neg h2 (hj _ ?_)
        intro h
        have : (l.length : Int) ≠ 0 := by simpa using h
        exact ⟨hs, by omega, by omega, by omega⟩
  · exact Ev.neg hs (hj true (fun h => by cases h))
end Go.Proofs.YtooobbbpcpfddaaDoor.PA
