/- CountJoins' plain law: terms one behind the other weigh what each row weighs, added; limits that are less hold of no truth more. -/
import Derived.Test.YtooobbbpcpfddaaDoorMWeight
import Derived.Test.YtooobbbpcpfddaaDoorMLimits
import Derived.Test.YtooobbbpcpfddaaDoorPureCountLimits
import Derived.Test.YtooobbbpcpfddaaDoorPALCountJoins
namespace Go.Proofs.YtooobbbpcpfddaaDoor.PA
open Go.RowKit Go.Proofs.YtooobbbpcpfddaaDoorW.PrintWords Go.Proofs.YtooobbbpcpfddaaDoorW.PrintLast Go.Proofs.YtooobbbpcpfddaaDoorW.PrintMore

def plus : List Int → Int
  | [] => 0
  | x :: l => x + plus l
theorem plus_append (a b : List Int) : plus (a ++ b) = plus a + plus b := by
  induction a with
  | nil => simp [plus]
  | cons x a ih => simp only [List.cons_append, plus, ih]; omega
def tiny (x : Int) : Prop := 0 ≤ x ∧ x ≤ 1099511627776
theorem plus_bounds (l : List Int) (h : ∀ x ∈ l, tiny x) : 0 ≤ plus l ∧ plus l ≤ 1099511627776 * (l.length : Int) := by
  induction l with
  | nil => simp [plus]
  | cons x l ih =>
    have ⟨a, b⟩ := ih (fun y hy => h y (List.mem_cons_of_mem _ hy))
    have ⟨c, d⟩ := h x List.mem_cons_self
    simp only [plus, List.length_cons]
    omega
theorem addG_small (a b : Int) (ha : 0 ≤ a) (hb : 0 ≤ b) (h : a + b ≤ 9223372036854775807) : sum_addG a b = some (a + b) := by
  unfold sum_addG
  rw [wrap_id (by omega) h, decide_eq_false (show ¬ a < 0 by omega), decide_eq_false (show ¬ b < 0 by omega), decide_eq_false (show ¬ a + b < 0 by omega)]
  rfl
theorem totG_small (l : List Int) : (∀ x ∈ l, tiny x) → ∀ s : Int, 0 ≤ s → s + 1099511627776 * (l.length : Int) ≤ 9223372036854775807 → sum_totG l s = some (s + plus l) := by
  induction l with
  | nil => intro _ s _ _; simp [sum_totG, plus]
  | cons x l ih =>
    intro h s hs hl
    have ⟨c, d⟩ := h x List.mem_cons_self
    simp only [List.length_cons] at hl
    rw [sum_totG, addG_small s x hs c (by omega)]
    simp only [Option.bind_some]
    rw [ih (fun y hy => h y (List.mem_cons_of_mem _ hy)) (s + x) (by omega) (by omega)]
    simp only [plus]
    rw [Int.add_assoc]
theorem picks_append (a b : List S40) (m : List Bool) : picks (a ++ b) m = picks a m ++ picks b m := by
  unfold picks; rw [List.filter_append, List.map_append]
theorem picks_tiny (l : List S40) (m : List Bool) (h : ∀ t ∈ l, tiny t.f1) : ∀ x ∈ picks l m, tiny x := by
  intro x hx
  unfold picks at hx
  obtain ⟨t, ht, rfl⟩ := List.mem_map.1 hx
  exact h t (List.mem_filter.1 ht).1
theorem small_loop (l : List S40) (hn : l.length ≤ 9223372036854775807) (d : Nat) : ∀ i : Nat, i + d = l.length →
    Ev (fun k => keelsonlaw16_small.l0 k l (i : Int)) ((l.drop i).all fun t => decide (0 ≤ t.f1) && decide (t.f1 ≤ 1099511627776)) := by
  induction d with
  | zero =>
    intro i hi
    refine Ev.succ ?_
    simp only [keelsonlaw16_small.l0]
    rw [List.drop_eq_nil_of_le (by omega)]
    exact Ev.neg (by omega) (Ev.some rfl)
  | succ d ih =>
    intro i hi
    have hil : i < l.length := by omega
    refine Ev.succ ?_
    simp only [keelsonlaw16_small.l0]
    rw [rdT_nat _ _ hil, wrap_step hil hn, List.drop_eq_getElem_cons hil, List.all_cons]
    refine Ev.pos (by omega) (Ev.pos (by omega) ?_)
    by_cases h1 : l[i].f1 < 0
    · rw [decide_eq_false (show ¬ 0 ≤ l[i].f1 by omega)]; exact Ev.pos h1 (Ev.some rfl)
    · rw [decide_eq_true (show 0 ≤ l[i].f1 by omega)]
      refine Ev.neg h1 ?_
      by_cases h2 : l[i].f1 > 1099511627776
      · rw [decide_eq_false (show ¬ l[i].f1 ≤ 1099511627776 by omega)]; exact Ev.pos h2 (Ev.some rfl)
      · rw [decide_eq_true (show l[i].f1 ≤ 1099511627776 by omega)]
        exact Ev.neg h2 (by simpa using ih (i + 1) (by omega))
theorem small_ev (l : List S40) (hn : l.length ≤ 9223372036854775807) : Ev (fun k => keelsonlaw16_small.f k l) (l.all fun t => decide (0 ≤ t.f1) && decide (t.f1 ≤ 1099511627776)) := by
  unfold keelsonlaw16_small.f
  simpa using small_loop l hn l.length 0 (by omega)
theorem small_tiny (l : List S40) (h : (l.all fun t => decide (0 ≤ t.f1) && decide (t.f1 ≤ 1099511627776)) = true) : ∀ t ∈ l, tiny t.f1 := by
  intro t ht
  have := List.all_eq_true.1 h t ht
  simpa [tiny] using this
theorem litR_one (m : List Bool) (h : 0 < m.length) : litR m (-1) = !litR m 1 := by
  have hg : goodL m 1 := ⟨by decide, by show (1 : Int) ≤ _; omega⟩
  have h := lit_neg m 1 hg
  rw [show wrap64 (-1) = -1 from by decide +kernel] at h
  exact h
theorem pair_weight (m : List Bool) (w : Int) (hw : i64 w) (h : 0 < m.length) (hm : m.length ≤ 35184372088832) : weightG [⟨1, w⟩, ⟨(-1), w⟩] m = (w, 0) := by
  have h1 := holds_one 1 ⟨by decide, by decide⟩ m hm
  have h2 := holds_one (-1) ⟨by decide, by decide⟩ m hm
  have hn := litR_one m h
  have hs : sum_totG [w] 0 = some w := by
    rw [sum_totG]
    have ha : sum_addG 0 w = some w := by
      unfold sum_addG
      rw [Int.zero_add, wrap_id hw.1 hw.2, if_neg]
      cases decide (w < 0) <;> simp
    rw [ha]; rfl
  unfold weightG picks
  simp only [List.filter_cons, List.filter_nil, h1, h2, hn]
  cases litR m 1 <;> simp [hs, errI]
theorem lim_i64 (l : List Int) (k : Int) : ∀ c ∈ (limG l k).1, ∀ x ∈ c, i64 x := by
  have ht : ∀ (l : List Int) (k : Int), ∀ x ∈ tailL l k, i64 x := by
    intro l
    induction l with
    | nil => intro k x hx; simp [tailL] at hx
    | cons y l ih =>
      intro k x hx
      simp only [tailL, List.mem_append] at hx
      rcases hx with hx | hx
      · split at hx
        · rw [List.mem_singleton.1 hx]; exact i64_wrap _
        · cases hx
      · exact ih _ x hx
  have hc : ∀ (l : List Int) (k : Int), ∀ c ∈ clL l k, ∀ x ∈ c, i64 x := by
    intro l
    induction l with
    | nil => intro k c hc; simp [clL] at hc
    | cons y l ih =>
      intro k c hc x hx
      simp only [clL, List.mem_append] at hc
      rcases hc with hc | hc
      · split at hc
        · cases hc
        · rw [List.mem_singleton.1 hc] at hx
          rcases List.mem_cons.1 hx with rfl | hx
          · exact i64_wrap _
          · exact ht _ _ x hx
      · exact ih _ c hc x hx
  intro c hc' x hx
  unfold limG at hc'
  split at hc'
  · cases hc'
  · split at hc'
    · rw [List.mem_singleton.1 hc'] at hx; cases hx
    · split at hc'
      · cases hc'
      · exact hc l k c hc' x hx
theorem good_of (m : List Bool) (hm : m.length ≤ 60) (x : Int) (h1 : ¬ x < wrap64 (-(m.length : Int))) (h2 : ¬ x > (m.length : Int)) (h3 : ¬ x = 0) : goodL m x := by
  rw [wrap_id (by omega) (by omega)] at h1
  unfold goodL varR
  by_cases h : x < 0
  · rw [if_pos ⟨h, by omega⟩]; omega
  · rw [if_neg (by omega), if_pos (by omega)]; omega

theorem joins_l0 (m : List Bool) (hm : m.length ≤ 60) (b : List Int) (hb : b.length ≤ 9223372036854775807) (k n : Int) (hk : k ≤ 9223372036854775807) (hn : n ≤ 9223372036854775807) (d : Nat) :
    ∀ i : Nat, i + d = b.length → (∀ x ∈ b.take i, goodL m x) → Ev (fun r => keelsonlaw16_CountJoins.l0 r m b k n (i : Int)) true := by
  induction d with
  | zero =>
    intro i hi hg
    refine Ev.succ ?_
    simp only [keelsonlaw16_CountJoins.l0]
    rw [List.take_of_length_le (by omega)] at hg
    have h1 : mn k n ≤ 9223372036854775807 := by rw [mn_min]; omega
    have h2 : mx k n ≤ 9223372036854775807 := by rw [mx_max]; omega
    have h12 : mn k n ≤ mx k n := by rw [mn_min, mx_max]; omega
    refine Ev.neg (by omega) (Ev.bind (limit_ev b _ h1 hb) (Ev.bind (limit_ev b _ h2 hb) ?_))
    have e1 := lim_err b (mn k n)
    have e2 := lim_err b (mx k n)
    refine Ev.pos (by rw [e1, e2]) ?_
    by_cases h0 : (limG b (mn k n)).2 = 0
    · refine Ev.pos h0 ?_
      have h0' : (limG b (mx k n)).2 = 0 := by rw [e2, ← e1]; exact h0
      refine Ev.call (v := holdsG (limG b (mn k n)).1 m) (by unfold clause_Holds.f; rw [if_pos (by omega)]) ?_
      rw [holds_eq _ (lim_i64 b _) m (by omega), lim_holds m b hg _ h1 h0]
      by_cases h : numR m b ≤ mn k n
      · rw [decide_eq_true h]
        refine Ev.pos rfl ?_
        refine Ev.call (v := holdsG (limG b (mx k n)).1 m) (by unfold clause_Holds.f; rw [if_pos (by omega)]) (Ev.some ?_)
        rw [holds_eq _ (lim_i64 b _) m (by omega), lim_holds m b hg _ h2 h0']
        exact decide_eq_true (by omega)
      · rw [decide_eq_false h]
        exact Ev.neg (by decide) (Ev.some rfl)
    · exact Ev.neg h0 (Ev.some rfl)
  | succ d ih =>
    intro i hi hg
    have hil : i < b.length := by omega
    refine Ev.succ ?_
    simp only [keelsonlaw16_CountJoins.l0]
    rw [rd_nat _ _ hil, wrap_step hil (by omega)]
    refine Ev.pos (by omega) (Ev.pos (by omega) ?_)
    by_cases h1 : b[i] < wrap64 (-(m.length : Int))
    · exact Ev.pos h1 (Ev.some rfl)
    · refine Ev.neg h1 ?_
      by_cases h2 : b[i] > (m.length : Int)
      · exact Ev.pos h2 (Ev.some rfl)
      · refine Ev.neg h2 ?_
        by_cases h3 : b[i] = 0
        · exact Ev.pos h3 (Ev.some rfl)
        · refine Ev.neg h3 (ih (i + 1) (by omega) ?_)
          intro x hx
          rw [List.take_succ_eq_append_getElem hil, List.mem_append, List.mem_singleton] at hx
          rcases hx with hx | rfl
          · exact hg x hx
          · exact good_of m hm _ h1 h2 h3
theorem joins_j1 (m : List Bool) (hm : m.length ≤ 60) (w : Int) (hw : i64 w) (b : List Int) (hb : b.length ≤ 9223372036854775807) (k n : Int) (hk : k ≤ 9223372036854775807) (hn : n ≤ 9223372036854775807) (f : Bool) (hf : f = false) :
    Ev (fun r => keelsonlaw16_CountJoins.j1 r m w b k n f) true := by
  subst hf
  have h2 : Ev (fun r => keelsonlaw16_CountJoins.j2 r m b k n) true := by
    refine Ev.succ ?_
    simp only [keelsonlaw16_CountJoins.j2]
    exact joins_l0 m hm b hb k n hk hn b.length 0 (by omega) (by simp)
  refine Ev.succ ?_
  simp only [keelsonlaw16_CountJoins.j1]
  refine Ev.neg (by decide) ?_
  by_cases h : (m.length : Int) > 0
  · refine Ev.pos h (Ev.bind (weight_ev _ m (by omega) (by simp only [List.length_cons, List.length_nil]; omega)) ?_)
    rw [pair_weight m w hw (by omega) (by omega)]
    exact Ev.pos rfl (Ev.pos rfl h2)
  · exact Ev.neg h h2
theorem CountJoins_pure (l0 : List S40) (_ : okL (Tryd.prog.bytesOf 40) (fun x : S40 => (okP (okI .i64) (okI .i64)) (x.f0, x.f1)) l0) (l1 : List S40) (_ : okL (Tryd.prog.bytesOf 40) (fun x : S40 => (okP (okI .i64) (okI .i64)) (x.f0, x.f1)) l1)
    (m : List Bool) (_ : okL (Tryd.prog.bytesOf 4) okB m) (w : Int) (ok3 : okI .i64 w) (b : List Int) (ok4 : okL (Tryd.prog.bytesOf 3) (okI .i64) b) (k : Int) (ok5 : okI .i64 k) (n : Int) (ok6 : okI .i64 n) :
    ∃ r, keelsonlaw16_CountJoins.f r l0 l1 m w b k n = some true := by
  have hb3 : Tryd.prog.bytesOf 3 = 8 := by kernel_rfl
  have hbl := ok4.1
  rw [hb3] at hbl
  have hk := (okI_i64 ok5).2
  have hn := (okI_i64 ok6).2
  have hw := okI_i64 ok3
  refine Ev.rounds ?_
  unfold keelsonlaw16_CountJoins.f
  refine Ev.bind shown16_ev (Ev.pos rfl ?_)
  have hj : ∀ f : Bool, (f = false → l0.length ≤ 200 ∧ l1.length ≤ 200 ∧ m.length ≤ 60) → Ev (fun r => keelsonlaw16_CountJoins.j0 r l0 l1 m w b k n true f) true := by
    intro f hf
    refine Ev.succ ?_
    simp only [keelsonlaw16_CountJoins.j0]
    cases f with
    | true => exact Ev.pos rfl (Ev.some rfl)
    | false =>
      obtain ⟨h0, h1, hm⟩ := hf rfl
      have hj1 := fun f hf => joins_j1 m hm w hw b (by omega) k n hk hn f hf
      refine Ev.neg (by decide) (Ev.bind (weight_ev l0 m (by omega) (by omega)) (Ev.bind (weight_ev l1 m (by omega) (by omega)) ?_))
      refine Ev.let (Ev.pos (by simp; omega) (Ev.let (Ev.pos (by simp; omega) ?_)))
      simp only [List.nil_append]
      refine Ev.bind (weight_ev (l0 ++ l1) m (by omega) (by simp; omega)) ?_
      by_cases c1 : (weightG l0 m).2 = 0
      · refine Ev.pos c1 ?_
        by_cases c2 : (weightG l1 m).2 = 0
        · refine Ev.pos c2 ?_
          by_cases c3 : (weightG l0 m).1 ≥ 0
          · refine Ev.pos c3 ?_
            by_cases c4 : (weightG l1 m).1 ≥ 0
            · refine Ev.pos c4 ?_
              by_cases c5 : (weightG l0 m).1 < 1152921504606846976
              · refine Ev.pos c5 ?_
                by_cases c6 : (weightG l1 m).1 < 1152921504606846976
                · refine Ev.pos c6 (Ev.bind (small_ev l0 (by omega)) ?_)
                  cases s0 : (l0.all fun t => decide (0 ≤ t.f1) && decide (t.f1 ≤ 1099511627776)) with
                  | false => exact Ev.neg (by decide) (hj1 _ rfl)
                  | true =>
                    refine Ev.pos rfl (Ev.bind (small_ev l1 (by omega)) ?_)
                    cases s1 : (l1.all fun t => decide (0 ≤ t.f1) && decide (t.f1 ≤ 1099511627776)) with
                    | false => exact Ev.neg (by decide) (hj1 _ rfl)
                    | true =>
                      have t0 := picks_tiny l0 m (small_tiny l0 s0)
                      have t1 := picks_tiny l1 m (small_tiny l1 s1)
                      have n0 := picks_len l0 m
                      have n1 := picks_len l1 m
                      have b0 := plus_bounds _ t0
                      have b1 := plus_bounds _ t1
                      have w0 : weightG l0 m = (plus (picks l0 m), 0) := by
                        unfold weightG; rw [totG_small _ t0 0 (by omega) (by omega), Int.zero_add]; rfl
                      have w1 : weightG l1 m = (plus (picks l1 m), 0) := by
                        unfold weightG; rw [totG_small _ t1 0 (by omega) (by omega), Int.zero_add]; rfl
                      have w2 : weightG (l0 ++ l1) m = (plus (picks l0 m) + plus (picks l1 m), 0) := by
                        unfold weightG
                        rw [picks_append, totG_small _ (by intro x hx; rcases List.mem_append.1 hx with hx | hx; exact t0 x hx; exact t1 x hx) 0 (by omega) (by rw [List.length_append]; omega), Int.zero_add, plus_append]; rfl
                      rw [w0, w1, w2]
                      refine Ev.pos rfl ?_
                      rw [wrap_id (x := plus (picks l0 m) + plus (picks l1 m)) (by omega) (by omega)]
                      exact Ev.pos rfl (hj1 _ rfl)
                · exact Ev.neg c6 (hj1 _ rfl)
              · exact Ev.neg c5 (hj1 _ rfl)
            · exact Ev.neg c4 (hj1 _ rfl)
          · exact Ev.neg c3 (hj1 _ rfl)
        · exact Ev.neg c2 (hj1 _ rfl)
      · exact Ev.neg c1 (hj1 _ rfl)
  by_cases h1 : (l0.length : Int) > 200
  · exact Ev.pos h1 (hj true (fun h => by cases h))
  · refine Ev.neg h1 ?_
    by_cases h2 : (l1.length : Int) > 200
    · exact Ev.pos h2 (hj true (fun h => by cases h))
    · refine Ev.neg h2 ?_
      by_cases h3 : (m.length : Int) > 60
      · exact Ev.pos h3 (hj true (fun h => by cases h))
      · exact Ev.neg h3 (hj _ (fun _ => by omega))
end Go.Proofs.YtooobbbpcpfddaaDoor.PA
