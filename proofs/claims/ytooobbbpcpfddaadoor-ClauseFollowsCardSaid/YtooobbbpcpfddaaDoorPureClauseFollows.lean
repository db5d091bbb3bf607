/- ClauseFollows' plain law: what follows at once is true in each model that has the given literals. -/
import Derived.Test.YtooobbbpcpfddaaDoorMFollows
import Derived.Test.YtooobbbpcpfddaaDoorMLaw12
import Derived.Test.YtooobbbpcpfddaaDoorROpen
import Derived.Test.YtooobbbpcpfddaaDoorGHolds
import Derived.Test.YtooobbbpcpfddaaDoorMI64
import Derived.Test.YtooobbbpcpfddaaDoorPALClauseFollows
namespace Go.Proofs.YtooobbbpcpfddaaDoor.PA
open Go.RowKit Go.Proofs.YtooobbbpcpfddaaDoorW.PrintWords Go.Proofs.YtooobbbpcpfddaaDoorW.PrintLast Go.Proofs.YtooobbbpcpfddaaDoorW.PrintMore

def modelF : Int → Nat → List Bool
  | _, 0 => []
  | m, d + 1 => (Int.tmod m 2 == 1) :: modelF (wrap64 (Int.tdiv m 2)) d
theorem modelF_len (d : Nat) : ∀ m, (modelF m d).length = d := by
  induction d with
  | zero => intro m; rfl
  | succ d ih => intro m; simp only [modelF, List.length_cons, ih]
theorem model12_loop (n : Nat) (hn : n ≤ 1000) (d : Nat) : ∀ (m : Int) (acc : List Bool) (i : Nat), i + d = n → acc.length ≤ i → Ev (fun k => keelsonlaw12_model.l0 k m (n : Int) acc (i : Int)) (acc ++ modelF m d) := by
  induction d with
  | zero =>
    intro m acc i hi _
    refine Ev.succ ?_
    simp only [keelsonlaw12_model.l0]
    exact Ev.neg (by omega) (Ev.some (by simp [modelF]))
  | succ d ih =>
    intro m acc i hi ha
    refine Ev.succ ?_
    simp only [keelsonlaw12_model.l0]
    rw [wrap_step (show i < n by omega) (by omega)]
    refine Ev.pos (by omega) (Ev.pos (by omega) ?_)
    have h := ih (wrap64 (Int.tdiv m 2)) (acc ++ [Int.tmod m 2 == 1]) (i + 1) (by omega) (by simp; omega)
    rw [List.append_assoc] at h
    exact h
theorem model12_ev (m : Int) (n : Nat) (hn : n ≤ 1000) : Ev (fun k => keelsonlaw12_model.f k m (n : Int)) (modelF m n) := by
  unfold keelsonlaw12_model.f
  simpa using model12_loop n hn n m [] 0 (by omega) (by simp)
theorem shl_small (n : Int) (h0 : 0 ≤ n) (h1 : n ≤ 10) : shl .i64 1 n ≤ 1024 := by
  rcases (show n = 0 ∨ n = 1 ∨ n = 2 ∨ n = 3 ∨ n = 4 ∨ n = 5 ∨ n = 6 ∨ n = 7 ∨ n = 8 ∨ n = 9 ∨ n = 10 by omega) with rfl | rfl | rfl | rfl | rfl | rfl | rfl | rfl | rfl | rfl | rfl <;> decide +kernel
theorem holds_lit (x : List Bool) (y : Int) : holdsG [[y]] x = decide (1 ≤ litG y (encM x)) := by
  have e : valueG [y] (encM x) = max (-1) (litG y (encM x)) := rfl
  show (!decide (valueG [y] (encM x) < 1) && true) = decide (1 ≤ litG y (encM x))
  rw [Bool.and_true]
  by_cases h : 1 ≤ litG y (encM x)
  · rw [decide_eq_true h, decide_eq_false (by omega)]; rfl
  · rw [decide_eq_false h, decide_eq_true (by omega)]; rfl

section
variable (n : Int) (l : List (List Int)) (g a : List Int) (fine : Bool) (m : Int)
theorem follows_l2 (x : List Bool) (h : Bool) (hA : h = true → Agree a x) (hal : a.length ≤ 20000) (next : Ev (fun k => keelsonlaw12_ClauseFollows.l0 k n l g a fine (wrap64 (m + 1))) true) (d : Nat) : ∀ i : Nat, i + d = a.length →
    Ev (fun k => keelsonlaw12_ClauseFollows.l2 k n l g a fine m x h (i : Int)) true := by
  induction d with
  | zero =>
    intro i hi
    refine Ev.succ ?_
    simp only [keelsonlaw12_ClauseFollows.l2]
    refine Ev.neg (by omega) (Ev.succ ?_)
    simp only [keelsonlaw12_ClauseFollows.j5]
    exact Ev.neg (by decide) next
  | succ d ih =>
    intro i hi
    have hil : i < a.length := by omega
    refine Ev.succ ?_
    simp only [keelsonlaw12_ClauseFollows.l2]
    refine Ev.pos (by omega) (Ev.succ ?_)
    simp only [keelsonlaw12_ClauseFollows.j5]
    cases h with
    | false => exact Ev.neg (by decide) next
    | true =>
      have hag := hA rfl
      have hix : i < x.length := by rw [← hag.1]; exact hil
      have ha := hag.2 i hix
      have e : rd a (i : Int) = a[i] := rd_nat _ _ hil
      have e2 : rdOf false x (i : Int) = x[i] := rdOf_nat _ _ _ hix
      rw [e, e2, wrap_step hil (by omega)]
      rw [List.getD_eq_getElem?_getD, List.getElem?_eq_getElem hil, Option.getD_some, List.getD_eq_getElem?_getD, List.getElem?_eq_getElem hix, Option.getD_some] at ha
      refine Ev.pos rfl (Ev.pos (by omega) (Ev.pos (by omega) ?_))
      by_cases h0 : a[i] = 0
      · exact Ev.pos h0 (ih (i + 1) (by omega))
      · refine Ev.neg h0 (Ev.pos (by omega) (Ev.neg ?_ (ih (i + 1) (by omega))))
        rcases ha with z | z
        · exfalso
          unfold sgnG at z
          split at z
          · omega
          · split at z <;> omega
        · cases hq : x[i] with
          | true =>
            rw [hq] at z
            unfold sgnG at z
            split at z
            · cases z
            · split at z
              · rename_i hp; rw [decide_eq_true hp]; decide
              · cases z
          | false =>
            rw [hq] at z
            unfold sgnG at z
            split at z
            · rename_i hp; rw [decide_eq_false (show ¬ a[i] > 0 by omega)]; decide
            · split at z <;> cases z
theorem follows_l1 (x : List Bool) (hx : (x.length : Int) = n) (hn : n ≤ 10) (hg : g.length ≤ 40) (hal : a.length ≤ 20000) (next : Ev (fun k => keelsonlaw12_ClauseFollows.l0 k n l g a fine (wrap64 (m + 1))) true) (hfin : Bool)
    (hA : hfin = true → fine = true ∧ Agree a x) (d : Nat) : ∀ (i : Nat) (h : Bool), i + d = g.length → hfin = (h && (g.drop i).all fun y => holdsG [[y]] x) →
    Ev (fun k => keelsonlaw12_ClauseFollows.l1 k n l g a fine m x h (i : Int)) true := by
  induction d with
  | zero =>
    intro i h hi hf
    rw [List.drop_eq_nil_of_le (by omega), List.all_nil, Bool.and_true] at hf
    subst hf
    refine Ev.succ ?_
    simp only [keelsonlaw12_ClauseFollows.l1]
    refine Ev.neg (by omega) ?_
    have hj : ∀ b : Bool, b = false → Ev (fun k => keelsonlaw12_ClauseFollows.j3 k n l g a fine m x hfin b) true := by
      rintro b rfl
      refine Ev.succ ?_
      simp only [keelsonlaw12_ClauseFollows.j3]
      exact Ev.neg (by decide) (follows_l2 n l g a fine m x hfin (fun h => (hA h).2) hal next a.length 0 (by omega))
    cases hfin with
    | true => exact Ev.pos rfl (hj _ (by rw [(hA rfl).1]; rfl))
    | false => exact Ev.neg (by decide) (hj _ rfl)
  | succ d ih =>
    intro i h hi hf
    have hil : i < g.length := by omega
    rw [List.drop_eq_getElem_cons hil, List.all_cons] at hf
    refine Ev.succ ?_
    simp only [keelsonlaw12_ClauseFollows.l1]
    rw [rd_nat _ _ hil, wrap_step hil (by omega)]
    refine Ev.pos (by omega) ?_
    cases h with
    | true =>
      refine Ev.pos rfl (Ev.pos (by omega) (Ev.call (v := holdsG [[g[i]]] x) (by unfold clause_Holds.f; rw [if_pos (by omega)]) ?_))
      exact ih (i + 1) _ (by omega) (by rw [hf, Bool.true_and])
    | false => exact Ev.neg (by decide) (ih (i + 1) false (by omega) (by rw [hf]; simp))
end
theorem follows_l0 (n : Int) (l : List (List Int)) (g : List Int) (h0 : 0 ≤ n) (hn : n ≤ 10) (hr : rightG n l = true) (hg : g.length ≤ 40) (hal : (unitsG n l g).1.length ≤ 20000) (hfl : (unitsG n l g).2 = true → ((unitsG n l g).1.length : Int) = n) (d : Nat) : ∀ m : Nat, (shl .i64 1 n - (m : Int)).toNat ≤ d →
    Ev (fun k => keelsonlaw12_ClauseFollows.l0 k n l g (unitsG n l g).1 (unitsG n l g).2 (m : Int)) true := by
  have hs := shl_small n h0 hn
  induction d with
  | zero =>
    intro m hm
    refine Ev.succ ?_
    simp only [keelsonlaw12_ClauseFollows.l0]
    refine Ev.pos h0 (Ev.neg (by omega) ?_)
    by_cases h : (unitsG n l g).2 = true
    · exact Ev.pos h (Ev.some (by rw [hfl h]; simp))
    · exact Ev.neg h (Ev.some rfl)
  | succ d ih =>
    intro m hm
    by_cases hlt : (m : Int) < shl .i64 1 n
    · refine Ev.succ ?_
      simp only [keelsonlaw12_ClauseFollows.l0]
      have hnat : n = ((n.toNat : Nat) : Int) := by omega
      have hmod : Ev (fun k => keelsonlaw12_model.f k (m : Int) n) (modelF (m : Int) n.toNat) := by
        have := model12_ev (m : Int) n.toNat (by omega)
        rw [← hnat] at this
        exact this
      have hml := modelF_len n.toNat (m : Int)
      refine Ev.pos h0 (Ev.pos hlt (Ev.bind hmod ?_))
      generalize modelF (m : Int) n.toNat = x at hml
      have hx : (x.length : Int) = n := by omega
      refine Ev.call (v := holdsG l x) (by unfold clause_Holds.f; rw [if_pos (by omega)]) ?_
      have next := ih (m + 1) (by omega)
      rw [← wrap_step (show m < m + 1 by omega) (by omega)] at next
      refine follows_l1 n l g (unitsG n l g).1 (unitsG n l g).2 (m : Int) x hx hn hg hal next (holdsG l x && (g.drop 0).all fun y => holdsG [[y]] x) ?_ g.length 0 _ (by omega) rfl
      intro hf
      rw [Bool.and_eq_true, List.drop_zero, List.all_eq_true] at hf
      exact units_agree n l g hr x hx hf.1 (fun y hy => by have := hf.2 y hy; rw [holds_lit] at this; exact of_decide_eq_true this)
    · refine Ev.succ ?_
      simp only [keelsonlaw12_ClauseFollows.l0]
      refine Ev.pos h0 (Ev.neg hlt ?_)
      by_cases h : (unitsG n l g).2 = true
      · exact Ev.pos h (Ev.some (by rw [hfl h]; simp))
      · exact Ev.neg h (Ev.some rfl)
theorem ClauseFollows_pure (n : Int) (_ : okI .i64 n) (l : List (List Int)) (ok1 : okL (Tryd.prog.bytesOf 22) (okL (Tryd.prog.bytesOf 3) (okI .i64)) l) (g : List Int) (ok2 : okL (Tryd.prog.bytesOf 3) (okI .i64) g) : ∃ k, keelsonlaw12_ClauseFollows.f k n l g = some true := by
  have hb1 : Tryd.prog.bytesOf 22 = 24 := by kernel_rfl
  have hb2 : Tryd.prog.bytesOf 3 = 8 := by kernel_rfl
  have hl := ok1.1
  have hg := ok2.1
  rw [hb1] at hl
  rw [hb2] at hg
  refine Ev.rounds ?_
  unfold keelsonlaw12_ClauseFollows.f
  refine Ev.bind shown12_ev (Ev.bind (small12_ev l (by omega)) (Ev.pos rfl ?_))
  have hj : ∀ f : Bool, (f = false → 0 ≤ n ∧ n ≤ 10 ∧ g.length ≤ 40 ∧ rightG n l = true) → Ev (fun k => keelsonlaw12_ClauseFollows.j0 k n l g true f) true := by
    intro f hf
    refine Ev.succ ?_
    simp only [keelsonlaw12_ClauseFollows.j0]
    cases f with
    | true => exact Ev.pos rfl (Ev.some rfl)
    | false =>
      obtain ⟨h0, h1, h2, h3⟩ := hf rfl
      refine Ev.neg (by decide) (Ev.bind (units_ev n l g (by omega)) ?_)
      obtain ⟨q1, q2⟩ := unitsG_size n l g h0
      exact follows_l0 n l g h0 h1 h3 h2 (by omega) q2 (shl .i64 1 n - ((0 : Nat) : Int)).toNat 0 (by omega)
  by_cases hs : smallC l = true
  · refine Ev.pos hs ?_
    by_cases h1 : n < 0
    · exact Ev.pos h1 (hj true (fun h => by cases h))
    · refine Ev.neg h1 ?_
      by_cases h2 : n > 10
      · exact Ev.pos h2 (hj true (fun h => by cases h))
      · refine Ev.neg h2 ?_
        by_cases h3 : (g.length : Int) > 40
        · exact Ev.pos h3 (hj true (fun h => by cases h))
        · refine Ev.neg h3 (Ev.call (o := clause_Right.f n l) (v := rightG n l) rfl ?_)
          by_cases h4 : rightG n l = true
          · refine Ev.pos h4 (Ev.call (o := clause_Right.f n [g]) (v := rightG n [g]) rfl (hj _ ?_))
            intro _
            exact ⟨by omega, by omega, by omega, h4⟩
          · exact Ev.neg h4 (hj true (fun h => by cases h))
  · exact Ev.neg hs (hj true (fun h => by cases h))
end Go.Proofs.YtooobbbpcpfddaaDoor.PA
