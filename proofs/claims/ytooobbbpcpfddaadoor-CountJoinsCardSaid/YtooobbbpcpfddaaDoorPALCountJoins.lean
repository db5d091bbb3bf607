-- Printed by gprint.py (wip/ of this repo), over the kit's print.
import Derived.Test.YtooobbbpcpfddaaDoorPA0
import Derived.Test.YtooobbbpcpfddaaDoorPAcount1
import Derived.Test.YtooobbbpcpfddaaDoorPAkeelsonlaw160
import Derived.Test.YtooobbbpcpfddaaDoorPAkeelsonlaw161
import Derived.Test.YtooobbbpcpfddaaDoorGHolds
namespace Go.Proofs.YtooobbbpcpfddaaDoor.PA
open Go.RowKit Go.Proofs.YtooobbbpcpfddaaDoorW.PrintWords Go.Proofs.YtooobbbpcpfddaaDoorW.PrintLast Go.Proofs.YtooobbbpcpfddaaDoorW.PrintMore
attribute [local go_sem] max2_int min2_int max_two min_two max_three min_three max_four min_four   -- for this text's walks alone
set_option linter.unusedVariables false
set_option linter.unusedSimpArgs false

/-! ### keelsonlaw16_CountJoins: function 4 -/
mutual
def keelsonlaw16_CountJoins.j0 : Nat → List (S40) → List (S40) → List Bool → Int → List Int → Int → Int → Bool → Bool → Option (Bool)
  | 0, _, _, _, _, _, _, _, _, _ => none
  | k + 1, x0, x1, x2, x3, x4, x5, x6, x15, x51 => if x51 = true then (some x15) else ((count_Weight.f k x0 x2).bind fun bt220 => ((count_Weight.f k x1 x2).bind fun bt222 => ((some (([] : List (S40)) : List (S40))).bind fun y224 => (if y224.length + x0.length < 8796093022208 then ((some (y224 ++ x0 : List (S40))).bind fun y227 => (if y227.length + x1.length < 8796093022208 then ((count_Weight.f k (y227 ++ x1) x2).bind fun bt233 => (if bt220.2 = 0 then (if bt222.2 = 0 then (if bt220.1 ≥ 0 then (if bt222.1 ≥ 0 then (if bt220.1 < 1152921504606846976 then (if bt222.1 < 1152921504606846976 then ((keelsonlaw16_small.f k x0).bind fun t235 => (if t235 = true then ((keelsonlaw16_small.f k x1).bind fun t236 => (if t236 = true then (if bt233.1 = (wrap64 (bt220.1 + bt222.1)) then (keelsonlaw16_CountJoins.j1 k x2 x3 x4 x5 x6 (bt233.2 != 0)) else (keelsonlaw16_CountJoins.j1 k x2 x3 x4 x5 x6 true)) else (keelsonlaw16_CountJoins.j1 k x2 x3 x4 x5 x6 false))) else (keelsonlaw16_CountJoins.j1 k x2 x3 x4 x5 x6 false))) else (keelsonlaw16_CountJoins.j1 k x2 x3 x4 x5 x6 false)) else (keelsonlaw16_CountJoins.j1 k x2 x3 x4 x5 x6 false)) else (keelsonlaw16_CountJoins.j1 k x2 x3 x4 x5 x6 false)) else (keelsonlaw16_CountJoins.j1 k x2 x3 x4 x5 x6 false)) else (keelsonlaw16_CountJoins.j1 k x2 x3 x4 x5 x6 false)) else (keelsonlaw16_CountJoins.j1 k x2 x3 x4 x5 x6 false))) else (none))) else (none)))))
def keelsonlaw16_CountJoins.j1 : Nat → List Bool → Int → List Int → Int → Int → Bool → Option (Bool)
  | 0, _, _, _, _, _, _ => none
  | k + 1, x2, x3, x4, x5, x6, x115 => if x115 = true then (none) else (if (x2.length : Int) > 0 then ((count_Weight.f k (([(⟨1, x3⟩ : S40), (⟨(-1), x3⟩ : S40)] : List (S40))) x2).bind fun bt240 => (if bt240.1 = x3 then (if bt240.2 = 0 then (keelsonlaw16_CountJoins.j2 k x2 x4 x5 x6) else (none)) else (none))) else (keelsonlaw16_CountJoins.j2 k x2 x4 x5 x6))
def keelsonlaw16_CountJoins.j2 : Nat → List Bool → List Int → Int → Int → Option (Bool)
  | 0, _, _, _, _ => none
  | k + 1, x2, x4, x5, x6 => keelsonlaw16_CountJoins.l0 k x2 x4 x5 x6 0
def keelsonlaw16_CountJoins.l0 : Nat → List Bool → List Int → Int → Int → Int → Option (Bool)
  | 0, _, _, _, _, _ => none
  | k + 1, x2, x4, x5, x6, x24 => if x24 < (x4.length : Int) then (if 0 ≤ x24 then (if (rd x4 x24) < (wrap64 (-(x2.length : Int))) then (some true) else (if (rd x4 x24) > (x2.length : Int) then (some true) else (if (rd x4 x24) = 0 then (some true) else (keelsonlaw16_CountJoins.l0 k x2 x4 x5 x6 (wrap64 (x24 + 1)))))) else (none)) else ((count_Limit.f k x4 (mn x5 x6)).bind fun bt245 => ((count_Limit.f k x4 (mx x5 x6)).bind fun bt249 => (if bt245.2 = bt249.2 then (if bt245.2 = 0 then ((clause_Holds.f bt245.1 x2).bind fun t253 => (if t253 = true then ((clause_Holds.f bt249.1 x2).bind fun t254 => (some t254)) else (some true))) else (some true)) else (none))))
end
def keelsonlaw16_CountJoins.f (k : Nat) (l0 : List (S40)) (l1 : List (S40)) (l2 : List Bool) (a3 : Int) (l4 : List Int) (a5 : Int) (a6 : Int) : Option (Bool) := (keelsonlaw16_shown.f k).bind fun t219 => (if t219 = true then (if (l0.length : Int) > 200 then (keelsonlaw16_CountJoins.j0 k l0 l1 l2 a3 l4 a5 a6 t219 true) else (if (l1.length : Int) > 200 then (keelsonlaw16_CountJoins.j0 k l0 l1 l2 a3 l4 a5 a6 t219 true) else (if (l2.length : Int) > 60 then (keelsonlaw16_CountJoins.j0 k l0 l1 l2 a3 l4 a5 a6 t219 true) else (keelsonlaw16_CountJoins.j0 k l0 l1 l2 a3 l4 a5 a6 t219 (decide ((l4.length : Int) > 8)))))) else (keelsonlaw16_CountJoins.j0 k l0 l1 l2 a3 l4 a5 a6 t219 true))
theorem keelsonlaw16_CountJoins.mono_l : ∀ k, (∀ y0 y1 y2 y3 y4 y5 y6 y7 y8, LeO (keelsonlaw16_CountJoins.j0 k y0 y1 y2 y3 y4 y5 y6 y7 y8) (keelsonlaw16_CountJoins.j0 (k + 1) y0 y1 y2 y3 y4 y5 y6 y7 y8)) ∧ (∀ y0 y1 y2 y3 y4 y5, LeO (keelsonlaw16_CountJoins.j1 k y0 y1 y2 y3 y4 y5) (keelsonlaw16_CountJoins.j1 (k + 1) y0 y1 y2 y3 y4 y5)) ∧ (∀ y0 y1 y2 y3, LeO (keelsonlaw16_CountJoins.j2 k y0 y1 y2 y3) (keelsonlaw16_CountJoins.j2 (k + 1) y0 y1 y2 y3)) ∧ (∀ y0 y1 y2 y3 y4, LeO (keelsonlaw16_CountJoins.l0 k y0 y1 y2 y3 y4) (keelsonlaw16_CountJoins.l0 (k + 1) y0 y1 y2 y3 y4))
  | 0 => ⟨fun _ _ _ _ _ _ _ _ _ r h => by simp [keelsonlaw16_CountJoins.j0] at h, fun _ _ _ _ _ _ r h => by simp [keelsonlaw16_CountJoins.j1] at h, fun _ _ _ _ r h => by simp [keelsonlaw16_CountJoins.j2] at h, fun _ _ _ _ _ r h => by simp [keelsonlaw16_CountJoins.l0] at h⟩
  | k + 1 => by
    obtain ⟨ih0, ih1, ih2, ih3⟩ := keelsonlaw16_CountJoins.mono_l k
    refine ⟨?_, ?_, ?_, ?_⟩
    · intro y0 y1 y2 y3 y4 y5 y6 y7 y8
      unfold keelsonlaw16_CountJoins.j0
      repeat' first
      | (with_reducible exact ih0 _ _ _ _ _ _ _ _ _)
      | (with_reducible exact ih1 _ _ _ _ _ _)
      | (with_reducible exact ih2 _ _ _ _)
      | (with_reducible exact ih3 _ _ _ _ _)
      | (with_reducible exact count_Limit.mono _ _ _)
      | (with_reducible exact count_Weight.mono _ _ _)
      | (with_reducible exact keelsonlaw16_shown.mono _)
      | (with_reducible exact keelsonlaw16_small.mono _ _)
      | (with_reducible exact LeO.refl _)
      | (with_reducible exact LeO.none _)
      | (with_reducible refine LeO.ite ?_ ?_)
      | (with_reducible refine LeO.bind ?_ (fun _ => ?_))
      | exact ih0 _ _ _ _ _ _ _ _ _
      | exact ih1 _ _ _ _ _ _
      | exact ih2 _ _ _ _
      | exact ih3 _ _ _ _ _
      | exact count_Limit.mono _ _ _
      | exact count_Weight.mono _ _ _
      | exact keelsonlaw16_shown.mono _
      | exact keelsonlaw16_small.mono _ _
      | exact LeO.none _
      | refine LeO.ite ?_ ?_
      | refine LeO.bind ?_ (fun _ => ?_)
    · intro y0 y1 y2 y3 y4 y5
      unfold keelsonlaw16_CountJoins.j1
      repeat' first
      | (with_reducible exact ih0 _ _ _ _ _ _ _ _ _)
      | (with_reducible exact ih1 _ _ _ _ _ _)
      | (with_reducible exact ih2 _ _ _ _)
      | (with_reducible exact ih3 _ _ _ _ _)
      | (with_reducible exact count_Limit.mono _ _ _)
      | (with_reducible exact count_Weight.mono _ _ _)
      | (with_reducible exact keelsonlaw16_shown.mono _)
      | (with_reducible exact keelsonlaw16_small.mono _ _)
      | (with_reducible exact LeO.refl _)
      | (with_reducible exact LeO.none _)
      | (with_reducible refine LeO.ite ?_ ?_)
      | (with_reducible refine LeO.bind ?_ (fun _ => ?_))
      | exact ih0 _ _ _ _ _ _ _ _ _
      | exact ih1 _ _ _ _ _ _
      | exact ih2 _ _ _ _
      | exact ih3 _ _ _ _ _
      | exact count_Limit.mono _ _ _
      | exact count_Weight.mono _ _ _
      | exact keelsonlaw16_shown.mono _
      | exact keelsonlaw16_small.mono _ _
      | exact LeO.none _
      | refine LeO.ite ?_ ?_
      | refine LeO.bind ?_ (fun _ => ?_)
    · intro y0 y1 y2 y3
      unfold keelsonlaw16_CountJoins.j2
      repeat' first
      | (with_reducible exact ih0 _ _ _ _ _ _ _ _ _)
      | (with_reducible exact ih1 _ _ _ _ _ _)
      | (with_reducible exact ih2 _ _ _ _)
      | (with_reducible exact ih3 _ _ _ _ _)
      | (with_reducible exact count_Limit.mono _ _ _)
      | (with_reducible exact count_Weight.mono _ _ _)
      | (with_reducible exact keelsonlaw16_shown.mono _)
      | (with_reducible exact keelsonlaw16_small.mono _ _)
      | (with_reducible exact LeO.refl _)
      | (with_reducible exact LeO.none _)
      | (with_reducible refine LeO.ite ?_ ?_)
      | (with_reducible refine LeO.bind ?_ (fun _ => ?_))
      | exact ih0 _ _ _ _ _ _ _ _ _
      | exact ih1 _ _ _ _ _ _
      | exact ih2 _ _ _ _
      | exact ih3 _ _ _ _ _
      | exact count_Limit.mono _ _ _
      | exact count_Weight.mono _ _ _
      | exact keelsonlaw16_shown.mono _
      | exact keelsonlaw16_small.mono _ _
      | exact LeO.none _
      | refine LeO.ite ?_ ?_
      | refine LeO.bind ?_ (fun _ => ?_)
    · intro y0 y1 y2 y3 y4
      unfold keelsonlaw16_CountJoins.l0
      repeat' first
      | (with_reducible exact ih0 _ _ _ _ _ _ _ _ _)
      | (with_reducible exact ih1 _ _ _ _ _ _)
      | (with_reducible exact ih2 _ _ _ _)
      | (with_reducible exact ih3 _ _ _ _ _)
      | (with_reducible exact count_Limit.mono _ _ _)
      | (with_reducible exact count_Weight.mono _ _ _)
      | (with_reducible exact keelsonlaw16_shown.mono _)
      | (with_reducible exact keelsonlaw16_small.mono _ _)
      | (with_reducible exact LeO.refl _)
      | (with_reducible exact LeO.none _)
      | (with_reducible refine LeO.ite ?_ ?_)
      | (with_reducible refine LeO.bind ?_ (fun _ => ?_))
      | exact ih0 _ _ _ _ _ _ _ _ _
      | exact ih1 _ _ _ _ _ _
      | exact ih2 _ _ _ _
      | exact ih3 _ _ _ _ _
      | exact count_Limit.mono _ _ _
      | exact count_Weight.mono _ _ _
      | exact keelsonlaw16_shown.mono _
      | exact keelsonlaw16_small.mono _ _
      | exact LeO.none _
      | refine LeO.ite ?_ ?_
      | refine LeO.bind ?_ (fun _ => ?_)
theorem keelsonlaw16_CountJoins.mono : ∀ a0 a1 a2 a3 a4 a5 a6 k, LeO (keelsonlaw16_CountJoins.f k a0 a1 a2 a3 a4 a5 a6) (keelsonlaw16_CountJoins.f (k + 1) a0 a1 a2 a3 a4 a5 a6) := by
  intro a0 a1 a2 a3 a4 a5 a6 k
  obtain ⟨ih0, ih1, ih2, ih3⟩ := keelsonlaw16_CountJoins.mono_l k
  unfold keelsonlaw16_CountJoins.f
  repeat' first
      | (with_reducible exact ih0 _ _ _ _ _ _ _ _ _)
      | (with_reducible exact ih1 _ _ _ _ _ _)
      | (with_reducible exact ih2 _ _ _ _)
      | (with_reducible exact ih3 _ _ _ _ _)
      | (with_reducible exact count_Limit.mono _ _ _)
      | (with_reducible exact count_Weight.mono _ _ _)
      | (with_reducible exact keelsonlaw16_shown.mono _)
      | (with_reducible exact keelsonlaw16_small.mono _ _)
      | (with_reducible exact LeO.refl _)
      | (with_reducible exact LeO.none _)
      | (with_reducible refine LeO.ite ?_ ?_)
      | (with_reducible refine LeO.bind ?_ (fun _ => ?_))
      | exact ih0 _ _ _ _ _ _ _ _ _
      | exact ih1 _ _ _ _ _ _
      | exact ih2 _ _ _ _
      | exact ih3 _ _ _ _ _
      | exact count_Limit.mono _ _ _
      | exact count_Weight.mono _ _ _
      | exact keelsonlaw16_shown.mono _
      | exact keelsonlaw16_small.mono _ _
      | exact LeO.none _
      | refine LeO.ite ?_ ?_
      | refine LeO.bind ?_ (fun _ => ?_)
set_option maxHeartbeats 8000000 in
set_option maxRecDepth 100000 in
theorem keelsonlaw16_CountJoins.calls (k : Nat) (A0 : Option Addr) (c0 : Nat) (l0 : List (S40)) (A1 : Option Addr) (c1 : Nat) (l1 : List (S40)) (A2 : Option Addr) (c2 : Nat) (l2 : List Bool) (a3 : Int) (A4 : Option Addr) (c4 : Nat) (l4 : List Int) (a5 : Int) (a6 : Int) (r : Bool) (w : World) (hr0 : Kd.C k40 w A0 l0.length l0) (hc0 : l0.length ≤ c0) (hr1 : Kd.C k40 w A1 l1.length l1) (hc1 : l1.length ≤ c1) (hr2 : Kd.C Kd.bool w A2 l2.length l2) (hc2 : l2.length ≤ c2) (hr4 : Kd.C (Kd.int .i64) w A4 l4.length l4) (hc4 : l4.length ≤ c4) (hG_errOver : GlobErrOver w) (h : keelsonlaw16_CountJoins.f k l0 l1 l2 a3 l4 a5 a6 = some r) :
    Calls Tryd.prog 4 #[.slice A0 l0.length c0, .slice A1 l1.length c1, .slice A2 l2.length c2, .int .i64 a3, .slice A4 l4.length c4, .int .i64 a5, .int .i64 a6] w fun e w' => e = .returned (.bool r) ∧ Below w.heap.size w w' := by
  have hu40 := Tryd.underlying40
  have HG_errOver := Aside0.mk hG_errOver
  clear hG_errOver
  have HR0 := Aside0.mk hr0
  have HC0 := Aside0.mk hc0
  clear hr0 hc0
  have HR1 := Aside0.mk hr1
  have HC1 := Aside0.mk hc1
  clear hr1 hc1
  have HR2 := Aside0.mk hr2
  have HC2 := Aside0.mk hc2
  clear hr2 hc2
  have HR4 := Aside0.mk hr4
  have HC4 := Aside0.mk hc4
  clear hr4 hc4
  have HB := Aside0.mk (Below.refl w.heap.size w)
  have H : ((keelsonlaw16_shown.f k).bind fun t219 => (if t219 = true then (if (l0.length : Int) > 200 then (keelsonlaw16_CountJoins.j0 k l0 l1 l2 a3 l4 a5 a6 t219 true) else (if (l1.length : Int) > 200 then (keelsonlaw16_CountJoins.j0 k l0 l1 l2 a3 l4 a5 a6 t219 true) else (if (l2.length : Int) > 60 then (keelsonlaw16_CountJoins.j0 k l0 l1 l2 a3 l4 a5 a6 t219 true) else (keelsonlaw16_CountJoins.j0 k l0 l1 l2 a3 l4 a5 a6 t219 (decide ((l4.length : Int) > 8)))))) else (keelsonlaw16_CountJoins.j0 k l0 l1 l2 a3 l4 a5 a6 t219 true))) = some r := h
  clear h
  replace H := Option.bind_eq_some_iff.mp H
  obtain ⟨t219, A80, H⟩ := H
  replace H : (if t219 = true then (if (l0.length : Int) > 200 then (keelsonlaw16_CountJoins.j0 k l0 l1 l2 a3 l4 a5 a6 t219 true) else (if (l1.length : Int) > 200 then (keelsonlaw16_CountJoins.j0 k l0 l1 l2 a3 l4 a5 a6 t219 true) else (if (l2.length : Int) > 60 then (keelsonlaw16_CountJoins.j0 k l0 l1 l2 a3 l4 a5 a6 t219 true) else (keelsonlaw16_CountJoins.j0 k l0 l1 l2 a3 l4 a5 a6 t219 (decide ((l4.length : Int) > 8)))))) else (keelsonlaw16_CountJoins.j0 k l0 l1 l2 a3 l4 a5 a6 t219 true)) = some r := H
  have A8 := Aside0.mk A80
  clear A80
  have HC9 := Aside0.mk H
  clear H
  go_enter Tryd.func4, Tryd.ntmps4
  go_upto_region 2 with (first | ((with_reducible refine gate_callee (f := 11) rfl ?_); refine goesL_ (some 29) rfl rfl Tryd.func11 (by kernel_rfl) rfl #[] rfl (by (try simp only [List.map_toArray, List.map_cons, List.map_nil]); first | done | rfl | (simp only [List.length_drop, List.length_take]; rfl)) ?_; (with_reducible refine (keelsonlaw16_shown.calls k  t219 _ ?side1 A8.out).mono ?_); (case side1 => exact HG_errOver.out.below (by repeat (first | (with_reducible first | exact HB.out | apply below_alloc | apply pw_below_drewN | apply below_drew1) | exact HB.out))); rintro e w10 ⟨rfl, hb⟩; refine ⟨_, rfl, ?_⟩; have n0_ := Aside0.mk (below_step (by repeat (first | (with_reducible first | exact HB.out | apply below_alloc | apply pw_below_drewN | apply below_drew1) | exact HB.out)) hb); clear HB; have HB := n0_; clear n0_; (try clear hb); (try clear hb2); (try clear hk); (try clear hi)))
  (try simp only [Act.put, List.setIfInBounds_toArray, List.set_cons_zero, List.set_cons_succ])
  go_cut [51] (fun v51 wc => ∃ (kq : Nat) (x51_8 : Bool), v51 = .bool x51_8 ∧ Aside0 (keelsonlaw16_CountJoins.j0 kq l0 l1 l2 a3 l4 a5 a6 t219 x51_8 = some r) ∧ Aside0 (kq ≤ k) ∧ Aside0 (Below w.heap.size w wc))
  case first => as_aux_lemma =>
    have H := HC9.out
    clear HC9
    by_cases c11 : t219 = true
    · subst c11
      have H1 : (if (l0.length : Int) > 200 then (keelsonlaw16_CountJoins.j0 k l0 l1 l2 a3 l4 a5 a6 true true) else (if (l1.length : Int) > 200 then (keelsonlaw16_CountJoins.j0 k l0 l1 l2 a3 l4 a5 a6 true true) else (if (l2.length : Int) > 60 then (keelsonlaw16_CountJoins.j0 k l0 l1 l2 a3 l4 a5 a6 true true) else (keelsonlaw16_CountJoins.j0 k l0 l1 l2 a3 l4 a5 a6 true (decide ((l4.length : Int) > 8)))))) = some r := by rw [if_pos rfl] at H; exact H
      clear H
      have H := H1
      clear H1
      by_cases c12 : (l0.length : Int) > 200
      · rw [if_pos c12] at H
        have c12b0 : decide (200 < (l0.length : Int)) = true := decide_eq_true c12
        have c12b1 : decide (200 < l0.length) = true := decide_eq_true (by omega)
        clear c12
        (first | rw [c12b0] | (simp only [i64_w, i32_w]; rw [c12b0]) | rw [c12b1] | skip)
        have H' := Aside0.mk H
        clear H
        go_wp2
        go_meet
        case rel => exact ⟨_, (true), (by first | rfl | (simp; done) | (simp [*]; done)), H', ⟨by first | omega | exact Nat.le_refl _⟩, ⟨by repeat (first | (with_reducible first | exact HB.out | apply below_alloc | apply pw_below_drewN | apply below_drew1) | exact HB.out)⟩⟩
      · rw [if_neg c12] at H
        have c12b0 : decide (200 < (l0.length : Int)) = false := decide_eq_false c12
        have c12b1 : decide (200 < l0.length) = false := decide_eq_false (by omega)
        clear c12
        (first | rw [c12b0] | (simp only [i64_w, i32_w]; rw [c12b0]) | rw [c12b1] | skip)
        by_cases c13 : (l1.length : Int) > 200
        · rw [if_pos c13] at H
          have c13b0 : decide (200 < (l1.length : Int)) = true := decide_eq_true c13
          have c13b1 : decide (200 < l1.length) = true := decide_eq_true (by omega)
          clear c13
          have H' := Aside0.mk H
          clear H
          go_wp2
          go_meet
          case rel => exact ⟨_, (true), (by first | rfl | (simp; done) | (simp [*]; done)), H', ⟨by first | omega | exact Nat.le_refl _⟩, ⟨by repeat (first | (with_reducible first | exact HB.out | apply below_alloc | apply pw_below_drewN | apply below_drew1) | exact HB.out)⟩⟩
        · rw [if_neg c13] at H
          have c13b0 : decide (200 < (l1.length : Int)) = false := decide_eq_false c13
          have c13b1 : decide (200 < l1.length) = false := decide_eq_false (by omega)
          clear c13
          by_cases c14 : (l2.length : Int) > 60
          · rw [if_pos c14] at H
            have c14b0 : decide (60 < (l2.length : Int)) = true := decide_eq_true c14
            have c14b1 : decide (60 < l2.length) = true := decide_eq_true (by omega)
            clear c14
            have H' := Aside0.mk H
            clear H
            go_wp2
            go_meet
            case rel => exact ⟨_, (true), (by first | rfl | (simp; done) | (simp [*]; done)), H', ⟨by first | omega | exact Nat.le_refl _⟩, ⟨by repeat (first | (with_reducible first | exact HB.out | apply below_alloc | apply pw_below_drewN | apply below_drew1) | exact HB.out)⟩⟩
          · rw [if_neg c14] at H
            have c14b0 : decide (60 < (l2.length : Int)) = false := decide_eq_false c14
            have c14b1 : decide (60 < l2.length) = false := decide_eq_false (by omega)
            clear c14
            have H' := Aside0.mk H
            clear H
            go_wp2
            go_meet
            case rel => exact ⟨_, (decide ((l4.length : Int) > 8)), (by first | rfl | (simp; done) | (simp [*]; done)), H', ⟨by first | omega | exact Nat.le_refl _⟩, ⟨by repeat (first | (with_reducible first | exact HB.out | apply below_alloc | apply pw_below_drewN | apply below_drew1) | exact HB.out)⟩⟩
    · replace c11 := Bool.eq_false_iff.mpr c11
      subst c11
      have H1 : (keelsonlaw16_CountJoins.j0 k l0 l1 l2 a3 l4 a5 a6 false true) = some r := by rw [if_neg (show ¬ (false = true) by decide)] at H; exact H
      clear H
      have H := H1
      clear H1
      have H' := Aside0.mk H
      clear H
      go_wp2
      go_meet
      case rel => exact ⟨_, (true), (by first | rfl | (simp; done) | (simp [*]; done)), H', ⟨by first | omega | exact Nat.le_refl _⟩, ⟨by repeat (first | (with_reducible first | exact HB.out | apply below_alloc | apply pw_below_drewN | apply below_drew1) | exact HB.out)⟩⟩
  case rest => as_aux_lemma =>
    clear HC9
    try clear c1
    try clear c2
    try clear p2
    try clear c4
    try clear c11
    try clear c12
    try clear c12b0
    try clear c12b1
    try clear c13
    try clear c13b0
    try clear c13b1
    try clear c14
    try clear c14b0
    try clear c14b1
    obtain ⟨kq, x51_8, rfl, HA, HJ8, HB⟩ := hcut
    cases kq with
    | zero => exact absurd HA.out (by simp [keelsonlaw16_CountJoins.j0])
    | succ kj8 =>
      have H := HA.out
      clear HA
      simp only [keelsonlaw16_CountJoins.j0] at H
      by_cases c15 : x51_8 = true
      · subst c15
        have H1 : (some t219) = some r := by rw [if_pos rfl] at H; exact H
        clear H
        have H := H1
        clear H1
        obtain rfl := Option.some.inj H
        go_wp2
        go_ret
        exact ⟨by first | rfl | (simp [errW_none, errW_some] <;> rfl) | (simp [*, errW_none, errW_some] <;> rfl), by repeat (first | (with_reducible first | exact HB.out | apply below_alloc | apply pw_below_drewN | apply below_drew1) | exact HB.out)⟩
      · replace c15 := Bool.eq_false_iff.mpr c15
        subst c15
        have H1 : ((count_Weight.f kj8 l0 l2).bind fun bt220 => ((count_Weight.f kj8 l1 l2).bind fun bt222 => ((some (([] : List (S40)) : List (S40))).bind fun y224 => (if y224.length + l0.length < 8796093022208 then ((some (y224 ++ l0 : List (S40))).bind fun y227 => (if y227.length + l1.length < 8796093022208 then ((count_Weight.f kj8 (y227 ++ l1) l2).bind fun bt233 => (if bt220.2 = 0 then (if bt222.2 = 0 then (if bt220.1 ≥ 0 then (if bt222.1 ≥ 0 then (if bt220.1 < 1152921504606846976 then (if bt222.1 < 1152921504606846976 then ((keelsonlaw16_small.f kj8 l0).bind fun t235 => (if t235 = true then ((keelsonlaw16_small.f kj8 l1).bind fun t236 => (if t236 = true then (if bt233.1 = (wrap64 (bt220.1 + bt222.1)) then (keelsonlaw16_CountJoins.j1 kj8 l2 a3 l4 a5 a6 (bt233.2 != 0)) else (keelsonlaw16_CountJoins.j1 kj8 l2 a3 l4 a5 a6 true)) else (keelsonlaw16_CountJoins.j1 kj8 l2 a3 l4 a5 a6 false))) else (keelsonlaw16_CountJoins.j1 kj8 l2 a3 l4 a5 a6 false))) else (keelsonlaw16_CountJoins.j1 kj8 l2 a3 l4 a5 a6 false)) else (keelsonlaw16_CountJoins.j1 kj8 l2 a3 l4 a5 a6 false)) else (keelsonlaw16_CountJoins.j1 kj8 l2 a3 l4 a5 a6 false)) else (keelsonlaw16_CountJoins.j1 kj8 l2 a3 l4 a5 a6 false)) else (keelsonlaw16_CountJoins.j1 kj8 l2 a3 l4 a5 a6 false)) else (keelsonlaw16_CountJoins.j1 kj8 l2 a3 l4 a5 a6 false))) else (none))) else (none))))) = some r := by rw [if_neg (show ¬ (false = true) by decide)] at H; exact H
        clear H
        have H := H1
        clear H1
        replace H := Option.bind_eq_some_iff.mp H
        obtain ⟨⟨t220, t221⟩, A160, H⟩ := H
        replace H : ((count_Weight.f kj8 l1 l2).bind fun bt222 => ((some (([] : List (S40)) : List (S40))).bind fun y224 => (if y224.length + l0.length < 8796093022208 then ((some (y224 ++ l0 : List (S40))).bind fun y227 => (if y227.length + l1.length < 8796093022208 then ((count_Weight.f kj8 (y227 ++ l1) l2).bind fun bt233 => (if t221 = 0 then (if bt222.2 = 0 then (if t220 ≥ 0 then (if bt222.1 ≥ 0 then (if t220 < 1152921504606846976 then (if bt222.1 < 1152921504606846976 then ((keelsonlaw16_small.f kj8 l0).bind fun t235 => (if t235 = true then ((keelsonlaw16_small.f kj8 l1).bind fun t236 => (if t236 = true then (if bt233.1 = (wrap64 (t220 + bt222.1)) then (keelsonlaw16_CountJoins.j1 kj8 l2 a3 l4 a5 a6 (bt233.2 != 0)) else (keelsonlaw16_CountJoins.j1 kj8 l2 a3 l4 a5 a6 true)) else (keelsonlaw16_CountJoins.j1 kj8 l2 a3 l4 a5 a6 false))) else (keelsonlaw16_CountJoins.j1 kj8 l2 a3 l4 a5 a6 false))) else (keelsonlaw16_CountJoins.j1 kj8 l2 a3 l4 a5 a6 false)) else (keelsonlaw16_CountJoins.j1 kj8 l2 a3 l4 a5 a6 false)) else (keelsonlaw16_CountJoins.j1 kj8 l2 a3 l4 a5 a6 false)) else (keelsonlaw16_CountJoins.j1 kj8 l2 a3 l4 a5 a6 false)) else (keelsonlaw16_CountJoins.j1 kj8 l2 a3 l4 a5 a6 false)) else (keelsonlaw16_CountJoins.j1 kj8 l2 a3 l4 a5 a6 false))) else (none))) else (none)))) = some r := H
        have A16 := Aside0.mk A160
        clear A160
        replace H := Option.bind_eq_some_iff.mp H
        obtain ⟨⟨t222, t223⟩, A170, H⟩ := H
        replace H : ((some (([] : List (S40)) : List (S40))).bind fun y224 => (if y224.length + l0.length < 8796093022208 then ((some (y224 ++ l0 : List (S40))).bind fun y227 => (if y227.length + l1.length < 8796093022208 then ((count_Weight.f kj8 (y227 ++ l1) l2).bind fun bt233 => (if t221 = 0 then (if t223 = 0 then (if t220 ≥ 0 then (if t222 ≥ 0 then (if t220 < 1152921504606846976 then (if t222 < 1152921504606846976 then ((keelsonlaw16_small.f kj8 l0).bind fun t235 => (if t235 = true then ((keelsonlaw16_small.f kj8 l1).bind fun t236 => (if t236 = true then (if bt233.1 = (wrap64 (t220 + t222)) then (keelsonlaw16_CountJoins.j1 kj8 l2 a3 l4 a5 a6 (bt233.2 != 0)) else (keelsonlaw16_CountJoins.j1 kj8 l2 a3 l4 a5 a6 true)) else (keelsonlaw16_CountJoins.j1 kj8 l2 a3 l4 a5 a6 false))) else (keelsonlaw16_CountJoins.j1 kj8 l2 a3 l4 a5 a6 false))) else (keelsonlaw16_CountJoins.j1 kj8 l2 a3 l4 a5 a6 false)) else (keelsonlaw16_CountJoins.j1 kj8 l2 a3 l4 a5 a6 false)) else (keelsonlaw16_CountJoins.j1 kj8 l2 a3 l4 a5 a6 false)) else (keelsonlaw16_CountJoins.j1 kj8 l2 a3 l4 a5 a6 false)) else (keelsonlaw16_CountJoins.j1 kj8 l2 a3 l4 a5 a6 false)) else (keelsonlaw16_CountJoins.j1 kj8 l2 a3 l4 a5 a6 false))) else (none))) else (none))) = some r := H
        have A17 := Aside0.mk A170
        clear A170
        obtain ⟨y224, hy224⟩ : ∃ y_ : List (S40), y_ = (([] : List (S40))) := ⟨_, rfl⟩
        replace H : (if y224.length + l0.length < 8796093022208 then ((some (y224 ++ l0 : List (S40))).bind fun y227 => (if y227.length + l1.length < 8796093022208 then ((count_Weight.f kj8 (y227 ++ l1) l2).bind fun bt233 => (if t221 = 0 then (if t223 = 0 then (if t220 ≥ 0 then (if t222 ≥ 0 then (if t220 < 1152921504606846976 then (if t222 < 1152921504606846976 then ((keelsonlaw16_small.f kj8 l0).bind fun t235 => (if t235 = true then ((keelsonlaw16_small.f kj8 l1).bind fun t236 => (if t236 = true then (if bt233.1 = (wrap64 (t220 + t222)) then (keelsonlaw16_CountJoins.j1 kj8 l2 a3 l4 a5 a6 (bt233.2 != 0)) else (keelsonlaw16_CountJoins.j1 kj8 l2 a3 l4 a5 a6 true)) else (keelsonlaw16_CountJoins.j1 kj8 l2 a3 l4 a5 a6 false))) else (keelsonlaw16_CountJoins.j1 kj8 l2 a3 l4 a5 a6 false))) else (keelsonlaw16_CountJoins.j1 kj8 l2 a3 l4 a5 a6 false)) else (keelsonlaw16_CountJoins.j1 kj8 l2 a3 l4 a5 a6 false)) else (keelsonlaw16_CountJoins.j1 kj8 l2 a3 l4 a5 a6 false)) else (keelsonlaw16_CountJoins.j1 kj8 l2 a3 l4 a5 a6 false)) else (keelsonlaw16_CountJoins.j1 kj8 l2 a3 l4 a5 a6 false)) else (keelsonlaw16_CountJoins.j1 kj8 l2 a3 l4 a5 a6 false))) else (none))) else (none)) = some r := by first | (rw [hy224]; with_reducible exact H) | (have H2_ := (Option.bind_some _ _).symm.trans H; rw [hy224]; with_reducible exact H2_) | (have H2_ := (Option.bind_some _ _).symm.trans H; with_reducible exact H2_) | with_reducible exact H | (rw [hy224]; exact H) | exact H
        have Ny224 := Aside0.mk hy224
        clear hy224
        by_cases c18 : y224.length + l0.length < 8796093022208
        · rw [if_pos c18] at H
          have LMc18 := Aside0.mk c18
          clear c18
          obtain ⟨y227, hy227⟩ : ∃ y_ : List (S40), y_ = (y224 ++ l0) := ⟨_, rfl⟩
          replace H : (if y227.length + l1.length < 8796093022208 then ((count_Weight.f kj8 (y227 ++ l1) l2).bind fun bt233 => (if t221 = 0 then (if t223 = 0 then (if t220 ≥ 0 then (if t222 ≥ 0 then (if t220 < 1152921504606846976 then (if t222 < 1152921504606846976 then ((keelsonlaw16_small.f kj8 l0).bind fun t235 => (if t235 = true then ((keelsonlaw16_small.f kj8 l1).bind fun t236 => (if t236 = true then (if bt233.1 = (wrap64 (t220 + t222)) then (keelsonlaw16_CountJoins.j1 kj8 l2 a3 l4 a5 a6 (bt233.2 != 0)) else (keelsonlaw16_CountJoins.j1 kj8 l2 a3 l4 a5 a6 true)) else (keelsonlaw16_CountJoins.j1 kj8 l2 a3 l4 a5 a6 false))) else (keelsonlaw16_CountJoins.j1 kj8 l2 a3 l4 a5 a6 false))) else (keelsonlaw16_CountJoins.j1 kj8 l2 a3 l4 a5 a6 false)) else (keelsonlaw16_CountJoins.j1 kj8 l2 a3 l4 a5 a6 false)) else (keelsonlaw16_CountJoins.j1 kj8 l2 a3 l4 a5 a6 false)) else (keelsonlaw16_CountJoins.j1 kj8 l2 a3 l4 a5 a6 false)) else (keelsonlaw16_CountJoins.j1 kj8 l2 a3 l4 a5 a6 false)) else (keelsonlaw16_CountJoins.j1 kj8 l2 a3 l4 a5 a6 false))) else (none)) = some r := by first | (rw [hy227]; with_reducible exact H) | (have H2_ := (Option.bind_some _ _).symm.trans H; rw [hy227]; with_reducible exact H2_) | (have H2_ := (Option.bind_some _ _).symm.trans H; with_reducible exact H2_) | with_reducible exact H | (rw [hy227]; exact H) | exact H
          have Ny227 := Aside0.mk hy227
          clear hy227
          by_cases c19 : y227.length + l1.length < 8796093022208
          · rw [if_pos c19] at H
            have LMc19 := Aside0.mk c19
            clear c19
            obtain ⟨y230, hy230⟩ : ∃ y_ : List (S40), y_ = (y227 ++ l1) := ⟨_, rfl⟩
            replace H : ((count_Weight.f kj8 y230 l2).bind fun bt233 => (if t221 = 0 then (if t223 = 0 then (if t220 ≥ 0 then (if t222 ≥ 0 then (if t220 < 1152921504606846976 then (if t222 < 1152921504606846976 then ((keelsonlaw16_small.f kj8 l0).bind fun t235 => (if t235 = true then ((keelsonlaw16_small.f kj8 l1).bind fun t236 => (if t236 = true then (if bt233.1 = (wrap64 (t220 + t222)) then (keelsonlaw16_CountJoins.j1 kj8 l2 a3 l4 a5 a6 (bt233.2 != 0)) else (keelsonlaw16_CountJoins.j1 kj8 l2 a3 l4 a5 a6 true)) else (keelsonlaw16_CountJoins.j1 kj8 l2 a3 l4 a5 a6 false))) else (keelsonlaw16_CountJoins.j1 kj8 l2 a3 l4 a5 a6 false))) else (keelsonlaw16_CountJoins.j1 kj8 l2 a3 l4 a5 a6 false)) else (keelsonlaw16_CountJoins.j1 kj8 l2 a3 l4 a5 a6 false)) else (keelsonlaw16_CountJoins.j1 kj8 l2 a3 l4 a5 a6 false)) else (keelsonlaw16_CountJoins.j1 kj8 l2 a3 l4 a5 a6 false)) else (keelsonlaw16_CountJoins.j1 kj8 l2 a3 l4 a5 a6 false)) else (keelsonlaw16_CountJoins.j1 kj8 l2 a3 l4 a5 a6 false))) = some r := by first | (rw [hy230]; with_reducible exact H) | (have H2_ := (Option.bind_some _ _).symm.trans H; rw [hy230]; with_reducible exact H2_) | (have H2_ := (Option.bind_some _ _).symm.trans H; with_reducible exact H2_) | with_reducible exact H | (rw [hy230]; exact H) | exact H
            have Ny230 := Aside0.mk hy230
            clear hy230
            replace H := Option.bind_eq_some_iff.mp H
            obtain ⟨⟨t233, t234⟩, A200, H⟩ := H
            replace H : (if t221 = 0 then (if t223 = 0 then (if t220 ≥ 0 then (if t222 ≥ 0 then (if t220 < 1152921504606846976 then (if t222 < 1152921504606846976 then ((keelsonlaw16_small.f kj8 l0).bind fun t235 => (if t235 = true then ((keelsonlaw16_small.f kj8 l1).bind fun t236 => (if t236 = true then (if t233 = (wrap64 (t220 + t222)) then (keelsonlaw16_CountJoins.j1 kj8 l2 a3 l4 a5 a6 (t234 != 0)) else (keelsonlaw16_CountJoins.j1 kj8 l2 a3 l4 a5 a6 true)) else (keelsonlaw16_CountJoins.j1 kj8 l2 a3 l4 a5 a6 false))) else (keelsonlaw16_CountJoins.j1 kj8 l2 a3 l4 a5 a6 false))) else (keelsonlaw16_CountJoins.j1 kj8 l2 a3 l4 a5 a6 false)) else (keelsonlaw16_CountJoins.j1 kj8 l2 a3 l4 a5 a6 false)) else (keelsonlaw16_CountJoins.j1 kj8 l2 a3 l4 a5 a6 false)) else (keelsonlaw16_CountJoins.j1 kj8 l2 a3 l4 a5 a6 false)) else (keelsonlaw16_CountJoins.j1 kj8 l2 a3 l4 a5 a6 false)) else (keelsonlaw16_CountJoins.j1 kj8 l2 a3 l4 a5 a6 false)) = some r := H
            have A20 := Aside0.mk A200
            clear A200
            have HC21 := Aside0.mk H
            clear H
            go_upto_region 7 with (first | ((with_reducible refine gate_callee (f := 18) rfl ?_); refine goesL_ (some 56) rfl rfl Tryd.func18 (by kernel_rfl) rfl #[.slice A0 l0.length c0, .slice A2 l2.length c2] rfl (by (try simp only [List.map_toArray, List.map_cons, List.map_nil]); first | done | rfl | (simp only [List.length_drop, List.length_take]; rfl)) ?_; (with_reducible refine (count_Weight.calls kj8 _ _ l0 _ _ l2 t220 t221 _ ?side1 ?side2 ?side3 ?side4 ?side5 A16.out).mono ?_); (case side1 => repeat (first | exact (Kd.C_below HR0.out HB.out) | (with_reducible refine Kd.C_alloc ?_ _) | (with_reducible refine Kd.C_drewN ?_ _) | (with_reducible refine Kd.C_drew ?_))); (case side2 => exact HC0.out); (case side3 => repeat (first | exact (Kd.C_below HR2.out HB.out) | (with_reducible refine Kd.C_alloc ?_ _) | (with_reducible refine Kd.C_drewN ?_ _) | (with_reducible refine Kd.C_drew ?_))); (case side4 => exact HC2.out); (case side5 => exact HG_errOver.out.below (by repeat (first | (with_reducible first | exact HB.out | apply below_alloc | apply pw_below_drewN | apply below_drew1) | exact HB.out))); rintro e w22 ⟨rfl, hb⟩; refine ⟨_, rfl, ?_⟩; have n0_ := Aside0.mk (below_step (by repeat (first | (with_reducible first | exact HB.out | apply below_alloc | apply pw_below_drewN | apply below_drew1) | exact HB.out)) hb); clear HB; have HB := n0_; clear n0_; (try clear hb); (try clear hb2); (try clear hk); (try clear hi)) | ((with_reducible refine gate_callee (f := 18) rfl ?_); refine goesL_ (some 62) rfl rfl Tryd.func18 (by kernel_rfl) rfl #[.slice A1 l1.length c1, .slice A2 l2.length c2] rfl (by (try simp only [List.map_toArray, List.map_cons, List.map_nil]); first | done | rfl | (simp only [List.length_drop, List.length_take]; rfl)) ?_; (with_reducible refine (count_Weight.calls kj8 _ _ l1 _ _ l2 t222 t223 _ ?side1 ?side2 ?side3 ?side4 ?side5 A17.out).mono ?_); (case side1 => repeat (first | exact (Kd.C_below HR1.out HB.out) | (with_reducible refine Kd.C_alloc ?_ _) | (with_reducible refine Kd.C_drewN ?_ _) | (with_reducible refine Kd.C_drew ?_))); (case side2 => exact HC1.out); (case side3 => repeat (first | exact (Kd.C_below HR2.out HB.out) | (with_reducible refine Kd.C_alloc ?_ _) | (with_reducible refine Kd.C_drewN ?_ _) | (with_reducible refine Kd.C_drew ?_))); (case side4 => exact HC2.out); (case side5 => exact HG_errOver.out.below (by repeat (first | (with_reducible first | exact HB.out | apply below_alloc | apply pw_below_drewN | apply below_drew1) | exact HB.out))); rintro e w23 ⟨rfl, hb⟩; refine ⟨_, rfl, ?_⟩; have n0_ := Aside0.mk (below_step (by repeat (first | (with_reducible first | exact HB.out | apply below_alloc | apply pw_below_drewN | apply below_drew1) | exact HB.out)) hb); clear HB; have HB := n0_; clear n0_; (try clear hb); (try clear hb2); (try clear hk); (try clear hi)) | ((with_reducible refine gate_dst (N := 66) rfl ?_); (try (refine gate_guard (by rfl) ?_; dsimp only)); refine Kd.R_lit k40 _ 40 ?hg (N := 66) ?hd (xs := ([] : List (S40))) (inner := []) (ok := fun _ => True) (okp := fun _ => True) ?hr ?hp (fun _ hk => hk) trivial (Below.refl _ _) (Nat.le_refl _) (by simp) ?_; (case hd => rfl); (case hg => rfl); (case hr => first | (go_simp; done) | (go_simp; rfl)); (case hp => exact (Reps.none _ _)); intro v225 w24 ho25 hb hg_ hnew_; clear hg_ hnew_; (first | rw [← Ny224.out] at ho25 | (simp only [Int.reduceToNat] at ho25; rw [← Ny224.out] at ho25)); have n0_ := Aside0.mk (Kd.R_lower ho25 (below_size (by repeat (first | (with_reducible first | exact HB.out | apply below_alloc | apply pw_below_drewN | apply below_drew1) | exact HB.out)))); have n1_ := Aside0.mk (below_step (by repeat (first | (with_reducible first | exact HB.out | apply below_alloc | apply pw_below_drewN | apply below_drew1) | exact HB.out)) hb); clear HB; have HO226 := n0_; have HB := n1_; clear n0_ n1_; clear hb ho25) | ((with_reducible refine gate_builtin (b := .append) (xs := #[.tmp 66, .tmp 67]) rfl ?_); (try (refine gate_guard (by rfl) ?_; dsimp only)); at_builtin; refine Kd.R_append_rows k40 (w0 := w) w.heap.size rfl (.tmp 66) (.tmp 67) 35 40 (.agg #[(.int .i64 0), (.int .i64 0)]) 16 rfl Tryd.underlying35 info40 rfl (by decide) (by omega) v225 y224 l0 _ _ _ (fun _ => True) (fun _ => False) rfl rfl ?aO ?aR (fun _ _ h => h) (fun _ h => h.elim) ?aF ?aB ?aS ?aL ?_; (case aR => repeat (first | exact (Kd.C_below HR0.out HB.out) | (with_reducible refine Kd.C_alloc ?_ _) | (with_reducible refine Kd.C_drewN ?_ _) | (with_reducible refine Kd.C_drew ?_))); (case aB => exact (by repeat (first | (with_reducible first | exact HB.out | apply below_alloc | apply pw_below_drewN | apply below_drew1) | exact HB.out))); (case aF => exact (fun _ _ => trivial)); (case aO => exact (by (with_reducible repeat (first | apply Kd.R_alloc | apply Kd.R_drewN | apply Kd.R_drew)); exact HO226.out)); (case aS => exact (below_size (by repeat (first | (with_reducible first | exact HB.out | apply below_alloc | apply pw_below_drewN | apply below_drew1) | exact HB.out)))); (case aL => have := LMc18.out; omega); intro v228 w26 ho hb hg hat; rw [← Ny227.out] at ho; have n0_ := Aside0.mk (hb); have n1_ := Aside0.mk (ho); clear HB; clear HO226; have HB := n0_; have HO229 := n1_; clear n0_ n1_; clear ho hb hg hat) | ((with_reducible refine gate_builtin (b := .append) (xs := #[.tmp 68, .tmp 69]) rfl ?_); (try (refine gate_guard (by rfl) ?_; dsimp only)); at_builtin; refine Kd.R_append_rows k40 (w0 := w) w.heap.size rfl (.tmp 68) (.tmp 69) 35 40 (.agg #[(.int .i64 0), (.int .i64 0)]) 16 rfl Tryd.underlying35 info40 rfl (by decide) (by omega) v228 y227 l1 _ _ _ (fun _ => True) (fun _ => False) rfl rfl ?aO ?aR (fun _ _ h => h) (fun _ h => h.elim) ?aF ?aB ?aS ?aL ?_; (case aR => repeat (first | exact (Kd.C_below HR1.out HB.out) | (with_reducible refine Kd.C_alloc ?_ _) | (with_reducible refine Kd.C_drewN ?_ _) | (with_reducible refine Kd.C_drew ?_))); (case aB => exact (by repeat (first | (with_reducible first | exact HB.out | apply below_alloc | apply pw_below_drewN | apply below_drew1) | exact HB.out))); (case aF => exact (fun _ _ => trivial)); (case aO => exact (by (with_reducible repeat (first | apply Kd.R_alloc | apply Kd.R_drewN | apply Kd.R_drew)); exact HO229.out)); (case aS => exact (below_size (by repeat (first | (with_reducible first | exact HB.out | apply below_alloc | apply pw_below_drewN | apply below_drew1) | exact HB.out)))); (case aL => have := LMc19.out; omega); intro v231 w27 ho hb hg hat; rw [← Ny230.out] at ho; have n0_ := Aside0.mk (hb); have n1_ := Aside0.mk (ho); clear HB; clear HO229; have HB := n0_; have HO232 := n1_; clear n0_ n1_; clear ho hb hg hat; obtain ⟨Ao28, co28, eo28⟩ := Kd.R_slice HO232.out; subst eo28) | ((with_reducible refine gate_callee (f := 18) rfl ?_); refine goesL_ (some 72) rfl rfl Tryd.func18 (by kernel_rfl) rfl #[.slice Ao28 y230.length co28, .slice A2 l2.length c2] rfl (by (try simp only [List.map_toArray, List.map_cons, List.map_nil]); first | done | rfl | (simp only [List.length_drop, List.length_take]; rfl)) ?_; (with_reducible refine (count_Weight.calls kj8 _ _ y230 _ _ l2 t233 t234 _ ?side1 ?side2 ?side3 ?side4 ?side5 A20.out).mono ?_); (case side1 => repeat (first | exact (Kd.R_reads' HO232.out).2.2 | (with_reducible refine Kd.C_alloc ?_ _) | (with_reducible refine Kd.C_drewN ?_ _) | (with_reducible refine Kd.C_drew ?_))); (case side2 => exact (Kd.R_reads' HO232.out).2.1); (case side3 => repeat (first | exact (Kd.C_below HR2.out HB.out) | (with_reducible refine Kd.C_alloc ?_ _) | (with_reducible refine Kd.C_drewN ?_ _) | (with_reducible refine Kd.C_drew ?_))); (case side4 => exact HC2.out); (case side5 => exact HG_errOver.out.below (by repeat (first | (with_reducible first | exact HB.out | apply below_alloc | apply pw_below_drewN | apply below_drew1) | exact HB.out))); rintro e w29 ⟨rfl, hb⟩; refine ⟨_, rfl, ?_⟩; have n0_ := Aside0.mk (Kd.R_below (by (with_reducible repeat (first | apply Kd.R_alloc | apply Kd.R_drewN | apply Kd.R_drew)); exact HO232.out) hb); have n1_ := Aside0.mk (below_step (by repeat (first | (with_reducible first | exact HB.out | apply below_alloc | apply pw_below_drewN | apply below_drew1) | exact HB.out)) hb); clear HO232; clear HB; have HO232 := n0_; have HB := n1_; clear n0_ n1_; (try clear hb); (try clear hb2); (try clear hk); (try clear hi)))
            (try simp only [Act.put, List.setIfInBounds_toArray, List.set_cons_zero, List.set_cons_succ])
            go_cut [115] (fun v115 wc => ∃ (kq : Nat) (x115_20 : Bool), v115 = .bool x115_20 ∧ Aside0 (keelsonlaw16_CountJoins.j1 kq l2 a3 l4 a5 a6 x115_20 = some r) ∧ Aside0 (kq ≤ kj8) ∧ Aside0 (Below w.heap.size w wc))
            case first => as_aux_lemma =>
              have H := HC21.out
              clear HC21
              by_cases c30 : t221 = 0
              · rw [if_pos c30] at H
                have c30b0 : (t221 == 0) = true := beq_iff_eq.mpr c30
                have c30b1 : (t221 != 0) = false := bne_eq_false_iff_eq.mpr c30
                clear c30
                (first | rw [c30b0] | (simp only [i64_w, i32_w]; rw [c30b0]) | rw [c30b1] | skip)
                by_cases c31 : t223 = 0
                · rw [if_pos c31] at H
                  have c31b0 : (t223 == 0) = true := beq_iff_eq.mpr c31
                  have c31b1 : (t223 != 0) = false := bne_eq_false_iff_eq.mpr c31
                  clear c31
                  by_cases c32 : t220 ≥ 0
                  · rw [if_pos c32] at H
                    have c32b0 : decide (0 ≤ t220) = true := decide_eq_true c32
                    clear c32
                    by_cases c33 : t222 ≥ 0
                    · rw [if_pos c33] at H
                      have c33b0 : decide (0 ≤ t222) = true := decide_eq_true c33
                      clear c33
                      by_cases c34 : t220 < 1152921504606846976
                      · rw [if_pos c34] at H
                        have c34b0 : decide (t220 < 1152921504606846976) = true := decide_eq_true c34
                        clear c34
                        by_cases c35 : t222 < 1152921504606846976
                        · rw [if_pos c35] at H
                          have c35b0 : decide (t222 < 1152921504606846976) = true := decide_eq_true c35
                          clear c35
                          replace H := Option.bind_eq_some_iff.mp H
                          obtain ⟨t235, A360, H⟩ := H
                          replace H : (if t235 = true then ((keelsonlaw16_small.f kj8 l1).bind fun t236 => (if t236 = true then (if t233 = (wrap64 (t220 + t222)) then (keelsonlaw16_CountJoins.j1 kj8 l2 a3 l4 a5 a6 (t234 != 0)) else (keelsonlaw16_CountJoins.j1 kj8 l2 a3 l4 a5 a6 true)) else (keelsonlaw16_CountJoins.j1 kj8 l2 a3 l4 a5 a6 false))) else (keelsonlaw16_CountJoins.j1 kj8 l2 a3 l4 a5 a6 false)) = some r := H
                          have A36 := Aside0.mk A360
                          clear A360
                          by_cases c37 : t235 = true
                          · subst c37
                            have H1 : ((keelsonlaw16_small.f kj8 l1).bind fun t236 => (if t236 = true then (if t233 = (wrap64 (t220 + t222)) then (keelsonlaw16_CountJoins.j1 kj8 l2 a3 l4 a5 a6 (t234 != 0)) else (keelsonlaw16_CountJoins.j1 kj8 l2 a3 l4 a5 a6 true)) else (keelsonlaw16_CountJoins.j1 kj8 l2 a3 l4 a5 a6 false))) = some r := by rw [if_pos rfl] at H; exact H
                            clear H
                            have H := H1
                            clear H1
                            replace H := Option.bind_eq_some_iff.mp H
                            obtain ⟨t236, A380, H⟩ := H
                            replace H : (if t236 = true then (if t233 = (wrap64 (t220 + t222)) then (keelsonlaw16_CountJoins.j1 kj8 l2 a3 l4 a5 a6 (t234 != 0)) else (keelsonlaw16_CountJoins.j1 kj8 l2 a3 l4 a5 a6 true)) else (keelsonlaw16_CountJoins.j1 kj8 l2 a3 l4 a5 a6 false)) = some r := H
                            have A38 := Aside0.mk A380
                            clear A380
                            by_cases c39 : t236 = true
                            · subst c39
                              have H1 : (if t233 = (wrap64 (t220 + t222)) then (keelsonlaw16_CountJoins.j1 kj8 l2 a3 l4 a5 a6 (t234 != 0)) else (keelsonlaw16_CountJoins.j1 kj8 l2 a3 l4 a5 a6 true)) = some r := by rw [if_pos rfl] at H; exact H
                              clear H
                              have H := H1
                              clear H1
                              by_cases c40 : t233 = (wrap64 (t220 + t222))
                              · rw [if_pos c40] at H
                                have c40b0 : (t233 == (wrap64 (t220 + t222))) = true := beq_iff_eq.mpr c40
                                have c40b1 : (t233 != (wrap64 (t220 + t222))) = false := bne_eq_false_iff_eq.mpr c40
                                clear c40
                                have H' := Aside0.mk H
                                clear H
                                go_wp2_with (first | (go_at_call 19; (with_reducible refine (keelsonlaw16_small.calls kj8 _ _ l0 true _ ?side1 ?side2 A36.out).mono ?_); (case side1 => repeat (first | exact (Kd.C_below HR0.out HB.out) | (with_reducible refine Kd.C_alloc ?_ _) | (with_reducible refine Kd.C_drewN ?_ _) | (with_reducible refine Kd.C_drew ?_))); (case side2 => exact HC0.out); rintro e w' ⟨rfl, ⟨nd, rfl⟩⟩) | (go_at_call 19; (with_reducible refine (keelsonlaw16_small.calls kj8 _ _ l1 true _ ?side1 ?side2 A38.out).mono ?_); (case side1 => repeat (first | exact (Kd.C_below HR1.out (by repeat (first | (with_reducible first | exact HB.out | apply below_alloc | apply pw_below_drewN | apply below_drew1) | exact HB.out))) | (with_reducible refine Kd.C_alloc ?_ _) | (with_reducible refine Kd.C_drewN ?_ _) | (with_reducible refine Kd.C_drew ?_))); (case side2 => exact HC1.out); rintro e w' ⟨rfl, ⟨nd, rfl⟩⟩))
                                go_meet
                                case rel => exact ⟨_, ((t234 != 0)), (by first | rfl | (simp; done) | (simp [*]; done)), H', ⟨by have := HJ8.out; first | omega | exact Nat.le_refl _⟩, ⟨by repeat (first | (with_reducible first | exact HB.out | apply below_alloc | apply pw_below_drewN | apply below_drew1) | exact HB.out)⟩⟩
                              · rw [if_neg c40] at H
                                have c40b0 : (t233 == (wrap64 (t220 + t222))) = false := beq_eq_false_iff_ne.mpr c40
                                have c40b1 : (t233 != (wrap64 (t220 + t222))) = true := bne_iff_ne.mpr c40
                                have H' := Aside0.mk H
                                clear H
                                go_wp2_with (first | (go_at_call 19; (with_reducible refine (keelsonlaw16_small.calls kj8 _ _ l0 true _ ?side1 ?side2 A36.out).mono ?_); (case side1 => repeat (first | exact (Kd.C_below HR0.out HB.out) | (with_reducible refine Kd.C_alloc ?_ _) | (with_reducible refine Kd.C_drewN ?_ _) | (with_reducible refine Kd.C_drew ?_))); (case side2 => exact HC0.out); rintro e w' ⟨rfl, ⟨nd, rfl⟩⟩) | (go_at_call 19; (with_reducible refine (keelsonlaw16_small.calls kj8 _ _ l1 true _ ?side1 ?side2 A38.out).mono ?_); (case side1 => repeat (first | exact (Kd.C_below HR1.out (by repeat (first | (with_reducible first | exact HB.out | apply below_alloc | apply pw_below_drewN | apply below_drew1) | exact HB.out))) | (with_reducible refine Kd.C_alloc ?_ _) | (with_reducible refine Kd.C_drewN ?_ _) | (with_reducible refine Kd.C_drew ?_))); (case side2 => exact HC1.out); rintro e w' ⟨rfl, ⟨nd, rfl⟩⟩))
                                go_meet
                                case rel => exact ⟨_, (true), (by first | rfl | (simp; done) | (simp [*]; done)), H', ⟨by have := HJ8.out; first | omega | exact Nat.le_refl _⟩, ⟨by repeat (first | (with_reducible first | exact HB.out | apply below_alloc | apply pw_below_drewN | apply below_drew1) | exact HB.out)⟩⟩
                            · replace c39 := Bool.eq_false_iff.mpr c39
                              subst c39
                              have H1 : (keelsonlaw16_CountJoins.j1 kj8 l2 a3 l4 a5 a6 false) = some r := by rw [if_neg (show ¬ (false = true) by decide)] at H; exact H
                              clear H
                              have H := H1
                              clear H1
                              have H' := Aside0.mk H
                              clear H
                              go_wp2_with (first | (go_at_call 19; (with_reducible refine (keelsonlaw16_small.calls kj8 _ _ l0 true _ ?side1 ?side2 A36.out).mono ?_); (case side1 => repeat (first | exact (Kd.C_below HR0.out HB.out) | (with_reducible refine Kd.C_alloc ?_ _) | (with_reducible refine Kd.C_drewN ?_ _) | (with_reducible refine Kd.C_drew ?_))); (case side2 => exact HC0.out); rintro e w' ⟨rfl, ⟨nd, rfl⟩⟩) | (go_at_call 19; (with_reducible refine (keelsonlaw16_small.calls kj8 _ _ l1 false _ ?side1 ?side2 A38.out).mono ?_); (case side1 => repeat (first | exact (Kd.C_below HR1.out (by repeat (first | (with_reducible first | exact HB.out | apply below_alloc | apply pw_below_drewN | apply below_drew1) | exact HB.out))) | (with_reducible refine Kd.C_alloc ?_ _) | (with_reducible refine Kd.C_drewN ?_ _) | (with_reducible refine Kd.C_drew ?_))); (case side2 => exact HC1.out); rintro e w' ⟨rfl, ⟨nd, rfl⟩⟩))
                              go_meet
                              case rel => exact ⟨_, (false), (by first | rfl | (simp; done) | (simp [*]; done)), H', ⟨by have := HJ8.out; first | omega | exact Nat.le_refl _⟩, ⟨by repeat (first | (with_reducible first | exact HB.out | apply below_alloc | apply pw_below_drewN | apply below_drew1) | exact HB.out)⟩⟩
                          · replace c37 := Bool.eq_false_iff.mpr c37
                            subst c37
                            have H1 : (keelsonlaw16_CountJoins.j1 kj8 l2 a3 l4 a5 a6 false) = some r := by rw [if_neg (show ¬ (false = true) by decide)] at H; exact H
                            clear H
                            have H := H1
                            clear H1
                            have H' := Aside0.mk H
                            clear H
                            go_wp2_with (first | (go_at_call 19; (with_reducible refine (keelsonlaw16_small.calls kj8 _ _ l0 false _ ?side1 ?side2 A36.out).mono ?_); (case side1 => repeat (first | exact (Kd.C_below HR0.out HB.out) | (with_reducible refine Kd.C_alloc ?_ _) | (with_reducible refine Kd.C_drewN ?_ _) | (with_reducible refine Kd.C_drew ?_))); (case side2 => exact HC0.out); rintro e w' ⟨rfl, ⟨nd, rfl⟩⟩))
                            go_meet
                            case rel => exact ⟨_, (false), (by first | rfl | (simp; done) | (simp [*]; done)), H', ⟨by have := HJ8.out; first | omega | exact Nat.le_refl _⟩, ⟨by repeat (first | (with_reducible first | exact HB.out | apply below_alloc | apply pw_below_drewN | apply below_drew1) | exact HB.out)⟩⟩
                        · rw [if_neg c35] at H
                          have c35b0 : decide (t222 < 1152921504606846976) = false := decide_eq_false c35
                          clear c35
                          have H' := Aside0.mk H
                          clear H
                          go_wp2
                          go_meet
                          case rel => exact ⟨_, (false), (by first | rfl | (simp; done) | (simp [*]; done)), H', ⟨by have := HJ8.out; first | omega | exact Nat.le_refl _⟩, ⟨by repeat (first | (with_reducible first | exact HB.out | apply below_alloc | apply pw_below_drewN | apply below_drew1) | exact HB.out)⟩⟩
                      · rw [if_neg c34] at H
                        have c34b0 : decide (t220 < 1152921504606846976) = false := decide_eq_false c34
                        clear c34
                        have H' := Aside0.mk H
                        clear H
                        go_wp2
                        go_meet
                        case rel => exact ⟨_, (false), (by first | rfl | (simp; done) | (simp [*]; done)), H', ⟨by have := HJ8.out; first | omega | exact Nat.le_refl _⟩, ⟨by repeat (first | (with_reducible first | exact HB.out | apply below_alloc | apply pw_below_drewN | apply below_drew1) | exact HB.out)⟩⟩
                    · rw [if_neg c33] at H
                      have c33b0 : decide (0 ≤ t222) = false := decide_eq_false c33
                      clear c33
                      have H' := Aside0.mk H
                      clear H
                      go_wp2
                      go_meet
                      case rel => exact ⟨_, (false), (by first | rfl | (simp; done) | (simp [*]; done)), H', ⟨by have := HJ8.out; first | omega | exact Nat.le_refl _⟩, ⟨by repeat (first | (with_reducible first | exact HB.out | apply below_alloc | apply pw_below_drewN | apply below_drew1) | exact HB.out)⟩⟩
                  · rw [if_neg c32] at H
                    have c32b0 : decide (0 ≤ t220) = false := decide_eq_false c32
                    clear c32
                    have H' := Aside0.mk H
                    clear H
                    go_wp2
                    go_meet
                    case rel => exact ⟨_, (false), (by first | rfl | (simp; done) | (simp [*]; done)), H', ⟨by have := HJ8.out; first | omega | exact Nat.le_refl _⟩, ⟨by repeat (first | (with_reducible first | exact HB.out | apply below_alloc | apply pw_below_drewN | apply below_drew1) | exact HB.out)⟩⟩
                · rw [if_neg c31] at H
                  have c31b0 : (t223 == 0) = false := beq_eq_false_iff_ne.mpr c31
                  have c31b1 : (t223 != 0) = true := bne_iff_ne.mpr c31
                  have H' := Aside0.mk H
                  clear H
                  go_wp2
                  go_meet
                  case rel => exact ⟨_, (false), (by first | rfl | (simp; done) | (simp [*]; done)), H', ⟨by have := HJ8.out; first | omega | exact Nat.le_refl _⟩, ⟨by repeat (first | (with_reducible first | exact HB.out | apply below_alloc | apply pw_below_drewN | apply below_drew1) | exact HB.out)⟩⟩
              · rw [if_neg c30] at H
                have c30b0 : (t221 == 0) = false := beq_eq_false_iff_ne.mpr c30
                have c30b1 : (t221 != 0) = true := bne_iff_ne.mpr c30
                (first | rw [c30b0] | (simp only [i64_w, i32_w]; rw [c30b0]) | rw [c30b1] | skip)
                have H' := Aside0.mk H
                clear H
                go_wp2
                go_meet
                case rel => exact ⟨_, (false), (by first | rfl | (simp; done) | (simp [*]; done)), H', ⟨by have := HJ8.out; first | omega | exact Nat.le_refl _⟩, ⟨by repeat (first | (with_reducible first | exact HB.out | apply below_alloc | apply pw_below_drewN | apply below_drew1) | exact HB.out)⟩⟩
            case rest => as_aux_lemma =>
              clear HC21
              try clear c1
              try clear c2
              try clear p2
              try clear c3
              try clear c4
              try clear p6
              try clear c11
              try clear c12
              try clear c12b0
              try clear c12b1
              try clear c13
              try clear c13b0
              try clear c13b1
              try clear c14
              try clear c14b0
              try clear c14b1
              try clear c15
              try clear c18
              try clear c19
              try clear c30
              try clear c30b0
              try clear c30b1
              try clear c31
              try clear c31b0
              try clear c31b1
              try clear c32
              try clear c32b0
              try clear c33
              try clear c33b0
              try clear c34
              try clear c34b0
              try clear c35
              try clear c35b0
              try clear c37
              try clear c39
              try clear c40
              try clear c40b0
              try clear c40b1
              try clear p2
              obtain ⟨kq, x115_20, rfl, HA, HJ20, HB⟩ := hcut
              cases kq with
              | zero => exact absurd HA.out (by simp [keelsonlaw16_CountJoins.j1])
              | succ kj20 =>
                have H := HA.out
                clear HA
                simp only [keelsonlaw16_CountJoins.j1] at H
                by_cases c41 : x115_20 = true
                · subst c41
                  have H1 : (none) = some r := by rw [if_pos rfl] at H; exact H
                  clear H
                  have H := H1
                  clear H1
                  exact absurd H (by simp)
                · replace c41 := Bool.eq_false_iff.mpr c41
                  subst c41
                  have H1 : (if (l2.length : Int) > 0 then ((count_Weight.f kj20 (([(⟨1, a3⟩ : S40), (⟨(-1), a3⟩ : S40)] : List (S40))) l2).bind fun bt240 => (if bt240.1 = a3 then (if bt240.2 = 0 then (keelsonlaw16_CountJoins.j2 kj20 l2 l4 a5 a6) else (none)) else (none))) else (keelsonlaw16_CountJoins.j2 kj20 l2 l4 a5 a6)) = some r := by rw [if_neg (show ¬ (false = true) by decide)] at H; exact H
                  clear H
                  have H := H1
                  clear H1
                  have HC42 := Aside0.mk H
                  clear H
                  go_upto_if 118 with (fail)
                  go_cut [] (fun wc => ∃ (kq : Nat), Aside0 (keelsonlaw16_CountJoins.j2 kq l2 l4 a5 a6 = some r) ∧ Aside0 (kq ≤ kj20) ∧ Aside0 (Below w.heap.size w wc))
                  case first => as_aux_lemma =>
                    have H := HC42.out
                    clear HC42
                    by_cases c43 : (l2.length : Int) > 0
                    · rw [if_pos c43] at H
                      have c43b0 : decide (0 < (l2.length : Int)) = true := decide_eq_true c43
                      have c43b1 : decide (0 < l2.length) = true := decide_eq_true (by omega)
                      clear c43
                      (first | rw [c43b0] | (simp only [i64_w, i32_w]; rw [c43b0]) | rw [c43b1] | skip)
                      obtain ⟨y237, hy237⟩ : ∃ y_ : List (S40), y_ = (([(⟨1, a3⟩ : S40), (⟨(-1), a3⟩ : S40)] : List (S40))) := ⟨_, rfl⟩
                      replace H : ((count_Weight.f kj20 y237 l2).bind fun bt240 => (if bt240.1 = a3 then (if bt240.2 = 0 then (keelsonlaw16_CountJoins.j2 kj20 l2 l4 a5 a6) else (none)) else (none))) = some r := by first | (rw [hy237]; with_reducible exact H) | (have H2_ := (Option.bind_some _ _).symm.trans H; rw [hy237]; with_reducible exact H2_) | (have H2_ := (Option.bind_some _ _).symm.trans H; with_reducible exact H2_) | with_reducible exact H | (rw [hy237]; exact H) | exact H
                      have Ny237 := Aside0.mk hy237
                      clear hy237
                      replace H := Option.bind_eq_some_iff.mp H
                      obtain ⟨⟨t240, t241⟩, A440, H⟩ := H
                      replace H : (if t240 = a3 then (if t241 = 0 then (keelsonlaw16_CountJoins.j2 kj20 l2 l4 a5 a6) else (none)) else (none)) = some r := H
                      have A44 := Aside0.mk A440
                      clear A440
                      by_cases c45 : t240 = a3
                      · rw [if_pos c45] at H
                        have c45b0 : (t240 == a3) = true := beq_iff_eq.mpr c45
                        have c45b1 : (t240 != a3) = false := bne_eq_false_iff_eq.mpr c45
                        clear c45
                        by_cases c46 : t241 = 0
                        · rw [if_pos c46] at H
                          have c46b0 : (t241 == 0) = true := beq_iff_eq.mpr c46
                          have c46b1 : (t241 != 0) = false := bne_eq_false_iff_eq.mpr c46
                          clear c46
                          have H' := Aside0.mk H
                          clear H
                          go_wp2_with (first | ((with_reducible refine gate_dst (N := 124) rfl ?_); (try (refine gate_guard (by rfl) ?_; dsimp only)); refine Kd.R_lit k40 _ 40 ?hg (N := 124) ?hd (xs := ([(⟨1, a3⟩ : S40), (⟨(-1), a3⟩ : S40)] : List (S40))) (inner := [.int .i64 1, .int .i64 a3, .int .i64 (-1), .int .i64 a3]) (ok := fun _ => True) (okp := fun _ => True) ?hr ?hp (fun _ hk => hk) trivial (Below.refl _ _) (Nat.le_refl _) (by simp) ?_; (case hd => rfl); (case hg => rfl); (case hr => first | (go_simp; done) | (go_simp; rfl)); (case hp => exact (Reps.c2 (show Kd.M k40 _ _ _ (⟨1, a3⟩ : S40) [.int .i64 1, .int .i64 a3] from (k40_mkM _ _ _ (⟨1, a3⟩ : S40) )) (Reps.c2 (show Kd.M k40 _ _ _ (⟨(-1), a3⟩ : S40) [.int .i64 (-1), .int .i64 a3] from (k40_mkM _ _ _ (⟨(-1), a3⟩ : S40) )) (Reps.none _ _)))); intro v238 w47 ho48 hb hg_ hnew_; clear hg_ hnew_; (first | rw [← Ny237.out] at ho48 | (simp only [Int.reduceToNat] at ho48; rw [← Ny237.out] at ho48)); have n0_ := Aside0.mk (Kd.R_lower ho48 (below_size (by repeat (first | (with_reducible first | exact HB.out | apply below_alloc | apply pw_below_drewN | apply below_drew1) | exact HB.out)))); have n1_ := Aside0.mk (below_step (by repeat (first | (with_reducible first | exact HB.out | apply below_alloc | apply pw_below_drewN | apply below_drew1) | exact HB.out)) hb); clear HB; have HO239 := n0_; have HB := n1_; clear n0_ n1_; clear hb ho48; obtain ⟨Ao49, co49, eo49⟩ := Kd.R_slice HO239.out; subst eo49) | ((with_reducible refine gate_callee (f := 18) rfl ?_); refine goesL_ (some 126) rfl rfl Tryd.func18 (by kernel_rfl) rfl #[.slice Ao49 y237.length co49, .slice A2 l2.length c2] rfl (by (try simp only [List.map_toArray, List.map_cons, List.map_nil]); first | done | rfl | (simp only [List.length_drop, List.length_take]; rfl)) ?_; (with_reducible refine (count_Weight.calls kj20 _ _ y237 _ _ l2 t240 t241 _ ?side1 ?side2 ?side3 ?side4 ?side5 A44.out).mono ?_); (case side1 => repeat (first | exact (Kd.R_reads' HO239.out).2.2 | (with_reducible refine Kd.C_alloc ?_ _) | (with_reducible refine Kd.C_drewN ?_ _) | (with_reducible refine Kd.C_drew ?_))); (case side2 => exact (Kd.R_reads' HO239.out).2.1); (case side3 => repeat (first | exact (Kd.C_below HR2.out HB.out) | (with_reducible refine Kd.C_alloc ?_ _) | (with_reducible refine Kd.C_drewN ?_ _) | (with_reducible refine Kd.C_drew ?_))); (case side4 => exact HC2.out); (case side5 => exact HG_errOver.out.below (by repeat (first | (with_reducible first | exact HB.out | apply below_alloc | apply pw_below_drewN | apply below_drew1) | exact HB.out))); rintro e w50 ⟨rfl, hb⟩; refine ⟨_, rfl, ?_⟩; have n0_ := Aside0.mk (Kd.R_below (by (with_reducible repeat (first | apply Kd.R_alloc | apply Kd.R_drewN | apply Kd.R_drew)); exact HO239.out) hb); have n1_ := Aside0.mk (below_step (by repeat (first | (with_reducible first | exact HB.out | apply below_alloc | apply pw_below_drewN | apply below_drew1) | exact HB.out)) hb); clear HO239; clear HB; have HO239 := n0_; have HB := n1_; clear n0_ n1_; (try clear hb); (try clear hb2); (try clear hk); (try clear hi)))
                          go_meet
                          case rel => exact ⟨_, H', ⟨by have := HJ8.out; have := HJ20.out; first | omega | exact Nat.le_refl _⟩, ⟨by repeat (first | (with_reducible first | exact HB.out | apply below_alloc | apply pw_below_drewN | apply below_drew1) | exact HB.out)⟩⟩
                        · rw [if_neg c46] at H
                          exact absurd H (by simp)
                      · rw [if_neg c45] at H
                        exact absurd H (by simp)
                    · rw [if_neg c43] at H
                      have c43b0 : decide (0 < (l2.length : Int)) = false := decide_eq_false c43
                      have c43b1 : decide (0 < l2.length) = false := decide_eq_false (by omega)
                      clear c43
                      (first | rw [c43b0] | (simp only [i64_w, i32_w]; rw [c43b0]) | rw [c43b1] | skip)
                      have H' := Aside0.mk H
                      clear H
                      go_wp2
                      go_meet
                      case rel => exact ⟨_, H', ⟨by have := HJ8.out; have := HJ20.out; first | omega | exact Nat.le_refl _⟩, ⟨by repeat (first | (with_reducible first | exact HB.out | apply below_alloc | apply pw_below_drewN | apply below_drew1) | exact HB.out)⟩⟩
                  case rest => as_aux_lemma =>
                    clear HC42
                    try clear c1
                    try clear c2
                    try clear p2
                    try clear c3
                    try clear c4
                    try clear p6
                    try clear c11
                    try clear c12
                    try clear c12b0
                    try clear c12b1
                    try clear c13
                    try clear c13b0
                    try clear c13b1
                    try clear c14
                    try clear c14b0
                    try clear c14b1
                    try clear c15
                    try clear c18
                    try clear c19
                    try clear c30
                    try clear c30b0
                    try clear c30b1
                    try clear c31
                    try clear c31b0
                    try clear c31b1
                    try clear c32
                    try clear c32b0
                    try clear c33
                    try clear c33b0
                    try clear c34
                    try clear c34b0
                    try clear c35
                    try clear c35b0
                    try clear c37
                    try clear c39
                    try clear c40
                    try clear c40b0
                    try clear c40b1
                    try clear c41
                    try clear c43
                    try clear c43b0
                    try clear c43b1
                    try clear c45
                    try clear c45b0
                    try clear c45b1
                    try clear c46
                    try clear c46b0
                    try clear c46b1
                    try clear p2
                    try clear p6
                    obtain ⟨kq, HA, HJ41, HB⟩ := hcut
                    cases kq with
                    | zero => exact absurd HA.out (by simp [keelsonlaw16_CountJoins.j2])
                    | succ kj41 =>
                      have H := HA.out
                      clear HA
                      simp only [keelsonlaw16_CountJoins.j2] at H
                      have H' := Aside0.mk H
                      clear H
                      go_wp2
                      go_loopg [24] kj41 (fun kq v24 w' => ∃ (x24_4 : Int), v24 = .int .i64 x24_4 ∧ Aside0 (keelsonlaw16_CountJoins.l0 kq l2 l4 a5 a6 x24_4 = some r) ∧ Aside0 (kq ≤ kj41) ∧ Aside0 (Below w.heap.size w w'))
                      case atStart => exact ⟨(0), (by first | rfl | (simp; done) | (simp [*]; done)), H', ⟨Nat.le_refl _⟩, ⟨by repeat (first | (with_reducible first | exact HB.out | apply below_alloc | apply pw_below_drewN | apply below_drew1) | exact HB.out)⟩⟩
                      case round => as_aux_lemma =>
                        clear H'
                        try clear c1
                        try clear c2
                        try clear p2
                        try clear c3
                        try clear c4
                        try clear p6
                        try clear c11
                        try clear c12
                        try clear c12b0
                        try clear c12b1
                        try clear c13
                        try clear c13b0
                        try clear c13b1
                        try clear c14
                        try clear c14b0
                        try clear c14b1
                        try clear c15
                        try clear c18
                        try clear c19
                        try clear c30
                        try clear c30b0
                        try clear c30b1
                        try clear c31
                        try clear c31b0
                        try clear c31b1
                        try clear c32
                        try clear c32b0
                        try clear c33
                        try clear c33b0
                        try clear c34
                        try clear c34b0
                        try clear c35
                        try clear c35b0
                        try clear c37
                        try clear c39
                        try clear c40
                        try clear c40b0
                        try clear c40b1
                        try clear c41
                        try clear c43
                        try clear c43b0
                        try clear c43b1
                        try clear c45
                        try clear c45b0
                        try clear c45b1
                        try clear c46
                        try clear c46b0
                        try clear c46b1
                        try clear p2
                        try clear p6
                        obtain ⟨x24_4, rfl, HA, HK4, HB⟩ := hrel
                        cases gk with
                        | zero => exact absurd HA.out (by simp [keelsonlaw16_CountJoins.l0])
                        | succ k4 =>
                          have H := HA.out
                          clear HA
                          simp only [keelsonlaw16_CountJoins.l0] at H
                          by_cases c51 : x24_4 < (l4.length : Int)
                          · rw [if_pos c51] at H
                            have c51b0 : decide (x24_4 < (l4.length : Int)) = true := decide_eq_true c51
                            clear c51
                            by_cases c52 : 0 ≤ x24_4
                            · rw [if_pos c52] at H
                              have c52b0 : decide (0 ≤ x24_4) = true := decide_eq_true c52
                              clear c52
                              by_cases c53 : (rd l4 x24_4) < (wrap64 (-(l2.length : Int)))
                              · rw [if_pos c53] at H
                                have c53b0 : decide ((rd l4 x24_4) < (wrap64 (-(l2.length : Int)))) = true := decide_eq_true c53
                                clear c53
                                obtain rfl := Option.some.inj H
                                have p242 : 0 ≤ (x24_4 : Int) := of_decide_eq_true (by first | (with_reducible assumption) | assumption)
                                have q242 : x24_4 < (l4.length : Int) := of_decide_eq_true (by first | (with_reducible assumption) | assumption)
                                obtain ⟨ad242, e242, hx242_0⟩ := Kd.at_int HR4.out x24_4 p242 q242
                                cases e242
                                replace hx242_0 := (HB.out.cell (World.block_lt_of_cell? w _ hx242_0)).trans hx242_0
                                replace p242 := eq_true p242
                                replace q242 := eq_true q242
                                go_wp2
                                go_ret
                                exact ⟨by first | rfl | (simp [errW_none, errW_some] <;> rfl) | (simp [*, errW_none, errW_some] <;> rfl), by repeat (first | (with_reducible first | exact HB.out | apply below_alloc | apply pw_below_drewN | apply below_drew1) | exact HB.out)⟩
                              · rw [if_neg c53] at H
                                have c53b0 : decide ((rd l4 x24_4) < (wrap64 (-(l2.length : Int)))) = false := decide_eq_false c53
                                clear c53
                                by_cases c54 : (rd l4 x24_4) > (l2.length : Int)
                                · rw [if_pos c54] at H
                                  have c54b0 : decide ((l2.length : Int) < (rd l4 x24_4)) = true := decide_eq_true c54
                                  clear c54
                                  obtain rfl := Option.some.inj H
                                  have p242 : 0 ≤ (x24_4 : Int) := of_decide_eq_true (by first | (with_reducible assumption) | assumption)
                                  have q242 : x24_4 < (l4.length : Int) := of_decide_eq_true (by first | (with_reducible assumption) | assumption)
                                  obtain ⟨ad242, e242, hx242_0⟩ := Kd.at_int HR4.out x24_4 p242 q242
                                  cases e242
                                  replace hx242_0 := (HB.out.cell (World.block_lt_of_cell? w _ hx242_0)).trans hx242_0
                                  replace p242 := eq_true p242
                                  replace q242 := eq_true q242
                                  have p243 : 0 ≤ (x24_4 : Int) := of_decide_eq_true (by first | (with_reducible assumption) | assumption)
                                  have q243 : x24_4 < (l4.length : Int) := of_decide_eq_true (by first | (with_reducible assumption) | assumption)
                                  obtain ⟨ad243, e243, hx243_0⟩ := Kd.at_int HR4.out x24_4 p243 q243
                                  obtain rfl : ad242 = ad243 := (by injection e243)
                                  replace hx243_0 := (HB.out.cell (World.block_lt_of_cell? w _ hx243_0)).trans hx243_0
                                  replace p243 := eq_true p243
                                  replace q243 := eq_true q243
                                  go_wp2
                                  go_ret
                                  exact ⟨by first | rfl | (simp [errW_none, errW_some] <;> rfl) | (simp [*, errW_none, errW_some] <;> rfl), by repeat (first | (with_reducible first | exact HB.out | apply below_alloc | apply pw_below_drewN | apply below_drew1) | exact HB.out)⟩
                                · rw [if_neg c54] at H
                                  have c54b0 : decide ((l2.length : Int) < (rd l4 x24_4)) = false := decide_eq_false c54
                                  clear c54
                                  by_cases c55 : (rd l4 x24_4) = 0
                                  · rw [if_pos c55] at H
                                    have c55b0 : ((rd l4 x24_4) == 0) = true := beq_iff_eq.mpr c55
                                    have c55b1 : ((rd l4 x24_4) != 0) = false := bne_eq_false_iff_eq.mpr c55
                                    clear c55
                                    obtain rfl := Option.some.inj H
                                    have p242 : 0 ≤ (x24_4 : Int) := of_decide_eq_true (by first | (with_reducible assumption) | assumption)
                                    have q242 : x24_4 < (l4.length : Int) := of_decide_eq_true (by first | (with_reducible assumption) | assumption)
                                    obtain ⟨ad242, e242, hx242_0⟩ := Kd.at_int HR4.out x24_4 p242 q242
                                    cases e242
                                    replace hx242_0 := (HB.out.cell (World.block_lt_of_cell? w _ hx242_0)).trans hx242_0
                                    replace p242 := eq_true p242
                                    replace q242 := eq_true q242
                                    have p243 : 0 ≤ (x24_4 : Int) := of_decide_eq_true (by first | (with_reducible assumption) | assumption)
                                    have q243 : x24_4 < (l4.length : Int) := of_decide_eq_true (by first | (with_reducible assumption) | assumption)
                                    obtain ⟨ad243, e243, hx243_0⟩ := Kd.at_int HR4.out x24_4 p243 q243
                                    obtain rfl : ad242 = ad243 := (by injection e243)
                                    replace hx243_0 := (HB.out.cell (World.block_lt_of_cell? w _ hx243_0)).trans hx243_0
                                    replace p243 := eq_true p243
                                    replace q243 := eq_true q243
                                    have p244 : 0 ≤ (x24_4 : Int) := of_decide_eq_true (by first | (with_reducible assumption) | assumption)
                                    have q244 : x24_4 < (l4.length : Int) := of_decide_eq_true (by first | (with_reducible assumption) | assumption)
                                    obtain ⟨ad244, e244, hx244_0⟩ := Kd.at_int HR4.out x24_4 p244 q244
                                    obtain rfl : ad242 = ad244 := (by injection e244)
                                    replace hx244_0 := (HB.out.cell (World.block_lt_of_cell? w _ hx244_0)).trans hx244_0
                                    replace p244 := eq_true p244
                                    replace q244 := eq_true q244
                                    go_wp2
                                    go_ret
                                    exact ⟨by first | rfl | (simp [errW_none, errW_some] <;> rfl) | (simp [*, errW_none, errW_some] <;> rfl), by repeat (first | (with_reducible first | exact HB.out | apply below_alloc | apply pw_below_drewN | apply below_drew1) | exact HB.out)⟩
                                  · rw [if_neg c55] at H
                                    have c55b0 : ((rd l4 x24_4) == 0) = false := beq_eq_false_iff_ne.mpr c55
                                    have c55b1 : ((rd l4 x24_4) != 0) = true := bne_iff_ne.mpr c55
                                    have H' := Aside0.mk H
                                    clear H
                                    have p242 : 0 ≤ (x24_4 : Int) := of_decide_eq_true (by first | (with_reducible assumption) | assumption)
                                    have q242 : x24_4 < (l4.length : Int) := of_decide_eq_true (by first | (with_reducible assumption) | assumption)
                                    obtain ⟨ad242, e242, hx242_0⟩ := Kd.at_int HR4.out x24_4 p242 q242
                                    cases e242
                                    replace hx242_0 := (HB.out.cell (World.block_lt_of_cell? w _ hx242_0)).trans hx242_0
                                    replace p242 := eq_true p242
                                    replace q242 := eq_true q242
                                    have p243 : 0 ≤ (x24_4 : Int) := of_decide_eq_true (by first | (with_reducible assumption) | assumption)
                                    have q243 : x24_4 < (l4.length : Int) := of_decide_eq_true (by first | (with_reducible assumption) | assumption)
                                    obtain ⟨ad243, e243, hx243_0⟩ := Kd.at_int HR4.out x24_4 p243 q243
                                    obtain rfl : ad242 = ad243 := (by injection e243)
                                    replace hx243_0 := (HB.out.cell (World.block_lt_of_cell? w _ hx243_0)).trans hx243_0
                                    replace p243 := eq_true p243
                                    replace q243 := eq_true q243
                                    have p244 : 0 ≤ (x24_4 : Int) := of_decide_eq_true (by first | (with_reducible assumption) | assumption)
                                    have q244 : x24_4 < (l4.length : Int) := of_decide_eq_true (by first | (with_reducible assumption) | assumption)
                                    obtain ⟨ad244, e244, hx244_0⟩ := Kd.at_int HR4.out x24_4 p244 q244
                                    obtain rfl : ad242 = ad244 := (by injection e244)
                                    replace hx244_0 := (HB.out.cell (World.block_lt_of_cell? w _ hx244_0)).trans hx244_0
                                    replace p244 := eq_true p244
                                    replace q244 := eq_true q244
                                    go_wp2
                                    go_roundg k4
                                    case measure => have := HJ8.out; have := HJ20.out; have := HJ41.out; have := HK4.out; omega
                                    case rel => exact ⟨(wrap64 (x24_4 + 1)), (by first | rfl | (simp; done) | (simp [*]; done)), H', ⟨by have := HJ8.out; have := HJ20.out; have := HJ41.out; have := HK4.out; omega⟩, ⟨by repeat (first | (with_reducible first | exact HB.out | apply below_alloc | apply pw_below_drewN | apply below_drew1) | exact HB.out)⟩⟩
                            · rw [if_neg c52] at H
                              exact absurd H (by simp)
                          · rw [if_neg c51] at H
                            have c51b0 : decide (x24_4 < (l4.length : Int)) = false := decide_eq_false c51
                            clear c51
                            obtain ⟨ji56, hji56⟩ : ∃ j_ : Int, (mn a5 a6) = j_ := ⟨_, rfl⟩
                            replace H : ((count_Limit.f k4 l4 (ji56)).bind fun bt245 => ((count_Limit.f k4 l4 (mx a5 a6)).bind fun bt249 => (if bt245.2 = bt249.2 then (if bt245.2 = 0 then ((clause_Holds.f bt245.1 l2).bind fun t253 => (if t253 = true then ((clause_Holds.f bt249.1 l2).bind fun t254 => (some t254)) else (some true))) else (some true)) else (none)))) = some r := by first | (rw [hji56] at H; exact H) | (simp only [hji56] at H ⊢; exact H)
                            have hji56_ : (if a6 < a5 then a6 else a5) = ji56 := hji56
                            replace H := Option.bind_eq_some_iff.mp H
                            obtain ⟨⟨t245, t248⟩, A570, H⟩ := H
                            replace H : ((count_Limit.f k4 l4 (mx a5 a6)).bind fun bt249 => (if t248 = bt249.2 then (if t248 = 0 then ((clause_Holds.f t245 l2).bind fun t253 => (if t253 = true then ((clause_Holds.f bt249.1 l2).bind fun t254 => (some t254)) else (some true))) else (some true)) else (none))) = some r := H
                            have A57 := Aside0.mk A570
                            clear A570
                            obtain ⟨ji58, hji58⟩ : ∃ j_ : Int, (mx a5 a6) = j_ := ⟨_, rfl⟩
                            replace H : ((count_Limit.f k4 l4 (ji58)).bind fun bt249 => (if t248 = bt249.2 then (if t248 = 0 then ((clause_Holds.f t245 l2).bind fun t253 => (if t253 = true then ((clause_Holds.f bt249.1 l2).bind fun t254 => (some t254)) else (some true))) else (some true)) else (none))) = some r := by first | (rw [hji58] at H; exact H) | (simp only [hji58] at H ⊢; exact H)
                            (try rw [hji58] at A57)
                            have hji58_ : (if a5 < a6 then a6 else a5) = ji58 := hji58
                            replace H := Option.bind_eq_some_iff.mp H
                            obtain ⟨⟨t249, t252⟩, A590, H⟩ := H
                            replace H : (if t248 = t252 then (if t248 = 0 then ((clause_Holds.f t245 l2).bind fun t253 => (if t253 = true then ((clause_Holds.f t249 l2).bind fun t254 => (some t254)) else (some true))) else (some true)) else (none)) = some r := H
                            have A59 := Aside0.mk A590
                            clear A590
                            by_cases c60 : t248 = t252
                            · rw [if_pos c60] at H
                              have c60b0 : (t248 == t252) = true := beq_iff_eq.mpr c60
                              have c60b1 : (t248 != t252) = false := bne_eq_false_iff_eq.mpr c60
                              clear c60
                              by_cases c61 : t248 = 0
                              · rw [if_pos c61] at H
                                have c61b0 : (t248 == 0) = true := beq_iff_eq.mpr c61
                                have c61b1 : (t248 != 0) = false := bne_eq_false_iff_eq.mpr c61
                                clear c61
                                replace H := Option.bind_eq_some_iff.mp H
                                obtain ⟨t253, A620, H⟩ := H
                                replace H : (if t253 = true then ((clause_Holds.f t249 l2).bind fun t254 => (some t254)) else (some true)) = some r := H
                                have A62 := Aside0.mk A620
                                clear A620
                                by_cases c63 : t253 = true
                                · subst c63
                                  have H1 : ((clause_Holds.f t249 l2).bind fun t254 => (some t254)) = some r := by rw [if_pos rfl] at H; exact H
                                  clear H
                                  have H := H1
                                  clear H1
                                  replace H := Option.bind_eq_some_iff.mp H
                                  obtain ⟨t254, A640, H⟩ := H
                                  replace H : (some t254) = some r := H
                                  have A64 := Aside0.mk A640
                                  clear A640
                                  obtain rfl := Option.some.inj H
                                  go_wp2_with (first | ((with_reducible refine gate_callee (f := 12) rfl ?_); refine goesL_ (some 171) rfl rfl Tryd.func12 (by kernel_rfl) rfl #[.slice A4 l4.length c4, .int .i64 ji56] rfl (by (try simp only [List.map_toArray, List.map_cons, List.map_nil]); first | done | (simp only [hji56]; rfl) | rfl | (simp only [List.length_drop, List.length_take]; rfl)) ?_; (with_reducible refine (count_Limit.calls k4 _ _ l4 ji56 t245 t248 _ ?side1 ?side2 A57.out).mono ?_); (case side1 => repeat (first | exact (Kd.C_below HR4.out HB.out) | (with_reducible refine Kd.C_alloc ?_ _) | (with_reducible refine Kd.C_drewN ?_ _) | (with_reducible refine Kd.C_drew ?_))); (case side2 => exact HC4.out); rintro e w65 ⟨v246, rfl, ho0, hb⟩; refine ⟨_, rfl, ?_⟩; have n0_ := Aside0.mk (Kd.N_lower (Kd.N_mono (ok' := fun k_ => True) ho0 (fun k_ hk_ => trivial)) (below_size (by repeat (first | (with_reducible first | exact HB.out | apply below_alloc | apply pw_below_drewN | apply below_drew1) | exact HB.out)))); have n1_ := Aside0.mk (below_step (by repeat (first | (with_reducible first | exact HB.out | apply below_alloc | apply pw_below_drewN | apply below_drew1) | exact HB.out)) hb); clear HB; have HO247 := n0_; have HB := n1_; clear n0_ n1_; (try clear hb); (try clear hb2); (try clear hk); (try clear hi); (try clear ho0)) | ((with_reducible refine gate_callee (f := 12) rfl ?_); refine goesL_ (some 179) rfl rfl Tryd.func12 (by kernel_rfl) rfl #[.slice A4 l4.length c4, .int .i64 ji58] rfl (by (try simp only [List.map_toArray, List.map_cons, List.map_nil]); first | done | (simp only [hji58]; rfl) | rfl | (simp only [List.length_drop, List.length_take]; rfl)) ?_; (with_reducible refine (count_Limit.calls k4 _ _ l4 ji58 t249 t252 _ ?side1 ?side2 A59.out).mono ?_); (case side1 => repeat (first | exact (Kd.C_below HR4.out HB.out) | (with_reducible refine Kd.C_alloc ?_ _) | (with_reducible refine Kd.C_drewN ?_ _) | (with_reducible refine Kd.C_drew ?_))); (case side2 => exact HC4.out); rintro e w66 ⟨v250, rfl, ho0, hb⟩; refine ⟨_, rfl, ?_⟩; have n0_ := Aside0.mk (Kd.N_elder' (by (with_reducible repeat (first | apply Kd.N_alloc | apply Kd.N_drewN | apply Kd.N_drew)); exact HO247.out) (Kd.N_base ho0) hb); have n1_ := Aside0.mk (Kd.N_lower (Kd.N_mono (ok' := fun k_ => some k_ ≠ (v246 : Value).ownBlock) ho0 (fun k_ hk_ => (Kd.fresh' (Kd.N_lt (by (with_reducible repeat (first | apply Kd.N_alloc | apply Kd.N_drewN | apply Kd.N_drew)); exact HO247.out)) k_ hk_))) (below_size (by repeat (first | (with_reducible first | exact HB.out | apply below_alloc | apply pw_below_drewN | apply below_drew1) | exact HB.out)))); have n2_ := Aside0.mk (below_step (by repeat (first | (with_reducible first | exact HB.out | apply below_alloc | apply pw_below_drewN | apply below_drew1) | exact HB.out)) hb); clear HO247; clear HB; have HO247 := n0_; have HO251 := n1_; have HB := n2_; clear n0_ n1_ n2_; (try clear hb); (try clear hb2); (try clear hk); (try clear hi); (try clear ho0); obtain ⟨Ao67, co67, eo67⟩ := Kd.N_slice HO247.out; subst eo67) | (go_at_call 20; (with_reducible refine (clause_Holds.calls _ _ t245 _ _ l2 true _ ?side1 ?side2 ?side3 ?side4 A62.out).mono ?_); (case side1 => repeat (first | exact (Kd.N_reads' HO247.out).2.2 | (with_reducible refine Kd.C_alloc ?_ _) | (with_reducible refine Kd.C_drewN ?_ _) | (with_reducible refine Kd.C_drew ?_))); (case side2 => exact (Kd.N_reads' HO247.out).2.1); (case side3 => repeat (first | exact (Kd.C_below HR2.out HB.out) | (with_reducible refine Kd.C_alloc ?_ _) | (with_reducible refine Kd.C_drewN ?_ _) | (with_reducible refine Kd.C_drew ?_))); (case side4 => exact HC2.out); rintro e w68 ⟨rfl, hb⟩; have n0_ := Aside0.mk (Kd.N_below (by (with_reducible repeat (first | apply Kd.N_alloc | apply Kd.N_drewN | apply Kd.N_drew)); exact HO247.out) hb); have n1_ := Aside0.mk (Kd.N_below (by (with_reducible repeat (first | apply Kd.N_alloc | apply Kd.N_drewN | apply Kd.N_drew)); exact HO251.out) hb); have n2_ := Aside0.mk (below_step (by repeat (first | (with_reducible first | exact HB.out | apply below_alloc | apply pw_below_drewN | apply below_drew1) | exact HB.out)) hb); clear HO247; clear HO251; clear HB; have HO247 := n0_; have HO251 := n1_; have HB := n2_; clear n0_ n1_ n2_; (try clear hb); (try clear hb2); (try clear hk); (try clear hi); obtain ⟨Ao69, co69, eo69⟩ := Kd.N_slice HO251.out; subst eo69) | (go_at_call 20; (with_reducible refine (clause_Holds.calls _ _ t249 _ _ l2 t254 _ ?side1 ?side2 ?side3 ?side4 A64.out).mono ?_); (case side1 => repeat (first | exact (Kd.N_reads' HO251.out).2.2 | (with_reducible refine Kd.C_alloc ?_ _) | (with_reducible refine Kd.C_drewN ?_ _) | (with_reducible refine Kd.C_drew ?_))); (case side2 => exact (Kd.N_reads' HO251.out).2.1); (case side3 => repeat (first | exact (Kd.C_below HR2.out HB.out) | (with_reducible refine Kd.C_alloc ?_ _) | (with_reducible refine Kd.C_drewN ?_ _) | (with_reducible refine Kd.C_drew ?_))); (case side4 => exact HC2.out); rintro e w70 ⟨rfl, hb⟩; have n0_ := Aside0.mk (Kd.N_below (by (with_reducible repeat (first | apply Kd.N_alloc | apply Kd.N_drewN | apply Kd.N_drew)); exact HO247.out) hb); have n1_ := Aside0.mk (Kd.N_below (by (with_reducible repeat (first | apply Kd.N_alloc | apply Kd.N_drewN | apply Kd.N_drew)); exact HO251.out) hb); have n2_ := Aside0.mk (below_step (by repeat (first | (with_reducible first | exact HB.out | apply below_alloc | apply pw_below_drewN | apply below_drew1) | exact HB.out)) hb); clear HO247; clear HO251; clear HB; have HO247 := n0_; have HO251 := n1_; have HB := n2_; clear n0_ n1_ n2_; (try clear hb); (try clear hb2); (try clear hk); (try clear hi)))
                                  go_ret
                                  exact ⟨by first | rfl | (simp [errW_none, errW_some] <;> rfl) | (simp only [← hji56, ← hji58]; first | rfl | (simp [errW_none, errW_some] <;> rfl)) | (simp [*, errW_none, errW_some] <;> rfl), by repeat (first | (with_reducible first | exact HB.out | apply below_alloc | apply pw_below_drewN | apply below_drew1) | exact HB.out)⟩
                                · replace c63 := Bool.eq_false_iff.mpr c63
                                  subst c63
                                  have H1 : (some true) = some r := by rw [if_neg (show ¬ (false = true) by decide)] at H; exact H
                                  clear H
                                  have H := H1
                                  clear H1
                                  obtain rfl := Option.some.inj H
                                  go_wp2_with (first | ((with_reducible refine gate_callee (f := 12) rfl ?_); refine goesL_ (some 171) rfl rfl Tryd.func12 (by kernel_rfl) rfl #[.slice A4 l4.length c4, .int .i64 ji56] rfl (by (try simp only [List.map_toArray, List.map_cons, List.map_nil]); first | done | (simp only [hji56]; rfl) | rfl | (simp only [List.length_drop, List.length_take]; rfl)) ?_; (with_reducible refine (count_Limit.calls k4 _ _ l4 ji56 t245 t248 _ ?side1 ?side2 A57.out).mono ?_); (case side1 => repeat (first | exact (Kd.C_below HR4.out HB.out) | (with_reducible refine Kd.C_alloc ?_ _) | (with_reducible refine Kd.C_drewN ?_ _) | (with_reducible refine Kd.C_drew ?_))); (case side2 => exact HC4.out); rintro e w71 ⟨v246, rfl, ho0, hb⟩; refine ⟨_, rfl, ?_⟩; have n0_ := Aside0.mk (Kd.N_lower (Kd.N_mono (ok' := fun k_ => True) ho0 (fun k_ hk_ => trivial)) (below_size (by repeat (first | (with_reducible first | exact HB.out | apply below_alloc | apply pw_below_drewN | apply below_drew1) | exact HB.out)))); have n1_ := Aside0.mk (below_step (by repeat (first | (with_reducible first | exact HB.out | apply below_alloc | apply pw_below_drewN | apply below_drew1) | exact HB.out)) hb); clear HB; have HO247 := n0_; have HB := n1_; clear n0_ n1_; (try clear hb); (try clear hb2); (try clear hk); (try clear hi); (try clear ho0)) | ((with_reducible refine gate_callee (f := 12) rfl ?_); refine goesL_ (some 179) rfl rfl Tryd.func12 (by kernel_rfl) rfl #[.slice A4 l4.length c4, .int .i64 ji58] rfl (by (try simp only [List.map_toArray, List.map_cons, List.map_nil]); first | done | (simp only [hji58]; rfl) | rfl | (simp only [List.length_drop, List.length_take]; rfl)) ?_; (with_reducible refine (count_Limit.calls k4 _ _ l4 ji58 t249 t252 _ ?side1 ?side2 A59.out).mono ?_); (case side1 => repeat (first | exact (Kd.C_below HR4.out HB.out) | (with_reducible refine Kd.C_alloc ?_ _) | (with_reducible refine Kd.C_drewN ?_ _) | (with_reducible refine Kd.C_drew ?_))); (case side2 => exact HC4.out); rintro e w72 ⟨v250, rfl, ho0, hb⟩; refine ⟨_, rfl, ?_⟩; have n0_ := Aside0.mk (Kd.N_elder' (by (with_reducible repeat (first | apply Kd.N_alloc | apply Kd.N_drewN | apply Kd.N_drew)); exact HO247.out) (Kd.N_base ho0) hb); have n1_ := Aside0.mk (Kd.N_lower (Kd.N_mono (ok' := fun k_ => some k_ ≠ (v246 : Value).ownBlock) ho0 (fun k_ hk_ => (Kd.fresh' (Kd.N_lt (by (with_reducible repeat (first | apply Kd.N_alloc | apply Kd.N_drewN | apply Kd.N_drew)); exact HO247.out)) k_ hk_))) (below_size (by repeat (first | (with_reducible first | exact HB.out | apply below_alloc | apply pw_below_drewN | apply below_drew1) | exact HB.out)))); have n2_ := Aside0.mk (below_step (by repeat (first | (with_reducible first | exact HB.out | apply below_alloc | apply pw_below_drewN | apply below_drew1) | exact HB.out)) hb); clear HO247; clear HB; have HO247 := n0_; have HO251 := n1_; have HB := n2_; clear n0_ n1_ n2_; (try clear hb); (try clear hb2); (try clear hk); (try clear hi); (try clear ho0); obtain ⟨Ao73, co73, eo73⟩ := Kd.N_slice HO247.out; subst eo73) | (go_at_call 20; (with_reducible refine (clause_Holds.calls _ _ t245 _ _ l2 false _ ?side1 ?side2 ?side3 ?side4 A62.out).mono ?_); (case side1 => repeat (first | exact (Kd.N_reads' HO247.out).2.2 | (with_reducible refine Kd.C_alloc ?_ _) | (with_reducible refine Kd.C_drewN ?_ _) | (with_reducible refine Kd.C_drew ?_))); (case side2 => exact (Kd.N_reads' HO247.out).2.1); (case side3 => repeat (first | exact (Kd.C_below HR2.out HB.out) | (with_reducible refine Kd.C_alloc ?_ _) | (with_reducible refine Kd.C_drewN ?_ _) | (with_reducible refine Kd.C_drew ?_))); (case side4 => exact HC2.out); rintro e w74 ⟨rfl, hb⟩; have n0_ := Aside0.mk (Kd.N_below (by (with_reducible repeat (first | apply Kd.N_alloc | apply Kd.N_drewN | apply Kd.N_drew)); exact HO247.out) hb); have n1_ := Aside0.mk (Kd.N_below (by (with_reducible repeat (first | apply Kd.N_alloc | apply Kd.N_drewN | apply Kd.N_drew)); exact HO251.out) hb); have n2_ := Aside0.mk (below_step (by repeat (first | (with_reducible first | exact HB.out | apply below_alloc | apply pw_below_drewN | apply below_drew1) | exact HB.out)) hb); clear HO247; clear HO251; clear HB; have HO247 := n0_; have HO251 := n1_; have HB := n2_; clear n0_ n1_ n2_; (try clear hb); (try clear hb2); (try clear hk); (try clear hi)))
                                  go_ret
                                  exact ⟨by first | rfl | (simp [errW_none, errW_some] <;> rfl) | (simp only [← hji56, ← hji58]; first | rfl | (simp [errW_none, errW_some] <;> rfl)) | (simp [*, errW_none, errW_some] <;> rfl), by repeat (first | (with_reducible first | exact HB.out | apply below_alloc | apply pw_below_drewN | apply below_drew1) | exact HB.out)⟩
                              · rw [if_neg c61] at H
                                have c61b0 : (t248 == 0) = false := beq_eq_false_iff_ne.mpr c61
                                have c61b1 : (t248 != 0) = true := bne_iff_ne.mpr c61
                                obtain rfl := Option.some.inj H
                                go_wp2_with (first | ((with_reducible refine gate_callee (f := 12) rfl ?_); refine goesL_ (some 171) rfl rfl Tryd.func12 (by kernel_rfl) rfl #[.slice A4 l4.length c4, .int .i64 ji56] rfl (by (try simp only [List.map_toArray, List.map_cons, List.map_nil]); first | done | (simp only [hji56]; rfl) | rfl | (simp only [List.length_drop, List.length_take]; rfl)) ?_; (with_reducible refine (count_Limit.calls k4 _ _ l4 ji56 t245 t248 _ ?side1 ?side2 A57.out).mono ?_); (case side1 => repeat (first | exact (Kd.C_below HR4.out HB.out) | (with_reducible refine Kd.C_alloc ?_ _) | (with_reducible refine Kd.C_drewN ?_ _) | (with_reducible refine Kd.C_drew ?_))); (case side2 => exact HC4.out); rintro e w75 ⟨v246, rfl, ho0, hb⟩; refine ⟨_, rfl, ?_⟩; have n0_ := Aside0.mk (Kd.N_lower (Kd.N_mono (ok' := fun k_ => True) ho0 (fun k_ hk_ => trivial)) (below_size (by repeat (first | (with_reducible first | exact HB.out | apply below_alloc | apply pw_below_drewN | apply below_drew1) | exact HB.out)))); have n1_ := Aside0.mk (below_step (by repeat (first | (with_reducible first | exact HB.out | apply below_alloc | apply pw_below_drewN | apply below_drew1) | exact HB.out)) hb); clear HB; have HO247 := n0_; have HB := n1_; clear n0_ n1_; (try clear hb); (try clear hb2); (try clear hk); (try clear hi); (try clear ho0)) | ((with_reducible refine gate_callee (f := 12) rfl ?_); refine goesL_ (some 179) rfl rfl Tryd.func12 (by kernel_rfl) rfl #[.slice A4 l4.length c4, .int .i64 ji58] rfl (by (try simp only [List.map_toArray, List.map_cons, List.map_nil]); first | done | (simp only [hji58]; rfl) | rfl | (simp only [List.length_drop, List.length_take]; rfl)) ?_; (with_reducible refine (count_Limit.calls k4 _ _ l4 ji58 t249 t252 _ ?side1 ?side2 A59.out).mono ?_); (case side1 => repeat (first | exact (Kd.C_below HR4.out HB.out) | (with_reducible refine Kd.C_alloc ?_ _) | (with_reducible refine Kd.C_drewN ?_ _) | (with_reducible refine Kd.C_drew ?_))); (case side2 => exact HC4.out); rintro e w76 ⟨v250, rfl, ho0, hb⟩; refine ⟨_, rfl, ?_⟩; have n0_ := Aside0.mk (Kd.N_elder' (by (with_reducible repeat (first | apply Kd.N_alloc | apply Kd.N_drewN | apply Kd.N_drew)); exact HO247.out) (Kd.N_base ho0) hb); have n1_ := Aside0.mk (Kd.N_lower (Kd.N_mono (ok' := fun k_ => some k_ ≠ (v246 : Value).ownBlock) ho0 (fun k_ hk_ => (Kd.fresh' (Kd.N_lt (by (with_reducible repeat (first | apply Kd.N_alloc | apply Kd.N_drewN | apply Kd.N_drew)); exact HO247.out)) k_ hk_))) (below_size (by repeat (first | (with_reducible first | exact HB.out | apply below_alloc | apply pw_below_drewN | apply below_drew1) | exact HB.out)))); have n2_ := Aside0.mk (below_step (by repeat (first | (with_reducible first | exact HB.out | apply below_alloc | apply pw_below_drewN | apply below_drew1) | exact HB.out)) hb); clear HO247; clear HB; have HO247 := n0_; have HO251 := n1_; have HB := n2_; clear n0_ n1_ n2_; (try clear hb); (try clear hb2); (try clear hk); (try clear hi); (try clear ho0)))
                                go_ret
                                exact ⟨by first | rfl | (simp [errW_none, errW_some] <;> rfl) | (simp only [← hji56, ← hji58]; first | rfl | (simp [errW_none, errW_some] <;> rfl)) | (simp [*, errW_none, errW_some] <;> rfl), by repeat (first | (with_reducible first | exact HB.out | apply below_alloc | apply pw_below_drewN | apply below_drew1) | exact HB.out)⟩
                            · rw [if_neg c60] at H
                              exact absurd H (by simp)
          · rw [if_neg c19] at H
            exact absurd H (by simp)
        · rw [if_neg c18] at H
          exact absurd H (by simp)

end Go.Proofs.YtooobbbpcpfddaaDoor.PA
