-- Printed by gprint.py (wip/ of this repo), over the kit's print.
import Derived.Test.YtekplcjgmnahmaaDoorPA0
import Derived.Test.YtekplcjgmnahmaaDoorPAEq0
namespace Go.Proofs.YtekplcjgmnahmaaDoor.PA
open Go.RowKit Go.Proofs.YtekplcjgmnahmaaDoorW.PrintWords Go.Proofs.YtekplcjgmnahmaaDoorW.PrintLast Go.Proofs.YtekplcjgmnahmaaDoorW.PrintMore
attribute [local go_sem] max2_int min2_int max_two min_two max_three min_three max_four min_four   -- for this text's walks alone
set_option linter.unusedVariables false
set_option linter.unusedSimpArgs false

attribute [local go_sem high] eqA49
/-! ### keelsonlaw5_sameFields: function 17 -/
def keelsonlaw5_sameFields.l0 : Nat → List (S49) → List (S49) → Int → Option (Bool)
  | 0, _, _, _ => none
  | k + 1, x0, x1, x5 => if x5 < (x0.length : Int) then (if 0 ≤ x5 then (if x5 < (x1.length : Int) then (if (!((((rd_T49 x0 x5).f0).toList) == (((rd_T49 x1 x5).f0).toList)) || (!((((rd_T49 x0 x5).f1).toList) == (((rd_T49 x1 x5).f1).toList)))) = true then (some false) else (keelsonlaw5_sameFields.l0 k x0 x1 (wrap64 (x5 + 1)))) else (none)) else (none)) else (some true)
def keelsonlaw5_sameFields.f (k : Nat) (l0 : List (S49)) (l1 : List (S49)) : Option (Bool) := if (l0.length : Int) = (l1.length : Int) then (keelsonlaw5_sameFields.l0 k l0 l1 0) else (some false)
theorem keelsonlaw5_sameFields.mono_l : ∀ k, (∀ y0 y1 y2, LeO (keelsonlaw5_sameFields.l0 k y0 y1 y2) (keelsonlaw5_sameFields.l0 (k + 1) y0 y1 y2))
  | 0 => fun _ _ _ r h => by simp [keelsonlaw5_sameFields.l0] at h
  | k + 1 => by
    have ih0 := keelsonlaw5_sameFields.mono_l k
    · intro y0 y1 y2
      unfold keelsonlaw5_sameFields.l0
      repeat' first
      | (with_reducible exact ih0 _ _ _)
      | (with_reducible exact LeO.refl _)
      | (with_reducible exact LeO.none _)
      | (with_reducible refine LeO.ite ?_ ?_)
      | (with_reducible refine LeO.bind ?_ (fun _ => ?_))
      | exact ih0 _ _ _
      | exact LeO.none _
      | refine LeO.ite ?_ ?_
      | refine LeO.bind ?_ (fun _ => ?_)
theorem keelsonlaw5_sameFields.mono : ∀ a0 a1 k, LeO (keelsonlaw5_sameFields.f k a0 a1) (keelsonlaw5_sameFields.f (k + 1) a0 a1) := by
  intro a0 a1 k
  have ih0 := keelsonlaw5_sameFields.mono_l k
  unfold keelsonlaw5_sameFields.f
  repeat' first
      | (with_reducible exact ih0 _ _ _)
      | (with_reducible exact LeO.refl _)
      | (with_reducible exact LeO.none _)
      | (with_reducible refine LeO.ite ?_ ?_)
      | (with_reducible refine LeO.bind ?_ (fun _ => ?_))
      | exact ih0 _ _ _
      | exact LeO.none _
      | refine LeO.ite ?_ ?_
      | refine LeO.bind ?_ (fun _ => ?_)
set_option maxHeartbeats 8000000 in
set_option maxRecDepth 100000 in
theorem keelsonlaw5_sameFields.calls (k : Nat) (A0 : Option Addr) (c0 : Nat) (l0 : List (S49)) (A1 : Option Addr) (c1 : Nat) (l1 : List (S49)) (r : Bool) (w : World) (hr0 : Kd.C k49 w A0 l0.length l0) (hc0 : l0.length ≤ c0) (hr1 : Kd.C k49 w A1 l1.length l1) (hc1 : l1.length ≤ c1) (h : keelsonlaw5_sameFields.f k l0 l1 = some r) :
    Calls Tryd.prog 17 #[.slice A0 l0.length c0, .slice A1 l1.length c1] w fun e w' => e = .returned (.bool r) ∧ Drawn0 w w' := by
  have hu49 := Tryd.underlying49
  have HR0 := Aside0.mk hr0
  have HC0 := Aside0.mk hc0
  clear hr0 hc0
  have HR1 := Aside0.mk hr1
  have HC1 := Aside0.mk hc1
  clear hr1 hc1
  have H : (if (l0.length : Int) = (l1.length : Int) then (keelsonlaw5_sameFields.l0 k l0 l1 0) else (some false)) = some r := h
  clear h
  by_cases c3 : (l0.length : Int) = (l1.length : Int)
  · rw [if_pos c3] at H
    have c3b0 : ((l0.length : Int) == (l1.length : Int)) = true := beq_iff_eq.mpr c3
    have c3b1 : ((l0.length : Int) != (l1.length : Int)) = false := bne_eq_false_iff_eq.mpr c3
    have c3b2 : (l0.length == l1.length) = true := by first | simpa using c3 | (simp at c3 ⊢; omega)
    clear c3
    have H' := Aside0.mk H
    clear H
    go_enter Tryd.func17, Tryd.ntmps17
    go_wp2
    repeat (go_quiet (fail); try go_wp2)
    go_loopg [5] k (fun kq v5 w' => ∃ (x5_1 : Int), v5 = .int .i64 x5_1 ∧ Aside0 (keelsonlaw5_sameFields.l0 kq l0 l1 x5_1 = some r) ∧ Aside0 (kq ≤ k) ∧ Drawn0 w w')
    case atStart => exact ⟨(0), (by first | rfl | (simp; done) | (simp [*]; done)), H', ⟨Nat.le_refl _⟩, by repeat (first | exact Drawn0.refl _ | apply Drawn0.step)⟩
    case round =>
      clear H'
      try clear c1
      try clear p2
      try clear c3
      try clear c3b0
      try clear c3b1
      try clear c3b2
      obtain ⟨x5_1, rfl, HA, HK1, ⟨m1, rfl⟩⟩ := hrel
      cases gk with
      | zero => exact absurd HA.out (by simp [keelsonlaw5_sameFields.l0])
      | succ k1 =>
        have H := HA.out
        clear HA
        simp only [keelsonlaw5_sameFields.l0] at H
        by_cases c4 : x5_1 < (l0.length : Int)
        · rw [if_pos c4] at H
          have c4b0 : decide (x5_1 < (l0.length : Int)) = true := decide_eq_true c4
          clear c4
          by_cases c5 : 0 ≤ x5_1
          · rw [if_pos c5] at H
            have c5b0 : decide (0 ≤ x5_1) = true := decide_eq_true c5
            clear c5
            by_cases c6 : x5_1 < (l1.length : Int)
            · rw [if_pos c6] at H
              have c6b0 : decide (x5_1 < (l1.length : Int)) = true := decide_eq_true c6
              clear c6
              by_cases c7 : (!((((rd_T49 l0 x5_1).f0).toList) == (((rd_T49 l1 x5_1).f0).toList)) || (!((((rd_T49 l0 x5_1).f1).toList) == (((rd_T49 l1 x5_1).f1).toList)))) = true
              · rw [if_pos c7] at H
                have c7b0 : (!((((rd_T49 l0 x5_1).f0).toList) == (((rd_T49 l1 x5_1).f0).toList)) || (!((((rd_T49 l0 x5_1).f1).toList) == (((rd_T49 l1 x5_1).f1).toList)))) = true := c7
                clear c7
                obtain rfl := Option.some.inj H
                have p103 : 0 ≤ (x5_1 : Int) := of_decide_eq_true (by first | (with_reducible assumption) | assumption)
                have q103 : x5_1 < (l0.length : Int) := of_decide_eq_true (by first | (with_reducible assumption) | assumption)
                obtain ⟨ad103, e103, hx103_0, hx103_1⟩ := at_T49 HR0.out x5_1 p103 q103
                cases e103
                replace p103 := eq_true p103
                replace q103 := eq_true q103
                have p104 : 0 ≤ (x5_1 : Int) := of_decide_eq_true (by first | (with_reducible assumption) | assumption)
                have q104 : x5_1 < (l1.length : Int) := of_decide_eq_true (by first | (with_reducible assumption) | assumption)
                obtain ⟨ad104, e104, hx104_0, hx104_1⟩ := at_T49 HR1.out x5_1 p104 q104
                cases e104
                replace p104 := eq_true p104
                replace q104 := eq_true q104
                go_wp2
                repeat (go_quiet (fail); try go_wp2)
                go_ret
                exact ⟨by first | rfl | (simp; done) | (simp [*]; done), by repeat (first | exact Drawn0.refl _ | apply Drawn0.step)⟩
              · rw [if_neg c7] at H
                have c7b0 : (!((((rd_T49 l0 x5_1).f0).toList) == (((rd_T49 l1 x5_1).f0).toList)) || (!((((rd_T49 l0 x5_1).f1).toList) == (((rd_T49 l1 x5_1).f1).toList)))) = false := by simpa using c7
                clear c7
                have H' := Aside0.mk H
                clear H
                have p103 : 0 ≤ (x5_1 : Int) := of_decide_eq_true (by first | (with_reducible assumption) | assumption)
                have q103 : x5_1 < (l0.length : Int) := of_decide_eq_true (by first | (with_reducible assumption) | assumption)
                obtain ⟨ad103, e103, hx103_0, hx103_1⟩ := at_T49 HR0.out x5_1 p103 q103
                cases e103
                replace p103 := eq_true p103
                replace q103 := eq_true q103
                have p104 : 0 ≤ (x5_1 : Int) := of_decide_eq_true (by first | (with_reducible assumption) | assumption)
                have q104 : x5_1 < (l1.length : Int) := of_decide_eq_true (by first | (with_reducible assumption) | assumption)
                obtain ⟨ad104, e104, hx104_0, hx104_1⟩ := at_T49 HR1.out x5_1 p104 q104
                cases e104
                replace p104 := eq_true p104
                replace q104 := eq_true q104
                go_wp2
                repeat (go_quiet (fail); try go_wp2)
                go_roundg k1
                case measure => have := HK1.out; omega
                case rel => exact ⟨(wrap64 (x5_1 + 1)), (by first | rfl | (simp; done) | (simp [*]; done)), H', ⟨by have := HK1.out; omega⟩, by repeat (first | exact Drawn0.refl _ | apply Drawn0.step)⟩
            · rw [if_neg c6] at H
              exact absurd H (by simp)
          · rw [if_neg c5] at H
            exact absurd H (by simp)
        · rw [if_neg c4] at H
          have c4b0 : decide (x5_1 < (l0.length : Int)) = false := decide_eq_false c4
          clear c4
          obtain rfl := Option.some.inj H
          go_wp2
          repeat (go_quiet (fail); try go_wp2)
          go_ret
          exact ⟨by first | rfl | (simp; done) | (simp [*]; done), by repeat (first | exact Drawn0.refl _ | apply Drawn0.step)⟩
  · rw [if_neg c3] at H
    have c3b0 : ((l0.length : Int) == (l1.length : Int)) = false := beq_eq_false_iff_ne.mpr c3
    have c3b1 : ((l0.length : Int) != (l1.length : Int)) = true := bne_iff_ne.mpr c3
    have c3b2 : (l0.length == l1.length) = false := by first | simpa using c3 | (simp at c3 ⊢; omega)
    obtain rfl := Option.some.inj H
    go_enter Tryd.func17, Tryd.ntmps17
    go_wp2
    repeat (go_quiet (fail); try go_wp2)
    go_ret
    exact ⟨by first | rfl | (simp; done) | (simp [*]; done), by repeat (first | exact Drawn0.refl _ | apply Drawn0.step)⟩

/-! ### keelsonlaw5_same: function 12 -/
def keelsonlaw5_same.l0 : Nat → List (List (S49)) → List (List (S49)) → Int → Option (Bool)
  | 0, _, _, _ => none
  | k + 1, x0, x1, x5 => if x5 < (x0.length : Int) then (if 0 ≤ x5 then (if x5 < (x1.length : Int) then ((keelsonlaw5_sameFields.f k (rd_L2 x0 x5) (rd_L2 x1 x5)).bind fun t107 => (if t107 = true then (keelsonlaw5_same.l0 k x0 x1 (wrap64 (x5 + 1))) else (some false))) else (none)) else (none)) else (some true)
def keelsonlaw5_same.f (k : Nat) (l0 : List (List (S49))) (l1 : List (List (S49))) : Option (Bool) := if (l0.length : Int) = (l1.length : Int) then (keelsonlaw5_same.l0 k l0 l1 0) else (some false)
theorem keelsonlaw5_same.mono_l : ∀ k, (∀ y0 y1 y2, LeO (keelsonlaw5_same.l0 k y0 y1 y2) (keelsonlaw5_same.l0 (k + 1) y0 y1 y2))
  | 0 => fun _ _ _ r h => by simp [keelsonlaw5_same.l0] at h
  | k + 1 => by
    have ih0 := keelsonlaw5_same.mono_l k
    · intro y0 y1 y2
      unfold keelsonlaw5_same.l0
      repeat' first
      | (with_reducible exact ih0 _ _ _)
      | (with_reducible exact keelsonlaw5_sameFields.mono _ _ _)
      | (with_reducible exact LeO.refl _)
      | (with_reducible exact LeO.none _)
      | (with_reducible refine LeO.ite ?_ ?_)
      | (with_reducible refine LeO.bind ?_ (fun _ => ?_))
      | exact ih0 _ _ _
      | exact keelsonlaw5_sameFields.mono _ _ _
      | exact LeO.none _
      | refine LeO.ite ?_ ?_
      | refine LeO.bind ?_ (fun _ => ?_)
theorem keelsonlaw5_same.mono : ∀ a0 a1 k, LeO (keelsonlaw5_same.f k a0 a1) (keelsonlaw5_same.f (k + 1) a0 a1) := by
  intro a0 a1 k
  have ih0 := keelsonlaw5_same.mono_l k
  unfold keelsonlaw5_same.f
  repeat' first
      | (with_reducible exact ih0 _ _ _)
      | (with_reducible exact keelsonlaw5_sameFields.mono _ _ _)
      | (with_reducible exact LeO.refl _)
      | (with_reducible exact LeO.none _)
      | (with_reducible refine LeO.ite ?_ ?_)
      | (with_reducible refine LeO.bind ?_ (fun _ => ?_))
      | exact ih0 _ _ _
      | exact keelsonlaw5_sameFields.mono _ _ _
      | exact LeO.none _
      | refine LeO.ite ?_ ?_
      | refine LeO.bind ?_ (fun _ => ?_)
set_option maxHeartbeats 8000000 in
set_option maxRecDepth 100000 in
theorem keelsonlaw5_same.calls (k : Nat) (A0 : Option Addr) (c0 : Nat) (l0 : List (List (S49))) (A1 : Option Addr) (c1 : Nat) (l1 : List (List (S49))) (r : Bool) (w : World) (hr0 : Kd.C (Kd.slice 49 k49) w A0 l0.length l0) (hc0 : l0.length ≤ c0) (hr1 : Kd.C (Kd.slice 49 k49) w A1 l1.length l1) (hc1 : l1.length ≤ c1) (h : keelsonlaw5_same.f k l0 l1 = some r) :
    Calls Tryd.prog 12 #[.slice A0 l0.length c0, .slice A1 l1.length c1] w fun e w' => e = .returned (.bool r) ∧ Drawn0 w w' := by
  have HR0 := Aside0.mk hr0
  have HC0 := Aside0.mk hc0
  clear hr0 hc0
  have HR1 := Aside0.mk hr1
  have HC1 := Aside0.mk hc1
  clear hr1 hc1
  have H : (if (l0.length : Int) = (l1.length : Int) then (keelsonlaw5_same.l0 k l0 l1 0) else (some false)) = some r := h
  clear h
  by_cases c3 : (l0.length : Int) = (l1.length : Int)
  · rw [if_pos c3] at H
    have c3b0 : ((l0.length : Int) == (l1.length : Int)) = true := beq_iff_eq.mpr c3
    have c3b1 : ((l0.length : Int) != (l1.length : Int)) = false := bne_eq_false_iff_eq.mpr c3
    have c3b2 : (l0.length == l1.length) = true := by first | simpa using c3 | (simp at c3 ⊢; omega)
    clear c3
    have H' := Aside0.mk H
    clear H
    go_enter Tryd.func12, Tryd.ntmps12
    go_wp2
    repeat (go_quiet (fail); try go_wp2)
    go_loopg [5] k (fun kq v5 w' => ∃ (x5_1 : Int), v5 = .int .i64 x5_1 ∧ Aside0 (keelsonlaw5_same.l0 kq l0 l1 x5_1 = some r) ∧ Aside0 (kq ≤ k) ∧ Drawn0 w w')
    case atStart => exact ⟨(0), (by first | rfl | (simp; done) | (simp [*]; done)), H', ⟨Nat.le_refl _⟩, by repeat (first | exact Drawn0.refl _ | apply Drawn0.step)⟩
    case round =>
      clear H'
      try clear c1
      try clear p2
      try clear c3
      try clear c3b0
      try clear c3b1
      try clear c3b2
      obtain ⟨x5_1, rfl, HA, HK1, ⟨m1, rfl⟩⟩ := hrel
      cases gk with
      | zero => exact absurd HA.out (by simp [keelsonlaw5_same.l0])
      | succ k1 =>
        have H := HA.out
        clear HA
        simp only [keelsonlaw5_same.l0] at H
        by_cases c4 : x5_1 < (l0.length : Int)
        · rw [if_pos c4] at H
          have c4b0 : decide (x5_1 < (l0.length : Int)) = true := decide_eq_true c4
          clear c4
          by_cases c5 : 0 ≤ x5_1
          · rw [if_pos c5] at H
            have c5b0 : decide (0 ≤ x5_1) = true := decide_eq_true c5
            clear c5
            by_cases c6 : x5_1 < (l1.length : Int)
            · rw [if_pos c6] at H
              have c6b0 : decide (x5_1 < (l1.length : Int)) = true := decide_eq_true c6
              clear c6
              replace H := Option.bind_eq_some_iff.mp H
              obtain ⟨t107, A70, H⟩ := H
              replace H : (if t107 = true then (keelsonlaw5_same.l0 k1 l0 l1 (wrap64 (x5_1 + 1))) else (some false)) = some r := H
              have A7 := Aside0.mk A70
              clear A70
              by_cases c8 : t107 = true
              · subst c8
                have H1 : (keelsonlaw5_same.l0 k1 l0 l1 (wrap64 (x5_1 + 1))) = some r := by rw [if_pos rfl] at H; exact H
                clear H
                have H := H1
                clear H1
                have H' := Aside0.mk H
                clear H
                have p105 : 0 ≤ (x5_1 : Int) := of_decide_eq_true (by first | (with_reducible assumption) | assumption)
                have q105 : x5_1 < (l0.length : Int) := of_decide_eq_true (by first | (with_reducible assumption) | assumption)
                obtain ⟨ad105, A105_0, c105_0, e105, hx105_0, hl105_0, hi105_0⟩ := at_L2 HR0.out x5_1 p105 q105
                cases e105
                have HR105_0 := Aside0.mk hi105_0
                have HC105_0 := Aside0.mk hl105_0
                clear hi105_0 hl105_0
                replace p105 := eq_true p105
                replace q105 := eq_true q105
                have p106 : 0 ≤ (x5_1 : Int) := of_decide_eq_true (by first | (with_reducible assumption) | assumption)
                have q106 : x5_1 < (l1.length : Int) := of_decide_eq_true (by first | (with_reducible assumption) | assumption)
                obtain ⟨ad106, A106_0, c106_0, e106, hx106_0, hl106_0, hi106_0⟩ := at_L2 HR1.out x5_1 p106 q106
                cases e106
                have HR106_0 := Aside0.mk hi106_0
                have HC106_0 := Aside0.mk hl106_0
                clear hi106_0 hl106_0
                replace p106 := eq_true p106
                replace q106 := eq_true q106
                go_wp2_with (first | (go_at_call 17; (with_reducible refine (keelsonlaw5_sameFields.calls k1 _ _ (rd_L2 l0 x5_1) _ _ (rd_L2 l1 x5_1) true _ ?side1 ?side2 ?side3 ?side4 A7.out).mono ?_); (case side1 => repeat (first | exact HR105_0.out | (with_reducible refine Kd.C_alloc ?_ _) | (with_reducible refine Kd.C_drewN ?_ _) | (with_reducible refine Kd.C_drew ?_))); (case side2 => exact HC105_0.out); (case side3 => repeat (first | exact HR106_0.out | (with_reducible refine Kd.C_alloc ?_ _) | (with_reducible refine Kd.C_drewN ?_ _) | (with_reducible refine Kd.C_drew ?_))); (case side4 => exact HC106_0.out); rintro e w' ⟨rfl, ⟨nd, rfl⟩⟩; (try first | exact ⟨rfl, _, World.drewN_drewN _ _ _⟩ | exact ⟨rfl, _, Eq.trans (World.drewN_drewN _ _ _) (congrArg (World.drewN _) (Nat.add_assoc _ _ _))⟩)))
                repeat (go_quiet (first | (go_at_call 17; (with_reducible refine (keelsonlaw5_sameFields.calls k1 _ _ (rd_L2 l0 x5_1) _ _ (rd_L2 l1 x5_1) true _ ?side1 ?side2 ?side3 ?side4 A7.out).mono ?_); (case side1 => repeat (first | exact HR105_0.out | (with_reducible refine Kd.C_alloc ?_ _) | (with_reducible refine Kd.C_drewN ?_ _) | (with_reducible refine Kd.C_drew ?_))); (case side2 => exact HC105_0.out); (case side3 => repeat (first | exact HR106_0.out | (with_reducible refine Kd.C_alloc ?_ _) | (with_reducible refine Kd.C_drewN ?_ _) | (with_reducible refine Kd.C_drew ?_))); (case side4 => exact HC106_0.out); rintro e w' ⟨rfl, ⟨nd, rfl⟩⟩; (try first | exact ⟨rfl, _, World.drewN_drewN _ _ _⟩ | exact ⟨rfl, _, Eq.trans (World.drewN_drewN _ _ _) (congrArg (World.drewN _) (Nat.add_assoc _ _ _))⟩))); try go_wp2_with (first | (go_at_call 17; (with_reducible refine (keelsonlaw5_sameFields.calls k1 _ _ (rd_L2 l0 x5_1) _ _ (rd_L2 l1 x5_1) true _ ?side1 ?side2 ?side3 ?side4 A7.out).mono ?_); (case side1 => repeat (first | exact HR105_0.out | (with_reducible refine Kd.C_alloc ?_ _) | (with_reducible refine Kd.C_drewN ?_ _) | (with_reducible refine Kd.C_drew ?_))); (case side2 => exact HC105_0.out); (case side3 => repeat (first | exact HR106_0.out | (with_reducible refine Kd.C_alloc ?_ _) | (with_reducible refine Kd.C_drewN ?_ _) | (with_reducible refine Kd.C_drew ?_))); (case side4 => exact HC106_0.out); rintro e w' ⟨rfl, ⟨nd, rfl⟩⟩; (try first | exact ⟨rfl, _, World.drewN_drewN _ _ _⟩ | exact ⟨rfl, _, Eq.trans (World.drewN_drewN _ _ _) (congrArg (World.drewN _) (Nat.add_assoc _ _ _))⟩))))
                go_roundg k1
                case measure => have := HK1.out; omega
                case rel => exact ⟨(wrap64 (x5_1 + 1)), (by first | rfl | (simp; done) | (simp [*]; done)), H', ⟨by have := HK1.out; omega⟩, by repeat (first | exact Drawn0.refl _ | apply Drawn0.step)⟩
              · replace c8 := Bool.eq_false_iff.mpr c8
                subst c8
                have H1 : (some false) = some r := by rw [if_neg (show ¬ (false = true) by decide)] at H; exact H
                clear H
                have H := H1
                clear H1
                obtain rfl := Option.some.inj H
                have p105 : 0 ≤ (x5_1 : Int) := of_decide_eq_true (by first | (with_reducible assumption) | assumption)
                have q105 : x5_1 < (l0.length : Int) := of_decide_eq_true (by first | (with_reducible assumption) | assumption)
                obtain ⟨ad105, A105_0, c105_0, e105, hx105_0, hl105_0, hi105_0⟩ := at_L2 HR0.out x5_1 p105 q105
                cases e105
                have HR105_0 := Aside0.mk hi105_0
                have HC105_0 := Aside0.mk hl105_0
                clear hi105_0 hl105_0
                replace p105 := eq_true p105
                replace q105 := eq_true q105
                have p106 : 0 ≤ (x5_1 : Int) := of_decide_eq_true (by first | (with_reducible assumption) | assumption)
                have q106 : x5_1 < (l1.length : Int) := of_decide_eq_true (by first | (with_reducible assumption) | assumption)
                obtain ⟨ad106, A106_0, c106_0, e106, hx106_0, hl106_0, hi106_0⟩ := at_L2 HR1.out x5_1 p106 q106
                cases e106
                have HR106_0 := Aside0.mk hi106_0
                have HC106_0 := Aside0.mk hl106_0
                clear hi106_0 hl106_0
                replace p106 := eq_true p106
                replace q106 := eq_true q106
                go_wp2_with (first | (go_at_call 17; (with_reducible refine (keelsonlaw5_sameFields.calls k1 _ _ (rd_L2 l0 x5_1) _ _ (rd_L2 l1 x5_1) false _ ?side1 ?side2 ?side3 ?side4 A7.out).mono ?_); (case side1 => repeat (first | exact HR105_0.out | (with_reducible refine Kd.C_alloc ?_ _) | (with_reducible refine Kd.C_drewN ?_ _) | (with_reducible refine Kd.C_drew ?_))); (case side2 => exact HC105_0.out); (case side3 => repeat (first | exact HR106_0.out | (with_reducible refine Kd.C_alloc ?_ _) | (with_reducible refine Kd.C_drewN ?_ _) | (with_reducible refine Kd.C_drew ?_))); (case side4 => exact HC106_0.out); rintro e w' ⟨rfl, ⟨nd, rfl⟩⟩; (try first | exact ⟨rfl, _, World.drewN_drewN _ _ _⟩ | exact ⟨rfl, _, Eq.trans (World.drewN_drewN _ _ _) (congrArg (World.drewN _) (Nat.add_assoc _ _ _))⟩)))
                repeat (go_quiet (first | (go_at_call 17; (with_reducible refine (keelsonlaw5_sameFields.calls k1 _ _ (rd_L2 l0 x5_1) _ _ (rd_L2 l1 x5_1) false _ ?side1 ?side2 ?side3 ?side4 A7.out).mono ?_); (case side1 => repeat (first | exact HR105_0.out | (with_reducible refine Kd.C_alloc ?_ _) | (with_reducible refine Kd.C_drewN ?_ _) | (with_reducible refine Kd.C_drew ?_))); (case side2 => exact HC105_0.out); (case side3 => repeat (first | exact HR106_0.out | (with_reducible refine Kd.C_alloc ?_ _) | (with_reducible refine Kd.C_drewN ?_ _) | (with_reducible refine Kd.C_drew ?_))); (case side4 => exact HC106_0.out); rintro e w' ⟨rfl, ⟨nd, rfl⟩⟩; (try first | exact ⟨rfl, _, World.drewN_drewN _ _ _⟩ | exact ⟨rfl, _, Eq.trans (World.drewN_drewN _ _ _) (congrArg (World.drewN _) (Nat.add_assoc _ _ _))⟩))); try go_wp2_with (first | (go_at_call 17; (with_reducible refine (keelsonlaw5_sameFields.calls k1 _ _ (rd_L2 l0 x5_1) _ _ (rd_L2 l1 x5_1) false _ ?side1 ?side2 ?side3 ?side4 A7.out).mono ?_); (case side1 => repeat (first | exact HR105_0.out | (with_reducible refine Kd.C_alloc ?_ _) | (with_reducible refine Kd.C_drewN ?_ _) | (with_reducible refine Kd.C_drew ?_))); (case side2 => exact HC105_0.out); (case side3 => repeat (first | exact HR106_0.out | (with_reducible refine Kd.C_alloc ?_ _) | (with_reducible refine Kd.C_drewN ?_ _) | (with_reducible refine Kd.C_drew ?_))); (case side4 => exact HC106_0.out); rintro e w' ⟨rfl, ⟨nd, rfl⟩⟩; (try first | exact ⟨rfl, _, World.drewN_drewN _ _ _⟩ | exact ⟨rfl, _, Eq.trans (World.drewN_drewN _ _ _) (congrArg (World.drewN _) (Nat.add_assoc _ _ _))⟩))))
                go_ret
                exact ⟨by first | rfl | (simp; done) | (simp [*]; done), by repeat (first | exact Drawn0.refl _ | apply Drawn0.step)⟩
            · rw [if_neg c6] at H
              exact absurd H (by simp)
          · rw [if_neg c5] at H
            exact absurd H (by simp)
        · rw [if_neg c4] at H
          have c4b0 : decide (x5_1 < (l0.length : Int)) = false := decide_eq_false c4
          clear c4
          obtain rfl := Option.some.inj H
          go_wp2
          repeat (go_quiet (fail); try go_wp2)
          go_ret
          exact ⟨by first | rfl | (simp; done) | (simp [*]; done), by repeat (first | exact Drawn0.refl _ | apply Drawn0.step)⟩
  · rw [if_neg c3] at H
    have c3b0 : ((l0.length : Int) == (l1.length : Int)) = false := beq_eq_false_iff_ne.mpr c3
    have c3b1 : ((l0.length : Int) != (l1.length : Int)) = true := bne_iff_ne.mpr c3
    have c3b2 : (l0.length == l1.length) = false := by first | simpa using c3 | (simp at c3 ⊢; omega)
    obtain rfl := Option.some.inj H
    go_enter Tryd.func12, Tryd.ntmps12
    go_wp2
    repeat (go_quiet (fail); try go_wp2)
    go_ret
    exact ⟨by first | rfl | (simp; done) | (simp [*]; done), by repeat (first | exact Drawn0.refl _ | apply Drawn0.step)⟩

/-! ### keelsonlaw5_as: function 13 -/
def keelsonlaw5_as.l0 : Nat → List (List (S49)) → List (List (S49)) → Int → Option ((List (List (S49))))
  | 0, _, _, _ => none
  | k + 1, x0, x3, x4 => if x4 < (x0.length : Int) then (if 0 ≤ x4 then (if x3.length < 5864062014805 then (keelsonlaw5_as.l0 k x0 (x3 ++ [rd_L2 x0 x4]) (wrap64 (x4 + 1))) else (none)) else (none)) else (some x3)
def keelsonlaw5_as.f (k : Nat) (l0 : List (List (S49))) : Option ((List (List (S49)))) := keelsonlaw5_as.l0 k l0 ([] : List (List (S49))) 0
theorem keelsonlaw5_as.mono_l : ∀ k, (∀ y0 y1 y2, LeO (keelsonlaw5_as.l0 k y0 y1 y2) (keelsonlaw5_as.l0 (k + 1) y0 y1 y2))
  | 0 => fun _ _ _ r h => by simp [keelsonlaw5_as.l0] at h
  | k + 1 => by
    have ih0 := keelsonlaw5_as.mono_l k
    · intro y0 y1 y2
      unfold keelsonlaw5_as.l0
      repeat' first
      | (with_reducible exact ih0 _ _ _)
      | (with_reducible exact LeO.refl _)
      | (with_reducible exact LeO.none _)
      | (with_reducible refine LeO.ite ?_ ?_)
      | (with_reducible refine LeO.bind ?_ (fun _ => ?_))
      | exact ih0 _ _ _
      | exact LeO.none _
      | refine LeO.ite ?_ ?_
      | refine LeO.bind ?_ (fun _ => ?_)
theorem keelsonlaw5_as.mono : ∀ a0 k, LeO (keelsonlaw5_as.f k a0) (keelsonlaw5_as.f (k + 1) a0) := by
  intro a0 k
  have ih0 := keelsonlaw5_as.mono_l k
  unfold keelsonlaw5_as.f
  repeat' first
      | (with_reducible exact ih0 _ _ _)
      | (with_reducible exact LeO.refl _)
      | (with_reducible exact LeO.none _)
      | (with_reducible refine LeO.ite ?_ ?_)
      | (with_reducible refine LeO.bind ?_ (fun _ => ?_))
      | exact ih0 _ _ _
      | exact LeO.none _
      | refine LeO.ite ?_ ?_
      | refine LeO.bind ?_ (fun _ => ?_)
set_option maxHeartbeats 8000000 in
set_option maxRecDepth 100000 in
theorem keelsonlaw5_as.calls (k : Nat) (P0_ : Nat → Prop) (A0 : Option Addr) (c0 : Nat) (l0 : List (List (S49))) (r : List (List (S49))) (w : World) (hs0 : Kd.V (Kd.slice 49 k49) 36 w w.heap.size (fun k_ => P0_ k_) (.slice A0 l0.length c0) l0) (h : keelsonlaw5_as.f k l0 = some r) :
    Calls Tryd.prog 13 #[.slice A0 l0.length c0] w fun e w' => ∃ v0_ : Value, e = .returned (v0_) ∧ Kd.N (Kd.slice 49 k49) 35 w' w.heap.size (fun k_ => (P0_ k_ ∨ w.heap.size ≤ k_)) v0_ r ∧ Below w.heap.size w w' := by
  have HO0 := Aside0.mk (show Kd.V (Kd.slice 49 k49) 36 w w.heap.size (fun k_ => (P0_ k_ ∨ w.heap.size ≤ k_)) (.slice A0 l0.length c0) l0 from Kd.V_mono hs0 (fun k_ hk => .inl hk))
  have HB := Aside0.mk (Below.refl w.heap.size w)
  have H : (keelsonlaw5_as.l0 k l0 ([] : List (List (S49))) 0) = some r := h
  clear h
  have H' := Aside0.mk H
  clear H
  go_enter Tryd.func13, Tryd.ntmps13
  go_wp2
  go_loopg [3, 4] k (fun kq v3 v4 w' => ∃ (x3_1 : List (List (S49))) (x4_1 : Int), v4 = .int .i64 x4_1 ∧ Aside0 (keelsonlaw5_as.l0 kq l0 x3_1 x4_1 = some r) ∧ Aside0 (kq ≤ k) ∧ Aside0 (Kd.V (Kd.slice 49 k49) 36 w' w.heap.size (fun k_ => (P0_ k_ ∨ w.heap.size ≤ k_) ∧ some k_ ≠ (v3 : Value).ownBlock) (.slice A0 l0.length c0) l0) ∧ Aside0 (Kd.N (Kd.slice 49 k49) 35 w' w.heap.size (fun k_ => (P0_ k_ ∨ w.heap.size ≤ k_)) v3 x3_1) ∧ Aside0 (Below w.heap.size w w'))
  case atStart => exact ⟨(([] : List (List (S49)))), (0), (by first | rfl | (simp; done) | (simp [*]; done)), H', ⟨Nat.le_refl _⟩, ⟨by (with_reducible repeat (first | apply Kd.V_alloc | apply Kd.V_drewN | apply Kd.V_drew)); exact Kd.V_mono HO0.out (fun _ hk => ⟨hk, (by simp [Value.ownBlock])⟩)⟩, ⟨by first | exact Kd.S_nil _ _ _ _ _ | exact Kd.N_nil _ _ _ _ _ | exact Kd.V_nil _ _ _ _ _ | exact Kd.Q_nil _ _ _ _ _ | exact Kd.R_nil _ _ _ _ _⟩, ⟨by repeat (first | (with_reducible first | exact HB.out | apply below_alloc | apply pw_below_drewN | apply below_drew1) | exact HB.out)⟩⟩
  case round =>
    clear H'
    try clear c1
    obtain ⟨x3_1, x4_1, rfl, HA, HK1, HO_0, HO_3, HB⟩ := hrel
    cases gk with
    | zero => exact absurd HA.out (by simp [keelsonlaw5_as.l0])
    | succ k1 =>
      have H := HA.out
      clear HA
      simp only [keelsonlaw5_as.l0] at H
      by_cases c2 : x4_1 < (l0.length : Int)
      · rw [if_pos c2] at H
        have c2b0 : decide (x4_1 < (l0.length : Int)) = true := decide_eq_true c2
        clear c2
        by_cases c3 : 0 ≤ x4_1
        · rw [if_pos c3] at H
          have c3b0 : decide (0 ≤ x4_1) = true := decide_eq_true c3
          clear c3
          by_cases c4 : x3_1.length < 5864062014805
          · rw [if_pos c4] at H
            have LMc4 := Aside0.mk c4
            clear c4
            obtain ⟨y109, hy109⟩ : ∃ y_ : List (List (S49)), y_ = (x3_1 ++ [rd_L2 l0 x4_1]) := ⟨_, rfl⟩
            replace H : (keelsonlaw5_as.l0 k1 l0 y109 (wrap64 (x4_1 + 1))) = some r := by first | (rw [hy109]; with_reducible exact H) | (have H2_ := (Option.bind_some _ _).symm.trans H; rw [hy109]; with_reducible exact H2_) | (have H2_ := (Option.bind_some _ _).symm.trans H; with_reducible exact H2_) | with_reducible exact H | (rw [hy109]; exact H) | exact H
            have Ny109 := Aside0.mk hy109
            clear hy109
            have H' := Aside0.mk H
            clear H
            have p108 : 0 ≤ (x4_1 : Int) := of_decide_eq_true (by first | (with_reducible assumption) | assumption)
            have q108 : x4_1 < (l0.length : Int) := of_decide_eq_true (by first | (with_reducible assumption) | assumption)
            obtain ⟨ad108, A108_0, c108_0, e108, hx108_0, hl108_0, hi108_0⟩ := at_L2 (Kd.V_reads' HO_0.out).2.2 x4_1 p108 q108
            cases e108
            obtain ⟨ce108, hce108, hMe108, hcc108⟩ := Kd.V_get HO_0.out [] x4_1 p108 (by first | exact q108 | exact of_decide_eq_true (by first | (with_reducible assumption) | assumption) | (have e_ := (Kd.V_reads' HO_0.out).1; omega))
            obtain ⟨ua108_0, uc108_0, rfl, ul108_0, ge108_0⟩ := Kd.FK_slice_open hMe108
            have hv108_0 := hcc108 0 _ rfl
            rw [Nat.add_zero, show ((Kd.slice 49 k49)).sz = 1 from rfl, Nat.mul_one] at hv108_0
            replace hv108_0 := Option.some.inj (hv108_0.symm.trans hx108_0)
            injection hv108_0 with hva_ hvn_ hvc_
            rw [hva_] at ge108_0
            rw [hvc_] at ul108_0
            have HL108_0 := Aside0.mk (show Kd.V k49 49 _ w.heap.size _ _ (rd_L2 l0 x4_1) from Kd.V_mk ul108_0 ge108_0)
            clear hva_ hvn_ hvc_ ge108_0 ul108_0
            clear hcc108 hce108
            have HR108_0 := Aside0.mk hi108_0
            have HC108_0 := Aside0.mk hl108_0
            clear hi108_0 hl108_0
            replace p108 := eq_true p108
            replace q108 := eq_true q108
            go_wp2_with (first | ((with_reducible refine gate_builtin (b := .append) (xs := #[.tmp 11, .tmp 16]) rfl ?_); at_builtin; refine Kd.N_append (Kd.slice 49 k49) (w0 := w) w.heap.size rfl (.tmp 11) (.tmp 16) 27 35 (.slice none 0 0) 24 rfl Tryd.underlying27 info35 rfl (by decide) (by omega) u3 x3_1 (rd_L2 l0 x4_1) [.slice A108_0 (rd_L2 l0 x4_1).length c108_0] (fun k_ => (P0_ k_ ∨ w.heap.size ≤ k_)) (fun k_ => ((fun k_ => (P0_ k_ ∨ w.heap.size ≤ k_))) k_ ∧ some k_ ≠ (u3 : Value).ownBlock) rfl rfl ?aP (fun _ hk => hk) ?aF ?aO ?aB ?aS ?aL ?_; (case aP => exact (Kd.FK_slice_mk (Kd.V_reads' (Kd.V_mono (ok' := (fun k_ => ((fun k_ => (P0_ k_ ∨ w.heap.size ≤ k_))) k_ ∧ some k_ ≠ (u3 : Value).ownBlock)) (HL108_0.out) (fun k_ hk => ⟨hk.1, hk.2⟩))).2.1 (Kd.V_F (Kd.V_mono (ok' := (fun k_ => ((fun k_ => (P0_ k_ ∨ w.heap.size ≤ k_))) k_ ∧ some k_ ≠ (u3 : Value).ownBlock)) (HL108_0.out) (fun k_ hk => ⟨hk.1, hk.2⟩))))); (case aB => exact (by repeat (first | (with_reducible first | exact HB.out | apply below_alloc | apply pw_below_drewN | apply below_drew1) | exact HB.out))); (case aF => exact (fun k_ hk => (.inr (Nat.le_trans (below_size (by repeat (first | (with_reducible first | exact HB.out | apply below_alloc | apply pw_below_drewN | apply below_drew1) | exact HB.out))) hk)))); (case aO => exact (by (with_reducible repeat (first | apply Kd.N_alloc | apply Kd.N_drewN | apply Kd.N_drew)); exact HO_3.out)); (case aS => exact (below_size (by repeat (first | (with_reducible first | exact HB.out | apply below_alloc | apply pw_below_drewN | apply below_drew1) | exact HB.out)))); (case aL => have := LMc4.out; omega); intro v110 w5 ho hb hg hat; rw [← Ny109.out] at ho; have n0_ := Aside0.mk (Kd.V_afterv (ok := (fun k_ => (P0_ k_ ∨ w.heap.size ≤ k_))) (by (with_reducible repeat (first | apply Kd.V_alloc | apply Kd.V_drewN | apply Kd.V_drew)); exact HO_0.out) hg hat); have n1_ := Aside0.mk (Kd.V_afterv (ok := (fun k_ => (P0_ k_ ∨ w.heap.size ≤ k_))) (by (with_reducible repeat (first | apply Kd.V_alloc | apply Kd.V_drewN | apply Kd.V_drew)); exact HL108_0.out) hg hat); have n2_ := Aside0.mk (hb); have n3_ := Aside0.mk (ho); clear HO_0; clear HL108_0; clear HB; clear HO_3; have HO_0 := n0_; have HL108_0 := n1_; have HB := n2_; have HO111 := n3_; clear n0_ n1_ n2_ n3_; clear ho hb hg hat))
            go_roundg k1
            case measure => have := HK1.out; omega
            case rel => exact ⟨(y109), (wrap64 (x4_1 + 1)), (by first | rfl | (simp; done) | (simp [*]; done)), H', ⟨by have := HK1.out; omega⟩, ⟨by (with_reducible repeat (first | apply Kd.V_alloc | apply Kd.V_drewN | apply Kd.V_drew)); exact HO_0.out⟩, ⟨by (with_reducible repeat (first | apply Kd.N_alloc | apply Kd.N_drewN | apply Kd.N_drew)); exact HO111.out⟩, ⟨by repeat (first | (with_reducible first | exact HB.out | apply below_alloc | apply pw_below_drewN | apply below_drew1) | exact HB.out)⟩⟩
          · rw [if_neg c4] at H
            exact absurd H (by simp)
        · rw [if_neg c3] at H
          exact absurd H (by simp)
      · rw [if_neg c2] at H
        have c2b0 : decide (x4_1 < (l0.length : Int)) = false := decide_eq_false c2
        clear c2
        obtain rfl := Option.some.inj H
        go_wp2
        go_ret
        exact ⟨_, by first | rfl | (simp [errW_none, errW_some] <;> rfl) | (simp [*, errW_none, errW_some] <;> rfl), by (with_reducible repeat (first | apply Kd.N_alloc | apply Kd.N_drewN | apply Kd.N_drew)); exact HO_3.out, by repeat (first | (with_reducible first | exact HB.out | apply below_alloc | apply pw_below_drewN | apply below_drew1) | exact HB.out)⟩

/-! ### keelsonlaw5_pick: function 14 -/
def keelsonlaw5_pick.f (a0 : Int) (a1 : Int) : Option (Int) := if a0 < 0 then (if a1 = 0 then (none) else (some (Int.tmod (wrap64 (-(wrap64 (a0 + 1)))) a1))) else (if a1 = 0 then (none) else (some (Int.tmod a0 a1)))
set_option maxHeartbeats 8000000 in
set_option maxRecDepth 100000 in
theorem keelsonlaw5_pick.calls (a0 : Int) (a1 : Int) (r : Int) (w : World) (h : keelsonlaw5_pick.f a0 a1 = some r) :
    Calls Tryd.prog 14 #[.int .i64 a0, .int .i64 a1] w fun e w' => e = .returned (.int .i64 r) ∧ Drawn0 w w' := by
  have H : (if a0 < 0 then (if a1 = 0 then (none) else (some (Int.tmod (wrap64 (-(wrap64 (a0 + 1)))) a1))) else (if a1 = 0 then (none) else (some (Int.tmod a0 a1)))) = some r := h
  clear h
  by_cases c3 : a0 < 0
  · rw [if_pos c3] at H
    have c3b0 : decide (a0 < 0) = true := decide_eq_true c3
    clear c3
    by_cases c4 : a1 = 0
    · rw [if_pos c4] at H
      exact absurd H (by simp)
    · rw [if_neg c4] at H
      have c4b0 : (a1 == 0) = false := beq_eq_false_iff_ne.mpr c4
      have c4b1 : (a1 != 0) = true := bne_iff_ne.mpr c4
      obtain rfl := Option.some.inj H
      go_enter Tryd.func14, Tryd.ntmps14
      go_wp2
      go_ret
      exact ⟨by first | rfl | (simp; done) | (simp [*]; done), by repeat (first | exact Drawn0.refl _ | apply Drawn0.step)⟩
  · rw [if_neg c3] at H
    have c3b0 : decide (a0 < 0) = false := decide_eq_false c3
    clear c3
    by_cases c5 : a1 = 0
    · rw [if_pos c5] at H
      exact absurd H (by simp)
    · rw [if_neg c5] at H
      have c5b0 : (a1 == 0) = false := beq_eq_false_iff_ne.mpr c5
      have c5b1 : (a1 != 0) = true := bne_iff_ne.mpr c5
      obtain rfl := Option.some.inj H
      go_enter Tryd.func14, Tryd.ntmps14
      go_wp2
      go_ret
      exact ⟨by first | rfl | (simp; done) | (simp [*]; done), by repeat (first | exact Drawn0.refl _ | apply Drawn0.step)⟩

/-! ### keelsonlaw5_small: function 22 -/
mutual
def keelsonlaw5_small.l0 : Nat → List (List (S49)) → Int → Option (Bool)
  | 0, _, _ => none
  | k + 1, x0, x3 => if x3 < (x0.length : Int) then (if 0 ≤ x3 then (if ((rd_L2 x0 x3).length : Int) > 45 then (keelsonlaw5_small.j1 k x0 x3 true) else (if (x0.length : Int) > 20 then (keelsonlaw5_small.j1 k x0 x3 (decide (((rd_L2 x0 x3).length : Int) > 3))) else (keelsonlaw5_small.j1 k x0 x3 false))) else (none)) else (some true)
def keelsonlaw5_small.j1 : Nat → List (List (S49)) → Int → Bool → Option (Bool)
  | 0, _, _, _ => none
  | k + 1, x0, x3, x32 => if x32 = true then (some false) else (keelsonlaw5_small.l1 k x0 x3 0)
def keelsonlaw5_small.l1 : Nat → List (List (S49)) → Int → Int → Option (Bool)
  | 0, _, _, _ => none
  | k + 1, x0, x3, x4 => if 0 ≤ x3 then (if x3 < (x0.length : Int) then (if x4 < ((rd_L2 x0 x3).length : Int) then (if 0 ≤ x4 then (if (((rd_T49 (rd_L2 x0 x3) x4).f0).size : Int) > 100 then (some false) else (if (((rd_T49 (rd_L2 x0 x3) x4).f1).size : Int) > 2000 then (some false) else (keelsonlaw5_small.l1 k x0 x3 (wrap64 (x4 + 1))))) else (none)) else (keelsonlaw5_small.l0 k x0 (wrap64 (x3 + 1)))) else (none)) else (none)
end
def keelsonlaw5_small.f (k : Nat) (l0 : List (List (S49))) : Option (Bool) := if (l0.length : Int) > 210 then (some false) else (keelsonlaw5_small.l0 k l0 0)
theorem keelsonlaw5_small.mono_l : ∀ k, (∀ y0 y1, LeO (keelsonlaw5_small.l0 k y0 y1) (keelsonlaw5_small.l0 (k + 1) y0 y1)) ∧ (∀ y0 y1 y2, LeO (keelsonlaw5_small.j1 k y0 y1 y2) (keelsonlaw5_small.j1 (k + 1) y0 y1 y2)) ∧ (∀ y0 y1 y2, LeO (keelsonlaw5_small.l1 k y0 y1 y2) (keelsonlaw5_small.l1 (k + 1) y0 y1 y2))
  | 0 => ⟨fun _ _ r h => by simp [keelsonlaw5_small.l0] at h, fun _ _ _ r h => by simp [keelsonlaw5_small.j1] at h, fun _ _ _ r h => by simp [keelsonlaw5_small.l1] at h⟩
  | k + 1 => by
    obtain ⟨ih0, ih1, ih2⟩ := keelsonlaw5_small.mono_l k
    refine ⟨?_, ?_, ?_⟩
    · intro y0 y1
      unfold keelsonlaw5_small.l0
      repeat' first
      | (with_reducible exact ih0 _ _)
      | (with_reducible exact ih1 _ _ _)
      | (with_reducible exact ih2 _ _ _)
      | (with_reducible exact LeO.refl _)
      | (with_reducible exact LeO.none _)
      | (with_reducible refine LeO.ite ?_ ?_)
      | (with_reducible refine LeO.bind ?_ (fun _ => ?_))
      | exact ih0 _ _
      | exact ih1 _ _ _
      | exact ih2 _ _ _
      | exact LeO.none _
      | refine LeO.ite ?_ ?_
      | refine LeO.bind ?_ (fun _ => ?_)
    · intro y0 y1 y2
      unfold keelsonlaw5_small.j1
      repeat' first
      | (with_reducible exact ih0 _ _)
      | (with_reducible exact ih1 _ _ _)
      | (with_reducible exact ih2 _ _ _)
      | (with_reducible exact LeO.refl _)
      | (with_reducible exact LeO.none _)
      | (with_reducible refine LeO.ite ?_ ?_)
      | (with_reducible refine LeO.bind ?_ (fun _ => ?_))
      | exact ih0 _ _
      | exact ih1 _ _ _
      | exact ih2 _ _ _
      | exact LeO.none _
      | refine LeO.ite ?_ ?_
      | refine LeO.bind ?_ (fun _ => ?_)
    · intro y0 y1 y2
      unfold keelsonlaw5_small.l1
      repeat' first
      | (with_reducible exact ih0 _ _)
      | (with_reducible exact ih1 _ _ _)
      | (with_reducible exact ih2 _ _ _)
      | (with_reducible exact LeO.refl _)
      | (with_reducible exact LeO.none _)
      | (with_reducible refine LeO.ite ?_ ?_)
      | (with_reducible refine LeO.bind ?_ (fun _ => ?_))
      | exact ih0 _ _
      | exact ih1 _ _ _
      | exact ih2 _ _ _
      | exact LeO.none _
      | refine LeO.ite ?_ ?_
      | refine LeO.bind ?_ (fun _ => ?_)
theorem keelsonlaw5_small.mono : ∀ a0 k, LeO (keelsonlaw5_small.f k a0) (keelsonlaw5_small.f (k + 1) a0) := by
  intro a0 k
  obtain ⟨ih0, ih1, ih2⟩ := keelsonlaw5_small.mono_l k
  unfold keelsonlaw5_small.f
  repeat' first
      | (with_reducible exact ih0 _ _)
      | (with_reducible exact ih1 _ _ _)
      | (with_reducible exact ih2 _ _ _)
      | (with_reducible exact LeO.refl _)
      | (with_reducible exact LeO.none _)
      | (with_reducible refine LeO.ite ?_ ?_)
      | (with_reducible refine LeO.bind ?_ (fun _ => ?_))
      | exact ih0 _ _
      | exact ih1 _ _ _
      | exact ih2 _ _ _
      | exact LeO.none _
      | refine LeO.ite ?_ ?_
      | refine LeO.bind ?_ (fun _ => ?_)
set_option maxHeartbeats 8000000 in
set_option maxRecDepth 100000 in
theorem keelsonlaw5_small.calls (k : Nat) (A0 : Option Addr) (c0 : Nat) (l0 : List (List (S49))) (r : Bool) (w : World) (hr0 : Kd.C (Kd.slice 49 k49) w A0 l0.length l0) (hc0 : l0.length ≤ c0) (h : keelsonlaw5_small.f k l0 = some r) :
    Calls Tryd.prog 22 #[.slice A0 l0.length c0] w fun e w' => e = .returned (.bool r) ∧ Drawn0 w w' := by
  have HR0 := Aside0.mk hr0
  have HC0 := Aside0.mk hc0
  clear hr0 hc0
  have H : (if (l0.length : Int) > 210 then (some false) else (keelsonlaw5_small.l0 k l0 0)) = some r := h
  clear h
  by_cases c2 : (l0.length : Int) > 210
  · rw [if_pos c2] at H
    have c2b0 : decide (210 < (l0.length : Int)) = true := decide_eq_true c2
    have c2b1 : decide (210 < l0.length) = true := decide_eq_true (by omega)
    clear c2
    obtain rfl := Option.some.inj H
    go_enter Tryd.func22, Tryd.ntmps22
    go_wp2
    go_ret
    exact ⟨by first | rfl | (simp; done) | (simp [*]; done), by repeat (first | exact Drawn0.refl _ | apply Drawn0.step)⟩
  · rw [if_neg c2] at H
    have c2b0 : decide (210 < (l0.length : Int)) = false := decide_eq_false c2
    have c2b1 : decide (210 < l0.length) = false := decide_eq_false (by omega)
    clear c2
    have H' := Aside0.mk H
    clear H
    go_enter Tryd.func22, Tryd.ntmps22
    go_wp2
    go_loopg [3] k (fun kq v3 w' => ∃ (x3_1 : Int), v3 = .int .i64 x3_1 ∧ Aside0 (keelsonlaw5_small.l0 kq l0 x3_1 = some r) ∧ Aside0 (kq ≤ k) ∧ Drawn0 w w')
    case atStart => exact ⟨(0), (by first | rfl | (simp; done) | (simp [*]; done)), H', ⟨Nat.le_refl _⟩, by repeat (first | exact Drawn0.refl _ | apply Drawn0.step)⟩
    case round =>
      clear H'
      try clear c2
      try clear c2b0
      try clear c2b1
      try clear p2
      obtain ⟨x3_1, rfl, HA, HK1, ⟨m1, rfl⟩⟩ := hrel
      cases gk with
      | zero => exact absurd HA.out (by simp [keelsonlaw5_small.l0])
      | succ k1 =>
        have H := HA.out
        clear HA
        simp only [keelsonlaw5_small.l0] at H
        by_cases c3 : x3_1 < (l0.length : Int)
        · rw [if_pos c3] at H
          have c3b0 : decide (x3_1 < (l0.length : Int)) = true := decide_eq_true c3
          clear c3
          have HC4 := Aside0.mk H
          clear H
          go_upto_region 6 with (fail)
          go_cut [32] (fun v32 wc => ∃ (kq : Nat) (x32_3 : Bool), v32 = .bool x32_3 ∧ Aside0 (keelsonlaw5_small.j1 kq l0 x3_1 x32_3 = some r) ∧ Aside0 (kq ≤ k1) ∧ Drawn0 w wc)
          case first =>
            have H := HC4.out
            clear HC4
            by_cases c5 : 0 ≤ x3_1
            · rw [if_pos c5] at H
              have c5b0 : decide (0 ≤ x3_1) = true := decide_eq_true c5
              clear c5
              (first | rw [c5b0] | (simp only [i64_w, i32_w]; rw [c5b0]) | rw [c5b1] | skip)
              by_cases c6 : ((rd_L2 l0 x3_1).length : Int) > 45
              · rw [if_pos c6] at H
                have c6b0 : decide (45 < ((rd_L2 l0 x3_1).length : Int)) = true := decide_eq_true c6
                have c6b1 : decide (45 < (rd_L2 l0 x3_1).length) = true := decide_eq_true (by omega)
                clear c6
                have H' := Aside0.mk H
                clear H
                have p300 : 0 ≤ (x3_1 : Int) := of_decide_eq_true (by first | (with_reducible assumption) | assumption)
                have q300 : x3_1 < (l0.length : Int) := of_decide_eq_true (by first | (with_reducible assumption) | assumption)
                obtain ⟨ad300, A300_0, c300_0, e300, hx300_0, hl300_0, hi300_0⟩ := at_L2 HR0.out x3_1 p300 q300
                cases e300
                have HR300_0 := Aside0.mk hi300_0
                have HC300_0 := Aside0.mk hl300_0
                clear hi300_0 hl300_0
                replace p300 := eq_true p300
                replace q300 := eq_true q300
                go_wp2
                go_meet
                case rel => exact ⟨_, (true), (by first | rfl | (simp; done) | (simp [*]; done)), H', ⟨by have := HK1.out; first | omega | exact Nat.le_refl _⟩, by repeat (first | exact Drawn0.refl _ | apply Drawn0.step)⟩
              · rw [if_neg c6] at H
                have c6b0 : decide (45 < ((rd_L2 l0 x3_1).length : Int)) = false := decide_eq_false c6
                have c6b1 : decide (45 < (rd_L2 l0 x3_1).length) = false := decide_eq_false (by omega)
                clear c6
                by_cases c7 : (l0.length : Int) > 20
                · rw [if_pos c7] at H
                  have c7b0 : decide (20 < (l0.length : Int)) = true := decide_eq_true c7
                  have c7b1 : decide (20 < l0.length) = true := decide_eq_true (by omega)
                  clear c7
                  have H' := Aside0.mk H
                  clear H
                  have p300 : 0 ≤ (x3_1 : Int) := of_decide_eq_true (by first | (with_reducible assumption) | assumption)
                  have q300 : x3_1 < (l0.length : Int) := of_decide_eq_true (by first | (with_reducible assumption) | assumption)
                  obtain ⟨ad300, A300_0, c300_0, e300, hx300_0, hl300_0, hi300_0⟩ := at_L2 HR0.out x3_1 p300 q300
                  cases e300
                  have HR300_0 := Aside0.mk hi300_0
                  have HC300_0 := Aside0.mk hl300_0
                  clear hi300_0 hl300_0
                  replace p300 := eq_true p300
                  replace q300 := eq_true q300
                  have p301 : 0 ≤ (x3_1 : Int) := of_decide_eq_true (by first | (with_reducible assumption) | assumption)
                  have q301 : x3_1 < (l0.length : Int) := of_decide_eq_true (by first | (with_reducible assumption) | assumption)
                  obtain ⟨ad301, A301_0, c301_0, e301, hx301_0, hl301_0, hi301_0⟩ := at_L2 HR0.out x3_1 p301 q301
                  obtain rfl : ad300 = ad301 := (by injection e301)
                  have HR301_0 := Aside0.mk hi301_0
                  have HC301_0 := Aside0.mk hl301_0
                  clear hi301_0 hl301_0
                  replace p301 := eq_true p301
                  replace q301 := eq_true q301
                  have ea_ := Option.some.inj (hx300_0.symm.trans hx301_0)
                  injection ea_ with ea_ en_ ec_
                  subst ea_
                  subst ec_
                  clear en_
                  go_wp2
                  go_meet
                  case rel => exact ⟨_, (decide (((rd_L2 l0 x3_1).length : Int) > 3)), (by first | rfl | (simp; done) | (simp [*]; done)), H', ⟨by have := HK1.out; first | omega | exact Nat.le_refl _⟩, by repeat (first | exact Drawn0.refl _ | apply Drawn0.step)⟩
                · rw [if_neg c7] at H
                  have c7b0 : decide (20 < (l0.length : Int)) = false := decide_eq_false c7
                  have c7b1 : decide (20 < l0.length) = false := decide_eq_false (by omega)
                  clear c7
                  have H' := Aside0.mk H
                  clear H
                  have p300 : 0 ≤ (x3_1 : Int) := of_decide_eq_true (by first | (with_reducible assumption) | assumption)
                  have q300 : x3_1 < (l0.length : Int) := of_decide_eq_true (by first | (with_reducible assumption) | assumption)
                  obtain ⟨ad300, A300_0, c300_0, e300, hx300_0, hl300_0, hi300_0⟩ := at_L2 HR0.out x3_1 p300 q300
                  cases e300
                  have HR300_0 := Aside0.mk hi300_0
                  have HC300_0 := Aside0.mk hl300_0
                  clear hi300_0 hl300_0
                  replace p300 := eq_true p300
                  replace q300 := eq_true q300
                  go_wp2
                  go_meet
                  case rel => exact ⟨_, (false), (by first | rfl | (simp; done) | (simp [*]; done)), H', ⟨by have := HK1.out; first | omega | exact Nat.le_refl _⟩, by repeat (first | exact Drawn0.refl _ | apply Drawn0.step)⟩
            · rw [if_neg c5] at H
              exact absurd H (by simp)
          case rest =>
            clear HC4
            try clear c2
            try clear c2b0
            try clear c2b1
            try clear p2
            try clear c3
            try clear c3b0
            try clear p3
            try clear q3
            try clear hx3
            try clear c5
            try clear c5b0
            try clear c5b1
            try clear c6
            try clear c6b0
            try clear c6b1
            try clear c7
            try clear c7b0
            try clear c7b1
            try clear hx300_0
            try clear hx301_0
            try clear p2
            try clear p300
            try clear p301
            try clear q300
            try clear q301
            obtain ⟨kq, x32_3, rfl, HA, HJ3, ⟨mc3, rfl⟩⟩ := hcut
            cases kq with
            | zero => exact absurd HA.out (by simp [keelsonlaw5_small.j1])
            | succ kj3 =>
              have H := HA.out
              clear HA
              simp only [keelsonlaw5_small.j1] at H
              by_cases c8 : x32_3 = true
              · subst c8
                have H1 : (some false) = some r := by rw [if_pos rfl] at H; exact H
                clear H
                have H := H1
                clear H1
                obtain rfl := Option.some.inj H
                go_wp2
                go_ret
                exact ⟨by first | rfl | (simp; done) | (simp [*]; done), by repeat (first | exact Drawn0.refl _ | apply Drawn0.step)⟩
              · replace c8 := Bool.eq_false_iff.mpr c8
                subst c8
                have H1 : (keelsonlaw5_small.l1 kj3 l0 x3_1 0) = some r := by rw [if_neg (show ¬ (false = true) by decide)] at H; exact H
                clear H
                have H := H1
                clear H1
                have H' := Aside0.mk H
                clear H
                go_wp2
                go_loopg [4] kj3 (fun kq v4 w' => ∃ (x4_3 : Int), v4 = .int .i64 x4_3 ∧ Aside0 (keelsonlaw5_small.l1 kq l0 x3_1 x4_3 = some r) ∧ Aside0 (kq ≤ kj3) ∧ Drawn0 w w')
                case atStart => exact ⟨(0), (by first | rfl | (simp; done) | (simp [*]; done)), H', ⟨Nat.le_refl _⟩, by repeat (first | exact Drawn0.refl _ | apply Drawn0.step)⟩
                case round =>
                  clear H'
                  try clear c2
                  try clear c2b0
                  try clear c2b1
                  try clear p2
                  try clear c3
                  try clear c3b0
                  try clear p3
                  try clear q3
                  try clear hx3
                  try clear c5
                  try clear c5b0
                  try clear c5b1
                  try clear c6
                  try clear c6b0
                  try clear c6b1
                  try clear c7
                  try clear c7b0
                  try clear c7b1
                  try clear c8
                  try clear hx300_0
                  try clear hx301_0
                  try clear p2
                  try clear p3
                  try clear p300
                  try clear p301
                  try clear q3
                  try clear q300
                  try clear q301
                  obtain ⟨x4_3, rfl, HA, HK3, ⟨m3, rfl⟩⟩ := hrel
                  cases gk with
                  | zero => exact absurd HA.out (by simp [keelsonlaw5_small.l1])
                  | succ k3 =>
                    have H := HA.out
                    clear HA
                    simp only [keelsonlaw5_small.l1] at H
                    by_cases c9 : 0 ≤ x3_1
                    · rw [if_pos c9] at H
                      have c9b0 : decide (0 ≤ x3_1) = true := decide_eq_true c9
                      clear c9
                      by_cases c10 : x3_1 < (l0.length : Int)
                      · rw [if_pos c10] at H
                        have c10b0 : decide (x3_1 < (l0.length : Int)) = true := decide_eq_true c10
                        clear c10
                        by_cases c11 : x4_3 < ((rd_L2 l0 x3_1).length : Int)
                        · rw [if_pos c11] at H
                          have c11b0 : decide (x4_3 < ((rd_L2 l0 x3_1).length : Int)) = true := decide_eq_true c11
                          clear c11
                          by_cases c12 : 0 ≤ x4_3
                          · rw [if_pos c12] at H
                            have c12b0 : decide (0 ≤ x4_3) = true := decide_eq_true c12
                            clear c12
                            by_cases c13 : (((rd_T49 (rd_L2 l0 x3_1) x4_3).f0).size : Int) > 100
                            · rw [if_pos c13] at H
                              have c13b0 : decide (100 < (((rd_T49 (rd_L2 l0 x3_1) x4_3).f0).size : Int)) = true := decide_eq_true c13
                              have c13b1 : decide (100 < ((rd_T49 (rd_L2 l0 x3_1) x4_3).f0).size) = true := decide_eq_true (by omega)
                              clear c13
                              obtain rfl := Option.some.inj H
                              have p302 : 0 ≤ (x3_1 : Int) := of_decide_eq_true (by first | (with_reducible assumption) | assumption)
                              have q302 : x3_1 < (l0.length : Int) := of_decide_eq_true (by first | (with_reducible assumption) | assumption)
                              obtain ⟨ad302, A302_0, c302_0, e302, hx302_0, hl302_0, hi302_0⟩ := at_L2 HR0.out x3_1 p302 q302
                              cases e302
                              have HR302_0 := Aside0.mk hi302_0
                              have HC302_0 := Aside0.mk hl302_0
                              clear hi302_0 hl302_0
                              replace p302 := eq_true p302
                              replace q302 := eq_true q302
                              have p303 : 0 ≤ (x3_1 : Int) := of_decide_eq_true (by first | (with_reducible assumption) | assumption)
                              have q303 : x3_1 < (l0.length : Int) := of_decide_eq_true (by first | (with_reducible assumption) | assumption)
                              obtain ⟨ad303, A303_0, c303_0, e303, hx303_0, hl303_0, hi303_0⟩ := at_L2 HR0.out x3_1 p303 q303
                              obtain rfl : ad302 = ad303 := (by injection e303)
                              have HR303_0 := Aside0.mk hi303_0
                              have HC303_0 := Aside0.mk hl303_0
                              clear hi303_0 hl303_0
                              replace p303 := eq_true p303
                              replace q303 := eq_true q303
                              have ea_ := Option.some.inj (hx302_0.symm.trans hx303_0)
                              injection ea_ with ea_ en_ ec_
                              subst ea_
                              subst ec_
                              clear en_
                              have p304 : 0 ≤ (x4_3 : Int) := of_decide_eq_true (by first | (with_reducible assumption) | assumption)
                              have q304 : x4_3 < ((rd_L2 l0 x3_1).length : Int) := of_decide_eq_true (by first | (with_reducible assumption) | assumption)
                              obtain ⟨ad304, e304, hx304_0, hx304_1⟩ := at_T49 HR303_0.out x4_3 p304 q304
                              cases e304
                              replace p304 := eq_true p304
                              replace q304 := eq_true q304
                              go_wp2
                              go_ret
                              exact ⟨by first | rfl | (simp; done) | (simp [*]; done), by repeat (first | exact Drawn0.refl _ | apply Drawn0.step)⟩
                            · rw [if_neg c13] at H
                              have c13b0 : decide (100 < (((rd_T49 (rd_L2 l0 x3_1) x4_3).f0).size : Int)) = false := decide_eq_false c13
                              have c13b1 : decide (100 < ((rd_T49 (rd_L2 l0 x3_1) x4_3).f0).size) = false := decide_eq_false (by omega)
                              clear c13
                              by_cases c14 : (((rd_T49 (rd_L2 l0 x3_1) x4_3).f1).size : Int) > 2000
                              · rw [if_pos c14] at H
                                have c14b0 : decide (2000 < (((rd_T49 (rd_L2 l0 x3_1) x4_3).f1).size : Int)) = true := decide_eq_true c14
                                have c14b1 : decide (2000 < ((rd_T49 (rd_L2 l0 x3_1) x4_3).f1).size) = true := decide_eq_true (by omega)
                                clear c14
                                obtain rfl := Option.some.inj H
                                have p302 : 0 ≤ (x3_1 : Int) := of_decide_eq_true (by first | (with_reducible assumption) | assumption)
                                have q302 : x3_1 < (l0.length : Int) := of_decide_eq_true (by first | (with_reducible assumption) | assumption)
                                obtain ⟨ad302, A302_0, c302_0, e302, hx302_0, hl302_0, hi302_0⟩ := at_L2 HR0.out x3_1 p302 q302
                                cases e302
                                have HR302_0 := Aside0.mk hi302_0
                                have HC302_0 := Aside0.mk hl302_0
                                clear hi302_0 hl302_0
                                replace p302 := eq_true p302
                                replace q302 := eq_true q302
                                have p303 : 0 ≤ (x3_1 : Int) := of_decide_eq_true (by first | (with_reducible assumption) | assumption)
                                have q303 : x3_1 < (l0.length : Int) := of_decide_eq_true (by first | (with_reducible assumption) | assumption)
                                obtain ⟨ad303, A303_0, c303_0, e303, hx303_0, hl303_0, hi303_0⟩ := at_L2 HR0.out x3_1 p303 q303
                                obtain rfl : ad302 = ad303 := (by injection e303)
                                have HR303_0 := Aside0.mk hi303_0
                                have HC303_0 := Aside0.mk hl303_0
                                clear hi303_0 hl303_0
                                replace p303 := eq_true p303
                                replace q303 := eq_true q303
                                have ea_ := Option.some.inj (hx302_0.symm.trans hx303_0)
                                injection ea_ with ea_ en_ ec_
                                subst ea_
                                subst ec_
                                clear en_
                                have p304 : 0 ≤ (x4_3 : Int) := of_decide_eq_true (by first | (with_reducible assumption) | assumption)
                                have q304 : x4_3 < ((rd_L2 l0 x3_1).length : Int) := of_decide_eq_true (by first | (with_reducible assumption) | assumption)
                                obtain ⟨ad304, e304, hx304_0, hx304_1⟩ := at_T49 HR303_0.out x4_3 p304 q304
                                cases e304
                                replace p304 := eq_true p304
                                replace q304 := eq_true q304
                                have p305 : 0 ≤ (x3_1 : Int) := of_decide_eq_true (by first | (with_reducible assumption) | assumption)
                                have q305 : x3_1 < (l0.length : Int) := of_decide_eq_true (by first | (with_reducible assumption) | assumption)
                                obtain ⟨ad305, A305_0, c305_0, e305, hx305_0, hl305_0, hi305_0⟩ := at_L2 HR0.out x3_1 p305 q305
                                obtain rfl : ad302 = ad305 := (by injection e305)
                                have HR305_0 := Aside0.mk hi305_0
                                have HC305_0 := Aside0.mk hl305_0
                                clear hi305_0 hl305_0
                                replace p305 := eq_true p305
                                replace q305 := eq_true q305
                                have ea_ := Option.some.inj (hx302_0.symm.trans hx305_0)
                                injection ea_ with ea_ en_ ec_
                                subst ea_
                                subst ec_
                                clear en_
                                have p306 : 0 ≤ (x4_3 : Int) := of_decide_eq_true (by first | (with_reducible assumption) | assumption)
                                have q306 : x4_3 < ((rd_L2 l0 x3_1).length : Int) := of_decide_eq_true (by first | (with_reducible assumption) | assumption)
                                obtain ⟨ad306, e306, hx306_0, hx306_1⟩ := at_T49 HR305_0.out x4_3 p306 q306
                                cases e306
                                replace p306 := eq_true p306
                                replace q306 := eq_true q306
                                go_wp2
                                go_ret
                                exact ⟨by first | rfl | (simp; done) | (simp [*]; done), by repeat (first | exact Drawn0.refl _ | apply Drawn0.step)⟩
                              · rw [if_neg c14] at H
                                have c14b0 : decide (2000 < (((rd_T49 (rd_L2 l0 x3_1) x4_3).f1).size : Int)) = false := decide_eq_false c14
                                have c14b1 : decide (2000 < ((rd_T49 (rd_L2 l0 x3_1) x4_3).f1).size) = false := decide_eq_false (by omega)
                                clear c14
                                have H' := Aside0.mk H
                                clear H
                                have p302 : 0 ≤ (x3_1 : Int) := of_decide_eq_true (by first | (with_reducible assumption) | assumption)
                                have q302 : x3_1 < (l0.length : Int) := of_decide_eq_true (by first | (with_reducible assumption) | assumption)
                                obtain ⟨ad302, A302_0, c302_0, e302, hx302_0, hl302_0, hi302_0⟩ := at_L2 HR0.out x3_1 p302 q302
                                cases e302
                                have HR302_0 := Aside0.mk hi302_0
                                have HC302_0 := Aside0.mk hl302_0
                                clear hi302_0 hl302_0
                                replace p302 := eq_true p302
                                replace q302 := eq_true q302
                                have p303 : 0 ≤ (x3_1 : Int) := of_decide_eq_true (by first | (with_reducible assumption) | assumption)
                                have q303 : x3_1 < (l0.length : Int) := of_decide_eq_true (by first | (with_reducible assumption) | assumption)
                                obtain ⟨ad303, A303_0, c303_0, e303, hx303_0, hl303_0, hi303_0⟩ := at_L2 HR0.out x3_1 p303 q303
                                obtain rfl : ad302 = ad303 := (by injection e303)
                                have HR303_0 := Aside0.mk hi303_0
                                have HC303_0 := Aside0.mk hl303_0
                                clear hi303_0 hl303_0
                                replace p303 := eq_true p303
                                replace q303 := eq_true q303
                                have ea_ := Option.some.inj (hx302_0.symm.trans hx303_0)
                                injection ea_ with ea_ en_ ec_
                                subst ea_
                                subst ec_
                                clear en_
                                have p304 : 0 ≤ (x4_3 : Int) := of_decide_eq_true (by first | (with_reducible assumption) | assumption)
                                have q304 : x4_3 < ((rd_L2 l0 x3_1).length : Int) := of_decide_eq_true (by first | (with_reducible assumption) | assumption)
                                obtain ⟨ad304, e304, hx304_0, hx304_1⟩ := at_T49 HR303_0.out x4_3 p304 q304
                                cases e304
                                replace p304 := eq_true p304
                                replace q304 := eq_true q304
                                have p305 : 0 ≤ (x3_1 : Int) := of_decide_eq_true (by first | (with_reducible assumption) | assumption)
                                have q305 : x3_1 < (l0.length : Int) := of_decide_eq_true (by first | (with_reducible assumption) | assumption)
                                obtain ⟨ad305, A305_0, c305_0, e305, hx305_0, hl305_0, hi305_0⟩ := at_L2 HR0.out x3_1 p305 q305
                                obtain rfl : ad302 = ad305 := (by injection e305)
                                have HR305_0 := Aside0.mk hi305_0
                                have HC305_0 := Aside0.mk hl305_0
                                clear hi305_0 hl305_0
                                replace p305 := eq_true p305
                                replace q305 := eq_true q305
                                have ea_ := Option.some.inj (hx302_0.symm.trans hx305_0)
                                injection ea_ with ea_ en_ ec_
                                subst ea_
                                subst ec_
                                clear en_
                                have p306 : 0 ≤ (x4_3 : Int) := of_decide_eq_true (by first | (with_reducible assumption) | assumption)
                                have q306 : x4_3 < ((rd_L2 l0 x3_1).length : Int) := of_decide_eq_true (by first | (with_reducible assumption) | assumption)
                                obtain ⟨ad306, e306, hx306_0, hx306_1⟩ := at_T49 HR305_0.out x4_3 p306 q306
                                cases e306
                                replace p306 := eq_true p306
                                replace q306 := eq_true q306
                                go_wp2
                                go_roundg k3
                                case measure => have := HK1.out; have := HJ3.out; have := HK3.out; omega
                                case rel => exact ⟨(wrap64 (x4_3 + 1)), (by first | rfl | (simp; done) | (simp [*]; done)), H', ⟨by have := HK1.out; have := HJ3.out; have := HK3.out; omega⟩, by repeat (first | exact Drawn0.refl _ | apply Drawn0.step)⟩
                          · rw [if_neg c12] at H
                            exact absurd H (by simp)
                        · rw [if_neg c11] at H
                          have c11b0 : decide (x4_3 < ((rd_L2 l0 x3_1).length : Int)) = false := decide_eq_false c11
                          clear c11
                          have H' := Aside0.mk H
                          clear H
                          have p302 : 0 ≤ (x3_1 : Int) := of_decide_eq_true (by first | (with_reducible assumption) | assumption)
                          have q302 : x3_1 < (l0.length : Int) := of_decide_eq_true (by first | (with_reducible assumption) | assumption)
                          obtain ⟨ad302, A302_0, c302_0, e302, hx302_0, hl302_0, hi302_0⟩ := at_L2 HR0.out x3_1 p302 q302
                          cases e302
                          have HR302_0 := Aside0.mk hi302_0
                          have HC302_0 := Aside0.mk hl302_0
                          clear hi302_0 hl302_0
                          replace p302 := eq_true p302
                          replace q302 := eq_true q302
                          go_wp2
                          go_roundg k3
                          case measure => have := HK1.out; have := HJ3.out; have := HK3.out; omega
                          case rel => exact ⟨(wrap64 (x3_1 + 1)), (by first | rfl | (simp; done) | (simp [*]; done)), H', ⟨by have := HK1.out; have := HJ3.out; have := HK3.out; omega⟩, by repeat (first | exact Drawn0.refl _ | apply Drawn0.step)⟩
                      · rw [if_neg c10] at H
                        exact absurd H (by simp)
                    · rw [if_neg c9] at H
                      exact absurd H (by simp)
        · rw [if_neg c3] at H
          have c3b0 : decide (x3_1 < (l0.length : Int)) = false := decide_eq_false c3
          clear c3
          obtain rfl := Option.some.inj H
          go_wp2
          go_ret
          exact ⟨by first | rfl | (simp; done) | (simp [*]; done), by repeat (first | exact Drawn0.refl _ | apply Drawn0.step)⟩

end Go.Proofs.YtekplcjgmnahmaaDoor.PA
