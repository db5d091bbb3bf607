-- Printed by gprint.py (wip/ of this repo), over the kit's print.
import Derived.Test.YtooobbbpcpfddaaDoorPA0
import Derived.Test.YtooobbbpcpfddaaDoorPAcount1
import Derived.Test.YtooobbbpcpfddaaDoorPAkeelsonlaw161
import Derived.Test.YtooobbbpcpfddaaDoorPAkeelsonref160
import Derived.Test.YtooobbbpcpfddaaDoorGCount
namespace Go.Proofs.YtooobbbpcpfddaaDoor.PA
open Go.RowKit Go.Proofs.YtooobbbpcpfddaaDoorW.PrintWords Go.Proofs.YtooobbbpcpfddaaDoorW.PrintLast Go.Proofs.YtooobbbpcpfddaaDoorW.PrintMore
attribute [local go_sem] max2_int min2_int max_two min_two max_three min_three max_four min_four   -- for this text's walks alone
set_option linter.unusedVariables false
set_option linter.unusedSimpArgs false

/-! ### keelsonlaw16_CountTells: function 5 -/
def keelsonlaw16_CountTells.j0 : Nat → Int → List (S40) → List Bool → List Int → Int → Bool → Bool → Option (Bool)
  | 0, _, _, _, _, _, _, _ => none
  | k + 1, x0, x1, x2, x3, x4, x11, x37 => if x37 = true then (some x11) else ((count_Weight.f k x1 x2).bind fun bt282 => ((keelsonref16_Weight.f k x1 x2).bind fun bt284 => ((count_Most.f k x1).bind fun bt286 => ((keelsonref16_Most.f k x1).bind fun bt288 => ((count_Right.f x0 x1).bind fun t290 => ((keelsonref16_Right.f k x0 x1).bind fun t291 => (if (t290 == t291) = true then (if bt282.1 = bt284.1 then (if bt282.2 = bt284.2 then (if bt286.1 = bt288.1 then (if bt286.2 = bt288.2 then ((count_Width.f x4).bind fun t292 => ((keelsonref16_Width.f k x4).bind fun t293 => (if t292 = t293 then ((count_Value.f x3 x2).bind fun t294 => ((keelsonref16_Value.f k x3 x2).bind fun t295 => (some (t294 == t295)))) else (none)))) else (none)) else (none)) else (none)) else (none)) else (none))))))))
def keelsonlaw16_CountTells.f (k : Nat) (a0 : Int) (l1 : List (S40)) (l2 : List Bool) (l3 : List Int) (a4 : Int) : Option (Bool) := (keelsonlaw16_shown.f k).bind fun t281 => (if t281 = true then (if (l1.length : Int) > 1100 then (keelsonlaw16_CountTells.j0 k a0 l1 l2 l3 a4 t281 true) else (if (l2.length : Int) > 100 then (keelsonlaw16_CountTells.j0 k a0 l1 l2 l3 a4 t281 true) else (keelsonlaw16_CountTells.j0 k a0 l1 l2 l3 a4 t281 (decide ((l3.length : Int) > 60))))) else (keelsonlaw16_CountTells.j0 k a0 l1 l2 l3 a4 t281 true))
theorem keelsonlaw16_CountTells.mono_l : ∀ k, (∀ y0 y1 y2 y3 y4 y5 y6, LeO (keelsonlaw16_CountTells.j0 k y0 y1 y2 y3 y4 y5 y6) (keelsonlaw16_CountTells.j0 (k + 1) y0 y1 y2 y3 y4 y5 y6))
  | 0 => fun _ _ _ _ _ _ _ r h => by simp [keelsonlaw16_CountTells.j0] at h
  | k + 1 => by
    have ih0 := keelsonlaw16_CountTells.mono_l k
    · intro y0 y1 y2 y3 y4 y5 y6
      unfold keelsonlaw16_CountTells.j0
      repeat' first
      | (with_reducible exact ih0 _ _ _ _ _ _ _)
      | (with_reducible exact count_Most.mono _ _)
      | (with_reducible exact count_Weight.mono _ _ _)
      | (with_reducible exact keelsonlaw16_shown.mono _)
      | (with_reducible exact keelsonref16_Most.mono _ _)
      | (with_reducible exact keelsonref16_Right.mono _ _ _)
      | (with_reducible exact keelsonref16_Value.mono _ _ _)
      | (with_reducible exact keelsonref16_Weight.mono _ _ _)
      | (with_reducible exact keelsonref16_Width.mono _ _)
      | (with_reducible exact LeO.refl _)
      | (with_reducible exact LeO.none _)
      | (with_reducible refine LeO.ite ?_ ?_)
      | (with_reducible refine LeO.bind ?_ (fun _ => ?_))
      | exact ih0 _ _ _ _ _ _ _
      | exact count_Most.mono _ _
      | exact count_Weight.mono _ _ _
      | exact keelsonlaw16_shown.mono _
      | exact keelsonref16_Most.mono _ _
      | exact keelsonref16_Right.mono _ _ _
      | exact keelsonref16_Value.mono _ _ _
      | exact keelsonref16_Weight.mono _ _ _
      | exact keelsonref16_Width.mono _ _
      | exact LeO.none _
      | refine LeO.ite ?_ ?_
      | refine LeO.bind ?_ (fun _ => ?_)
theorem keelsonlaw16_CountTells.mono : ∀ a0 a1 a2 a3 a4 k, LeO (keelsonlaw16_CountTells.f k a0 a1 a2 a3 a4) (keelsonlaw16_CountTells.f (k + 1) a0 a1 a2 a3 a4) := by
  intro a0 a1 a2 a3 a4 k
  have ih0 := keelsonlaw16_CountTells.mono_l k
  unfold keelsonlaw16_CountTells.f
  repeat' first
      | (with_reducible exact ih0 _ _ _ _ _ _ _)
      | (with_reducible exact count_Most.mono _ _)
      | (with_reducible exact count_Weight.mono _ _ _)
      | (with_reducible exact keelsonlaw16_shown.mono _)
      | (with_reducible exact keelsonref16_Most.mono _ _)
      | (with_reducible exact keelsonref16_Right.mono _ _ _)
      | (with_reducible exact keelsonref16_Value.mono _ _ _)
      | (with_reducible exact keelsonref16_Weight.mono _ _ _)
      | (with_reducible exact keelsonref16_Width.mono _ _)
      | (with_reducible exact LeO.refl _)
      | (with_reducible exact LeO.none _)
      | (with_reducible refine LeO.ite ?_ ?_)
      | (with_reducible refine LeO.bind ?_ (fun _ => ?_))
      | exact ih0 _ _ _ _ _ _ _
      | exact count_Most.mono _ _
      | exact count_Weight.mono _ _ _
      | exact keelsonlaw16_shown.mono _
      | exact keelsonref16_Most.mono _ _
      | exact keelsonref16_Right.mono _ _ _
      | exact keelsonref16_Value.mono _ _ _
      | exact keelsonref16_Weight.mono _ _ _
      | exact keelsonref16_Width.mono _ _
      | exact LeO.none _
      | refine LeO.ite ?_ ?_
      | refine LeO.bind ?_ (fun _ => ?_)
set_option maxHeartbeats 8000000 in
set_option maxRecDepth 100000 in
theorem keelsonlaw16_CountTells.calls (k : Nat) (a0 : Int) (A1 : Option Addr) (c1 : Nat) (l1 : List (S40)) (A2 : Option Addr) (c2 : Nat) (l2 : List Bool) (A3 : Option Addr) (c3 : Nat) (l3 : List Int) (a4 : Int) (r : Bool) (w : World) (hr1 : Kd.C k40 w A1 l1.length l1) (hc1 : l1.length ≤ c1) (hr2 : Kd.C Kd.bool w A2 l2.length l2) (hc2 : l2.length ≤ c2) (hr3 : Kd.C (Kd.int .i64) w A3 l3.length l3) (hc3 : l3.length ≤ c3) (hG_errOver : GlobErrOver w) (h : keelsonlaw16_CountTells.f k a0 l1 l2 l3 a4 = some r) :
    Calls Tryd.prog 5 #[.int .i64 a0, .slice A1 l1.length c1, .slice A2 l2.length c2, .slice A3 l3.length c3, .int .i64 a4] w fun e w' => e = .returned (.bool r) ∧ Below w.heap.size w w' := by
  have HG_errOver := Aside0.mk hG_errOver
  clear hG_errOver
  have HR1 := Aside0.mk hr1
  have HC1 := Aside0.mk hc1
  clear hr1 hc1
  have HR2 := Aside0.mk hr2
  have HC2 := Aside0.mk hc2
  clear hr2 hc2
  have HR3 := Aside0.mk hr3
  have HC3 := Aside0.mk hc3
  clear hr3 hc3
  have HB := Aside0.mk (Below.refl w.heap.size w)
  have H : ((keelsonlaw16_shown.f k).bind fun t281 => (if t281 = true then (if (l1.length : Int) > 1100 then (keelsonlaw16_CountTells.j0 k a0 l1 l2 l3 a4 t281 true) else (if (l2.length : Int) > 100 then (keelsonlaw16_CountTells.j0 k a0 l1 l2 l3 a4 t281 true) else (keelsonlaw16_CountTells.j0 k a0 l1 l2 l3 a4 t281 (decide ((l3.length : Int) > 60))))) else (keelsonlaw16_CountTells.j0 k a0 l1 l2 l3 a4 t281 true))) = some r := h
  clear h
  replace H := Option.bind_eq_some_iff.mp H
  obtain ⟨t281, A60, H⟩ := H
  replace H : (if t281 = true then (if (l1.length : Int) > 1100 then (keelsonlaw16_CountTells.j0 k a0 l1 l2 l3 a4 t281 true) else (if (l2.length : Int) > 100 then (keelsonlaw16_CountTells.j0 k a0 l1 l2 l3 a4 t281 true) else (keelsonlaw16_CountTells.j0 k a0 l1 l2 l3 a4 t281 (decide ((l3.length : Int) > 60))))) else (keelsonlaw16_CountTells.j0 k a0 l1 l2 l3 a4 t281 true)) = some r := H
  have A6 := Aside0.mk A60
  clear A60
  have HC7 := Aside0.mk H
  clear H
  go_enter Tryd.func5, Tryd.ntmps5
  go_upto_region 2 with (first | ((with_reducible refine gate_callee (f := 11) rfl ?_); refine goesL_ (some 20) rfl rfl Tryd.func11 (by kernel_rfl) rfl #[] rfl (by (try simp only [List.map_toArray, List.map_cons, List.map_nil]); first | done | rfl | (simp only [List.length_drop, List.length_take]; rfl)) ?_; (with_reducible refine (keelsonlaw16_shown.calls k  t281 _ ?side1 A6.out).mono ?_); (case side1 => exact HG_errOver.out.below (by repeat (first | (with_reducible first | exact HB.out | apply below_alloc | apply pw_below_drewN | apply below_drew1) | exact HB.out))); rintro e w8 ⟨rfl, hb⟩; refine ⟨_, rfl, ?_⟩; have n0_ := Aside0.mk (below_step (by repeat (first | (with_reducible first | exact HB.out | apply below_alloc | apply pw_below_drewN | apply below_drew1) | exact HB.out)) hb); clear HB; have HB := n0_; clear n0_; (try clear hb); (try clear hb2); (try clear hk); (try clear hi)))
  (try simp only [Act.put, List.setIfInBounds_toArray, List.set_cons_zero, List.set_cons_succ])
  go_cut [37] (fun v37 wc => ∃ (kq : Nat) (x37_6 : Bool), v37 = .bool x37_6 ∧ Aside0 (keelsonlaw16_CountTells.j0 kq a0 l1 l2 l3 a4 t281 x37_6 = some r) ∧ Aside0 (kq ≤ k) ∧ Aside0 (Below w.heap.size w wc))
  case first => as_aux_lemma =>
    have H := HC7.out
    clear HC7
    by_cases c9 : t281 = true
    · subst c9
      have H1 : (if (l1.length : Int) > 1100 then (keelsonlaw16_CountTells.j0 k a0 l1 l2 l3 a4 true true) else (if (l2.length : Int) > 100 then (keelsonlaw16_CountTells.j0 k a0 l1 l2 l3 a4 true true) else (keelsonlaw16_CountTells.j0 k a0 l1 l2 l3 a4 true (decide ((l3.length : Int) > 60))))) = some r := by rw [if_pos rfl] at H; exact H
      clear H
      have H := H1
      clear H1
      by_cases c10 : (l1.length : Int) > 1100
      · rw [if_pos c10] at H
        have c10b0 : decide (1100 < (l1.length : Int)) = true := decide_eq_true c10
        have c10b1 : decide (1100 < l1.length) = true := decide_eq_true (by omega)
        clear c10
        (first | rw [c10b0] | (simp only [i64_w, i32_w]; rw [c10b0]) | rw [c10b1] | skip)
        have H' := Aside0.mk H
        clear H
        go_wp2
        go_meet
        case rel => exact ⟨_, (true), (by first | rfl | (simp; done) | (simp [*]; done)), H', ⟨by first | omega | exact Nat.le_refl _⟩, ⟨by repeat (first | (with_reducible first | exact HB.out | apply below_alloc | apply pw_below_drewN | apply below_drew1) | exact HB.out)⟩⟩
      · rw [if_neg c10] at H
        have c10b0 : decide (1100 < (l1.length : Int)) = false := decide_eq_false c10
        have c10b1 : decide (1100 < l1.length) = false := decide_eq_false (by omega)
        clear c10
        (first | rw [c10b0] | (simp only [i64_w, i32_w]; rw [c10b0]) | rw [c10b1] | skip)
        by_cases c11 : (l2.length : Int) > 100
        · rw [if_pos c11] at H
          have c11b0 : decide (100 < (l2.length : Int)) = true := decide_eq_true c11
          have c11b1 : decide (100 < l2.length) = true := decide_eq_true (by omega)
          clear c11
          have H' := Aside0.mk H
          clear H
          go_wp2
          go_meet
          case rel => exact ⟨_, (true), (by first | rfl | (simp; done) | (simp [*]; done)), H', ⟨by first | omega | exact Nat.le_refl _⟩, ⟨by repeat (first | (with_reducible first | exact HB.out | apply below_alloc | apply pw_below_drewN | apply below_drew1) | exact HB.out)⟩⟩
        · rw [if_neg c11] at H
          have c11b0 : decide (100 < (l2.length : Int)) = false := decide_eq_false c11
          have c11b1 : decide (100 < l2.length) = false := decide_eq_false (by omega)
          clear c11
          have H' := Aside0.mk H
          clear H
          go_wp2
          go_meet
          case rel => exact ⟨_, (decide ((l3.length : Int) > 60)), (by first | rfl | (simp; done) | (simp [*]; done)), H', ⟨by first | omega | exact Nat.le_refl _⟩, ⟨by repeat (first | (with_reducible first | exact HB.out | apply below_alloc | apply pw_below_drewN | apply below_drew1) | exact HB.out)⟩⟩
    · replace c9 := Bool.eq_false_iff.mpr c9
      subst c9
      have H1 : (keelsonlaw16_CountTells.j0 k a0 l1 l2 l3 a4 false true) = some r := by rw [if_neg (show ¬ (false = true) by decide)] at H; exact H
      clear H
      have H := H1
      clear H1
      have H' := Aside0.mk H
      clear H
      go_wp2
      go_meet
      case rel => exact ⟨_, (true), (by first | rfl | (simp; done) | (simp [*]; done)), H', ⟨by first | omega | exact Nat.le_refl _⟩, ⟨by repeat (first | (with_reducible first | exact HB.out | apply below_alloc | apply pw_below_drewN | apply below_drew1) | exact HB.out)⟩⟩
  case rest => as_aux_lemma =>
    clear HC7
    try clear c1
    try clear c2
    try clear p2
    try clear c3
    try clear c5
    try clear c9
    try clear c10
    try clear c10b0
    try clear c10b1
    try clear c11
    try clear c11b0
    try clear c11b1
    obtain ⟨kq, x37_6, rfl, HA, HJ6, HB⟩ := hcut
    cases kq with
    | zero => exact absurd HA.out (by simp [keelsonlaw16_CountTells.j0])
    | succ kj6 =>
      have H := HA.out
      clear HA
      simp only [keelsonlaw16_CountTells.j0] at H
      by_cases c12 : x37_6 = true
      · subst c12
        have H1 : (some t281) = some r := by rw [if_pos rfl] at H; exact H
        clear H
        have H := H1
        clear H1
        obtain rfl := Option.some.inj H
        go_wp2
        go_ret
        exact ⟨by first | rfl | (simp [errW_none, errW_some] <;> rfl) | (simp [*, errW_none, errW_some] <;> rfl), by repeat (first | (with_reducible first | exact HB.out | apply below_alloc | apply pw_below_drewN | apply below_drew1) | exact HB.out)⟩
      · replace c12 := Bool.eq_false_iff.mpr c12
        subst c12
        have H1 : ((count_Weight.f kj6 l1 l2).bind fun bt282 => ((keelsonref16_Weight.f kj6 l1 l2).bind fun bt284 => ((count_Most.f kj6 l1).bind fun bt286 => ((keelsonref16_Most.f kj6 l1).bind fun bt288 => ((count_Right.f a0 l1).bind fun t290 => ((keelsonref16_Right.f kj6 a0 l1).bind fun t291 => (if (t290 == t291) = true then (if bt282.1 = bt284.1 then (if bt282.2 = bt284.2 then (if bt286.1 = bt288.1 then (if bt286.2 = bt288.2 then ((count_Width.f a4).bind fun t292 => ((keelsonref16_Width.f kj6 a4).bind fun t293 => (if t292 = t293 then ((count_Value.f l3 l2).bind fun t294 => ((keelsonref16_Value.f kj6 l3 l2).bind fun t295 => (some (t294 == t295)))) else (none)))) else (none)) else (none)) else (none)) else (none)) else (none)))))))) = some r := by rw [if_neg (show ¬ (false = true) by decide)] at H; exact H
        clear H
        have H := H1
        clear H1
        replace H := Option.bind_eq_some_iff.mp H
        obtain ⟨⟨t282, t283⟩, A130, H⟩ := H
        replace H : ((keelsonref16_Weight.f kj6 l1 l2).bind fun bt284 => ((count_Most.f kj6 l1).bind fun bt286 => ((keelsonref16_Most.f kj6 l1).bind fun bt288 => ((count_Right.f a0 l1).bind fun t290 => ((keelsonref16_Right.f kj6 a0 l1).bind fun t291 => (if (t290 == t291) = true then (if t282 = bt284.1 then (if t283 = bt284.2 then (if bt286.1 = bt288.1 then (if bt286.2 = bt288.2 then ((count_Width.f a4).bind fun t292 => ((keelsonref16_Width.f kj6 a4).bind fun t293 => (if t292 = t293 then ((count_Value.f l3 l2).bind fun t294 => ((keelsonref16_Value.f kj6 l3 l2).bind fun t295 => (some (t294 == t295)))) else (none)))) else (none)) else (none)) else (none)) else (none)) else (none))))))) = some r := H
        have A13 := Aside0.mk A130
        clear A130
        replace H := Option.bind_eq_some_iff.mp H
        obtain ⟨⟨t284, t285⟩, A140, H⟩ := H
        replace H : ((count_Most.f kj6 l1).bind fun bt286 => ((keelsonref16_Most.f kj6 l1).bind fun bt288 => ((count_Right.f a0 l1).bind fun t290 => ((keelsonref16_Right.f kj6 a0 l1).bind fun t291 => (if (t290 == t291) = true then (if t282 = t284 then (if t283 = t285 then (if bt286.1 = bt288.1 then (if bt286.2 = bt288.2 then ((count_Width.f a4).bind fun t292 => ((keelsonref16_Width.f kj6 a4).bind fun t293 => (if t292 = t293 then ((count_Value.f l3 l2).bind fun t294 => ((keelsonref16_Value.f kj6 l3 l2).bind fun t295 => (some (t294 == t295)))) else (none)))) else (none)) else (none)) else (none)) else (none)) else (none)))))) = some r := H
        have A14 := Aside0.mk A140
        clear A140
        replace H := Option.bind_eq_some_iff.mp H
        obtain ⟨⟨t286, t287⟩, A150, H⟩ := H
        replace H : ((keelsonref16_Most.f kj6 l1).bind fun bt288 => ((count_Right.f a0 l1).bind fun t290 => ((keelsonref16_Right.f kj6 a0 l1).bind fun t291 => (if (t290 == t291) = true then (if t282 = t284 then (if t283 = t285 then (if t286 = bt288.1 then (if t287 = bt288.2 then ((count_Width.f a4).bind fun t292 => ((keelsonref16_Width.f kj6 a4).bind fun t293 => (if t292 = t293 then ((count_Value.f l3 l2).bind fun t294 => ((keelsonref16_Value.f kj6 l3 l2).bind fun t295 => (some (t294 == t295)))) else (none)))) else (none)) else (none)) else (none)) else (none)) else (none))))) = some r := H
        have A15 := Aside0.mk A150
        clear A150
        replace H := Option.bind_eq_some_iff.mp H
        obtain ⟨⟨t288, t289⟩, A160, H⟩ := H
        replace H : ((count_Right.f a0 l1).bind fun t290 => ((keelsonref16_Right.f kj6 a0 l1).bind fun t291 => (if (t290 == t291) = true then (if t282 = t284 then (if t283 = t285 then (if t286 = t288 then (if t287 = t289 then ((count_Width.f a4).bind fun t292 => ((keelsonref16_Width.f kj6 a4).bind fun t293 => (if t292 = t293 then ((count_Value.f l3 l2).bind fun t294 => ((keelsonref16_Value.f kj6 l3 l2).bind fun t295 => (some (t294 == t295)))) else (none)))) else (none)) else (none)) else (none)) else (none)) else (none)))) = some r := H
        have A16 := Aside0.mk A160
        clear A160
        replace H := Option.bind_eq_some_iff.mp H
        obtain ⟨t290, A170, H⟩ := H
        replace H : ((keelsonref16_Right.f kj6 a0 l1).bind fun t291 => (if (t290 == t291) = true then (if t282 = t284 then (if t283 = t285 then (if t286 = t288 then (if t287 = t289 then ((count_Width.f a4).bind fun t292 => ((keelsonref16_Width.f kj6 a4).bind fun t293 => (if t292 = t293 then ((count_Value.f l3 l2).bind fun t294 => ((keelsonref16_Value.f kj6 l3 l2).bind fun t295 => (some (t294 == t295)))) else (none)))) else (none)) else (none)) else (none)) else (none)) else (none))) = some r := H
        have A17 := Aside0.mk A170
        clear A170
        replace H := Option.bind_eq_some_iff.mp H
        obtain ⟨t291, A180, H⟩ := H
        replace H : (if (t290 == t291) = true then (if t282 = t284 then (if t283 = t285 then (if t286 = t288 then (if t287 = t289 then ((count_Width.f a4).bind fun t292 => ((keelsonref16_Width.f kj6 a4).bind fun t293 => (if t292 = t293 then ((count_Value.f l3 l2).bind fun t294 => ((keelsonref16_Value.f kj6 l3 l2).bind fun t295 => (some (t294 == t295)))) else (none)))) else (none)) else (none)) else (none)) else (none)) else (none)) = some r := H
        have A18 := Aside0.mk A180
        clear A180
        by_cases c19 : (t290 == t291) = true
        · rw [if_pos c19] at H
          have c19b0 : (t290 == t291) = true := c19
          (try (have c19b1 : decide (t290 = t291) = true := by simpa using c19))
          (try (have c19b2 : (t290 == t291) = true := by simpa using c19))
          clear c19
          by_cases c20 : t282 = t284
          · rw [if_pos c20] at H
            have c20b0 : (t282 == t284) = true := beq_iff_eq.mpr c20
            have c20b1 : (t282 != t284) = false := bne_eq_false_iff_eq.mpr c20
            clear c20
            by_cases c21 : t283 = t285
            · rw [if_pos c21] at H
              have c21b0 : (t283 == t285) = true := beq_iff_eq.mpr c21
              have c21b1 : (t283 != t285) = false := bne_eq_false_iff_eq.mpr c21
              clear c21
              by_cases c22 : t286 = t288
              · rw [if_pos c22] at H
                have c22b0 : (t286 == t288) = true := beq_iff_eq.mpr c22
                have c22b1 : (t286 != t288) = false := bne_eq_false_iff_eq.mpr c22
                clear c22
                by_cases c23 : t287 = t289
                · rw [if_pos c23] at H
                  have c23b0 : (t287 == t289) = true := beq_iff_eq.mpr c23
                  have c23b1 : (t287 != t289) = false := bne_eq_false_iff_eq.mpr c23
                  clear c23
                  replace H := Option.bind_eq_some_iff.mp H
                  obtain ⟨t292, A240, H⟩ := H
                  replace H : ((keelsonref16_Width.f kj6 a4).bind fun t293 => (if t292 = t293 then ((count_Value.f l3 l2).bind fun t294 => ((keelsonref16_Value.f kj6 l3 l2).bind fun t295 => (some (t294 == t295)))) else (none))) = some r := H
                  have A24 := Aside0.mk A240
                  clear A240
                  replace H := Option.bind_eq_some_iff.mp H
                  obtain ⟨t293, A250, H⟩ := H
                  replace H : (if t292 = t293 then ((count_Value.f l3 l2).bind fun t294 => ((keelsonref16_Value.f kj6 l3 l2).bind fun t295 => (some (t294 == t295)))) else (none)) = some r := H
                  have A25 := Aside0.mk A250
                  clear A250
                  by_cases c26 : t292 = t293
                  · rw [if_pos c26] at H
                    have c26b0 : (t292 == t293) = true := beq_iff_eq.mpr c26
                    have c26b1 : (t292 != t293) = false := bne_eq_false_iff_eq.mpr c26
                    clear c26
                    replace H := Option.bind_eq_some_iff.mp H
                    obtain ⟨t294, A270, H⟩ := H
                    replace H : ((keelsonref16_Value.f kj6 l3 l2).bind fun t295 => (some (t294 == t295))) = some r := H
                    have A27 := Aside0.mk A270
                    clear A270
                    replace H := Option.bind_eq_some_iff.mp H
                    obtain ⟨t295, A280, H⟩ := H
                    replace H : (some (t294 == t295)) = some r := H
                    have A28 := Aside0.mk A280
                    clear A280
                    obtain rfl := Option.some.inj H
                    go_wp2_with (first | ((with_reducible refine gate_callee (f := 18) rfl ?_); refine goesL_ (some 42) rfl rfl Tryd.func18 (by kernel_rfl) rfl #[.slice A1 l1.length c1, .slice A2 l2.length c2] rfl (by (try simp only [List.map_toArray, List.map_cons, List.map_nil]); first | done | rfl | (simp only [List.length_drop, List.length_take]; rfl)) ?_; (with_reducible refine (count_Weight.calls kj6 _ _ l1 _ _ l2 t282 t283 _ ?side1 ?side2 ?side3 ?side4 ?side5 A13.out).mono ?_); (case side1 => repeat (first | exact (Kd.C_below HR1.out HB.out) | (with_reducible refine Kd.C_alloc ?_ _) | (with_reducible refine Kd.C_drewN ?_ _) | (with_reducible refine Kd.C_drew ?_))); (case side2 => exact HC1.out); (case side3 => repeat (first | exact (Kd.C_below HR2.out HB.out) | (with_reducible refine Kd.C_alloc ?_ _) | (with_reducible refine Kd.C_drewN ?_ _) | (with_reducible refine Kd.C_drew ?_))); (case side4 => exact HC2.out); (case side5 => exact HG_errOver.out.below (by repeat (first | (with_reducible first | exact HB.out | apply below_alloc | apply pw_below_drewN | apply below_drew1) | exact HB.out))); rintro e w29 ⟨rfl, hb⟩; refine ⟨_, rfl, ?_⟩; have n0_ := Aside0.mk (below_step (by repeat (first | (with_reducible first | exact HB.out | apply below_alloc | apply pw_below_drewN | apply below_drew1) | exact HB.out)) hb); clear HB; have HB := n0_; clear n0_; (try clear hb); (try clear hb2); (try clear hk); (try clear hi)) | ((with_reducible refine gate_callee (f := 21) rfl ?_); refine goesL_ (some 48) rfl rfl Tryd.func21 (by kernel_rfl) rfl #[.slice A1 l1.length c1, .slice A2 l2.length c2] rfl (by (try simp only [List.map_toArray, List.map_cons, List.map_nil]); first | done | rfl | (simp only [List.length_drop, List.length_take]; rfl)) ?_; (with_reducible refine (keelsonref16_Weight.calls kj6 _ _ l1 _ _ l2 t284 t285 _ ?side1 ?side2 ?side3 ?side4 A14.out).mono ?_); (case side1 => repeat (first | exact (Kd.C_below HR1.out HB.out) | (with_reducible refine Kd.C_alloc ?_ _) | (with_reducible refine Kd.C_drewN ?_ _) | (with_reducible refine Kd.C_drew ?_))); (case side2 => exact HC1.out); (case side3 => repeat (first | exact (Kd.C_below HR2.out HB.out) | (with_reducible refine Kd.C_alloc ?_ _) | (with_reducible refine Kd.C_drewN ?_ _) | (with_reducible refine Kd.C_drew ?_))); (case side4 => exact HC2.out); rintro e w30 ⟨rfl, hb⟩; refine ⟨_, rfl, ?_⟩; have n0_ := Aside0.mk (below_step (by repeat (first | (with_reducible first | exact HB.out | apply below_alloc | apply pw_below_drewN | apply below_drew1) | exact HB.out)) hb); clear HB; have HB := n0_; clear n0_; (try clear hb); (try clear hb2); (try clear hk); (try clear hi)) | ((with_reducible refine gate_callee (f := 22) rfl ?_); refine goesL_ (some 53) rfl rfl Tryd.func22 (by kernel_rfl) rfl #[.slice A1 l1.length c1] rfl (by (try simp only [List.map_toArray, List.map_cons, List.map_nil]); first | done | rfl | (simp only [List.length_drop, List.length_take]; rfl)) ?_; (with_reducible refine (count_Most.calls kj6 _ _ l1 t286 t287 _ ?side1 ?side2 ?side3 A15.out).mono ?_); (case side1 => repeat (first | exact (Kd.C_below HR1.out HB.out) | (with_reducible refine Kd.C_alloc ?_ _) | (with_reducible refine Kd.C_drewN ?_ _) | (with_reducible refine Kd.C_drew ?_))); (case side2 => exact HC1.out); (case side3 => exact HG_errOver.out.below (by repeat (first | (with_reducible first | exact HB.out | apply below_alloc | apply pw_below_drewN | apply below_drew1) | exact HB.out))); rintro e w31 ⟨rfl, hb⟩; refine ⟨_, rfl, ?_⟩; have n0_ := Aside0.mk (below_step (by repeat (first | (with_reducible first | exact HB.out | apply below_alloc | apply pw_below_drewN | apply below_drew1) | exact HB.out)) hb); clear HB; have HB := n0_; clear n0_; (try clear hb); (try clear hb2); (try clear hk); (try clear hi)) | ((with_reducible refine gate_callee (f := 23) rfl ?_); refine goesL_ (some 58) rfl rfl Tryd.func23 (by kernel_rfl) rfl #[.slice A1 l1.length c1] rfl (by (try simp only [List.map_toArray, List.map_cons, List.map_nil]); first | done | rfl | (simp only [List.length_drop, List.length_take]; rfl)) ?_; (with_reducible refine (keelsonref16_Most.calls kj6 _ _ l1 t288 t289 _ ?side1 ?side2 A16.out).mono ?_); (case side1 => repeat (first | exact (Kd.C_below HR1.out HB.out) | (with_reducible refine Kd.C_alloc ?_ _) | (with_reducible refine Kd.C_drewN ?_ _) | (with_reducible refine Kd.C_drew ?_))); (case side2 => exact HC1.out); rintro e w32 ⟨rfl, hb⟩; refine ⟨_, rfl, ?_⟩; have n0_ := Aside0.mk (below_step (by repeat (first | (with_reducible first | exact HB.out | apply below_alloc | apply pw_below_drewN | apply below_drew1) | exact HB.out)) hb); clear HB; have HB := n0_; clear n0_; (try clear hb); (try clear hb2); (try clear hk); (try clear hi)) | ((with_reducible refine gate_callee (f := 24) rfl ?_); refine goesL_ (some 63) rfl rfl Tryd.func24 (by kernel_rfl) rfl #[.int .i64 a0, .slice A1 l1.length c1] rfl (by (try simp only [List.map_toArray, List.map_cons, List.map_nil]); first | done | rfl | (simp only [List.length_drop, List.length_take]; rfl)) ?_; (with_reducible refine (count_Right.calls a0 _ _ l1 t290 _ ?side1 ?side2 A17.out).mono ?_); (case side1 => repeat (first | exact (Kd.C_below HR1.out HB.out) | (with_reducible refine Kd.C_alloc ?_ _) | (with_reducible refine Kd.C_drewN ?_ _) | (with_reducible refine Kd.C_drew ?_))); (case side2 => exact HC1.out); rintro e w33 ⟨rfl, hb⟩; refine ⟨_, rfl, ?_⟩; have n0_ := Aside0.mk (below_step (by repeat (first | (with_reducible first | exact HB.out | apply below_alloc | apply pw_below_drewN | apply below_drew1) | exact HB.out)) hb); clear HB; have HB := n0_; clear n0_; (try clear hb); (try clear hb2); (try clear hk); (try clear hi)) | ((with_reducible refine gate_callee (f := 25) rfl ?_); refine goesL_ (some 66) rfl rfl Tryd.func25 (by kernel_rfl) rfl #[.int .i64 a0, .slice A1 l1.length c1] rfl (by (try simp only [List.map_toArray, List.map_cons, List.map_nil]); first | done | rfl | (simp only [List.length_drop, List.length_take]; rfl)) ?_; (with_reducible refine (keelsonref16_Right.calls kj6 a0 _ _ l1 t291 _ ?side1 ?side2 A18.out).mono ?_); (case side1 => repeat (first | exact (Kd.C_below HR1.out HB.out) | (with_reducible refine Kd.C_alloc ?_ _) | (with_reducible refine Kd.C_drewN ?_ _) | (with_reducible refine Kd.C_drew ?_))); (case side2 => exact HC1.out); rintro e w' ⟨rfl, ⟨nd, rfl⟩⟩; refine ⟨_, rfl, ?_⟩) | (go_at_call 26; (with_reducible refine (count_Width.calls a4 t292 _ A24.out).mono ?_); rintro e w' ⟨rfl, ⟨nd, rfl⟩⟩) | (go_at_call 27; (with_reducible refine (keelsonref16_Width.calls kj6 a4 t293 _ A25.out).mono ?_); rintro e w' ⟨rfl, ⟨nd, rfl⟩⟩) | (go_at_call 28; (with_reducible refine (count_Value.calls _ _ l3 _ _ l2 t294 _ ?side1 ?side2 ?side3 ?side4 A27.out).mono ?_); (case side1 => repeat (first | exact (Kd.C_below HR3.out (by repeat (first | (with_reducible first | exact HB.out | apply below_alloc | apply pw_below_drewN | apply below_drew1) | exact HB.out))) | (with_reducible refine Kd.C_alloc ?_ _) | (with_reducible refine Kd.C_drewN ?_ _) | (with_reducible refine Kd.C_drew ?_))); (case side2 => exact HC3.out); (case side3 => repeat (first | exact (Kd.C_below HR2.out (by repeat (first | (with_reducible first | exact HB.out | apply below_alloc | apply pw_below_drewN | apply below_drew1) | exact HB.out))) | (with_reducible refine Kd.C_alloc ?_ _) | (with_reducible refine Kd.C_drewN ?_ _) | (with_reducible refine Kd.C_drew ?_))); (case side4 => exact HC2.out); rintro e w34 ⟨rfl, hb⟩; have n0_ := Aside0.mk (below_step (by repeat (first | (with_reducible first | exact HB.out | apply below_alloc | apply pw_below_drewN | apply below_drew1) | exact HB.out)) hb); clear HB; have HB := n0_; clear n0_; (try clear hb); (try clear hb2); (try clear hk); (try clear hi)) | (go_at_call 17; (with_reducible refine (keelsonref16_Value.calls kj6 _ _ l3 _ _ l2 t295 _ ?side1 ?side2 ?side3 ?side4 A28.out).mono ?_); (case side1 => repeat (first | exact (Kd.C_below HR3.out HB.out) | (with_reducible refine Kd.C_alloc ?_ _) | (with_reducible refine Kd.C_drewN ?_ _) | (with_reducible refine Kd.C_drew ?_))); (case side2 => exact HC3.out); (case side3 => repeat (first | exact (Kd.C_below HR2.out HB.out) | (with_reducible refine Kd.C_alloc ?_ _) | (with_reducible refine Kd.C_drewN ?_ _) | (with_reducible refine Kd.C_drew ?_))); (case side4 => exact HC2.out); rintro e w35 ⟨rfl, hb⟩; have n0_ := Aside0.mk (below_step (by repeat (first | (with_reducible first | exact HB.out | apply below_alloc | apply pw_below_drewN | apply below_drew1) | exact HB.out)) hb); clear HB; have HB := n0_; clear n0_; (try clear hb); (try clear hb2); (try clear hk); (try clear hi)))
                    go_ret
                    exact ⟨by first | rfl | (simp [errW_none, errW_some] <;> rfl) | (simp [*, errW_none, errW_some] <;> rfl), by repeat (first | (with_reducible first | exact HB.out | apply below_alloc | apply pw_below_drewN | apply below_drew1) | exact HB.out)⟩
                  · rw [if_neg c26] at H
                    exact absurd H (by simp)
                · rw [if_neg c23] at H
                  exact absurd H (by simp)
              · rw [if_neg c22] at H
                exact absurd H (by simp)
            · rw [if_neg c21] at H
              exact absurd H (by simp)
          · rw [if_neg c20] at H
            exact absurd H (by simp)
        · rw [if_neg c19] at H
          exact absurd H (by simp)

end Go.Proofs.YtooobbbpcpfddaaDoor.PA
