-- Printed by gprint.py (wip/ of this repo), over the kit's print.
import Derived.Test.YtooobbbpcpfddaaDoorPA0
import Derived.Test.YtooobbbpcpfddaaDoorPAcount1
import Derived.Test.YtooobbbpcpfddaaDoorPAkeelsonlaw161
import Derived.Test.YtooobbbpcpfddaaDoorPAkeelsonref120
import Derived.Test.YtooobbbpcpfddaaDoorPAkeelsonref150
import Derived.Test.YtooobbbpcpfddaaDoorPAkeelsonref160
namespace Go.Proofs.YtooobbbpcpfddaaDoor.PA
open Go.RowKit Go.Proofs.YtooobbbpcpfddaaDoorW.PrintWords Go.Proofs.YtooobbbpcpfddaaDoorW.PrintLast Go.Proofs.YtooobbbpcpfddaaDoorW.PrintMore
attribute [local go_sem] max2_int min2_int max_two min_two max_three min_three max_four min_four   -- for this text's walks alone
set_option linter.unusedVariables false
set_option linter.unusedSimpArgs false

/-! ### keelsonlaw16_CountLimits: function 3 -/
mutual
def keelsonlaw16_CountLimits.j0 : Nat → List Int → Int → Bool → Bool → Option (Bool)
  | 0, _, _, _, _ => none
  | k + 1, x0, x1, x5, x19 => if x19 = true then (some x5) else ((count_Limit.f k x0 x1).bind fun bt203 => ((keelsonref16_Limits.f k x0).bind fun t207 => (if t207 = 0 then (keelsonlaw16_CountLimits.j1 k x0 x1 bt203.1 bt203.2 t207 (bt203.2 != 0)) else (keelsonlaw16_CountLimits.j1 k x0 x1 bt203.1 bt203.2 t207 true))))
def keelsonlaw16_CountLimits.j1 : Nat → List Int → Int → List (List Int) → Int → Int → Bool → Option (Bool)
  | 0, _, _, _, _, _, _ => none
  | k + 1, x0, x1, x6, x7, x8, x34 => if x34 = true then (if x7 = x8 then (some ((x6.length : Int) == 0)) else (none)) else (keelsonlaw16_CountLimits.l0 k x0 x1 x6 0)
def keelsonlaw16_CountLimits.l0 : Nat → List Int → Int → List (List Int) → Int → Option (Bool)
  | 0, _, _, _, _ => none
  | k + 1, x0, x1, x6, x9 => if x9 < (x0.length : Int) then (if 0 ≤ x9 then ((keelsonref12_Var.f k (rd x0 x9)).bind fun t209 => (if t209 > 8 then (some true) else ((keelsonref12_Var.f k (rd x0 x9)).bind fun t211 => (if t211 < 1 then (some true) else (keelsonlaw16_CountLimits.l0 k x0 x1 x6 (wrap64 (x9 + 1))))))) else (none)) else (keelsonlaw16_CountLimits.l1 k x0 x1 x6 0)
def keelsonlaw16_CountLimits.l1 : Nat → List Int → Int → List (List Int) → Int → Option (Bool)
  | 0, _, _, _, _ => none
  | k + 1, x0, x1, x6, x10 => if x10 < 256 then ((keelsonref15_Model.f k x10 8).bind fun t212 => ((keelsonref12_Holds.f k x6 t212).bind fun t215 => ((keelsonref16_Value.f k x0 t212).bind fun t216 => (if (t215 != (decide (t216 ≤ x1))) = true then (none) else (keelsonlaw16_CountLimits.l1 k x0 x1 x6 (wrap64 (x10 + 1))))))) else (some true)
end
def keelsonlaw16_CountLimits.f (k : Nat) (l0 : List Int) (a1 : Int) : Option (Bool) := (keelsonlaw16_shown.f k).bind fun t202 => (if t202 = true then (keelsonlaw16_CountLimits.j0 k l0 a1 t202 (decide ((l0.length : Int) > 60))) else (keelsonlaw16_CountLimits.j0 k l0 a1 t202 true))
theorem keelsonlaw16_CountLimits.mono_l : ∀ k, (∀ y0 y1 y2 y3, LeO (keelsonlaw16_CountLimits.j0 k y0 y1 y2 y3) (keelsonlaw16_CountLimits.j0 (k + 1) y0 y1 y2 y3)) ∧ (∀ y0 y1 y2 y3 y4 y5, LeO (keelsonlaw16_CountLimits.j1 k y0 y1 y2 y3 y4 y5) (keelsonlaw16_CountLimits.j1 (k + 1) y0 y1 y2 y3 y4 y5)) ∧ (∀ y0 y1 y2 y3, LeO (keelsonlaw16_CountLimits.l0 k y0 y1 y2 y3) (keelsonlaw16_CountLimits.l0 (k + 1) y0 y1 y2 y3)) ∧ (∀ y0 y1 y2 y3, LeO (keelsonlaw16_CountLimits.l1 k y0 y1 y2 y3) (keelsonlaw16_CountLimits.l1 (k + 1) y0 y1 y2 y3))
  | 0 => ⟨fun _ _ _ _ r h => by simp [keelsonlaw16_CountLimits.j0] at h, fun _ _ _ _ _ _ r h => by simp [keelsonlaw16_CountLimits.j1] at h, fun _ _ _ _ r h => by simp [keelsonlaw16_CountLimits.l0] at h, fun _ _ _ _ r h => by simp [keelsonlaw16_CountLimits.l1] at h⟩
  | k + 1 => by
    obtain ⟨ih0, ih1, ih2, ih3⟩ := keelsonlaw16_CountLimits.mono_l k
    refine ⟨?_, ?_, ?_, ?_⟩
    · intro y0 y1 y2 y3
      unfold keelsonlaw16_CountLimits.j0
      repeat' first
      | (with_reducible exact ih0 _ _ _ _)
      | (with_reducible exact ih1 _ _ _ _ _ _)
      | (with_reducible exact ih2 _ _ _ _)
      | (with_reducible exact ih3 _ _ _ _)
      | (with_reducible exact count_Limit.mono _ _ _)
      | (with_reducible exact keelsonlaw16_shown.mono _)
      | (with_reducible exact keelsonref12_Holds.mono _ _ _)
      | (with_reducible exact keelsonref12_Var.mono _ _)
      | (with_reducible exact keelsonref15_Model.mono _ _ _)
      | (with_reducible exact keelsonref16_Limits.mono _ _)
      | (with_reducible exact keelsonref16_Value.mono _ _ _)
      | (with_reducible exact LeO.refl _)
      | (with_reducible exact LeO.none _)
      | (with_reducible refine LeO.ite ?_ ?_)
      | (with_reducible refine LeO.bind ?_ (fun _ => ?_))
      | exact ih0 _ _ _ _
      | exact ih1 _ _ _ _ _ _
      | exact ih2 _ _ _ _
      | exact ih3 _ _ _ _
      | exact count_Limit.mono _ _ _
      | exact keelsonlaw16_shown.mono _
      | exact keelsonref12_Holds.mono _ _ _
      | exact keelsonref12_Var.mono _ _
      | exact keelsonref15_Model.mono _ _ _
      | exact keelsonref16_Limits.mono _ _
      | exact keelsonref16_Value.mono _ _ _
      | exact LeO.none _
      | refine LeO.ite ?_ ?_
      | refine LeO.bind ?_ (fun _ => ?_)
    · intro y0 y1 y2 y3 y4 y5
      unfold keelsonlaw16_CountLimits.j1
      repeat' first
      | (with_reducible exact ih0 _ _ _ _)
      | (with_reducible exact ih1 _ _ _ _ _ _)
      | (with_reducible exact ih2 _ _ _ _)
      | (with_reducible exact ih3 _ _ _ _)
      | (with_reducible exact count_Limit.mono _ _ _)
      | (with_reducible exact keelsonlaw16_shown.mono _)
      | (with_reducible exact keelsonref12_Holds.mono _ _ _)
      | (with_reducible exact keelsonref12_Var.mono _ _)
      | (with_reducible exact keelsonref15_Model.mono _ _ _)
      | (with_reducible exact keelsonref16_Limits.mono _ _)
      | (with_reducible exact keelsonref16_Value.mono _ _ _)
      | (with_reducible exact LeO.refl _)
      | (with_reducible exact LeO.none _)
      | (with_reducible refine LeO.ite ?_ ?_)
      | (with_reducible refine LeO.bind ?_ (fun _ => ?_))
      | exact ih0 _ _ _ _
      | exact ih1 _ _ _ _ _ _
      | exact ih2 _ _ _ _
      | exact ih3 _ _ _ _
      | exact count_Limit.mono _ _ _
      | exact keelsonlaw16_shown.mono _
      | exact keelsonref12_Holds.mono _ _ _
      | exact keelsonref12_Var.mono _ _
      | exact keelsonref15_Model.mono _ _ _
      | exact keelsonref16_Limits.mono _ _
      | exact keelsonref16_Value.mono _ _ _
      | exact LeO.none _
      | refine LeO.ite ?_ ?_
      | refine LeO.bind ?_ (fun _ => ?_)
    · intro y0 y1 y2 y3
      unfold keelsonlaw16_CountLimits.l0
      repeat' first
      | (with_reducible exact ih0 _ _ _ _)
      | (with_reducible exact ih1 _ _ _ _ _ _)
      | (with_reducible exact ih2 _ _ _ _)
      | (with_reducible exact ih3 _ _ _ _)
      | (with_reducible exact count_Limit.mono _ _ _)
      | (with_reducible exact keelsonlaw16_shown.mono _)
      | (with_reducible exact keelsonref12_Holds.mono _ _ _)
      | (with_reducible exact keelsonref12_Var.mono _ _)
      | (with_reducible exact keelsonref15_Model.mono _ _ _)
      | (with_reducible exact keelsonref16_Limits.mono _ _)
      | (with_reducible exact keelsonref16_Value.mono _ _ _)
      | (with_reducible exact LeO.refl _)
      | (with_reducible exact LeO.none _)
      | (with_reducible refine LeO.ite ?_ ?_)
      | (with_reducible refine LeO.bind ?_ (fun _ => ?_))
      | exact ih0 _ _ _ _
      | exact ih1 _ _ _ _ _ _
      | exact ih2 _ _ _ _
      | exact ih3 _ _ _ _
      | exact count_Limit.mono _ _ _
      | exact keelsonlaw16_shown.mono _
      | exact keelsonref12_Holds.mono _ _ _
      | exact keelsonref12_Var.mono _ _
      | exact keelsonref15_Model.mono _ _ _
      | exact keelsonref16_Limits.mono _ _
      | exact keelsonref16_Value.mono _ _ _
      | exact LeO.none _
      | refine LeO.ite ?_ ?_
      | refine LeO.bind ?_ (fun _ => ?_)
    · intro y0 y1 y2 y3
      unfold keelsonlaw16_CountLimits.l1
      repeat' first
      | (with_reducible exact ih0 _ _ _ _)
      | (with_reducible exact ih1 _ _ _ _ _ _)
      | (with_reducible exact ih2 _ _ _ _)
      | (with_reducible exact ih3 _ _ _ _)
      | (with_reducible exact count_Limit.mono _ _ _)
      | (with_reducible exact keelsonlaw16_shown.mono _)
      | (with_reducible exact keelsonref12_Holds.mono _ _ _)
      | (with_reducible exact keelsonref12_Var.mono _ _)
      | (with_reducible exact keelsonref15_Model.mono _ _ _)
      | (with_reducible exact keelsonref16_Limits.mono _ _)
      | (with_reducible exact keelsonref16_Value.mono _ _ _)
      | (with_reducible exact LeO.refl _)
      | (with_reducible exact LeO.none _)
      | (with_reducible refine LeO.ite ?_ ?_)
      | (with_reducible refine LeO.bind ?_ (fun _ => ?_))
      | exact ih0 _ _ _ _
      | exact ih1 _ _ _ _ _ _
      | exact ih2 _ _ _ _
      | exact ih3 _ _ _ _
      | exact count_Limit.mono _ _ _
      | exact keelsonlaw16_shown.mono _
      | exact keelsonref12_Holds.mono _ _ _
      | exact keelsonref12_Var.mono _ _
      | exact keelsonref15_Model.mono _ _ _
      | exact keelsonref16_Limits.mono _ _
      | exact keelsonref16_Value.mono _ _ _
      | exact LeO.none _
      | refine LeO.ite ?_ ?_
      | refine LeO.bind ?_ (fun _ => ?_)
theorem keelsonlaw16_CountLimits.mono : ∀ a0 a1 k, LeO (keelsonlaw16_CountLimits.f k a0 a1) (keelsonlaw16_CountLimits.f (k + 1) a0 a1) := by
  intro a0 a1 k
  obtain ⟨ih0, ih1, ih2, ih3⟩ := keelsonlaw16_CountLimits.mono_l k
  unfold keelsonlaw16_CountLimits.f
  repeat' first
      | (with_reducible exact ih0 _ _ _ _)
      | (with_reducible exact ih1 _ _ _ _ _ _)
      | (with_reducible exact ih2 _ _ _ _)
      | (with_reducible exact ih3 _ _ _ _)
      | (with_reducible exact count_Limit.mono _ _ _)
      | (with_reducible exact keelsonlaw16_shown.mono _)
      | (with_reducible exact keelsonref12_Holds.mono _ _ _)
      | (with_reducible exact keelsonref12_Var.mono _ _)
      | (with_reducible exact keelsonref15_Model.mono _ _ _)
      | (with_reducible exact keelsonref16_Limits.mono _ _)
      | (with_reducible exact keelsonref16_Value.mono _ _ _)
      | (with_reducible exact LeO.refl _)
      | (with_reducible exact LeO.none _)
      | (with_reducible refine LeO.ite ?_ ?_)
      | (with_reducible refine LeO.bind ?_ (fun _ => ?_))
      | exact ih0 _ _ _ _
      | exact ih1 _ _ _ _ _ _
      | exact ih2 _ _ _ _
      | exact ih3 _ _ _ _
      | exact count_Limit.mono _ _ _
      | exact keelsonlaw16_shown.mono _
      | exact keelsonref12_Holds.mono _ _ _
      | exact keelsonref12_Var.mono _ _
      | exact keelsonref15_Model.mono _ _ _
      | exact keelsonref16_Limits.mono _ _
      | exact keelsonref16_Value.mono _ _ _
      | exact LeO.none _
      | refine LeO.ite ?_ ?_
      | refine LeO.bind ?_ (fun _ => ?_)
set_option maxHeartbeats 8000000 in
set_option maxRecDepth 100000 in
theorem keelsonlaw16_CountLimits.calls (k : Nat) (A0 : Option Addr) (c0 : Nat) (l0 : List Int) (a1 : Int) (r : Bool) (w : World) (hr0 : Kd.C (Kd.int .i64) w A0 l0.length l0) (hc0 : l0.length ≤ c0) (hG_errOver : GlobErrOver w) (h : keelsonlaw16_CountLimits.f k l0 a1 = some r) :
    Calls Tryd.prog 3 #[.slice A0 l0.length c0, .int .i64 a1] w fun e w' => e = .returned (.bool r) ∧ Below w.heap.size w w' := by
  have HG_errOver := Aside0.mk hG_errOver
  clear hG_errOver
  have HR0 := Aside0.mk hr0
  have HC0 := Aside0.mk hc0
  clear hr0 hc0
  have HB := Aside0.mk (Below.refl w.heap.size w)
  have H : ((keelsonlaw16_shown.f k).bind fun t202 => (if t202 = true then (keelsonlaw16_CountLimits.j0 k l0 a1 t202 (decide ((l0.length : Int) > 60))) else (keelsonlaw16_CountLimits.j0 k l0 a1 t202 true))) = some r := h
  clear h
  replace H := Option.bind_eq_some_iff.mp H
  obtain ⟨t202, A30, H⟩ := H
  replace H : (if t202 = true then (keelsonlaw16_CountLimits.j0 k l0 a1 t202 (decide ((l0.length : Int) > 60))) else (keelsonlaw16_CountLimits.j0 k l0 a1 t202 true)) = some r := H
  have A3 := Aside0.mk A30
  clear A30
  have HC4 := Aside0.mk H
  clear H
  go_enter Tryd.func3, Tryd.ntmps3
  go_upto_region 2 with (first | ((with_reducible refine gate_callee (f := 11) rfl ?_); refine goesL_ (some 12) rfl rfl Tryd.func11 (by kernel_rfl) rfl #[] rfl (by (try simp only [List.map_toArray, List.map_cons, List.map_nil]); first | done | rfl | (simp only [List.length_drop, List.length_take]; rfl)) ?_; (with_reducible refine (keelsonlaw16_shown.calls k  t202 _ ?side1 A3.out).mono ?_); (case side1 => exact HG_errOver.out.below (by repeat (first | (with_reducible first | exact HB.out | apply below_alloc | apply pw_below_drewN | apply below_drew1) | exact HB.out))); rintro e w5 ⟨rfl, hb⟩; refine ⟨_, rfl, ?_⟩; have n0_ := Aside0.mk (below_step (by repeat (first | (with_reducible first | exact HB.out | apply below_alloc | apply pw_below_drewN | apply below_drew1) | exact HB.out)) hb); clear HB; have HB := n0_; clear n0_; (try clear hb); (try clear hb2); (try clear hk); (try clear hi)))
  (try simp only [Act.put, List.setIfInBounds_toArray, List.set_cons_zero, List.set_cons_succ])
  go_cut [19] (fun v19 wc => ∃ (kq : Nat) (x19_3 : Bool), v19 = .bool x19_3 ∧ Aside0 (keelsonlaw16_CountLimits.j0 kq l0 a1 t202 x19_3 = some r) ∧ Aside0 (kq ≤ k) ∧ Aside0 (Below w.heap.size w wc))
  case first => as_aux_lemma =>
    have H := HC4.out
    clear HC4
    by_cases c6 : t202 = true
    · subst c6
      have H1 : (keelsonlaw16_CountLimits.j0 k l0 a1 true (decide ((l0.length : Int) > 60))) = some r := by rw [if_pos rfl] at H; exact H
      clear H
      have H := H1
      clear H1
      have H' := Aside0.mk H
      clear H
      go_wp2
      go_meet
      case rel => exact ⟨_, (decide ((l0.length : Int) > 60)), (by first | rfl | (simp; done) | (simp [*]; done)), H', ⟨by first | omega | exact Nat.le_refl _⟩, ⟨by repeat (first | (with_reducible first | exact HB.out | apply below_alloc | apply pw_below_drewN | apply below_drew1) | exact HB.out)⟩⟩
    · replace c6 := Bool.eq_false_iff.mpr c6
      subst c6
      have H1 : (keelsonlaw16_CountLimits.j0 k l0 a1 false true) = some r := by rw [if_neg (show ¬ (false = true) by decide)] at H; exact H
      clear H
      have H := H1
      clear H1
      have H' := Aside0.mk H
      clear H
      go_wp2
      go_meet
      case rel => exact ⟨_, (true), (by first | rfl | (simp; done) | (simp [*]; done)), H', ⟨by first | omega | exact Nat.le_refl _⟩, ⟨by repeat (first | (with_reducible first | exact HB.out | apply below_alloc | apply pw_below_drewN | apply below_drew1) | exact HB.out)⟩⟩
  case rest => as_aux_lemma =>
    clear HC4
    try clear c1
    try clear p2
    try clear c3
    try clear c6
    obtain ⟨kq, x19_3, rfl, HA, HJ3, HB⟩ := hcut
    cases kq with
    | zero => exact absurd HA.out (by simp [keelsonlaw16_CountLimits.j0])
    | succ kj3 =>
      have H := HA.out
      clear HA
      simp only [keelsonlaw16_CountLimits.j0] at H
      by_cases c7 : x19_3 = true
      · subst c7
        have H1 : (some t202) = some r := by rw [if_pos rfl] at H; exact H
        clear H
        have H := H1
        clear H1
        obtain rfl := Option.some.inj H
        go_wp2
        go_ret
        exact ⟨by first | rfl | (simp [errW_none, errW_some] <;> rfl) | (simp [*, errW_none, errW_some] <;> rfl), by repeat (first | (with_reducible first | exact HB.out | apply below_alloc | apply pw_below_drewN | apply below_drew1) | exact HB.out)⟩
      · replace c7 := Bool.eq_false_iff.mpr c7
        subst c7
        have H1 : ((count_Limit.f kj3 l0 a1).bind fun bt203 => ((keelsonref16_Limits.f kj3 l0).bind fun t207 => (if t207 = 0 then (keelsonlaw16_CountLimits.j1 kj3 l0 a1 bt203.1 bt203.2 t207 (bt203.2 != 0)) else (keelsonlaw16_CountLimits.j1 kj3 l0 a1 bt203.1 bt203.2 t207 true)))) = some r := by rw [if_neg (show ¬ (false = true) by decide)] at H; exact H
        clear H
        have H := H1
        clear H1
        replace H := Option.bind_eq_some_iff.mp H
        obtain ⟨⟨t203, t206⟩, A80, H⟩ := H
        replace H : ((keelsonref16_Limits.f kj3 l0).bind fun t207 => (if t207 = 0 then (keelsonlaw16_CountLimits.j1 kj3 l0 a1 t203 t206 t207 (t206 != 0)) else (keelsonlaw16_CountLimits.j1 kj3 l0 a1 t203 t206 t207 true))) = some r := H
        have A8 := Aside0.mk A80
        clear A80
        replace H := Option.bind_eq_some_iff.mp H
        obtain ⟨t207, A90, H⟩ := H
        replace H : (if t207 = 0 then (keelsonlaw16_CountLimits.j1 kj3 l0 a1 t203 t206 t207 (t206 != 0)) else (keelsonlaw16_CountLimits.j1 kj3 l0 a1 t203 t206 t207 true)) = some r := H
        have A9 := Aside0.mk A90
        clear A90
        have HC10 := Aside0.mk H
        clear H
        go_upto_region 6 with (first | ((with_reducible refine gate_callee (f := 12) rfl ?_); refine goesL_ (some 24) rfl rfl Tryd.func12 (by kernel_rfl) rfl #[.slice A0 l0.length c0, .int .i64 a1] rfl (by (try simp only [List.map_toArray, List.map_cons, List.map_nil]); first | done | rfl | (simp only [List.length_drop, List.length_take]; rfl)) ?_; (with_reducible refine (count_Limit.calls kj3 _ _ l0 a1 t203 t206 _ ?side1 ?side2 A8.out).mono ?_); (case side1 => repeat (first | exact (Kd.C_below HR0.out HB.out) | (with_reducible refine Kd.C_alloc ?_ _) | (with_reducible refine Kd.C_drewN ?_ _) | (with_reducible refine Kd.C_drew ?_))); (case side2 => exact HC0.out); rintro e w11 ⟨v204, rfl, ho0, hb⟩; refine ⟨_, rfl, ?_⟩; have n0_ := Aside0.mk (Kd.N_lower (Kd.N_mono (ok' := fun k_ => True) ho0 (fun k_ hk_ => trivial)) (below_size (by repeat (first | (with_reducible first | exact HB.out | apply below_alloc | apply pw_below_drewN | apply below_drew1) | exact HB.out)))); have n1_ := Aside0.mk (below_step (by repeat (first | (with_reducible first | exact HB.out | apply below_alloc | apply pw_below_drewN | apply below_drew1) | exact HB.out)) hb); clear HB; have HO205 := n0_; have HB := n1_; clear n0_ n1_; (try clear hb); (try clear hb2); (try clear hk); (try clear hi); (try clear ho0)) | ((with_reducible refine gate_callee (f := 13) rfl ?_); refine goesL_ (some 28) rfl rfl Tryd.func13 (by kernel_rfl) rfl #[.slice A0 l0.length c0] rfl (by (try simp only [List.map_toArray, List.map_cons, List.map_nil]); first | done | rfl | (simp only [List.length_drop, List.length_take]; rfl)) ?_; (with_reducible refine (keelsonref16_Limits.calls kj3 _ _ l0 t207 _ ?side1 ?side2 A9.out).mono ?_); (case side1 => repeat (first | exact (Kd.C_below HR0.out HB.out) | (with_reducible refine Kd.C_alloc ?_ _) | (with_reducible refine Kd.C_drewN ?_ _) | (with_reducible refine Kd.C_drew ?_))); (case side2 => exact HC0.out); rintro e w' ⟨rfl, ⟨nd, rfl⟩⟩; refine ⟨_, rfl, ?_⟩))
        (try simp only [Act.put, List.setIfInBounds_toArray, List.set_cons_zero, List.set_cons_succ])
        go_cut [34] (fun v34 wc => ∃ (kq : Nat) (x34_9 : Bool), v34 = .bool x34_9 ∧ Aside0 (keelsonlaw16_CountLimits.j1 kq l0 a1 t203 t206 t207 x34_9 = some r) ∧ Aside0 (kq ≤ kj3) ∧ Aside0 (Kd.N (Kd.slice 3 (Kd.int .i64)) 22 wc w.heap.size (fun _ => True) v204 t203) ∧ Aside0 (Below w.heap.size w wc))
        case first => as_aux_lemma =>
          have H := HC10.out
          clear HC10
          by_cases c12 : t207 = 0
          · rw [if_pos c12] at H
            have c12b0 : (t207 == 0) = true := beq_iff_eq.mpr c12
            have c12b1 : (t207 != 0) = false := bne_eq_false_iff_eq.mpr c12
            clear c12
            (first | rw [c12b0] | (simp only [i64_w, i32_w]; rw [c12b0]) | rw [c12b1] | skip)
            have H' := Aside0.mk H
            clear H
            go_wp2
            go_meet
            case rel => exact ⟨_, ((t206 != 0)), (by first | rfl | (simp; done) | (simp [*]; done)), H', ⟨by have := HJ3.out; first | omega | exact Nat.le_refl _⟩, ⟨by (with_reducible repeat (first | apply Kd.N_alloc | apply Kd.N_drewN | apply Kd.N_drew)); exact HO205.out⟩, ⟨by repeat (first | (with_reducible first | exact HB.out | apply below_alloc | apply pw_below_drewN | apply below_drew1) | exact HB.out)⟩⟩
          · rw [if_neg c12] at H
            have c12b0 : (t207 == 0) = false := beq_eq_false_iff_ne.mpr c12
            have c12b1 : (t207 != 0) = true := bne_iff_ne.mpr c12
            (first | rw [c12b0] | (simp only [i64_w, i32_w]; rw [c12b0]) | rw [c12b1] | skip)
            have H' := Aside0.mk H
            clear H
            go_wp2
            go_meet
            case rel => exact ⟨_, (true), (by first | rfl | (simp; done) | (simp [*]; done)), H', ⟨by have := HJ3.out; first | omega | exact Nat.le_refl _⟩, ⟨by (with_reducible repeat (first | apply Kd.N_alloc | apply Kd.N_drewN | apply Kd.N_drew)); exact HO205.out⟩, ⟨by repeat (first | (with_reducible first | exact HB.out | apply below_alloc | apply pw_below_drewN | apply below_drew1) | exact HB.out)⟩⟩
        case rest => as_aux_lemma =>
          clear HC10
          try clear c1
          try clear p2
          try clear c3
          try clear c6
          try clear c7
          try clear c11
          try clear c12
          try clear c12b0
          try clear c12b1
          try clear p2
          obtain ⟨kq, x34_9, rfl, HA, HJ9, HO_6, HB⟩ := hcut
          cases kq with
          | zero => exact absurd HA.out (by simp [keelsonlaw16_CountLimits.j1])
          | succ kj9 =>
            have H := HA.out
            clear HA
            simp only [keelsonlaw16_CountLimits.j1] at H
            by_cases c13 : x34_9 = true
            · subst c13
              have H1 : (if t206 = t207 then (some ((t203.length : Int) == 0)) else (none)) = some r := by rw [if_pos rfl] at H; exact H
              clear H
              have H := H1
              clear H1
              by_cases c14 : t206 = t207
              · rw [if_pos c14] at H
                have c14b0 : (t206 == t207) = true := beq_iff_eq.mpr c14
                have c14b1 : (t206 != t207) = false := bne_eq_false_iff_eq.mpr c14
                clear c14
                obtain rfl := Option.some.inj H
                obtain ⟨Ao15, co15, eo15⟩ := Kd.N_slice HO_6.out
                subst eo15
                go_wp2
                go_ret
                exact ⟨by first | rfl | (simp [errW_none, errW_some] <;> rfl) | (simp [*, errW_none, errW_some] <;> rfl), by repeat (first | (with_reducible first | exact HB.out | apply below_alloc | apply pw_below_drewN | apply below_drew1) | exact HB.out)⟩
              · rw [if_neg c14] at H
                exact absurd H (by simp)
            · replace c13 := Bool.eq_false_iff.mpr c13
              subst c13
              have H1 : (keelsonlaw16_CountLimits.l0 kj9 l0 a1 t203 0) = some r := by rw [if_neg (show ¬ (false = true) by decide)] at H; exact H
              clear H
              have H := H1
              clear H1
              have H' := Aside0.mk H
              clear H
              go_wp2
              go_loopg [9] kj9 (fun kq v9 w' => ∃ (x9_3 : Int), v9 = .int .i64 x9_3 ∧ Aside0 (keelsonlaw16_CountLimits.l0 kq l0 a1 t203 x9_3 = some r) ∧ Aside0 (kq ≤ kj9) ∧ Aside0 (Kd.N (Kd.slice 3 (Kd.int .i64)) 22 w' w.heap.size (fun _ => True) v204 t203) ∧ Aside0 (Below w.heap.size w w'))
              case atStart => exact ⟨(0), (by first | rfl | (simp; done) | (simp [*]; done)), H', ⟨Nat.le_refl _⟩, ⟨by (with_reducible repeat (first | apply Kd.N_alloc | apply Kd.N_drewN | apply Kd.N_drew)); exact HO_6.out⟩, ⟨by repeat (first | (with_reducible first | exact HB.out | apply below_alloc | apply pw_below_drewN | apply below_drew1) | exact HB.out)⟩⟩
              case round => as_aux_lemma =>
                clear H'
                try clear c1
                try clear p2
                try clear c3
                try clear c6
                try clear c7
                try clear c11
                try clear c12
                try clear c12b0
                try clear c12b1
                try clear c13
                try clear c14
                try clear c14b0
                try clear c14b1
                try clear p2
                obtain ⟨x9_3, rfl, HA, HK3, HO_6, HB⟩ := hrel
                cases gk with
                | zero => exact absurd HA.out (by simp [keelsonlaw16_CountLimits.l0])
                | succ k3 =>
                  have H := HA.out
                  clear HA
                  simp only [keelsonlaw16_CountLimits.l0] at H
                  by_cases c16 : x9_3 < (l0.length : Int)
                  · rw [if_pos c16] at H
                    have c16b0 : decide (x9_3 < (l0.length : Int)) = true := decide_eq_true c16
                    clear c16
                    by_cases c17 : 0 ≤ x9_3
                    · rw [if_pos c17] at H
                      have c17b0 : decide (0 ≤ x9_3) = true := decide_eq_true c17
                      clear c17
                      replace H := Option.bind_eq_some_iff.mp H
                      obtain ⟨t209, A180, H⟩ := H
                      replace H : (if t209 > 8 then (some true) else ((keelsonref12_Var.f k3 (rd l0 x9_3)).bind fun t211 => (if t211 < 1 then (some true) else (keelsonlaw16_CountLimits.l0 k3 l0 a1 t203 (wrap64 (x9_3 + 1)))))) = some r := H
                      have A18 := Aside0.mk A180
                      clear A180
                      by_cases c19 : t209 > 8
                      · rw [if_pos c19] at H
                        have c19b0 : decide (8 < t209) = true := decide_eq_true c19
                        clear c19
                        obtain rfl := Option.some.inj H
                        have p208 : 0 ≤ (x9_3 : Int) := of_decide_eq_true (by first | (with_reducible assumption) | assumption)
                        have q208 : x9_3 < (l0.length : Int) := of_decide_eq_true (by first | (with_reducible assumption) | assumption)
                        obtain ⟨ad208, e208, hx208_0⟩ := Kd.at_int HR0.out x9_3 p208 q208
                        cases e208
                        replace hx208_0 := (HB.out.cell (World.block_lt_of_cell? w _ hx208_0)).trans hx208_0
                        replace p208 := eq_true p208
                        replace q208 := eq_true q208
                        go_wp2_with (first | ((with_reducible refine gate_callee (f := 14) rfl ?_); refine goesL_ (some 53) rfl rfl Tryd.func14 (by kernel_rfl) rfl #[.int .i64 (rd l0 x9_3)] rfl (by (try simp only [List.map_toArray, List.map_cons, List.map_nil]); first | done | rfl | (simp only [List.length_drop, List.length_take]; rfl)) ?_; (with_reducible refine (keelsonref12_Var.calls k3 (rd l0 x9_3) t209 _ A18.out).mono ?_); rintro e w' ⟨rfl, ⟨nd, rfl⟩⟩; refine ⟨_, rfl, ?_⟩))
                        go_ret
                        exact ⟨by first | rfl | (simp [errW_none, errW_some] <;> rfl) | (simp [*, errW_none, errW_some] <;> rfl), by repeat (first | (with_reducible first | exact HB.out | apply below_alloc | apply pw_below_drewN | apply below_drew1) | exact HB.out)⟩
                      · rw [if_neg c19] at H
                        have c19b0 : decide (8 < t209) = false := decide_eq_false c19
                        clear c19
                        replace H := Option.bind_eq_some_iff.mp H
                        obtain ⟨t211, A200, H⟩ := H
                        replace H : (if t211 < 1 then (some true) else (keelsonlaw16_CountLimits.l0 k3 l0 a1 t203 (wrap64 (x9_3 + 1)))) = some r := H
                        have A20 := Aside0.mk A200
                        clear A200
                        by_cases c21 : t211 < 1
                        · rw [if_pos c21] at H
                          have c21b0 : decide (t211 < 1) = true := decide_eq_true c21
                          clear c21
                          obtain rfl := Option.some.inj H
                          have p208 : 0 ≤ (x9_3 : Int) := of_decide_eq_true (by first | (with_reducible assumption) | assumption)
                          have q208 : x9_3 < (l0.length : Int) := of_decide_eq_true (by first | (with_reducible assumption) | assumption)
                          obtain ⟨ad208, e208, hx208_0⟩ := Kd.at_int HR0.out x9_3 p208 q208
                          cases e208
                          replace hx208_0 := (HB.out.cell (World.block_lt_of_cell? w _ hx208_0)).trans hx208_0
                          replace p208 := eq_true p208
                          replace q208 := eq_true q208
                          go_wp2_with (first | ((with_reducible refine gate_callee (f := 14) rfl ?_); refine goesL_ (some 53) rfl rfl Tryd.func14 (by kernel_rfl) rfl #[.int .i64 (rd l0 x9_3)] rfl (by (try simp only [List.map_toArray, List.map_cons, List.map_nil]); first | done | rfl | (simp only [List.length_drop, List.length_take]; rfl)) ?_; (with_reducible refine (keelsonref12_Var.calls k3 (rd l0 x9_3) t209 _ A18.out).mono ?_); rintro e w' ⟨rfl, ⟨nd, rfl⟩⟩; refine ⟨_, rfl, ?_⟩; have p210 : 0 ≤ (x9_3 : Int) := of_decide_eq_true (by first | (with_reducible assumption) | assumption); have q210 : x9_3 < (l0.length : Int) := of_decide_eq_true (by first | (with_reducible assumption) | assumption); obtain ⟨ad210, e210, hx210_0⟩ := Kd.at_int HR0.out x9_3 p210 q210; obtain rfl : ad208 = ad210 := (by injection e210); replace hx210_0 := (HB.out.cell (World.block_lt_of_cell? w _ hx210_0)).trans hx210_0; replace p210 := eq_true p210; replace q210 := eq_true q210) | (go_at_call 14; (with_reducible refine (keelsonref12_Var.calls k3 (rd l0 x9_3) t211 _ A20.out).mono ?_); rintro e w' ⟨rfl, ⟨nd, rfl⟩⟩))
                          go_ret
                          exact ⟨by first | rfl | (simp [errW_none, errW_some] <;> rfl) | (simp [*, errW_none, errW_some] <;> rfl), by repeat (first | (with_reducible first | exact HB.out | apply below_alloc | apply pw_below_drewN | apply below_drew1) | exact HB.out)⟩
                        · rw [if_neg c21] at H
                          have c21b0 : decide (t211 < 1) = false := decide_eq_false c21
                          clear c21
                          have H' := Aside0.mk H
                          clear H
                          have p208 : 0 ≤ (x9_3 : Int) := of_decide_eq_true (by first | (with_reducible assumption) | assumption)
                          have q208 : x9_3 < (l0.length : Int) := of_decide_eq_true (by first | (with_reducible assumption) | assumption)
                          obtain ⟨ad208, e208, hx208_0⟩ := Kd.at_int HR0.out x9_3 p208 q208
                          cases e208
                          replace hx208_0 := (HB.out.cell (World.block_lt_of_cell? w _ hx208_0)).trans hx208_0
                          replace p208 := eq_true p208
                          replace q208 := eq_true q208
                          go_wp2_with (first | ((with_reducible refine gate_callee (f := 14) rfl ?_); refine goesL_ (some 53) rfl rfl Tryd.func14 (by kernel_rfl) rfl #[.int .i64 (rd l0 x9_3)] rfl (by (try simp only [List.map_toArray, List.map_cons, List.map_nil]); first | done | rfl | (simp only [List.length_drop, List.length_take]; rfl)) ?_; (with_reducible refine (keelsonref12_Var.calls k3 (rd l0 x9_3) t209 _ A18.out).mono ?_); rintro e w' ⟨rfl, ⟨nd, rfl⟩⟩; refine ⟨_, rfl, ?_⟩; have p210 : 0 ≤ (x9_3 : Int) := of_decide_eq_true (by first | (with_reducible assumption) | assumption); have q210 : x9_3 < (l0.length : Int) := of_decide_eq_true (by first | (with_reducible assumption) | assumption); obtain ⟨ad210, e210, hx210_0⟩ := Kd.at_int HR0.out x9_3 p210 q210; obtain rfl : ad208 = ad210 := (by injection e210); replace hx210_0 := (HB.out.cell (World.block_lt_of_cell? w _ hx210_0)).trans hx210_0; replace p210 := eq_true p210; replace q210 := eq_true q210) | (go_at_call 14; (with_reducible refine (keelsonref12_Var.calls k3 (rd l0 x9_3) t211 _ A20.out).mono ?_); rintro e w' ⟨rfl, ⟨nd, rfl⟩⟩))
                          go_roundg k3
                          case measure => have := HJ3.out; have := HJ9.out; have := HK3.out; omega
                          case rel => exact ⟨(wrap64 (x9_3 + 1)), (by first | rfl | (simp; done) | (simp [*]; done)), H', ⟨by have := HJ3.out; have := HJ9.out; have := HK3.out; omega⟩, ⟨by (with_reducible repeat (first | apply Kd.N_alloc | apply Kd.N_drewN | apply Kd.N_drew)); exact HO_6.out⟩, ⟨by repeat (first | (with_reducible first | exact HB.out | apply below_alloc | apply pw_below_drewN | apply below_drew1) | exact HB.out)⟩⟩
                    · rw [if_neg c17] at H
                      exact absurd H (by simp)
                  · rw [if_neg c16] at H
                    have c16b0 : decide (x9_3 < (l0.length : Int)) = false := decide_eq_false c16
                    clear c16
                    have H' := Aside0.mk H
                    clear H
                    go_wp2
                    go_loopg [10] k3 (fun kq v10 w' => ∃ (x10_4 : Int), v10 = .int .i64 x10_4 ∧ Aside0 (keelsonlaw16_CountLimits.l1 kq l0 a1 t203 x10_4 = some r) ∧ Aside0 (kq ≤ k3) ∧ Aside0 (Kd.N (Kd.slice 3 (Kd.int .i64)) 22 w' w.heap.size (fun _ => True) v204 t203) ∧ Aside0 (Below w.heap.size w w'))
                    case atStart => exact ⟨(0), (by first | rfl | (simp; done) | (simp [*]; done)), H', ⟨Nat.le_refl _⟩, ⟨by (with_reducible repeat (first | apply Kd.N_alloc | apply Kd.N_drewN | apply Kd.N_drew)); exact HO_6.out⟩, ⟨by repeat (first | (with_reducible first | exact HB.out | apply below_alloc | apply pw_below_drewN | apply below_drew1) | exact HB.out)⟩⟩
                    case round => as_aux_lemma =>
                      clear H'
                      try clear c1
                      try clear c2
                      try clear p2
                      try clear q2
                      try clear hx2
                      try clear c3
                      try clear c6
                      try clear p6
                      try clear c7
                      try clear c11
                      try clear c12
                      try clear c12b0
                      try clear c12b1
                      try clear c13
                      try clear c14
                      try clear c14b0
                      try clear c14b1
                      try clear c16
                      try clear c16b0
                      try clear c17
                      try clear c17b0
                      try clear c19
                      try clear c19b0
                      try clear p20
                      try clear q20
                      try clear hx20
                      try clear c21
                      try clear c21b0
                      try clear p21
                      try clear q21
                      try clear hx21
                      try clear hx208_0
                      try clear hx210_0
                      try clear p2
                      try clear p208
                      try clear p210
                      try clear q208
                      try clear q210
                      obtain ⟨x10_4, rfl, HA, HK4, HO_6, HB⟩ := hrel
                      cases gk with
                      | zero => exact absurd HA.out (by simp [keelsonlaw16_CountLimits.l1])
                      | succ k4 =>
                        have H := HA.out
                        clear HA
                        simp only [keelsonlaw16_CountLimits.l1] at H
                        by_cases c22 : x10_4 < 256
                        · rw [if_pos c22] at H
                          have c22b0 : decide (x10_4 < 256) = true := decide_eq_true c22
                          clear c22
                          replace H := Option.bind_eq_some_iff.mp H
                          obtain ⟨t212, A230, H⟩ := H
                          replace H : ((keelsonref12_Holds.f k4 t203 t212).bind fun t215 => ((keelsonref16_Value.f k4 l0 t212).bind fun t216 => (if (t215 != (decide (t216 ≤ a1))) = true then (none) else (keelsonlaw16_CountLimits.l1 k4 l0 a1 t203 (wrap64 (x10_4 + 1)))))) = some r := H
                          have A23 := Aside0.mk A230
                          clear A230
                          replace H := Option.bind_eq_some_iff.mp H
                          obtain ⟨t215, A240, H⟩ := H
                          replace H : ((keelsonref16_Value.f k4 l0 t212).bind fun t216 => (if (t215 != (decide (t216 ≤ a1))) = true then (none) else (keelsonlaw16_CountLimits.l1 k4 l0 a1 t203 (wrap64 (x10_4 + 1))))) = some r := H
                          have A24 := Aside0.mk A240
                          clear A240
                          replace H := Option.bind_eq_some_iff.mp H
                          obtain ⟨t216, A250, H⟩ := H
                          replace H : (if (t215 != (decide (t216 ≤ a1))) = true then (none) else (keelsonlaw16_CountLimits.l1 k4 l0 a1 t203 (wrap64 (x10_4 + 1)))) = some r := H
                          have A25 := Aside0.mk A250
                          clear A250
                          by_cases c26 : (t215 != (decide (t216 ≤ a1))) = true
                          · rw [if_pos c26] at H
                            exact absurd H (by simp)
                          · rw [if_neg c26] at H
                            have c26b0 : (t215 != (decide (t216 ≤ a1))) = false := by simpa using c26
                            (try (have c26b1 : decide (t215 = (decide (t216 ≤ a1))) = true := by simpa using c26))
                            (try (have c26b2 : (t215 == (decide (t216 ≤ a1))) = true := by simpa using c26))
                            clear c26
                            have H' := Aside0.mk H
                            clear H
                            go_wp2_with (first | ((with_reducible refine gate_callee (f := 15) rfl ?_); refine goesL_ (some 68) rfl rfl Tryd.func15 (by kernel_rfl) rfl #[.int .i64 x10_4, .int .i64 8] rfl (by (try simp only [List.map_toArray, List.map_cons, List.map_nil]); first | done | rfl | (simp only [List.length_drop, List.length_take]; rfl)) ?_; (with_reducible refine (keelsonref15_Model.calls k4 x10_4 8 t212 _ A23.out).mono ?_); rintro e w27 ⟨v213, rfl, ho0, hb⟩; refine ⟨_, rfl, ?_⟩; have n0_ := Aside0.mk (Kd.N_elder' (by (with_reducible repeat (first | apply Kd.N_alloc | apply Kd.N_drewN | apply Kd.N_drew)); exact HO_6.out) (Kd.R_base ho0) hb); have n1_ := Aside0.mk (Kd.R_lower ho0 (below_size (by repeat (first | (with_reducible first | exact HB.out | apply below_alloc | apply pw_below_drewN | apply below_drew1) | exact HB.out)))); have n2_ := Aside0.mk (below_step (by repeat (first | (with_reducible first | exact HB.out | apply below_alloc | apply pw_below_drewN | apply below_drew1) | exact HB.out)) hb); clear HO_6; clear HB; have HO_6 := n0_; have HO214 := n1_; have HB := n2_; clear n0_ n1_ n2_; (try clear hb); (try clear hb2); (try clear hk); (try clear hi); (try clear ho0); obtain ⟨Ao28, co28, eo28⟩ := Kd.N_slice HO_6.out; subst eo28; obtain ⟨Ao29, co29, eo29⟩ := Kd.R_slice HO214.out; subst eo29) | ((with_reducible refine gate_callee (f := 16) rfl ?_); refine goesL_ (some 71) rfl rfl Tryd.func16 (by kernel_rfl) rfl #[.slice Ao28 t203.length co28, .slice Ao29 t212.length co29] rfl (by (try simp only [List.map_toArray, List.map_cons, List.map_nil]); first | done | rfl | (simp only [List.length_drop, List.length_take]; rfl)) ?_; (with_reducible refine (keelsonref12_Holds.calls k4 _ _ t203 _ _ t212 t215 _ ?side1 ?side2 ?side3 ?side4 A24.out).mono ?_); (case side1 => repeat (first | exact (Kd.N_reads' HO_6.out).2.2 | (with_reducible refine Kd.C_alloc ?_ _) | (with_reducible refine Kd.C_drewN ?_ _) | (with_reducible refine Kd.C_drew ?_))); (case side2 => exact (Kd.N_reads' HO_6.out).2.1); (case side3 => repeat (first | exact (Kd.R_reads' HO214.out).2.2 | (with_reducible refine Kd.C_alloc ?_ _) | (with_reducible refine Kd.C_drewN ?_ _) | (with_reducible refine Kd.C_drew ?_))); (case side4 => exact (Kd.R_reads' HO214.out).2.1); rintro e w' ⟨rfl, ⟨nd, rfl⟩⟩; refine ⟨_, rfl, ?_⟩) | ((with_reducible refine gate_callee (f := 17) rfl ?_); refine goesL_ (some 74) rfl rfl Tryd.func17 (by kernel_rfl) rfl #[.slice A0 l0.length c0, .slice Ao29 t212.length co29] rfl (by (try simp only [List.map_toArray, List.map_cons, List.map_nil]); first | done | rfl | (simp only [List.length_drop, List.length_take]; rfl)) ?_; (with_reducible refine (keelsonref16_Value.calls k4 _ _ l0 _ _ t212 t216 _ ?side1 ?side2 ?side3 ?side4 A25.out).mono ?_); (case side1 => repeat (first | exact (Kd.C_below HR0.out (by repeat (first | (with_reducible first | exact HB.out | apply below_alloc | apply pw_below_drewN | apply below_drew1) | exact HB.out))) | (with_reducible refine Kd.C_alloc ?_ _) | (with_reducible refine Kd.C_drewN ?_ _) | (with_reducible refine Kd.C_drew ?_))); (case side2 => exact HC0.out); (case side3 => repeat (first | exact (Kd.R_reads' HO214.out).2.2 | (with_reducible refine Kd.C_alloc ?_ _) | (with_reducible refine Kd.C_drewN ?_ _) | (with_reducible refine Kd.C_drew ?_))); (case side4 => exact (Kd.R_reads' HO214.out).2.1); rintro e w30 ⟨rfl, hb⟩; refine ⟨_, rfl, ?_⟩; have n0_ := Aside0.mk (Kd.N_below (by (with_reducible repeat (first | apply Kd.N_alloc | apply Kd.N_drewN | apply Kd.N_drew)); exact HO_6.out) hb); have n1_ := Aside0.mk (Kd.R_below (by (with_reducible repeat (first | apply Kd.R_alloc | apply Kd.R_drewN | apply Kd.R_drew)); exact HO214.out) hb); have n2_ := Aside0.mk (below_step (by repeat (first | (with_reducible first | exact HB.out | apply below_alloc | apply pw_below_drewN | apply below_drew1) | exact HB.out)) hb); clear HO_6; clear HO214; clear HB; have HO_6 := n0_; have HO214 := n1_; have HB := n2_; clear n0_ n1_ n2_; (try clear hb); (try clear hb2); (try clear hk); (try clear hi)))
                            go_roundg k4
                            case measure => have := HJ3.out; have := HJ9.out; have := HK3.out; have := HK4.out; omega
                            case rel => exact ⟨(wrap64 (x10_4 + 1)), (by first | rfl | (simp; done) | (simp [*]; done)), H', ⟨by have := HJ3.out; have := HJ9.out; have := HK3.out; have := HK4.out; omega⟩, ⟨by (with_reducible repeat (first | apply Kd.N_alloc | apply Kd.N_drewN | apply Kd.N_drew)); exact Kd.N_mono HO_6.out (fun _ hk => trivial)⟩, ⟨by repeat (first | (with_reducible first | exact HB.out | apply below_alloc | apply pw_below_drewN | apply below_drew1) | exact HB.out)⟩⟩
                        · rw [if_neg c22] at H
                          have c22b0 : decide (x10_4 < 256) = false := decide_eq_false c22
                          clear c22
                          obtain rfl := Option.some.inj H
                          go_wp2
                          go_ret
                          exact ⟨by first | rfl | (simp [errW_none, errW_some] <;> rfl) | (simp [*, errW_none, errW_some] <;> rfl), by repeat (first | (with_reducible first | exact HB.out | apply below_alloc | apply pw_below_drewN | apply below_drew1) | exact HB.out)⟩

end Go.Proofs.YtooobbbpcpfddaaDoor.PA
