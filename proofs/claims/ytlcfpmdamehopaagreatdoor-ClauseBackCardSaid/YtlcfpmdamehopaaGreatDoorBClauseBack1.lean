/- Texts of this claim, part 2 of 3: contracts of the functions that the law comes to, and what they come to as plain functions. Conditions: sizes that fit. -/
import Derived.Test.YtlcfpmdamehopaaGreatDoorBClauseBack0
import Derived.Lib.OwnBridge
import Derived.Sort.OwnSortedInts
-- Printed by gprint.py (wip/ of this repo), over the kit's print.
namespace Go.Proofs.YtlcfpmdamehopaaGreatDoor.PA
open Go.RowKit Go.Proofs.YtlcfpmdamehopaaGreatDoorW.PrintWords Go.Proofs.YtlcfpmdamehopaaGreatDoorW.PrintLast Go.Proofs.YtlcfpmdamehopaaGreatDoorW.PrintMore
attribute [local go_sem] max2_int min2_int max_two min_two max_three min_three max_four min_four   -- for this text's walks alone
set_option linter.unusedVariables false
set_option linter.unusedSimpArgs false

/-! ### clause_Units: function 36 -/
mutual
def clause_Units.l0 : Nat → List (List Int) → List Int → List Int → Int → Int → Option (List Int × Bool)
  | 0, _, _, _, _, _ => none
  | k + 1, x1, x8, x21, x22, x23 => if x23 < x22 then (if 0 ≤ x23 then (if x23 < (x21.length : Int) then ((clause_set.f x8 (rd x21 x23)).bind fun bt309 => (if bt309.1 = true then (clause_Units.l0 k x1 bt309.2 x21 x22 (wrap64 (x23 + 1))) else (some (([] : List Int), false)))) else (none)) else (none)) else (clause_Units.l1 k x1 x8 true)
def clause_Units.l1 : Nat → List (List Int) → List Int → Bool → Option (List Int × Bool)
  | 0, _, _, _ => none
  | k + 1, x1, x8, x11 => if x11 = true then (clause_Units.l2 k x1 x8 false x1 (x1.length : Int) 0) else (some (x8, true))
def clause_Units.l2 : Nat → List (List Int) → List Int → Bool → List (List Int) → Int → Int → Option (List Int × Bool)
  | 0, _, _, _, _, _, _ => none
  | k + 1, x1, x8, x11, x33, x34, x35 => if x35 < x34 then (if 0 ≤ x35 then (if x35 < (x33.length : Int) then ((clause_unit.f k (rd_L9 x33 x35) x8).bind fun t312 => (if t312 = 0 then ((clause_Value.f k (rd_L9 x33 x35) x8).bind fun t313 => (if t313 < 0 then (some (([] : List Int), false)) else (clause_Units.l2 k x1 x8 x11 x33 x34 (wrap64 (x35 + 1))))) else ((clause_set.f x8 t312).bind fun bt314 => (clause_Units.l2 k x1 bt314.2 bt314.1 x33 x34 (wrap64 (x35 + 1)))))) else (none)) else (none)) else (clause_Units.l1 k x1 x8 x11)
end
def clause_Units.f (k : Nat) (a0 : Int) (l1 : List (List Int)) (l2 : List Int) : Option (List Int × Bool) := (clause_Right.f a0 l1).bind fun t304 => (if t304 = true then (if 0 ≤ a0 then (if (a0 : Int).toNat ≤ 35184372088832 then (clause_Units.l0 k l1 (List.replicate (a0 : Int).toNat 0) l2 (l2.length : Int) 0) else (none)) else (none)) else (some (([] : List Int), false)))
theorem clause_Units.mono_l : ∀ k, (∀ y0 y1 y2 y3 y4, LeO (clause_Units.l0 k y0 y1 y2 y3 y4) (clause_Units.l0 (k + 1) y0 y1 y2 y3 y4)) ∧ (∀ y0 y1 y2, LeO (clause_Units.l1 k y0 y1 y2) (clause_Units.l1 (k + 1) y0 y1 y2)) ∧ (∀ y0 y1 y2 y3 y4 y5, LeO (clause_Units.l2 k y0 y1 y2 y3 y4 y5) (clause_Units.l2 (k + 1) y0 y1 y2 y3 y4 y5))
  | 0 => ⟨fun _ _ _ _ _ r h => by simp [clause_Units.l0] at h, fun _ _ _ r h => by simp [clause_Units.l1] at h, fun _ _ _ _ _ _ r h => by simp [clause_Units.l2] at h⟩
  | k + 1 => by
    obtain ⟨ih0, ih1, ih2⟩ := clause_Units.mono_l k
    refine ⟨?_, ?_, ?_⟩
    · intro y0 y1 y2 y3 y4
      unfold clause_Units.l0
      repeat' first
      | (with_reducible exact ih0 _ _ _ _ _)
      | (with_reducible exact ih1 _ _ _)
      | (with_reducible exact ih2 _ _ _ _ _ _)
      | (with_reducible exact clause_Value.mono _ _ _)
      | (with_reducible exact clause_unit.mono _ _ _)
      | (with_reducible exact LeO.refl _)
      | (with_reducible exact LeO.none _)
      | (with_reducible refine LeO.ite ?_ ?_)
      | (with_reducible refine LeO.bind ?_ (fun _ => ?_))
      | exact ih0 _ _ _ _ _
      | exact ih1 _ _ _
      | exact ih2 _ _ _ _ _ _
      | exact clause_Value.mono _ _ _
      | exact clause_unit.mono _ _ _
      | exact LeO.none _
      | refine LeO.ite ?_ ?_
      | refine LeO.bind ?_ (fun _ => ?_)
    · intro y0 y1 y2
      unfold clause_Units.l1
      repeat' first
      | (with_reducible exact ih0 _ _ _ _ _)
      | (with_reducible exact ih1 _ _ _)
      | (with_reducible exact ih2 _ _ _ _ _ _)
      | (with_reducible exact clause_Value.mono _ _ _)
      | (with_reducible exact clause_unit.mono _ _ _)
      | (with_reducible exact LeO.refl _)
      | (with_reducible exact LeO.none _)
      | (with_reducible refine LeO.ite ?_ ?_)
      | (with_reducible refine LeO.bind ?_ (fun _ => ?_))
      | exact ih0 _ _ _ _ _
      | exact ih1 _ _ _
      | exact ih2 _ _ _ _ _ _
      | exact clause_Value.mono _ _ _
      | exact clause_unit.mono _ _ _
      | exact LeO.none _
      | refine LeO.ite ?_ ?_
      | refine LeO.bind ?_ (fun _ => ?_)
    · intro y0 y1 y2 y3 y4 y5
      unfold clause_Units.l2
      repeat' first
      | (with_reducible exact ih0 _ _ _ _ _)
      | (with_reducible exact ih1 _ _ _)
      | (with_reducible exact ih2 _ _ _ _ _ _)
      | (with_reducible exact clause_Value.mono _ _ _)
      | (with_reducible exact clause_unit.mono _ _ _)
      | (with_reducible exact LeO.refl _)
      | (with_reducible exact LeO.none _)
      | (with_reducible refine LeO.ite ?_ ?_)
      | (with_reducible refine LeO.bind ?_ (fun _ => ?_))
      | exact ih0 _ _ _ _ _
      | exact ih1 _ _ _
      | exact ih2 _ _ _ _ _ _
      | exact clause_Value.mono _ _ _
      | exact clause_unit.mono _ _ _
      | exact LeO.none _
      | refine LeO.ite ?_ ?_
      | refine LeO.bind ?_ (fun _ => ?_)
theorem clause_Units.mono : ∀ a0 a1 a2 k, LeO (clause_Units.f k a0 a1 a2) (clause_Units.f (k + 1) a0 a1 a2) := by
  intro a0 a1 a2 k
  obtain ⟨ih0, ih1, ih2⟩ := clause_Units.mono_l k
  unfold clause_Units.f
  repeat' first
      | (with_reducible exact ih0 _ _ _ _ _)
      | (with_reducible exact ih1 _ _ _)
      | (with_reducible exact ih2 _ _ _ _ _ _)
      | (with_reducible exact clause_Value.mono _ _ _)
      | (with_reducible exact clause_unit.mono _ _ _)
      | (with_reducible exact LeO.refl _)
      | (with_reducible exact LeO.none _)
      | (with_reducible refine LeO.ite ?_ ?_)
      | (with_reducible refine LeO.bind ?_ (fun _ => ?_))
      | exact ih0 _ _ _ _ _
      | exact ih1 _ _ _
      | exact ih2 _ _ _ _ _ _
      | exact clause_Value.mono _ _ _
      | exact clause_unit.mono _ _ _
      | exact LeO.none _
      | refine LeO.ite ?_ ?_
      | refine LeO.bind ?_ (fun _ => ?_)
set_option maxHeartbeats 8000000 in
set_option maxRecDepth 100000 in
theorem clause_Units.calls (k : Nat) (a0 : Int) (A1 : Option Addr) (c1 : Nat) (l1 : List (List Int)) (A2 : Option Addr) (c2 : Nat) (l2 : List Int) (r1 : List Int) (r2 : Bool) (w : World) (hr1 : Kd.C (Kd.slice 3 (Kd.int .i64)) w A1 l1.length l1) (hc1 : l1.length ≤ c1) (hr2 : Kd.C (Kd.int .i64) w A2 l2.length l2) (hc2 : l2.length ≤ c2) (h : clause_Units.f k a0 l1 l2 = some (r1, r2)) :
    Calls Tryz.prog 36 #[.int .i64 a0, .slice A1 l1.length c1, .slice A2 l2.length c2] w fun e w' => ∃ v0_ : Value, e = .returned (.tuple #[v0_, .bool r2]) ∧ Kd.R (Kd.int .i64) 3 w' w.heap.size (fun _ => True) v0_ r1 ∧ Below w.heap.size w w' := by
  have HR1 := Aside0.mk hr1
  have HC1 := Aside0.mk hc1
  clear hr1 hc1
  have HR2 := Aside0.mk hr2
  have HC2 := Aside0.mk hc2
  clear hr2 hc2
  have HB := Aside0.mk (Below.refl w.heap.size w)
  have H : ((clause_Right.f a0 l1).bind fun t304 => (if t304 = true then (if 0 ≤ a0 then (if (a0 : Int).toNat ≤ 35184372088832 then (clause_Units.l0 k l1 (List.replicate (a0 : Int).toNat 0) l2 (l2.length : Int) 0) else (none)) else (none)) else (some (([] : List Int), false)))) = some (r1, r2) := h
  clear h
  replace H := Option.bind_eq_some_iff.mp H
  obtain ⟨t304, A40, H⟩ := H
  replace H : (if t304 = true then (if 0 ≤ a0 then (if (a0 : Int).toNat ≤ 35184372088832 then (clause_Units.l0 k l1 (List.replicate (a0 : Int).toNat 0) l2 (l2.length : Int) 0) else (none)) else (none)) else (some (([] : List Int), false))) = some (r1, r2) := H
  have A4 := Aside0.mk A40
  clear A40
  by_cases c5 : t304 = true
  · subst c5
    have H1 : (if 0 ≤ a0 then (if (a0 : Int).toNat ≤ 35184372088832 then (clause_Units.l0 k l1 (List.replicate (a0 : Int).toNat 0) l2 (l2.length : Int) 0) else (none)) else (none)) = some (r1, r2) := by rw [if_pos rfl] at H; exact H
    clear H
    have H := H1
    clear H1
    by_cases c6 : 0 ≤ a0
    · rw [if_pos c6] at H
      have c6b0 := eq_true c6
      have c6b1 : decide (0 ≤ a0) = true := decide_eq_true c6
      clear c6
      by_cases c7 : (a0 : Int).toNat ≤ 35184372088832
      · rw [if_pos c7] at H
        have c7b0 := eq_true c7
        have c7b1 : decide ((a0 : Int).toNat ≤ 35184372088832) = true := decide_eq_true c7
        clear c7
        obtain ⟨y305, hy305⟩ : ∃ y_ : List Int, y_ = (List.replicate (a0 : Int).toNat 0) := ⟨_, rfl⟩
        replace H : (clause_Units.l0 k l1 y305 l2 (l2.length : Int) 0) = some (r1, r2) := by first | (rw [hy305]; with_reducible exact H) | (have H2_ := (Option.bind_some _ _).symm.trans H; rw [hy305]; with_reducible exact H2_) | (have H2_ := (Option.bind_some _ _).symm.trans H; with_reducible exact H2_) | with_reducible exact H | (rw [hy305]; exact H) | exact H
        have Ny305 := Aside0.mk hy305
        clear hy305
        have H' := Aside0.mk H
        clear H
        go_enter Tryz.func36, Tryz.ntmps36
        go_wp2_with (first | ((with_reducible refine gate_callee (f := 20) rfl ?_); refine goesL_ (some 17) rfl rfl Tryz.func20 (by kernel_rfl) rfl #[.int .i64 a0, .slice A1 l1.length c1] rfl (by (try simp only [List.map_toArray, List.map_cons, List.map_nil]); first | done | rfl | (simp only [List.length_drop, List.length_take]; rfl)) ?_; (with_reducible refine (clause_Right.calls a0 _ _ l1 true _ ?side1 ?side2 A4.out).mono ?_); (case side1 => repeat (first | exact HR1.out | (with_reducible refine Kd.C_alloc ?_ _) | (with_reducible refine Kd.C_drewN ?_ _) | (with_reducible refine Kd.C_drew ?_))); (case side2 => exact HC1.out); rintro e w8 ⟨rfl, hb⟩; refine ⟨_, rfl, ?_⟩; have n0_ := Aside0.mk (below_step (by repeat (first | (with_reducible first | exact HB.out | apply below_alloc | apply pw_below_drewN | apply below_drew1) | exact HB.out)) hb); clear HB; have HB := n0_; clear n0_; (try clear hb); (try clear hb2); (try clear hk); (try clear hi)) | ((with_reducible refine gate_dst (N := 20) rfl ?_); refine Kd.R_make (Kd.int .i64) _ 3 rfl (N := 20) rfl 64 _ _ rfl a0 rfl rfl Tryz.underlying64 (.int .i64 0) 8 info3 rfl (by decide) (by omega) 0 (ok := fun _ => True) (okp := fun _ => True) rfl (fun _ hk => hk) trivial (of_decide_eq_true (by first | (with_reducible assumption) | assumption)) (Nat.le_trans (Nat.mul_le_mul_right _ (of_decide_eq_true (by first | (with_reducible assumption) | assumption) : a0.toNat ≤ 35184372088832)) (by omega)) (Below.refl _ _) (Nat.le_refl _) ?_; intro v306 w9 ho10 hb hg_ hnew_; clear hg_ hnew_; (first | rw [← Ny305.out] at ho10 | (simp only [Int.reduceToNat] at ho10; rw [← Ny305.out] at ho10)); have n0_ := Aside0.mk (Kd.R_lower ho10 (below_size (by repeat (first | (with_reducible first | exact HB.out | apply below_alloc | apply pw_below_drewN | apply below_drew1) | exact HB.out)))); have n1_ := Aside0.mk (below_step (by repeat (first | (with_reducible first | exact HB.out | apply below_alloc | apply pw_below_drewN | apply below_drew1) | exact HB.out)) hb); clear HB; have HO307 := n0_; have HB := n1_; clear n0_ n1_; clear hb ho10))
        go_loopg [23] k (fun kq v23 w' => ∃ (x8_1 : List Int) (x23_1 : Int), v23 = .int .i64 x23_1 ∧ Aside0 (clause_Units.l0 kq l1 x8_1 l2 (l2.length : Int) x23_1 = some (r1, r2)) ∧ Aside0 (kq ≤ k) ∧ Aside0 (Kd.R (Kd.int .i64) 3 w' w.heap.size (fun _ => True) v306 x8_1) ∧ Aside0 (Below w.heap.size w w'))
        case atStart => exact ⟨(y305), (0), (by first | rfl | (simp; done) | (simp [*]; done)), H', ⟨Nat.le_refl _⟩, ⟨by (with_reducible repeat (first | apply Kd.R_alloc | apply Kd.R_drewN | apply Kd.R_drew)); exact HO307.out⟩, ⟨by repeat (first | (with_reducible first | exact HB.out | apply below_alloc | apply pw_below_drewN | apply below_drew1) | exact HB.out)⟩⟩
        case round =>
          clear H'
          try clear c1
          try clear c2
          try clear p2
          try clear c3
          try clear c5
          try clear c6
          try clear c6b0
          try clear c6b1
          try clear c7
          try clear c7b0
          try clear c7b1
          obtain ⟨x8_1, x23_1, rfl, HA, HK1, HO_8, HB⟩ := hrel
          cases gk with
          | zero => exact absurd HA.out (by simp [clause_Units.l0])
          | succ k1 =>
            have H := HA.out
            clear HA
            simp only [clause_Units.l0] at H
            by_cases c11 : x23_1 < (l2.length : Int)
            · rw [if_pos c11] at H
              have c11b0 : decide (x23_1 < (l2.length : Int)) = true := decide_eq_true c11
              clear c11
              by_cases c12 : 0 ≤ x23_1
              · rw [if_pos c12] at H
                have c12b0 : decide (0 ≤ x23_1) = true := decide_eq_true c12
                clear c12
                by_cases c13 : x23_1 < (l2.length : Int)
                · rw [if_pos c13] at H
                  have c13b0 : decide (x23_1 < (l2.length : Int)) = true := decide_eq_true c13
                  clear c13
                  replace H := Option.bind_eq_some_iff.mp H
                  obtain ⟨⟨t309, t310⟩, A140, H⟩ := H
                  replace H : (if t309 = true then (clause_Units.l0 k1 l1 t310 l2 (l2.length : Int) (wrap64 (x23_1 + 1))) else (some (([] : List Int), false))) = some (r1, r2) := H
                  have A14 := Aside0.mk A140
                  clear A140
                  by_cases c15 : t309 = true
                  · subst c15
                    have H1 : (clause_Units.l0 k1 l1 t310 l2 (l2.length : Int) (wrap64 (x23_1 + 1))) = some (r1, r2) := by rw [if_pos rfl] at H; exact H
                    clear H
                    have H := H1
                    clear H1
                    have H' := Aside0.mk H
                    clear H
                    have p308 : 0 ≤ (x23_1 : Int) := of_decide_eq_true (by first | (with_reducible assumption) | assumption)
                    have q308 : x23_1 < (l2.length : Int) := of_decide_eq_true (by first | (with_reducible assumption) | assumption)
                    obtain ⟨ad308, e308, hx308_0⟩ := Kd.at_int HR2.out x23_1 p308 q308
                    cases e308
                    replace hx308_0 := (HB.out.cell (World.block_lt_of_cell? w _ hx308_0)).trans hx308_0
                    replace p308 := eq_true p308
                    replace q308 := eq_true q308
                    obtain ⟨Ao16, co16, eo16⟩ := Kd.R_slice HO_8.out
                    subst eo16
                    go_wp2_with (first | ((with_reducible refine gate_callee (f := 78) rfl ?_); refine goesL_ (some 29) rfl rfl Tryz.func78 (by kernel_rfl) rfl #[.slice Ao16 x8_1.length co16, .int .i64 (rd l2 x23_1)] rfl (by (try simp only [List.map_toArray, List.map_cons, List.map_nil]); first | done | rfl | (simp only [List.length_drop, List.length_take]; rfl)) ?_; (with_reducible refine (clause_set.calls (fun k_ => some k_ = (.slice Ao16 x8_1.length co16 : Value).ownBlock) (.slice Ao16 x8_1.length co16) x8_1 (rd l2 x23_1) true t310 w _ ?side1 ?side2 A14.out).mono ?_); (case side1 => repeat (first | (with_reducible first | exact HB.out | apply below_alloc | apply pw_below_drewN | apply below_drew1) | exact HB.out)); (case side2 => exact Kd.R_tight rfl HO_8.out); rintro e w17 ⟨rfl, hy0, hb, hkp⟩; refine ⟨_, rfl, ?_⟩; have n0_ := Aside0.mk (Kd.R_reok rfl hy0 (fun k_ e_ => HO_8.out.1 k_ e_)); have n1_ := Aside0.mk (hb); clear HO_8; clear HB; have HO_8 := n0_; have HB := n1_; clear n0_ n1_; (try clear hb); (try clear hkp); (try clear hy0)))
                    go_roundg k1
                    case measure => have := HK1.out; omega
                    case rel => exact ⟨(t310), (wrap64 (x23_1 + 1)), (by first | rfl | (simp; done) | (simp [*]; done)), H', ⟨by have := HK1.out; omega⟩, ⟨by (with_reducible repeat (first | apply Kd.R_alloc | apply Kd.R_drewN | apply Kd.R_drew)); exact HO_8.out⟩, ⟨by repeat (first | (with_reducible first | exact HB.out | apply below_alloc | apply pw_below_drewN | apply below_drew1) | exact HB.out)⟩⟩
                  · replace c15 := Bool.eq_false_iff.mpr c15
                    subst c15
                    have H1 : (some (([] : List Int), false)) = some (r1, r2) := by rw [if_neg (show ¬ (false = true) by decide)] at H; exact H
                    clear H
                    have H := H1
                    clear H1
                    simp only [Option.some.injEq, Prod.mk.injEq] at H
                    obtain ⟨rfl, rfl⟩ := H
                    have p308 : 0 ≤ (x23_1 : Int) := of_decide_eq_true (by first | (with_reducible assumption) | assumption)
                    have q308 : x23_1 < (l2.length : Int) := of_decide_eq_true (by first | (with_reducible assumption) | assumption)
                    obtain ⟨ad308, e308, hx308_0⟩ := Kd.at_int HR2.out x23_1 p308 q308
                    cases e308
                    replace hx308_0 := (HB.out.cell (World.block_lt_of_cell? w _ hx308_0)).trans hx308_0
                    replace p308 := eq_true p308
                    replace q308 := eq_true q308
                    obtain ⟨Ao18, co18, eo18⟩ := Kd.R_slice HO_8.out
                    subst eo18
                    go_wp2_with (first | ((with_reducible refine gate_callee (f := 78) rfl ?_); refine goesL_ (some 29) rfl rfl Tryz.func78 (by kernel_rfl) rfl #[.slice Ao18 x8_1.length co18, .int .i64 (rd l2 x23_1)] rfl (by (try simp only [List.map_toArray, List.map_cons, List.map_nil]); first | done | rfl | (simp only [List.length_drop, List.length_take]; rfl)) ?_; (with_reducible refine (clause_set.calls (fun k_ => some k_ = (.slice Ao18 x8_1.length co18 : Value).ownBlock) (.slice Ao18 x8_1.length co18) x8_1 (rd l2 x23_1) false t310 w _ ?side1 ?side2 A14.out).mono ?_); (case side1 => repeat (first | (with_reducible first | exact HB.out | apply below_alloc | apply pw_below_drewN | apply below_drew1) | exact HB.out)); (case side2 => exact Kd.R_tight rfl HO_8.out); rintro e w19 ⟨rfl, hy0, hb, hkp⟩; refine ⟨_, rfl, ?_⟩; have n0_ := Aside0.mk (Kd.R_reok rfl hy0 (fun k_ e_ => HO_8.out.1 k_ e_)); have n1_ := Aside0.mk (hb); clear HO_8; clear HB; have HO_8 := n0_; have HB := n1_; clear n0_ n1_; (try clear hb); (try clear hkp); (try clear hy0)))
                    go_ret2
                    exact ⟨_, by first | rfl | (simp [errW_none, errW_some] <;> rfl) | (simp [*, errW_none, errW_some] <;> rfl), by first | exact Kd.R_nil _ _ _ _ _ | exact Kd.N_nil _ _ _ _ _ | exact Kd.V_nil _ _ _ _ _ | exact Kd.Q_nil _ _ _ _ _ | exact Kd.S_nil _ _ _ _ _, by repeat (first | (with_reducible first | exact HB.out | apply below_alloc | apply pw_below_drewN | apply below_drew1) | exact HB.out)⟩
                · rw [if_neg c13] at H
                  exact absurd H (by simp)
              · rw [if_neg c12] at H
                exact absurd H (by simp)
            · rw [if_neg c11] at H
              have c11b0 : decide (x23_1 < (l2.length : Int)) = false := decide_eq_false c11
              clear c11
              have H' := Aside0.mk H
              clear H
              go_wp2
              go_loopg [11] k1 (fun kq v11 w' => ∃ (x8_2 : List Int) (x11_2 : Bool), v11 = .bool x11_2 ∧ Aside0 (clause_Units.l1 kq l1 x8_2 x11_2 = some (r1, r2)) ∧ Aside0 (kq ≤ k1) ∧ Aside0 (Kd.R (Kd.int .i64) 3 w' w.heap.size (fun _ => True) v306 x8_2) ∧ Aside0 (Below w.heap.size w w'))
              case atStart => exact ⟨(x8_1), (true), (by first | rfl | (simp; done) | (simp [*]; done)), H', ⟨Nat.le_refl _⟩, ⟨by (with_reducible repeat (first | apply Kd.R_alloc | apply Kd.R_drewN | apply Kd.R_drew)); exact HO_8.out⟩, ⟨by repeat (first | (with_reducible first | exact HB.out | apply below_alloc | apply pw_below_drewN | apply below_drew1) | exact HB.out)⟩⟩
              case round =>
                clear H'
                try clear c1
                try clear c2
                try clear p2
                try clear c3
                try clear p3
                try clear q3
                try clear hx3
                try clear c5
                try clear c6
                try clear c6b0
                try clear c6b1
                try clear p6
                try clear c7
                try clear c7b0
                try clear c7b1
                try clear c11
                try clear c11b0
                try clear c12
                try clear c12b0
                try clear c13
                try clear c13b0
                try clear c15
                try clear hx308_0
                try clear p2
                try clear p308
                try clear q308
                obtain ⟨x8_2, x11_2, rfl, HA, HK2, HO_8, HB⟩ := hrel
                cases gk with
                | zero => exact absurd HA.out (by simp [clause_Units.l1])
                | succ k2 =>
                  have H := HA.out
                  clear HA
                  simp only [clause_Units.l1] at H
                  by_cases c20 : x11_2 = true
                  · subst c20
                    have H1 : (clause_Units.l2 k2 l1 x8_2 false l1 (l1.length : Int) 0) = some (r1, r2) := by rw [if_pos rfl] at H; exact H
                    clear H
                    have H := H1
                    clear H1
                    have H' := Aside0.mk H
                    clear H
                    go_wp2
                    go_loopg [11, 35] k2 (fun kq v11 v35 w' => ∃ (x8_3 : List Int) (x11_3 : Bool) (x35_3 : Int), v11 = .bool x11_3 ∧ v35 = .int .i64 x35_3 ∧ Aside0 (clause_Units.l2 kq l1 x8_3 x11_3 l1 (l1.length : Int) x35_3 = some (r1, r2)) ∧ Aside0 (kq ≤ k2) ∧ Aside0 (Kd.R (Kd.int .i64) 3 w' w.heap.size (fun _ => True) v306 x8_3) ∧ Aside0 (Below w.heap.size w w'))
                    case atStart => exact ⟨(x8_2), (false), (0), (by first | rfl | (simp; done) | (simp [*]; done)), (by first | rfl | (simp; done) | (simp [*]; done)), H', ⟨Nat.le_refl _⟩, ⟨by (with_reducible repeat (first | apply Kd.R_alloc | apply Kd.R_drewN | apply Kd.R_drew)); exact HO_8.out⟩, ⟨by repeat (first | (with_reducible first | exact HB.out | apply below_alloc | apply pw_below_drewN | apply below_drew1) | exact HB.out)⟩⟩
                    case round =>
                      clear H'
                      try clear c1
                      try clear c2
                      try clear p2
                      try clear c3
                      try clear p3
                      try clear q3
                      try clear hx3
                      try clear c5
                      try clear c6
                      try clear c6b0
                      try clear c6b1
                      try clear p6
                      try clear c7
                      try clear c7b0
                      try clear c7b1
                      try clear c11
                      try clear c11b0
                      try clear c12
                      try clear c12b0
                      try clear c13
                      try clear c13b0
                      try clear c15
                      try clear c20
                      try clear hx308_0
                      try clear p2
                      try clear p3
                      try clear p308
                      try clear p6
                      try clear q3
                      try clear q308
                      obtain ⟨x8_3, x11_3, x35_3, rfl, rfl, HA, HK3, HO_8, HB⟩ := hrel
                      cases gk with
                      | zero => exact absurd HA.out (by simp [clause_Units.l2])
                      | succ k3 =>
                        have H := HA.out
                        clear HA
                        simp only [clause_Units.l2] at H
                        by_cases c21 : x35_3 < (l1.length : Int)
                        · rw [if_pos c21] at H
                          have c21b0 : decide (x35_3 < (l1.length : Int)) = true := decide_eq_true c21
                          clear c21
                          by_cases c22 : 0 ≤ x35_3
                          · rw [if_pos c22] at H
                            have c22b0 : decide (0 ≤ x35_3) = true := decide_eq_true c22
                            clear c22
                            by_cases c23 : x35_3 < (l1.length : Int)
                            · rw [if_pos c23] at H
                              have c23b0 : decide (x35_3 < (l1.length : Int)) = true := decide_eq_true c23
                              clear c23
                              replace H := Option.bind_eq_some_iff.mp H
                              obtain ⟨t312, A240, H⟩ := H
                              replace H : (if t312 = 0 then ((clause_Value.f k3 (rd_L9 l1 x35_3) x8_3).bind fun t313 => (if t313 < 0 then (some (([] : List Int), false)) else (clause_Units.l2 k3 l1 x8_3 x11_3 l1 (l1.length : Int) (wrap64 (x35_3 + 1))))) else ((clause_set.f x8_3 t312).bind fun bt314 => (clause_Units.l2 k3 l1 bt314.2 bt314.1 l1 (l1.length : Int) (wrap64 (x35_3 + 1))))) = some (r1, r2) := H
                              have A24 := Aside0.mk A240
                              clear A240
                              by_cases c25 : t312 = 0
                              · rw [if_pos c25] at H
                                have c25b0 : (t312 == 0) = true := beq_iff_eq.mpr c25
                                have c25b1 : (t312 != 0) = false := bne_eq_false_iff_eq.mpr c25
                                clear c25
                                replace H := Option.bind_eq_some_iff.mp H
                                obtain ⟨t313, A260, H⟩ := H
                                replace H : (if t313 < 0 then (some (([] : List Int), false)) else (clause_Units.l2 k3 l1 x8_3 x11_3 l1 (l1.length : Int) (wrap64 (x35_3 + 1)))) = some (r1, r2) := H
                                have A26 := Aside0.mk A260
                                clear A260
                                by_cases c27 : t313 < 0
                                · rw [if_pos c27] at H
                                  have c27b0 : decide (t313 < 0) = true := decide_eq_true c27
                                  clear c27
                                  simp only [Option.some.injEq, Prod.mk.injEq] at H
                                  obtain ⟨rfl, rfl⟩ := H
                                  have p311 : 0 ≤ (x35_3 : Int) := of_decide_eq_true (by first | (with_reducible assumption) | assumption)
                                  have q311 : x35_3 < (l1.length : Int) := of_decide_eq_true (by first | (with_reducible assumption) | assumption)
                                  obtain ⟨ad311, A311_0, c311_0, e311, hx311_0, hl311_0, hi311_0⟩ := at_L9 HR1.out x35_3 p311 q311
                                  cases e311
                                  replace hx311_0 := (HB.out.cell (World.block_lt_of_cell? w _ hx311_0)).trans hx311_0
                                  have HR311_0 := Aside0.mk hi311_0
                                  have HC311_0 := Aside0.mk hl311_0
                                  clear hi311_0 hl311_0
                                  replace p311 := eq_true p311
                                  replace q311 := eq_true q311
                                  obtain ⟨Ao28, co28, eo28⟩ := Kd.R_slice HO_8.out
                                  subst eo28
                                  go_wp2_with (first | ((with_reducible refine gate_callee (f := 79) rfl ?_); refine goesL_ (some 41) rfl rfl Tryz.func79 (by kernel_rfl) rfl #[.slice A311_0 (rd_L9 l1 x35_3).length c311_0, .slice Ao28 x8_3.length co28] rfl (by (try simp only [List.map_toArray, List.map_cons, List.map_nil]); first | done | rfl | (simp only [List.length_drop, List.length_take]; rfl)) ?_; (with_reducible refine (clause_unit.calls k3 _ _ (rd_L9 l1 x35_3) _ _ x8_3 t312 _ ?side1 ?side2 ?side3 ?side4 A24.out).mono ?_); (case side1 => repeat (first | exact (Kd.C_below HR311_0.out HB.out) | (with_reducible refine Kd.C_alloc ?_ _) | (with_reducible refine Kd.C_drewN ?_ _) | (with_reducible refine Kd.C_drew ?_))); (case side2 => exact HC311_0.out); (case side3 => repeat (first | exact (Kd.R_reads' HO_8.out).2.2 | (with_reducible refine Kd.C_alloc ?_ _) | (with_reducible refine Kd.C_drewN ?_ _) | (with_reducible refine Kd.C_drew ?_))); (case side4 => exact (Kd.R_reads' HO_8.out).2.1); rintro e w' ⟨rfl, ⟨nd, rfl⟩⟩; refine ⟨_, rfl, ?_⟩) | ((with_reducible refine gate_callee (f := 80) rfl ?_); refine goesL_ (some 49) rfl rfl Tryz.func80 (by kernel_rfl) rfl #[.slice A311_0 (rd_L9 l1 x35_3).length c311_0, .slice Ao28 x8_3.length co28] rfl (by (try simp only [List.map_toArray, List.map_cons, List.map_nil]); first | done | rfl | (simp only [List.length_drop, List.length_take]; rfl)) ?_; (with_reducible refine (clause_Value.calls k3 _ _ (rd_L9 l1 x35_3) _ _ x8_3 t313 _ ?side1 ?side2 ?side3 ?side4 A26.out).mono ?_); (case side1 => repeat (first | exact (Kd.C_below HR311_0.out (by repeat (first | (with_reducible first | exact HB.out | apply below_alloc | apply pw_below_drewN | apply below_drew1) | exact HB.out))) | (with_reducible refine Kd.C_alloc ?_ _) | (with_reducible refine Kd.C_drewN ?_ _) | (with_reducible refine Kd.C_drew ?_))); (case side2 => exact HC311_0.out); (case side3 => repeat (first | exact (Kd.R_reads' HO_8.out).2.2 | (with_reducible refine Kd.C_alloc ?_ _) | (with_reducible refine Kd.C_drewN ?_ _) | (with_reducible refine Kd.C_drew ?_))); (case side4 => exact (Kd.R_reads' HO_8.out).2.1); rintro e w29 ⟨rfl, hb⟩; refine ⟨_, rfl, ?_⟩; have n0_ := Aside0.mk (Kd.R_below (by (with_reducible repeat (first | apply Kd.R_alloc | apply Kd.R_drewN | apply Kd.R_drew)); exact HO_8.out) hb); have n1_ := Aside0.mk (below_step (by repeat (first | (with_reducible first | exact HB.out | apply below_alloc | apply pw_below_drewN | apply below_drew1) | exact HB.out)) hb); clear HO_8; clear HB; have HO_8 := n0_; have HB := n1_; clear n0_ n1_; (try clear hb); (try clear hb2); (try clear hk); (try clear hi)))
                                  go_ret2
                                  exact ⟨_, by first | rfl | (simp [errW_none, errW_some] <;> rfl) | (simp [*, errW_none, errW_some] <;> rfl), by first | exact Kd.R_nil _ _ _ _ _ | exact Kd.N_nil _ _ _ _ _ | exact Kd.V_nil _ _ _ _ _ | exact Kd.Q_nil _ _ _ _ _ | exact Kd.S_nil _ _ _ _ _, by repeat (first | (with_reducible first | exact HB.out | apply below_alloc | apply pw_below_drewN | apply below_drew1) | exact HB.out)⟩
                                · rw [if_neg c27] at H
                                  have c27b0 : decide (t313 < 0) = false := decide_eq_false c27
                                  clear c27
                                  have H' := Aside0.mk H
                                  clear H
                                  have p311 : 0 ≤ (x35_3 : Int) := of_decide_eq_true (by first | (with_reducible assumption) | assumption)
                                  have q311 : x35_3 < (l1.length : Int) := of_decide_eq_true (by first | (with_reducible assumption) | assumption)
                                  obtain ⟨ad311, A311_0, c311_0, e311, hx311_0, hl311_0, hi311_0⟩ := at_L9 HR1.out x35_3 p311 q311
                                  cases e311
                                  replace hx311_0 := (HB.out.cell (World.block_lt_of_cell? w _ hx311_0)).trans hx311_0
                                  have HR311_0 := Aside0.mk hi311_0
                                  have HC311_0 := Aside0.mk hl311_0
                                  clear hi311_0 hl311_0
                                  replace p311 := eq_true p311
                                  replace q311 := eq_true q311
                                  obtain ⟨Ao30, co30, eo30⟩ := Kd.R_slice HO_8.out
                                  subst eo30
                                  go_wp2_with (first | ((with_reducible refine gate_callee (f := 79) rfl ?_); refine goesL_ (some 41) rfl rfl Tryz.func79 (by kernel_rfl) rfl #[.slice A311_0 (rd_L9 l1 x35_3).length c311_0, .slice Ao30 x8_3.length co30] rfl (by (try simp only [List.map_toArray, List.map_cons, List.map_nil]); first | done | rfl | (simp only [List.length_drop, List.length_take]; rfl)) ?_; (with_reducible refine (clause_unit.calls k3 _ _ (rd_L9 l1 x35_3) _ _ x8_3 t312 _ ?side1 ?side2 ?side3 ?side4 A24.out).mono ?_); (case side1 => repeat (first | exact (Kd.C_below HR311_0.out HB.out) | (with_reducible refine Kd.C_alloc ?_ _) | (with_reducible refine Kd.C_drewN ?_ _) | (with_reducible refine Kd.C_drew ?_))); (case side2 => exact HC311_0.out); (case side3 => repeat (first | exact (Kd.R_reads' HO_8.out).2.2 | (with_reducible refine Kd.C_alloc ?_ _) | (with_reducible refine Kd.C_drewN ?_ _) | (with_reducible refine Kd.C_drew ?_))); (case side4 => exact (Kd.R_reads' HO_8.out).2.1); rintro e w' ⟨rfl, ⟨nd, rfl⟩⟩; refine ⟨_, rfl, ?_⟩) | ((with_reducible refine gate_callee (f := 80) rfl ?_); refine goesL_ (some 49) rfl rfl Tryz.func80 (by kernel_rfl) rfl #[.slice A311_0 (rd_L9 l1 x35_3).length c311_0, .slice Ao30 x8_3.length co30] rfl (by (try simp only [List.map_toArray, List.map_cons, List.map_nil]); first | done | rfl | (simp only [List.length_drop, List.length_take]; rfl)) ?_; (with_reducible refine (clause_Value.calls k3 _ _ (rd_L9 l1 x35_3) _ _ x8_3 t313 _ ?side1 ?side2 ?side3 ?side4 A26.out).mono ?_); (case side1 => repeat (first | exact (Kd.C_below HR311_0.out (by repeat (first | (with_reducible first | exact HB.out | apply below_alloc | apply pw_below_drewN | apply below_drew1) | exact HB.out))) | (with_reducible refine Kd.C_alloc ?_ _) | (with_reducible refine Kd.C_drewN ?_ _) | (with_reducible refine Kd.C_drew ?_))); (case side2 => exact HC311_0.out); (case side3 => repeat (first | exact (Kd.R_reads' HO_8.out).2.2 | (with_reducible refine Kd.C_alloc ?_ _) | (with_reducible refine Kd.C_drewN ?_ _) | (with_reducible refine Kd.C_drew ?_))); (case side4 => exact (Kd.R_reads' HO_8.out).2.1); rintro e w31 ⟨rfl, hb⟩; refine ⟨_, rfl, ?_⟩; have n0_ := Aside0.mk (Kd.R_below (by (with_reducible repeat (first | apply Kd.R_alloc | apply Kd.R_drewN | apply Kd.R_drew)); exact HO_8.out) hb); have n1_ := Aside0.mk (below_step (by repeat (first | (with_reducible first | exact HB.out | apply below_alloc | apply pw_below_drewN | apply below_drew1) | exact HB.out)) hb); clear HO_8; clear HB; have HO_8 := n0_; have HB := n1_; clear n0_ n1_; (try clear hb); (try clear hb2); (try clear hk); (try clear hi)))
                                  go_roundg k3
                                  case measure => have := HK1.out; have := HK2.out; have := HK3.out; omega
                                  case rel => exact ⟨(x8_3), (x11_3), (wrap64 (x35_3 + 1)), (by first | rfl | (simp; done) | (simp [*]; done)), (by first | rfl | (simp; done) | (simp [*]; done)), H', ⟨by have := HK1.out; have := HK2.out; have := HK3.out; omega⟩, ⟨by (with_reducible repeat (first | apply Kd.R_alloc | apply Kd.R_drewN | apply Kd.R_drew)); exact HO_8.out⟩, ⟨by repeat (first | (with_reducible first | exact HB.out | apply below_alloc | apply pw_below_drewN | apply below_drew1) | exact HB.out)⟩⟩
                              · rw [if_neg c25] at H
                                have c25b0 : (t312 == 0) = false := beq_eq_false_iff_ne.mpr c25
                                have c25b1 : (t312 != 0) = true := bne_iff_ne.mpr c25
                                replace H := Option.bind_eq_some_iff.mp H
                                obtain ⟨⟨t314, t315⟩, A320, H⟩ := H
                                replace H : (clause_Units.l2 k3 l1 t315 t314 l1 (l1.length : Int) (wrap64 (x35_3 + 1))) = some (r1, r2) := H
                                have A32 := Aside0.mk A320
                                clear A320
                                have H' := Aside0.mk H
                                clear H
                                have p311 : 0 ≤ (x35_3 : Int) := of_decide_eq_true (by first | (with_reducible assumption) | assumption)
                                have q311 : x35_3 < (l1.length : Int) := of_decide_eq_true (by first | (with_reducible assumption) | assumption)
                                obtain ⟨ad311, A311_0, c311_0, e311, hx311_0, hl311_0, hi311_0⟩ := at_L9 HR1.out x35_3 p311 q311
                                cases e311
                                replace hx311_0 := (HB.out.cell (World.block_lt_of_cell? w _ hx311_0)).trans hx311_0
                                have HR311_0 := Aside0.mk hi311_0
                                have HC311_0 := Aside0.mk hl311_0
                                clear hi311_0 hl311_0
                                replace p311 := eq_true p311
                                replace q311 := eq_true q311
                                obtain ⟨Ao33, co33, eo33⟩ := Kd.R_slice HO_8.out
                                subst eo33
                                go_wp2_with (first | ((with_reducible refine gate_callee (f := 79) rfl ?_); refine goesL_ (some 41) rfl rfl Tryz.func79 (by kernel_rfl) rfl #[.slice A311_0 (rd_L9 l1 x35_3).length c311_0, .slice Ao33 x8_3.length co33] rfl (by (try simp only [List.map_toArray, List.map_cons, List.map_nil]); first | done | rfl | (simp only [List.length_drop, List.length_take]; rfl)) ?_; (with_reducible refine (clause_unit.calls k3 _ _ (rd_L9 l1 x35_3) _ _ x8_3 t312 _ ?side1 ?side2 ?side3 ?side4 A24.out).mono ?_); (case side1 => repeat (first | exact (Kd.C_below HR311_0.out HB.out) | (with_reducible refine Kd.C_alloc ?_ _) | (with_reducible refine Kd.C_drewN ?_ _) | (with_reducible refine Kd.C_drew ?_))); (case side2 => exact HC311_0.out); (case side3 => repeat (first | exact (Kd.R_reads' HO_8.out).2.2 | (with_reducible refine Kd.C_alloc ?_ _) | (with_reducible refine Kd.C_drewN ?_ _) | (with_reducible refine Kd.C_drew ?_))); (case side4 => exact (Kd.R_reads' HO_8.out).2.1); rintro e w' ⟨rfl, ⟨nd, rfl⟩⟩; refine ⟨_, rfl, ?_⟩) | ((with_reducible refine gate_callee (f := 78) rfl ?_); refine goesL_ (some 46) rfl rfl Tryz.func78 (by kernel_rfl) rfl #[.slice Ao33 x8_3.length co33, .int .i64 t312] rfl (by (try simp only [List.map_toArray, List.map_cons, List.map_nil]); first | done | rfl | (simp only [List.length_drop, List.length_take]; rfl)) ?_; (with_reducible refine (clause_set.calls (fun k_ => some k_ = (.slice Ao33 x8_3.length co33 : Value).ownBlock) (.slice Ao33 x8_3.length co33) x8_3 t312 t314 t315 w _ ?side1 ?side2 A32.out).mono ?_); (case side1 => repeat (first | (with_reducible first | exact HB.out | apply below_alloc | apply pw_below_drewN | apply below_drew1) | exact HB.out)); (case side2 => exact Kd.R_tight rfl HO_8.out); rintro e w34 ⟨rfl, hy0, hb, hkp⟩; refine ⟨_, rfl, ?_⟩; have n0_ := Aside0.mk (Kd.R_reok rfl hy0 (fun k_ e_ => HO_8.out.1 k_ e_)); have n1_ := Aside0.mk (hb); clear HO_8; clear HB; have HO_8 := n0_; have HB := n1_; clear n0_ n1_; (try clear hb); (try clear hkp); (try clear hy0)))
                                go_roundg k3
                                case measure => have := HK1.out; have := HK2.out; have := HK3.out; omega
                                case rel => exact ⟨(t315), (t314), (wrap64 (x35_3 + 1)), (by first | rfl | (simp; done) | (simp [*]; done)), (by first | rfl | (simp; done) | (simp [*]; done)), H', ⟨by have := HK1.out; have := HK2.out; have := HK3.out; omega⟩, ⟨by (with_reducible repeat (first | apply Kd.R_alloc | apply Kd.R_drewN | apply Kd.R_drew)); exact HO_8.out⟩, ⟨by repeat (first | (with_reducible first | exact HB.out | apply below_alloc | apply pw_below_drewN | apply below_drew1) | exact HB.out)⟩⟩
                            · rw [if_neg c23] at H
                              exact absurd H (by simp)
                          · rw [if_neg c22] at H
                            exact absurd H (by simp)
                        · rw [if_neg c21] at H
                          have c21b0 : decide (x35_3 < (l1.length : Int)) = false := decide_eq_false c21
                          clear c21
                          have H' := Aside0.mk H
                          clear H
                          go_wp2
                          go_roundg k3
                          case measure => have := HK1.out; have := HK2.out; have := HK3.out; omega
                          case rel => exact ⟨(x8_3), (x11_3), (by first | rfl | (simp; done) | (simp [*]; done)), H', ⟨by have := HK1.out; have := HK2.out; have := HK3.out; omega⟩, ⟨by (with_reducible repeat (first | apply Kd.R_alloc | apply Kd.R_drewN | apply Kd.R_drew)); exact HO_8.out⟩, ⟨by repeat (first | (with_reducible first | exact HB.out | apply below_alloc | apply pw_below_drewN | apply below_drew1) | exact HB.out)⟩⟩
                  · replace c20 := Bool.eq_false_iff.mpr c20
                    subst c20
                    have H1 : (some (x8_2, true)) = some (r1, r2) := by rw [if_neg (show ¬ (false = true) by decide)] at H; exact H
                    clear H
                    have H := H1
                    clear H1
                    simp only [Option.some.injEq, Prod.mk.injEq] at H
                    obtain ⟨rfl, rfl⟩ := H
                    go_wp2
                    go_ret2
                    exact ⟨_, by first | rfl | (simp [errW_none, errW_some] <;> rfl) | (simp [*, errW_none, errW_some] <;> rfl), by (with_reducible repeat (first | apply Kd.R_alloc | apply Kd.R_drewN | apply Kd.R_drew)); exact HO_8.out, by repeat (first | (with_reducible first | exact HB.out | apply below_alloc | apply pw_below_drewN | apply below_drew1) | exact HB.out)⟩
      · rw [if_neg c7] at H
        exact absurd H (by simp)
    · rw [if_neg c6] at H
      exact absurd H (by simp)
  · replace c5 := Bool.eq_false_iff.mpr c5
    subst c5
    have H1 : (some (([] : List Int), false)) = some (r1, r2) := by rw [if_neg (show ¬ (false = true) by decide)] at H; exact H
    clear H
    have H := H1
    clear H1
    simp only [Option.some.injEq, Prod.mk.injEq] at H
    obtain ⟨rfl, rfl⟩ := H
    go_enter Tryz.func36, Tryz.ntmps36
    go_wp2_with (first | ((with_reducible refine gate_callee (f := 20) rfl ?_); refine goesL_ (some 17) rfl rfl Tryz.func20 (by kernel_rfl) rfl #[.int .i64 a0, .slice A1 l1.length c1] rfl (by (try simp only [List.map_toArray, List.map_cons, List.map_nil]); first | done | rfl | (simp only [List.length_drop, List.length_take]; rfl)) ?_; (with_reducible refine (clause_Right.calls a0 _ _ l1 false _ ?side1 ?side2 A4.out).mono ?_); (case side1 => repeat (first | exact HR1.out | (with_reducible refine Kd.C_alloc ?_ _) | (with_reducible refine Kd.C_drewN ?_ _) | (with_reducible refine Kd.C_drew ?_))); (case side2 => exact HC1.out); rintro e w35 ⟨rfl, hb⟩; refine ⟨_, rfl, ?_⟩; have n0_ := Aside0.mk (below_step (by repeat (first | (with_reducible first | exact HB.out | apply below_alloc | apply pw_below_drewN | apply below_drew1) | exact HB.out)) hb); clear HB; have HB := n0_; clear n0_; (try clear hb); (try clear hb2); (try clear hk); (try clear hi)))
    go_ret2
    exact ⟨_, by first | rfl | (simp [errW_none, errW_some] <;> rfl) | (simp [*, errW_none, errW_some] <;> rfl), by first | exact Kd.R_nil _ _ _ _ _ | exact Kd.N_nil _ _ _ _ _ | exact Kd.V_nil _ _ _ _ _ | exact Kd.Q_nil _ _ _ _ _ | exact Kd.S_nil _ _ _ _ _, by repeat (first | (with_reducible first | exact HB.out | apply below_alloc | apply pw_below_drewN | apply below_drew1) | exact HB.out)⟩

/-! ### clause_read: function 44 -/
def clause_read.l0 : Nat → ByteArray → List Int → Option (List Int × Bool)
  | 0, _, _ => none
  | k + 1, x0, x4 => if x0.toList = ([48] : List UInt8) then (some (x4, true)) else ((strings_Cut.f x0 (⟨#[32]⟩ : ByteArray)).bind fun bt389 => ((clause_number.f bt389.1).bind fun bt392 => (if bt389.2.2 = true then (if bt392.2 = true then (if bt392.1 = 0 then (some (([] : List Int), false)) else (if x4.length < 17592186044416 then (clause_read.l0 k bt389.2.1 (x4 ++ [bt392.1])) else (none))) else (some (([] : List Int), false))) else (some (([] : List Int), false)))))
def clause_read.f (k : Nat) (a0 : ByteArray) : Option (List Int × Bool) := clause_read.l0 k a0 ([] : List Int)
set_option maxHeartbeats 8000000 in
set_option maxRecDepth 100000 in
theorem clause_read.calls (k : Nat) (a0 : ByteArray) (r1 : List Int) (r2 : Bool) (w : World) (hG_maxLen : GlobMaxLen w) (hG_numErr : GlobNumErr w) (hG_pow10 : GlobPow10 w) (h : clause_read.f k a0 = some (r1, r2)) :
    Calls Tryz.prog 44 #[.string a0] w fun e w' => ∃ v0_ : Value, e = .returned (.tuple #[v0_, .bool r2]) ∧ Kd.R (Kd.int .i64) 3 w' w.heap.size (fun _ => True) v0_ r1 ∧ Below w.heap.size w w' := by
  have HG_maxLen := Aside0.mk hG_maxLen
  clear hG_maxLen
  have HG_numErr := Aside0.mk hG_numErr
  clear hG_numErr
  have HG_pow10 := Aside0.mk hG_pow10
  clear hG_pow10
  have HB := Aside0.mk (Below.refl w.heap.size w)
  have H : (clause_read.l0 k a0 ([] : List Int)) = some (r1, r2) := h
  clear h
  have H' := Aside0.mk H
  clear H
  go_enter Tryz.func44, Tryz.ntmps44
  go_wp2
  go_loopg [0, 4] k (fun kq v0 v4 w' => ∃ (x0_1 : ByteArray) (x4_1 : List Int), v0 = .string x0_1 ∧ Aside0 (clause_read.l0 kq x0_1 x4_1 = some (r1, r2)) ∧ Aside0 (kq ≤ k) ∧ Aside0 (Kd.R (Kd.int .i64) 3 w' w.heap.size (fun _ => True) v4 x4_1) ∧ Aside0 (Below w.heap.size w w'))
  case atStart => exact ⟨(a0), (([] : List Int)), (by first | rfl | (simp; done) | (simp [*]; done)), H', ⟨Nat.le_refl _⟩, ⟨by first | exact Kd.R_nil _ _ _ _ _ | exact Kd.N_nil _ _ _ _ _ | exact Kd.V_nil _ _ _ _ _ | exact Kd.Q_nil _ _ _ _ _ | exact Kd.S_nil _ _ _ _ _⟩, ⟨by repeat (first | (with_reducible first | exact HB.out | apply below_alloc | apply pw_below_drewN | apply below_drew1) | exact HB.out)⟩⟩
  case round =>
    clear H'
    obtain ⟨x0_1, x4_1, rfl, HA, HK1, HO_4, HB⟩ := hrel
    cases gk with
    | zero => exact absurd HA.out (by simp [clause_read.l0])
    | succ k1 =>
      have H := HA.out
      clear HA
      simp only [clause_read.l0] at H
      by_cases c2 : x0_1.toList = ([48] : List UInt8)
      · rw [if_pos c2] at H
        have c2b0 : (x0_1.toList == ([48] : List UInt8)) = true := beq_iff_eq.mpr c2
        have c2b1 : (x0_1.toList != ([48] : List UInt8)) = false := bne_eq_false_iff_eq.mpr c2
        clear c2
        simp only [Option.some.injEq, Prod.mk.injEq] at H
        obtain ⟨rfl, rfl⟩ := H
        go_wp2
        go_ret2
        exact ⟨_, by first | rfl | (simp [errW_none, errW_some] <;> rfl) | (simp [*, errW_none, errW_some] <;> rfl), by (with_reducible repeat (first | apply Kd.R_alloc | apply Kd.R_drewN | apply Kd.R_drew)); exact HO_4.out, by repeat (first | (with_reducible first | exact HB.out | apply below_alloc | apply pw_below_drewN | apply below_drew1) | exact HB.out)⟩
      · rw [if_neg c2] at H
        have c2b0 : (x0_1.toList == ([48] : List UInt8)) = false := beq_eq_false_iff_ne.mpr c2
        have c2b1 : (x0_1.toList != ([48] : List UInt8)) = true := bne_iff_ne.mpr c2
        replace H := Option.bind_eq_some_iff.mp H
        obtain ⟨⟨t389, t390, t391⟩, A30, H⟩ := H
        replace H : ((clause_number.f t389).bind fun bt392 => (if t391 = true then (if bt392.2 = true then (if bt392.1 = 0 then (some (([] : List Int), false)) else (if x4_1.length < 17592186044416 then (clause_read.l0 k1 t390 (x4_1 ++ [bt392.1])) else (none))) else (some (([] : List Int), false))) else (some (([] : List Int), false)))) = some (r1, r2) := H
        have A3 := Aside0.mk A30
        clear A30
        replace H := Option.bind_eq_some_iff.mp H
        obtain ⟨⟨t392, t393⟩, A40, H⟩ := H
        replace H : (if t391 = true then (if t393 = true then (if t392 = 0 then (some (([] : List Int), false)) else (if x4_1.length < 17592186044416 then (clause_read.l0 k1 t390 (x4_1 ++ [t392])) else (none))) else (some (([] : List Int), false))) else (some (([] : List Int), false))) = some (r1, r2) := H
        have A4 := Aside0.mk A40
        clear A40
        by_cases c5 : t391 = true
        · subst c5
          have H1 : (if t393 = true then (if t392 = 0 then (some (([] : List Int), false)) else (if x4_1.length < 17592186044416 then (clause_read.l0 k1 t390 (x4_1 ++ [t392])) else (none))) else (some (([] : List Int), false))) = some (r1, r2) := by rw [if_pos rfl] at H; exact H
          clear H
          have H := H1
          clear H1
          by_cases c6 : t393 = true
          · subst c6
            have H1 : (if t392 = 0 then (some (([] : List Int), false)) else (if x4_1.length < 17592186044416 then (clause_read.l0 k1 t390 (x4_1 ++ [t392])) else (none))) = some (r1, r2) := by rw [if_pos rfl] at H; exact H
            clear H
            have H := H1
            clear H1
            by_cases c7 : t392 = 0
            · rw [if_pos c7] at H
              have c7b0 : (t392 == 0) = true := beq_iff_eq.mpr c7
              have c7b1 : (t392 != 0) = false := bne_eq_false_iff_eq.mpr c7
              clear c7
              simp only [Option.some.injEq, Prod.mk.injEq] at H
              obtain ⟨rfl, rfl⟩ := H
              go_wp2_with (first | ((with_reducible refine gate_callee (f := 41) rfl ?_); refine goesL_ (some 14) rfl rfl Tryz.func41 (by kernel_rfl) rfl #[.string x0_1, .string (⟨#[32]⟩ : ByteArray)] rfl (by (try simp only [List.map_toArray, List.map_cons, List.map_nil]); first | done | rfl | (simp only [List.length_drop, List.length_take]; rfl)) ?_; (with_reducible refine (strings_Cut.calls x0_1 (⟨#[32]⟩ : ByteArray) t389 t390 true _ ?side1 A3.out).mono ?_); (case side1 => exact HG_maxLen.out.below (by repeat (first | (with_reducible first | exact HB.out | apply below_alloc | apply pw_below_drewN | apply below_drew1) | exact HB.out))); rintro e w8 ⟨rfl, hb⟩; refine ⟨_, rfl, ?_⟩; have n0_ := Aside0.mk (Kd.R_below (by (with_reducible repeat (first | apply Kd.R_alloc | apply Kd.R_drewN | apply Kd.R_drew)); exact HO_4.out) hb); have n1_ := Aside0.mk (below_step (by repeat (first | (with_reducible first | exact HB.out | apply below_alloc | apply pw_below_drewN | apply below_drew1) | exact HB.out)) hb); clear HO_4; clear HB; have HO_4 := n0_; have HB := n1_; clear n0_ n1_; (try clear hb); (try clear hb2); (try clear hk); (try clear hi)) | ((with_reducible refine gate_callee (f := 43) rfl ?_); refine goesL_ (some 20) rfl rfl Tryz.func43 (by kernel_rfl) rfl #[.string t389] rfl (by (try simp only [List.map_toArray, List.map_cons, List.map_nil]); first | done | rfl | (simp only [List.length_drop, List.length_take]; rfl)) ?_; (with_reducible refine (clause_number.calls t389 t392 true _ ?side1 ?side2 A4.out).mono ?_); (case side1 => exact HG_numErr.out.below (by repeat (first | (with_reducible first | exact HB.out | apply below_alloc | apply pw_below_drewN | apply below_drew1) | exact HB.out))); (case side2 => exact HG_pow10.out.below (by repeat (first | (with_reducible first | exact HB.out | apply below_alloc | apply pw_below_drewN | apply below_drew1) | exact HB.out))); rintro e w9 ⟨rfl, hb⟩; refine ⟨_, rfl, ?_⟩; have n0_ := Aside0.mk (Kd.R_below (by (with_reducible repeat (first | apply Kd.R_alloc | apply Kd.R_drewN | apply Kd.R_drew)); exact HO_4.out) hb); have n1_ := Aside0.mk (below_step (by repeat (first | (with_reducible first | exact HB.out | apply below_alloc | apply pw_below_drewN | apply below_drew1) | exact HB.out)) hb); clear HO_4; clear HB; have HO_4 := n0_; have HB := n1_; clear n0_ n1_; (try clear hb); (try clear hb2); (try clear hk); (try clear hi)))
              go_ret2
              exact ⟨_, by first | rfl | (simp [errW_none, errW_some] <;> rfl) | (simp [*, errW_none, errW_some] <;> rfl), by first | exact Kd.R_nil _ _ _ _ _ | exact Kd.N_nil _ _ _ _ _ | exact Kd.V_nil _ _ _ _ _ | exact Kd.Q_nil _ _ _ _ _ | exact Kd.S_nil _ _ _ _ _, by repeat (first | (with_reducible first | exact HB.out | apply below_alloc | apply pw_below_drewN | apply below_drew1) | exact HB.out)⟩
            · rw [if_neg c7] at H
              have c7b0 : (t392 == 0) = false := beq_eq_false_iff_ne.mpr c7
              have c7b1 : (t392 != 0) = true := bne_iff_ne.mpr c7
              by_cases c10 : x4_1.length < 17592186044416
              · rw [if_pos c10] at H
                have LMc10 := Aside0.mk c10
                clear c10
                obtain ⟨y394, hy394⟩ : ∃ y_ : List Int, y_ = (x4_1 ++ [t392]) := ⟨_, rfl⟩
                replace H : (clause_read.l0 k1 t390 y394) = some (r1, r2) := by first | (rw [hy394]; with_reducible exact H) | (have H2_ := (Option.bind_some _ _).symm.trans H; rw [hy394]; with_reducible exact H2_) | (have H2_ := (Option.bind_some _ _).symm.trans H; with_reducible exact H2_) | with_reducible exact H | (rw [hy394]; exact H) | exact H
                have Ny394 := Aside0.mk hy394
                clear hy394
                have H' := Aside0.mk H
                clear H
                go_wp2_with (first | ((with_reducible refine gate_callee (f := 41) rfl ?_); refine goesL_ (some 14) rfl rfl Tryz.func41 (by kernel_rfl) rfl #[.string x0_1, .string (⟨#[32]⟩ : ByteArray)] rfl (by (try simp only [List.map_toArray, List.map_cons, List.map_nil]); first | done | rfl | (simp only [List.length_drop, List.length_take]; rfl)) ?_; (with_reducible refine (strings_Cut.calls x0_1 (⟨#[32]⟩ : ByteArray) t389 t390 true _ ?side1 A3.out).mono ?_); (case side1 => exact HG_maxLen.out.below (by repeat (first | (with_reducible first | exact HB.out | apply below_alloc | apply pw_below_drewN | apply below_drew1) | exact HB.out))); rintro e w11 ⟨rfl, hb⟩; refine ⟨_, rfl, ?_⟩; have n0_ := Aside0.mk (Kd.R_below (by (with_reducible repeat (first | apply Kd.R_alloc | apply Kd.R_drewN | apply Kd.R_drew)); exact HO_4.out) hb); have n1_ := Aside0.mk (below_step (by repeat (first | (with_reducible first | exact HB.out | apply below_alloc | apply pw_below_drewN | apply below_drew1) | exact HB.out)) hb); clear HO_4; clear HB; have HO_4 := n0_; have HB := n1_; clear n0_ n1_; (try clear hb); (try clear hb2); (try clear hk); (try clear hi)) | ((with_reducible refine gate_callee (f := 43) rfl ?_); refine goesL_ (some 20) rfl rfl Tryz.func43 (by kernel_rfl) rfl #[.string t389] rfl (by (try simp only [List.map_toArray, List.map_cons, List.map_nil]); first | done | rfl | (simp only [List.length_drop, List.length_take]; rfl)) ?_; (with_reducible refine (clause_number.calls t389 t392 true _ ?side1 ?side2 A4.out).mono ?_); (case side1 => exact HG_numErr.out.below (by repeat (first | (with_reducible first | exact HB.out | apply below_alloc | apply pw_below_drewN | apply below_drew1) | exact HB.out))); (case side2 => exact HG_pow10.out.below (by repeat (first | (with_reducible first | exact HB.out | apply below_alloc | apply pw_below_drewN | apply below_drew1) | exact HB.out))); rintro e w12 ⟨rfl, hb⟩; refine ⟨_, rfl, ?_⟩; have n0_ := Aside0.mk (Kd.R_below (by (with_reducible repeat (first | apply Kd.R_alloc | apply Kd.R_drewN | apply Kd.R_drew)); exact HO_4.out) hb); have n1_ := Aside0.mk (below_step (by repeat (first | (with_reducible first | exact HB.out | apply below_alloc | apply pw_below_drewN | apply below_drew1) | exact HB.out)) hb); clear HO_4; clear HB; have HO_4 := n0_; have HB := n1_; clear n0_ n1_; (try clear hb); (try clear hb2); (try clear hk); (try clear hi)) | ((with_reducible refine gate_builtin (b := .append) (xs := #[.tmp 33, .tmp 35]) rfl ?_); at_builtin; refine Kd.R_append (Kd.int .i64) (w0 := w) w.heap.size rfl (.tmp 33) (.tmp 35) 64 3 (.int .i64 0) 8 rfl Tryz.underlying64 info3 rfl (by decide) (by omega) u4 x4_1 t392 [.int .i64 t392] (fun _ => True) (fun _ => False) rfl rfl ?aP (fun _ hk => hk.elim) ?aF ?aO ?aB ?aS ?aL ?_; (case aP => exact rfl); (case aB => exact (by repeat (first | (with_reducible first | exact HB.out | apply below_alloc | apply pw_below_drewN | apply below_drew1) | exact HB.out))); (case aF => exact (fun _ _ => trivial)); (case aO => exact (by (with_reducible repeat (first | apply Kd.R_alloc | apply Kd.R_drewN | apply Kd.R_drew)); exact HO_4.out)); (case aS => exact (below_size (by repeat (first | (with_reducible first | exact HB.out | apply below_alloc | apply pw_below_drewN | apply below_drew1) | exact HB.out)))); (case aL => have := LMc10.out; omega); intro v395 w13 ho hb hg hat; rw [← Ny394.out] at ho; have n0_ := Aside0.mk (hb); have n1_ := Aside0.mk (ho); clear HB; clear HO_4; have HB := n0_; have HO396 := n1_; clear n0_ n1_; clear ho hb hg hat))
                go_roundg k1
                case measure => have := HK1.out; omega
                case rel => exact ⟨(t390), (y394), (by first | rfl | (simp; done) | (simp [*]; done)), H', ⟨by have := HK1.out; omega⟩, ⟨by (with_reducible repeat (first | apply Kd.R_alloc | apply Kd.R_drewN | apply Kd.R_drew)); exact HO396.out⟩, ⟨by repeat (first | (with_reducible first | exact HB.out | apply below_alloc | apply pw_below_drewN | apply below_drew1) | exact HB.out)⟩⟩
              · rw [if_neg c10] at H
                exact absurd H (by simp)
          · replace c6 := Bool.eq_false_iff.mpr c6
            subst c6
            have H1 : (some (([] : List Int), false)) = some (r1, r2) := by rw [if_neg (show ¬ (false = true) by decide)] at H; exact H
            clear H
            have H := H1
            clear H1
            simp only [Option.some.injEq, Prod.mk.injEq] at H
            obtain ⟨rfl, rfl⟩ := H
            go_wp2_with (first | ((with_reducible refine gate_callee (f := 41) rfl ?_); refine goesL_ (some 14) rfl rfl Tryz.func41 (by kernel_rfl) rfl #[.string x0_1, .string (⟨#[32]⟩ : ByteArray)] rfl (by (try simp only [List.map_toArray, List.map_cons, List.map_nil]); first | done | rfl | (simp only [List.length_drop, List.length_take]; rfl)) ?_; (with_reducible refine (strings_Cut.calls x0_1 (⟨#[32]⟩ : ByteArray) t389 t390 true _ ?side1 A3.out).mono ?_); (case side1 => exact HG_maxLen.out.below (by repeat (first | (with_reducible first | exact HB.out | apply below_alloc | apply pw_below_drewN | apply below_drew1) | exact HB.out))); rintro e w14 ⟨rfl, hb⟩; refine ⟨_, rfl, ?_⟩; have n0_ := Aside0.mk (Kd.R_below (by (with_reducible repeat (first | apply Kd.R_alloc | apply Kd.R_drewN | apply Kd.R_drew)); exact HO_4.out) hb); have n1_ := Aside0.mk (below_step (by repeat (first | (with_reducible first | exact HB.out | apply below_alloc | apply pw_below_drewN | apply below_drew1) | exact HB.out)) hb); clear HO_4; clear HB; have HO_4 := n0_; have HB := n1_; clear n0_ n1_; (try clear hb); (try clear hb2); (try clear hk); (try clear hi)) | ((with_reducible refine gate_callee (f := 43) rfl ?_); refine goesL_ (some 20) rfl rfl Tryz.func43 (by kernel_rfl) rfl #[.string t389] rfl (by (try simp only [List.map_toArray, List.map_cons, List.map_nil]); first | done | rfl | (simp only [List.length_drop, List.length_take]; rfl)) ?_; (with_reducible refine (clause_number.calls t389 t392 false _ ?side1 ?side2 A4.out).mono ?_); (case side1 => exact HG_numErr.out.below (by repeat (first | (with_reducible first | exact HB.out | apply below_alloc | apply pw_below_drewN | apply below_drew1) | exact HB.out))); (case side2 => exact HG_pow10.out.below (by repeat (first | (with_reducible first | exact HB.out | apply below_alloc | apply pw_below_drewN | apply below_drew1) | exact HB.out))); rintro e w15 ⟨rfl, hb⟩; refine ⟨_, rfl, ?_⟩; have n0_ := Aside0.mk (Kd.R_below (by (with_reducible repeat (first | apply Kd.R_alloc | apply Kd.R_drewN | apply Kd.R_drew)); exact HO_4.out) hb); have n1_ := Aside0.mk (below_step (by repeat (first | (with_reducible first | exact HB.out | apply below_alloc | apply pw_below_drewN | apply below_drew1) | exact HB.out)) hb); clear HO_4; clear HB; have HO_4 := n0_; have HB := n1_; clear n0_ n1_; (try clear hb); (try clear hb2); (try clear hk); (try clear hi)))
            go_ret2
            exact ⟨_, by first | rfl | (simp [errW_none, errW_some] <;> rfl) | (simp [*, errW_none, errW_some] <;> rfl), by first | exact Kd.R_nil _ _ _ _ _ | exact Kd.N_nil _ _ _ _ _ | exact Kd.V_nil _ _ _ _ _ | exact Kd.Q_nil _ _ _ _ _ | exact Kd.S_nil _ _ _ _ _, by repeat (first | (with_reducible first | exact HB.out | apply below_alloc | apply pw_below_drewN | apply below_drew1) | exact HB.out)⟩
        · replace c5 := Bool.eq_false_iff.mpr c5
          subst c5
          have H1 : (some (([] : List Int), false)) = some (r1, r2) := by rw [if_neg (show ¬ (false = true) by decide)] at H; exact H
          clear H
          have H := H1
          clear H1
          simp only [Option.some.injEq, Prod.mk.injEq] at H
          obtain ⟨rfl, rfl⟩ := H
          go_wp2_with (first | ((with_reducible refine gate_callee (f := 41) rfl ?_); refine goesL_ (some 14) rfl rfl Tryz.func41 (by kernel_rfl) rfl #[.string x0_1, .string (⟨#[32]⟩ : ByteArray)] rfl (by (try simp only [List.map_toArray, List.map_cons, List.map_nil]); first | done | rfl | (simp only [List.length_drop, List.length_take]; rfl)) ?_; (with_reducible refine (strings_Cut.calls x0_1 (⟨#[32]⟩ : ByteArray) t389 t390 false _ ?side1 A3.out).mono ?_); (case side1 => exact HG_maxLen.out.below (by repeat (first | (with_reducible first | exact HB.out | apply below_alloc | apply pw_below_drewN | apply below_drew1) | exact HB.out))); rintro e w16 ⟨rfl, hb⟩; refine ⟨_, rfl, ?_⟩; have n0_ := Aside0.mk (Kd.R_below (by (with_reducible repeat (first | apply Kd.R_alloc | apply Kd.R_drewN | apply Kd.R_drew)); exact HO_4.out) hb); have n1_ := Aside0.mk (below_step (by repeat (first | (with_reducible first | exact HB.out | apply below_alloc | apply pw_below_drewN | apply below_drew1) | exact HB.out)) hb); clear HO_4; clear HB; have HO_4 := n0_; have HB := n1_; clear n0_ n1_; (try clear hb); (try clear hb2); (try clear hk); (try clear hi)) | ((with_reducible refine gate_callee (f := 43) rfl ?_); refine goesL_ (some 20) rfl rfl Tryz.func43 (by kernel_rfl) rfl #[.string t389] rfl (by (try simp only [List.map_toArray, List.map_cons, List.map_nil]); first | done | rfl | (simp only [List.length_drop, List.length_take]; rfl)) ?_; (with_reducible refine (clause_number.calls t389 t392 t393 _ ?side1 ?side2 A4.out).mono ?_); (case side1 => exact HG_numErr.out.below (by repeat (first | (with_reducible first | exact HB.out | apply below_alloc | apply pw_below_drewN | apply below_drew1) | exact HB.out))); (case side2 => exact HG_pow10.out.below (by repeat (first | (with_reducible first | exact HB.out | apply below_alloc | apply pw_below_drewN | apply below_drew1) | exact HB.out))); rintro e w17 ⟨rfl, hb⟩; refine ⟨_, rfl, ?_⟩; have n0_ := Aside0.mk (Kd.R_below (by (with_reducible repeat (first | apply Kd.R_alloc | apply Kd.R_drewN | apply Kd.R_drew)); exact HO_4.out) hb); have n1_ := Aside0.mk (below_step (by repeat (first | (with_reducible first | exact HB.out | apply below_alloc | apply pw_below_drewN | apply below_drew1) | exact HB.out)) hb); clear HO_4; clear HB; have HO_4 := n0_; have HB := n1_; clear n0_ n1_; (try clear hb); (try clear hb2); (try clear hk); (try clear hi)))
          go_ret2
          exact ⟨_, by first | rfl | (simp [errW_none, errW_some] <;> rfl) | (simp [*, errW_none, errW_some] <;> rfl), by first | exact Kd.R_nil _ _ _ _ _ | exact Kd.N_nil _ _ _ _ _ | exact Kd.V_nil _ _ _ _ _ | exact Kd.Q_nil _ _ _ _ _ | exact Kd.S_nil _ _ _ _ _, by repeat (first | (with_reducible first | exact HB.out | apply below_alloc | apply pw_below_drewN | apply below_drew1) | exact HB.out)⟩

/-! ### clause_Parse: function 19 -/
mutual
def clause_Parse.j0 : Nat → ByteArray → Int → Int → Bool → Option (Int × (List (List Int)) × Int)
  | 0, _, _, _, _ => none
  | k + 1, x6, x12, x14, x67 => if x67 = true then (some (0, ([] : List (List Int)), 5)) else (clause_Parse.l0 k x6 x12 x14 ([] : List (List Int)))
def clause_Parse.l0 : Nat → ByteArray → Int → Int → List (List Int) → Option (Int × (List (List Int)) × Int)
  | 0, _, _, _, _ => none
  | k + 1, x6, x12, x14, x16 => if x6.toList = ([] : List UInt8) then (if (x16.length : Int) = x14 then ((clause_Right.f x12 x16).bind fun t409 => (if t409 = true then (some (x12, x16, 0)) else (some (0, ([] : List (List Int)), 5)))) else (some (0, ([] : List (List Int)), 5))) else ((strings_Cut.f x6 (⟨#[10]⟩ : ByteArray)).bind fun bt410 => ((clause_read.f k bt410.1).bind fun bt413 => (if bt410.2.2 = true then (if bt413.2 = true then (if x16.length < 5864062014805 then (clause_Parse.l0 k bt410.2.1 x12 x14 (x16 ++ [bt413.1])) else (none)) else (some (0, ([] : List (List Int)), 5))) else (some (0, ([] : List (List Int)), 5)))))
end
def clause_Parse.f (k : Nat) (a0 : ByteArray) : Option (Int × (List (List Int)) × Int) := if (a0.size : Int) > 60000 then (some (0, ([] : List (List Int)), 9)) else ((strings_Cut.f a0 (⟨#[10]⟩ : ByteArray)).bind fun bt397 => ((strings_CutPrefix.f bt397.1 (⟨#[112, 32, 99, 110, 102, 32]⟩ : ByteArray)).bind fun bt400 => ((strings_Cut.f bt400.1 (⟨#[32]⟩ : ByteArray)).bind fun bt402 => ((clause_number.f bt402.1).bind fun bt405 => ((clause_number.f bt402.2.1).bind fun bt407 => (if bt397.2.2 = true then (if bt400.2 = true then (if bt402.2.2 = true then (if bt405.2 = true then (clause_Parse.j0 k bt397.2.1 bt405.1 bt407.1 (!bt407.2)) else (clause_Parse.j0 k bt397.2.1 bt405.1 bt407.1 true)) else (clause_Parse.j0 k bt397.2.1 bt405.1 bt407.1 true)) else (clause_Parse.j0 k bt397.2.1 bt405.1 bt407.1 true)) else (clause_Parse.j0 k bt397.2.1 bt405.1 bt407.1 true)))))))
set_option maxHeartbeats 8000000 in
set_option maxRecDepth 100000 in
theorem clause_Parse.calls (k : Nat) (a0 : ByteArray) (r1 : Int) (r2 : List (List Int)) (r3 : Int) (w : World) (hG_maxLen : GlobMaxLen w) (hG_numErr : GlobNumErr w) (hG_pow10 : GlobPow10 w) (h : clause_Parse.f k a0 = some (r1, r2, r3)) :
    Calls Tryz.prog 19 #[.string a0] w fun e w' => ∃ v1_ : Value, e = .returned (.tuple #[.int .i64 r1, v1_, .int .i64 r3]) ∧ Kd.S (Kd.slice 3 (Kd.int .i64)) 64 w' w.heap.size (fun _ => True) v1_ r2 ∧ Below w.heap.size w w' := by
  have HG_maxLen := Aside0.mk hG_maxLen
  clear hG_maxLen
  have HG_numErr := Aside0.mk hG_numErr
  clear hG_numErr
  have HG_pow10 := Aside0.mk hG_pow10
  clear hG_pow10
  have HB := Aside0.mk (Below.refl w.heap.size w)
  have H : (if (a0.size : Int) > 60000 then (some (0, ([] : List (List Int)), 9)) else ((strings_Cut.f a0 (⟨#[10]⟩ : ByteArray)).bind fun bt397 => ((strings_CutPrefix.f bt397.1 (⟨#[112, 32, 99, 110, 102, 32]⟩ : ByteArray)).bind fun bt400 => ((strings_Cut.f bt400.1 (⟨#[32]⟩ : ByteArray)).bind fun bt402 => ((clause_number.f bt402.1).bind fun bt405 => ((clause_number.f bt402.2.1).bind fun bt407 => (if bt397.2.2 = true then (if bt400.2 = true then (if bt402.2.2 = true then (if bt405.2 = true then (clause_Parse.j0 k bt397.2.1 bt405.1 bt407.1 (!bt407.2)) else (clause_Parse.j0 k bt397.2.1 bt405.1 bt407.1 true)) else (clause_Parse.j0 k bt397.2.1 bt405.1 bt407.1 true)) else (clause_Parse.j0 k bt397.2.1 bt405.1 bt407.1 true)) else (clause_Parse.j0 k bt397.2.1 bt405.1 bt407.1 true)))))))) = some (r1, r2, r3) := h
  clear h
  by_cases c2 : (a0.size : Int) > 60000
  · rw [if_pos c2] at H
    have c2b0 : decide (60000 < (a0.size : Int)) = true := decide_eq_true c2
    have c2b1 : decide (60000 < a0.size) = true := decide_eq_true (by omega)
    clear c2
    simp only [Option.some.injEq, Prod.mk.injEq] at H
    obtain ⟨rfl, rfl, rfl⟩ := H
    go_enter Tryz.func19, Tryz.ntmps19
    go_wp2
    go_ret3
    exact ⟨_, by first | rfl | (simp [errW_none, errW_some] <;> rfl) | (simp [*, errW_none, errW_some] <;> rfl), by first | exact Kd.S_nil _ _ _ _ _ | exact Kd.N_nil _ _ _ _ _ | exact Kd.V_nil _ _ _ _ _ | exact Kd.Q_nil _ _ _ _ _ | exact Kd.R_nil _ _ _ _ _, by repeat (first | (with_reducible first | exact HB.out | apply below_alloc | apply pw_below_drewN | apply below_drew1) | exact HB.out)⟩
  · rw [if_neg c2] at H
    have c2b0 : decide (60000 < (a0.size : Int)) = false := decide_eq_false c2
    have c2b1 : decide (60000 < a0.size) = false := decide_eq_false (by omega)
    clear c2
    replace H := Option.bind_eq_some_iff.mp H
    obtain ⟨⟨t397, t398, t399⟩, A30, H⟩ := H
    replace H : ((strings_CutPrefix.f t397 (⟨#[112, 32, 99, 110, 102, 32]⟩ : ByteArray)).bind fun bt400 => ((strings_Cut.f bt400.1 (⟨#[32]⟩ : ByteArray)).bind fun bt402 => ((clause_number.f bt402.1).bind fun bt405 => ((clause_number.f bt402.2.1).bind fun bt407 => (if t399 = true then (if bt400.2 = true then (if bt402.2.2 = true then (if bt405.2 = true then (clause_Parse.j0 k t398 bt405.1 bt407.1 (!bt407.2)) else (clause_Parse.j0 k t398 bt405.1 bt407.1 true)) else (clause_Parse.j0 k t398 bt405.1 bt407.1 true)) else (clause_Parse.j0 k t398 bt405.1 bt407.1 true)) else (clause_Parse.j0 k t398 bt405.1 bt407.1 true)))))) = some (r1, r2, r3) := H
    have A3 := Aside0.mk A30
    clear A30
    replace H := Option.bind_eq_some_iff.mp H
    obtain ⟨⟨t400, t401⟩, A40, H⟩ := H
    replace H : ((strings_Cut.f t400 (⟨#[32]⟩ : ByteArray)).bind fun bt402 => ((clause_number.f bt402.1).bind fun bt405 => ((clause_number.f bt402.2.1).bind fun bt407 => (if t399 = true then (if t401 = true then (if bt402.2.2 = true then (if bt405.2 = true then (clause_Parse.j0 k t398 bt405.1 bt407.1 (!bt407.2)) else (clause_Parse.j0 k t398 bt405.1 bt407.1 true)) else (clause_Parse.j0 k t398 bt405.1 bt407.1 true)) else (clause_Parse.j0 k t398 bt405.1 bt407.1 true)) else (clause_Parse.j0 k t398 bt405.1 bt407.1 true))))) = some (r1, r2, r3) := H
    have A4 := Aside0.mk A40
    clear A40
    replace H := Option.bind_eq_some_iff.mp H
    obtain ⟨⟨t402, t403, t404⟩, A50, H⟩ := H
    replace H : ((clause_number.f t402).bind fun bt405 => ((clause_number.f t403).bind fun bt407 => (if t399 = true then (if t401 = true then (if t404 = true then (if bt405.2 = true then (clause_Parse.j0 k t398 bt405.1 bt407.1 (!bt407.2)) else (clause_Parse.j0 k t398 bt405.1 bt407.1 true)) else (clause_Parse.j0 k t398 bt405.1 bt407.1 true)) else (clause_Parse.j0 k t398 bt405.1 bt407.1 true)) else (clause_Parse.j0 k t398 bt405.1 bt407.1 true)))) = some (r1, r2, r3) := H
    have A5 := Aside0.mk A50
    clear A50
    replace H := Option.bind_eq_some_iff.mp H
    obtain ⟨⟨t405, t406⟩, A60, H⟩ := H
    replace H : ((clause_number.f t403).bind fun bt407 => (if t399 = true then (if t401 = true then (if t404 = true then (if t406 = true then (clause_Parse.j0 k t398 t405 bt407.1 (!bt407.2)) else (clause_Parse.j0 k t398 t405 bt407.1 true)) else (clause_Parse.j0 k t398 t405 bt407.1 true)) else (clause_Parse.j0 k t398 t405 bt407.1 true)) else (clause_Parse.j0 k t398 t405 bt407.1 true))) = some (r1, r2, r3) := H
    have A6 := Aside0.mk A60
    clear A60
    replace H := Option.bind_eq_some_iff.mp H
    obtain ⟨⟨t407, t408⟩, A70, H⟩ := H
    replace H : (if t399 = true then (if t401 = true then (if t404 = true then (if t406 = true then (clause_Parse.j0 k t398 t405 t407 (!t408)) else (clause_Parse.j0 k t398 t405 t407 true)) else (clause_Parse.j0 k t398 t405 t407 true)) else (clause_Parse.j0 k t398 t405 t407 true)) else (clause_Parse.j0 k t398 t405 t407 true)) = some (r1, r2, r3) := H
    have A7 := Aside0.mk A70
    clear A70
    have HC8 := Aside0.mk H
    clear H
    go_enter Tryz.func19, Tryz.ntmps19
    go_upto_region 8 with (first | ((with_reducible refine gate_callee (f := 41) rfl ?_); refine goesL_ (some 25) rfl rfl Tryz.func41 (by kernel_rfl) rfl #[.string a0, .string (⟨#[10]⟩ : ByteArray)] rfl (by (try simp only [List.map_toArray, List.map_cons, List.map_nil]); first | done | rfl | (simp only [List.length_drop, List.length_take]; rfl)) ?_; (with_reducible refine (strings_Cut.calls a0 (⟨#[10]⟩ : ByteArray) t397 t398 t399 _ ?side1 A3.out).mono ?_); (case side1 => exact HG_maxLen.out.below (by repeat (first | (with_reducible first | exact HB.out | apply below_alloc | apply pw_below_drewN | apply below_drew1) | exact HB.out))); rintro e w9 ⟨rfl, hb⟩; refine ⟨_, rfl, ?_⟩; have n0_ := Aside0.mk (below_step (by repeat (first | (with_reducible first | exact HB.out | apply below_alloc | apply pw_below_drewN | apply below_drew1) | exact HB.out)) hb); clear HB; have HB := n0_; clear n0_; (try clear hb); (try clear hb2); (try clear hk); (try clear hi)) | ((with_reducible refine gate_callee (f := 42) rfl ?_); refine goesL_ (some 31) rfl rfl Tryz.func42 (by kernel_rfl) rfl #[.string t397, .string (⟨#[112, 32, 99, 110, 102, 32]⟩ : ByteArray)] rfl (by (try simp only [List.map_toArray, List.map_cons, List.map_nil]); first | done | rfl | (simp only [List.length_drop, List.length_take]; rfl)) ?_; (with_reducible refine (strings_CutPrefix.calls t397 (⟨#[112, 32, 99, 110, 102, 32]⟩ : ByteArray) t400 t401 _ A4.out).mono ?_); rintro e w' ⟨rfl, ⟨nd, rfl⟩⟩; refine ⟨_, rfl, ?_⟩) | ((with_reducible refine gate_callee (f := 41) rfl ?_); refine goesL_ (some 36) rfl rfl Tryz.func41 (by kernel_rfl) rfl #[.string t400, .string (⟨#[32]⟩ : ByteArray)] rfl (by (try simp only [List.map_toArray, List.map_cons, List.map_nil]); first | done | rfl | (simp only [List.length_drop, List.length_take]; rfl)) ?_; (with_reducible refine (strings_Cut.calls t400 (⟨#[32]⟩ : ByteArray) t402 t403 t404 _ ?side1 A5.out).mono ?_); (case side1 => exact HG_maxLen.out.below (by repeat (first | (with_reducible first | exact HB.out | apply below_alloc | apply pw_below_drewN | apply below_drew1) | exact HB.out))); rintro e w10 ⟨rfl, hb⟩; refine ⟨_, rfl, ?_⟩; have n0_ := Aside0.mk (below_step (by repeat (first | (with_reducible first | exact HB.out | apply below_alloc | apply pw_below_drewN | apply below_drew1) | exact HB.out)) hb); clear HB; have HB := n0_; clear n0_; (try clear hb); (try clear hb2); (try clear hk); (try clear hi)) | ((with_reducible refine gate_callee (f := 43) rfl ?_); refine goesL_ (some 42) rfl rfl Tryz.func43 (by kernel_rfl) rfl #[.string t402] rfl (by (try simp only [List.map_toArray, List.map_cons, List.map_nil]); first | done | rfl | (simp only [List.length_drop, List.length_take]; rfl)) ?_; (with_reducible refine (clause_number.calls t402 t405 t406 _ ?side1 ?side2 A6.out).mono ?_); (case side1 => exact HG_numErr.out.below (by repeat (first | (with_reducible first | exact HB.out | apply below_alloc | apply pw_below_drewN | apply below_drew1) | exact HB.out))); (case side2 => exact HG_pow10.out.below (by repeat (first | (with_reducible first | exact HB.out | apply below_alloc | apply pw_below_drewN | apply below_drew1) | exact HB.out))); rintro e w11 ⟨rfl, hb⟩; refine ⟨_, rfl, ?_⟩; have n0_ := Aside0.mk (below_step (by repeat (first | (with_reducible first | exact HB.out | apply below_alloc | apply pw_below_drewN | apply below_drew1) | exact HB.out)) hb); clear HB; have HB := n0_; clear n0_; (try clear hb); (try clear hb2); (try clear hk); (try clear hi)) | ((with_reducible refine gate_callee (f := 43) rfl ?_); refine goesL_ (some 47) rfl rfl Tryz.func43 (by kernel_rfl) rfl #[.string t403] rfl (by (try simp only [List.map_toArray, List.map_cons, List.map_nil]); first | done | rfl | (simp only [List.length_drop, List.length_take]; rfl)) ?_; (with_reducible refine (clause_number.calls t403 t407 t408 _ ?side1 ?side2 A7.out).mono ?_); (case side1 => exact HG_numErr.out.below (by repeat (first | (with_reducible first | exact HB.out | apply below_alloc | apply pw_below_drewN | apply below_drew1) | exact HB.out))); (case side2 => exact HG_pow10.out.below (by repeat (first | (with_reducible first | exact HB.out | apply below_alloc | apply pw_below_drewN | apply below_drew1) | exact HB.out))); rintro e w12 ⟨rfl, hb⟩; refine ⟨_, rfl, ?_⟩; have n0_ := Aside0.mk (below_step (by repeat (first | (with_reducible first | exact HB.out | apply below_alloc | apply pw_below_drewN | apply below_drew1) | exact HB.out)) hb); clear HB; have HB := n0_; clear n0_; (try clear hb); (try clear hb2); (try clear hk); (try clear hi)))
    (try simp only [Act.put, List.setIfInBounds_toArray, List.set_cons_zero, List.set_cons_succ])
    go_cut [67] (fun v67 wc => ∃ (kq : Nat) (x67_7 : Bool), v67 = .bool x67_7 ∧ Aside0 (clause_Parse.j0 kq t398 t405 t407 x67_7 = some (r1, r2, r3)) ∧ Aside0 (kq ≤ k) ∧ Aside0 (Below w.heap.size w wc))
    case first =>
      have H := HC8.out
      clear HC8
      by_cases c13 : t399 = true
      · subst c13
        have H1 : (if t401 = true then (if t404 = true then (if t406 = true then (clause_Parse.j0 k t398 t405 t407 (!t408)) else (clause_Parse.j0 k t398 t405 t407 true)) else (clause_Parse.j0 k t398 t405 t407 true)) else (clause_Parse.j0 k t398 t405 t407 true)) = some (r1, r2, r3) := by rw [if_pos rfl] at H; exact H
        clear H
        have H := H1
        clear H1
        by_cases c14 : t401 = true
        · subst c14
          have H1 : (if t404 = true then (if t406 = true then (clause_Parse.j0 k t398 t405 t407 (!t408)) else (clause_Parse.j0 k t398 t405 t407 true)) else (clause_Parse.j0 k t398 t405 t407 true)) = some (r1, r2, r3) := by rw [if_pos rfl] at H; exact H
          clear H
          have H := H1
          clear H1
          by_cases c15 : t404 = true
          · subst c15
            have H1 : (if t406 = true then (clause_Parse.j0 k t398 t405 t407 (!t408)) else (clause_Parse.j0 k t398 t405 t407 true)) = some (r1, r2, r3) := by rw [if_pos rfl] at H; exact H
            clear H
            have H := H1
            clear H1
            by_cases c16 : t406 = true
            · subst c16
              have H1 : (clause_Parse.j0 k t398 t405 t407 (!t408)) = some (r1, r2, r3) := by rw [if_pos rfl] at H; exact H
              clear H
              have H := H1
              clear H1
              have H' := Aside0.mk H
              clear H
              go_wp2
              go_meet
              case rel => exact ⟨_, (!t408), (by first | rfl | (simp; done) | (simp [*]; done)), H', ⟨by first | omega | exact Nat.le_refl _⟩, ⟨by repeat (first | (with_reducible first | exact HB.out | apply below_alloc | apply pw_below_drewN | apply below_drew1) | exact HB.out)⟩⟩
            · replace c16 := Bool.eq_false_iff.mpr c16
              subst c16
              have H1 : (clause_Parse.j0 k t398 t405 t407 true) = some (r1, r2, r3) := by rw [if_neg (show ¬ (false = true) by decide)] at H; exact H
              clear H
              have H := H1
              clear H1
              have H' := Aside0.mk H
              clear H
              go_wp2
              go_meet
              case rel => exact ⟨_, (true), (by first | rfl | (simp; done) | (simp [*]; done)), H', ⟨by first | omega | exact Nat.le_refl _⟩, ⟨by repeat (first | (with_reducible first | exact HB.out | apply below_alloc | apply pw_below_drewN | apply below_drew1) | exact HB.out)⟩⟩
          · replace c15 := Bool.eq_false_iff.mpr c15
            subst c15
            have H1 : (clause_Parse.j0 k t398 t405 t407 true) = some (r1, r2, r3) := by rw [if_neg (show ¬ (false = true) by decide)] at H; exact H
            clear H
            have H := H1
            clear H1
            have H' := Aside0.mk H
            clear H
            go_wp2
            go_meet
            case rel => exact ⟨_, (true), (by first | rfl | (simp; done) | (simp [*]; done)), H', ⟨by first | omega | exact Nat.le_refl _⟩, ⟨by repeat (first | (with_reducible first | exact HB.out | apply below_alloc | apply pw_below_drewN | apply below_drew1) | exact HB.out)⟩⟩
        · replace c14 := Bool.eq_false_iff.mpr c14
          subst c14
          have H1 : (clause_Parse.j0 k t398 t405 t407 true) = some (r1, r2, r3) := by rw [if_neg (show ¬ (false = true) by decide)] at H; exact H
          clear H
          have H := H1
          clear H1
          have H' := Aside0.mk H
          clear H
          go_wp2
          go_meet
          case rel => exact ⟨_, (true), (by first | rfl | (simp; done) | (simp [*]; done)), H', ⟨by first | omega | exact Nat.le_refl _⟩, ⟨by repeat (first | (with_reducible first | exact HB.out | apply below_alloc | apply pw_below_drewN | apply below_drew1) | exact HB.out)⟩⟩
      · replace c13 := Bool.eq_false_iff.mpr c13
        subst c13
        have H1 : (clause_Parse.j0 k t398 t405 t407 true) = some (r1, r2, r3) := by rw [if_neg (show ¬ (false = true) by decide)] at H; exact H
        clear H
        have H := H1
        clear H1
        have H' := Aside0.mk H
        clear H
        go_wp2
        go_meet
        case rel => exact ⟨_, (true), (by first | rfl | (simp; done) | (simp [*]; done)), H', ⟨by first | omega | exact Nat.le_refl _⟩, ⟨by repeat (first | (with_reducible first | exact HB.out | apply below_alloc | apply pw_below_drewN | apply below_drew1) | exact HB.out)⟩⟩
    case rest =>
      clear HC8
      try clear c1
      try clear c2
      try clear c2b0
      try clear c2b1
      try clear p2
      try clear c4
      try clear c13
      try clear c14
      try clear c15
      try clear c16
      obtain ⟨kq, x67_7, rfl, HA, HJ7, HB⟩ := hcut
      cases kq with
      | zero => exact absurd HA.out (by simp [clause_Parse.j0])
      | succ kj7 =>
        have H := HA.out
        clear HA
        simp only [clause_Parse.j0] at H
        by_cases c17 : x67_7 = true
        · subst c17
          have H1 : (some (0, ([] : List (List Int)), 5)) = some (r1, r2, r3) := by rw [if_pos rfl] at H; exact H
          clear H
          have H := H1
          clear H1
          simp only [Option.some.injEq, Prod.mk.injEq] at H
          obtain ⟨rfl, rfl, rfl⟩ := H
          go_wp2
          go_ret3
          exact ⟨_, by first | rfl | (simp [errW_none, errW_some] <;> rfl) | (simp [*, errW_none, errW_some] <;> rfl), by first | exact Kd.S_nil _ _ _ _ _ | exact Kd.N_nil _ _ _ _ _ | exact Kd.V_nil _ _ _ _ _ | exact Kd.Q_nil _ _ _ _ _ | exact Kd.R_nil _ _ _ _ _, by repeat (first | (with_reducible first | exact HB.out | apply below_alloc | apply pw_below_drewN | apply below_drew1) | exact HB.out)⟩
        · replace c17 := Bool.eq_false_iff.mpr c17
          subst c17
          have H1 : (clause_Parse.l0 kj7 t398 t405 t407 ([] : List (List Int))) = some (r1, r2, r3) := by rw [if_neg (show ¬ (false = true) by decide)] at H; exact H
          clear H
          have H := H1
          clear H1
          have H' := Aside0.mk H
          clear H
          go_wp2
          go_loopg [6, 16] kj7 (fun kq v6 v16 w' => ∃ (x6_2 : ByteArray) (x16_2 : List (List Int)), v6 = .string x6_2 ∧ Aside0 (clause_Parse.l0 kq x6_2 t405 t407 x16_2 = some (r1, r2, r3)) ∧ Aside0 (kq ≤ kj7) ∧ Aside0 (Kd.S (Kd.slice 3 (Kd.int .i64)) 64 w' w.heap.size (fun _ => True) v16 x16_2) ∧ Aside0 (Below w.heap.size w w'))
          case atStart => exact ⟨(t398), (([] : List (List Int))), (by first | rfl | (simp; done) | (simp [*]; done)), H', ⟨Nat.le_refl _⟩, ⟨by first | exact Kd.S_nil _ _ _ _ _ | exact Kd.N_nil _ _ _ _ _ | exact Kd.V_nil _ _ _ _ _ | exact Kd.Q_nil _ _ _ _ _ | exact Kd.R_nil _ _ _ _ _⟩, ⟨by repeat (first | (with_reducible first | exact HB.out | apply below_alloc | apply pw_below_drewN | apply below_drew1) | exact HB.out)⟩⟩
          case round =>
            clear H'
            try clear c1
            try clear c2
            try clear c2b0
            try clear c2b1
            try clear p2
            try clear c4
            try clear c13
            try clear c14
            try clear c15
            try clear c16
            try clear c17
            try clear p2
            obtain ⟨x6_2, x16_2, rfl, HA, HK2, HO_16, HB⟩ := hrel
            cases gk with
            | zero => exact absurd HA.out (by simp [clause_Parse.l0])
            | succ k2 =>
              have H := HA.out
              clear HA
              simp only [clause_Parse.l0] at H
              by_cases c18 : x6_2.toList = ([] : List UInt8)
              · rw [if_pos c18] at H
                have c18b0 : (x6_2.toList == ([] : List UInt8)) = true := beq_iff_eq.mpr c18
                have c18b1 : (x6_2.toList != ([] : List UInt8)) = false := bne_eq_false_iff_eq.mpr c18
                clear c18
                by_cases c19 : (x16_2.length : Int) = t407
                · rw [if_pos c19] at H
                  have c19b0 : ((x16_2.length : Int) == t407) = true := beq_iff_eq.mpr c19
                  have c19b1 : ((x16_2.length : Int) != t407) = false := bne_eq_false_iff_eq.mpr c19
                  clear c19
                  replace H := Option.bind_eq_some_iff.mp H
                  obtain ⟨t409, A200, H⟩ := H
                  replace H : (if t409 = true then (some (t405, x16_2, 0)) else (some (0, ([] : List (List Int)), 5))) = some (r1, r2, r3) := H
                  have A20 := Aside0.mk A200
                  clear A200
                  by_cases c21 : t409 = true
                  · subst c21
                    have H1 : (some (t405, x16_2, 0)) = some (r1, r2, r3) := by rw [if_pos rfl] at H; exact H
                    clear H
                    have H := H1
                    clear H1
                    simp only [Option.some.injEq, Prod.mk.injEq] at H
                    obtain ⟨rfl, rfl, rfl⟩ := H
                    obtain ⟨Ao22, co22, eo22⟩ := Kd.S_slice HO_16.out
                    subst eo22
                    go_wp2_with (first | (go_at_call 20; (with_reducible refine (clause_Right.calls t405 _ _ x16_2 true _ ?side1 ?side2 A20.out).mono ?_); (case side1 => repeat (first | exact (Kd.S_reads' HO_16.out).2.2 | (with_reducible refine Kd.C_alloc ?_ _) | (with_reducible refine Kd.C_drewN ?_ _) | (with_reducible refine Kd.C_drew ?_))); (case side2 => exact (Kd.S_reads' HO_16.out).2.1); rintro e w23 ⟨rfl, hb⟩; have n0_ := Aside0.mk (Kd.S_below (by (with_reducible repeat (first | apply Kd.S_alloc | apply Kd.S_drewN | apply Kd.S_drew)); exact HO_16.out) hb); have n1_ := Aside0.mk (below_step (by repeat (first | (with_reducible first | exact HB.out | apply below_alloc | apply pw_below_drewN | apply below_drew1) | exact HB.out)) hb); clear HO_16; clear HB; have HO_16 := n0_; have HB := n1_; clear n0_ n1_; (try clear hb); (try clear hb2); (try clear hk); (try clear hi)))
                    go_ret3
                    exact ⟨_, by first | rfl | (simp [errW_none, errW_some] <;> rfl) | (simp [*, errW_none, errW_some] <;> rfl), by (with_reducible repeat (first | apply Kd.S_alloc | apply Kd.S_drewN | apply Kd.S_drew)); exact HO_16.out, by repeat (first | (with_reducible first | exact HB.out | apply below_alloc | apply pw_below_drewN | apply below_drew1) | exact HB.out)⟩
                  · replace c21 := Bool.eq_false_iff.mpr c21
                    subst c21
                    have H1 : (some (0, ([] : List (List Int)), 5)) = some (r1, r2, r3) := by rw [if_neg (show ¬ (false = true) by decide)] at H; exact H
                    clear H
                    have H := H1
                    clear H1
                    simp only [Option.some.injEq, Prod.mk.injEq] at H
                    obtain ⟨rfl, rfl, rfl⟩ := H
                    obtain ⟨Ao24, co24, eo24⟩ := Kd.S_slice HO_16.out
                    subst eo24
                    go_wp2_with (first | (go_at_call 20; (with_reducible refine (clause_Right.calls t405 _ _ x16_2 false _ ?side1 ?side2 A20.out).mono ?_); (case side1 => repeat (first | exact (Kd.S_reads' HO_16.out).2.2 | (with_reducible refine Kd.C_alloc ?_ _) | (with_reducible refine Kd.C_drewN ?_ _) | (with_reducible refine Kd.C_drew ?_))); (case side2 => exact (Kd.S_reads' HO_16.out).2.1); rintro e w25 ⟨rfl, hb⟩; have n0_ := Aside0.mk (Kd.S_below (by (with_reducible repeat (first | apply Kd.S_alloc | apply Kd.S_drewN | apply Kd.S_drew)); exact HO_16.out) hb); have n1_ := Aside0.mk (below_step (by repeat (first | (with_reducible first | exact HB.out | apply below_alloc | apply pw_below_drewN | apply below_drew1) | exact HB.out)) hb); clear HO_16; clear HB; have HO_16 := n0_; have HB := n1_; clear n0_ n1_; (try clear hb); (try clear hb2); (try clear hk); (try clear hi)))
                    go_ret3
                    exact ⟨_, by first | rfl | (simp [errW_none, errW_some] <;> rfl) | (simp [*, errW_none, errW_some] <;> rfl), by first | exact Kd.S_nil _ _ _ _ _ | exact Kd.N_nil _ _ _ _ _ | exact Kd.V_nil _ _ _ _ _ | exact Kd.Q_nil _ _ _ _ _ | exact Kd.R_nil _ _ _ _ _, by repeat (first | (with_reducible first | exact HB.out | apply below_alloc | apply pw_below_drewN | apply below_drew1) | exact HB.out)⟩
                · rw [if_neg c19] at H
                  have c19b0 : ((x16_2.length : Int) == t407) = false := beq_eq_false_iff_ne.mpr c19
                  have c19b1 : ((x16_2.length : Int) != t407) = true := bne_iff_ne.mpr c19
                  simp only [Option.some.injEq, Prod.mk.injEq] at H
                  obtain ⟨rfl, rfl, rfl⟩ := H
                  obtain ⟨Ao26, co26, eo26⟩ := Kd.S_slice HO_16.out
                  subst eo26
                  go_wp2
                  go_ret3
                  exact ⟨_, by first | rfl | (simp [errW_none, errW_some] <;> rfl) | (simp [*, errW_none, errW_some] <;> rfl), by first | exact Kd.S_nil _ _ _ _ _ | exact Kd.N_nil _ _ _ _ _ | exact Kd.V_nil _ _ _ _ _ | exact Kd.Q_nil _ _ _ _ _ | exact Kd.R_nil _ _ _ _ _, by repeat (first | (with_reducible first | exact HB.out | apply below_alloc | apply pw_below_drewN | apply below_drew1) | exact HB.out)⟩
              · rw [if_neg c18] at H
                have c18b0 : (x6_2.toList == ([] : List UInt8)) = false := beq_eq_false_iff_ne.mpr c18
                have c18b1 : (x6_2.toList != ([] : List UInt8)) = true := bne_iff_ne.mpr c18
                replace H := Option.bind_eq_some_iff.mp H
                obtain ⟨⟨t410, t411, t412⟩, A270, H⟩ := H
                replace H : ((clause_read.f k2 t410).bind fun bt413 => (if t412 = true then (if bt413.2 = true then (if x16_2.length < 5864062014805 then (clause_Parse.l0 k2 t411 t405 t407 (x16_2 ++ [bt413.1])) else (none)) else (some (0, ([] : List (List Int)), 5))) else (some (0, ([] : List (List Int)), 5)))) = some (r1, r2, r3) := H
                have A27 := Aside0.mk A270
                clear A270
                replace H := Option.bind_eq_some_iff.mp H
                obtain ⟨⟨t413, t414⟩, A280, H⟩ := H
                replace H : (if t412 = true then (if t414 = true then (if x16_2.length < 5864062014805 then (clause_Parse.l0 k2 t411 t405 t407 (x16_2 ++ [t413])) else (none)) else (some (0, ([] : List (List Int)), 5))) else (some (0, ([] : List (List Int)), 5))) = some (r1, r2, r3) := H
                have A28 := Aside0.mk A280
                clear A280
                by_cases c29 : t412 = true
                · subst c29
                  have H1 : (if t414 = true then (if x16_2.length < 5864062014805 then (clause_Parse.l0 k2 t411 t405 t407 (x16_2 ++ [t413])) else (none)) else (some (0, ([] : List (List Int)), 5))) = some (r1, r2, r3) := by rw [if_pos rfl] at H; exact H
                  clear H
                  have H := H1
                  clear H1
                  by_cases c30 : t414 = true
                  · subst c30
                    have H1 : (if x16_2.length < 5864062014805 then (clause_Parse.l0 k2 t411 t405 t407 (x16_2 ++ [t413])) else (none)) = some (r1, r2, r3) := by rw [if_pos rfl] at H; exact H
                    clear H
                    have H := H1
                    clear H1
                    by_cases c31 : x16_2.length < 5864062014805
                    · rw [if_pos c31] at H
                      have LMc31 := Aside0.mk c31
                      clear c31
                      obtain ⟨y417, hy417⟩ : ∃ y_ : List (List Int), y_ = (x16_2 ++ [t413]) := ⟨_, rfl⟩
                      replace H : (clause_Parse.l0 k2 t411 t405 t407 y417) = some (r1, r2, r3) := by first | (rw [hy417]; with_reducible exact H) | (have H2_ := (Option.bind_some _ _).symm.trans H; rw [hy417]; with_reducible exact H2_) | (have H2_ := (Option.bind_some _ _).symm.trans H; with_reducible exact H2_) | with_reducible exact H | (rw [hy417]; exact H) | exact H
                      have Ny417 := Aside0.mk hy417
                      clear hy417
                      have H' := Aside0.mk H
                      clear H
                      go_wp2_with (first | ((with_reducible refine gate_callee (f := 41) rfl ?_); refine goesL_ (some 72) rfl rfl Tryz.func41 (by kernel_rfl) rfl #[.string x6_2, .string (⟨#[10]⟩ : ByteArray)] rfl (by (try simp only [List.map_toArray, List.map_cons, List.map_nil]); first | done | rfl | (simp only [List.length_drop, List.length_take]; rfl)) ?_; (with_reducible refine (strings_Cut.calls x6_2 (⟨#[10]⟩ : ByteArray) t410 t411 true _ ?side1 A27.out).mono ?_); (case side1 => exact HG_maxLen.out.below (by repeat (first | (with_reducible first | exact HB.out | apply below_alloc | apply pw_below_drewN | apply below_drew1) | exact HB.out))); rintro e w32 ⟨rfl, hb⟩; refine ⟨_, rfl, ?_⟩; have n0_ := Aside0.mk (Kd.S_below (by (with_reducible repeat (first | apply Kd.S_alloc | apply Kd.S_drewN | apply Kd.S_drew)); exact HO_16.out) hb); have n1_ := Aside0.mk (below_step (by repeat (first | (with_reducible first | exact HB.out | apply below_alloc | apply pw_below_drewN | apply below_drew1) | exact HB.out)) hb); clear HO_16; clear HB; have HO_16 := n0_; have HB := n1_; clear n0_ n1_; (try clear hb); (try clear hb2); (try clear hk); (try clear hi)) | ((with_reducible refine gate_callee (f := 44) rfl ?_); refine goesL_ (some 78) rfl rfl Tryz.func44 (by kernel_rfl) rfl #[.string t410] rfl (by (try simp only [List.map_toArray, List.map_cons, List.map_nil]); first | done | rfl | (simp only [List.length_drop, List.length_take]; rfl)) ?_; (with_reducible refine (clause_read.calls k2 t410 t413 true _ ?side1 ?side2 ?side3 A28.out).mono ?_); (case side1 => exact HG_maxLen.out.below (by repeat (first | (with_reducible first | exact HB.out | apply below_alloc | apply pw_below_drewN | apply below_drew1) | exact HB.out))); (case side2 => exact HG_numErr.out.below (by repeat (first | (with_reducible first | exact HB.out | apply below_alloc | apply pw_below_drewN | apply below_drew1) | exact HB.out))); (case side3 => exact HG_pow10.out.below (by repeat (first | (with_reducible first | exact HB.out | apply below_alloc | apply pw_below_drewN | apply below_drew1) | exact HB.out))); rintro e w33 ⟨v415, rfl, ho0, hb⟩; refine ⟨_, rfl, ?_⟩; have n0_ := Aside0.mk (Kd.S_elder' (by (with_reducible repeat (first | apply Kd.S_alloc | apply Kd.S_drewN | apply Kd.S_drew)); exact HO_16.out) (Kd.R_base ho0) hb); have n1_ := Aside0.mk (Kd.R_lower ho0 (below_size (by repeat (first | (with_reducible first | exact HB.out | apply below_alloc | apply pw_below_drewN | apply below_drew1) | exact HB.out)))); have n2_ := Aside0.mk (below_step (by repeat (first | (with_reducible first | exact HB.out | apply below_alloc | apply pw_below_drewN | apply below_drew1) | exact HB.out)) hb); clear HO_16; clear HB; have HO_16 := n0_; have HO416 := n1_; have HB := n2_; clear n0_ n1_ n2_; (try clear hb); (try clear hb2); (try clear hk); (try clear hi); (try clear ho0); obtain ⟨Ao35, co35, eo35⟩ := Kd.R_slice HO416.out; subst eo35) | ((with_reducible refine gate_builtin (b := .append) (xs := #[.tmp 87, .tmp 89]) rfl ?_); at_builtin; refine Kd.S_append (Kd.slice 3 (Kd.int .i64)) (w0 := w) w.heap.size rfl (.tmp 87) (.tmp 89) 36 64 (.slice none 0 0) 24 rfl Tryz.underlying36 info64 rfl (by decide) (by omega) u16 x16_2 t413 [.slice Ao35 t413.length co35] (fun _ => True) (fun k_ => some k_ = (.slice Ao35 t413.length co35 : Value).ownBlock) rfl rfl ?aP (fun k_ hk_ => ((Kd.R_mono (ok' := fun k_ => ((fun _ => True)) k_ ∧ some k_ ≠ (u16 : Value).ownBlock) (Kd.R_apart' (HO416.out) (Kd.S_typed HO_16.out) (by decide)) (fun k_ hk => ⟨trivial, hk.2⟩))).1 k_ hk_.symm) ?aF ?aO ?aB ?aS ?aL ?_; (case aP => exact Kd.M_row (Kd.R_mono (Kd.R_tight rfl (Kd.R_mono (ok' := fun k_ => ((fun _ => True)) k_ ∧ some k_ ≠ (u16 : Value).ownBlock) (Kd.R_apart' (HO416.out) (Kd.S_typed HO_16.out) (by decide)) (fun k_ hk => ⟨trivial, hk.2⟩))) (fun _ h_ => h_))); (case aB => exact (by repeat (first | (with_reducible first | exact HB.out | apply below_alloc | apply pw_below_drewN | apply below_drew1) | exact HB.out))); (case aF => exact (fun _ _ => trivial)); (case aO => exact (by (with_reducible repeat (first | apply Kd.S_alloc | apply Kd.S_drewN | apply Kd.S_drew)); exact Kd.S_mono HO_16.out (fun k_ hk => ⟨trivial, fun e_ => hk.2 e_⟩))); (case aS => exact (below_size (by repeat (first | (with_reducible first | exact HB.out | apply below_alloc | apply pw_below_drewN | apply below_drew1) | exact HB.out)))); (case aL => have := LMc31.out; omega); intro v418 w34 ho hb hg hat; rw [← Ny417.out] at ho; have n0_ := Aside0.mk (hb); have n1_ := Aside0.mk (ho); clear HB; clear HO_16; clear HO416; have HB := n0_; have HO419 := n1_; clear n0_ n1_; clear ho hb hg hat))
                      go_roundg k2
                      case measure => have := HJ7.out; have := HK2.out; omega
                      case rel => exact ⟨(t411), (y417), (by first | rfl | (simp; done) | (simp [*]; done)), H', ⟨by have := HJ7.out; have := HK2.out; omega⟩, ⟨by (with_reducible repeat (first | apply Kd.S_alloc | apply Kd.S_drewN | apply Kd.S_drew)); exact HO419.out⟩, ⟨by repeat (first | (with_reducible first | exact HB.out | apply below_alloc | apply pw_below_drewN | apply below_drew1) | exact HB.out)⟩⟩
                    · rw [if_neg c31] at H
                      exact absurd H (by simp)
                  · replace c30 := Bool.eq_false_iff.mpr c30
                    subst c30
                    have H1 : (some (0, ([] : List (List Int)), 5)) = some (r1, r2, r3) := by rw [if_neg (show ¬ (false = true) by decide)] at H; exact H
                    clear H
                    have H := H1
                    clear H1
                    simp only [Option.some.injEq, Prod.mk.injEq] at H
                    obtain ⟨rfl, rfl, rfl⟩ := H
                    go_wp2_with (first | ((with_reducible refine gate_callee (f := 41) rfl ?_); refine goesL_ (some 72) rfl rfl Tryz.func41 (by kernel_rfl) rfl #[.string x6_2, .string (⟨#[10]⟩ : ByteArray)] rfl (by (try simp only [List.map_toArray, List.map_cons, List.map_nil]); first | done | rfl | (simp only [List.length_drop, List.length_take]; rfl)) ?_; (with_reducible refine (strings_Cut.calls x6_2 (⟨#[10]⟩ : ByteArray) t410 t411 true _ ?side1 A27.out).mono ?_); (case side1 => exact HG_maxLen.out.below (by repeat (first | (with_reducible first | exact HB.out | apply below_alloc | apply pw_below_drewN | apply below_drew1) | exact HB.out))); rintro e w36 ⟨rfl, hb⟩; refine ⟨_, rfl, ?_⟩; have n0_ := Aside0.mk (Kd.S_below (by (with_reducible repeat (first | apply Kd.S_alloc | apply Kd.S_drewN | apply Kd.S_drew)); exact HO_16.out) hb); have n1_ := Aside0.mk (below_step (by repeat (first | (with_reducible first | exact HB.out | apply below_alloc | apply pw_below_drewN | apply below_drew1) | exact HB.out)) hb); clear HO_16; clear HB; have HO_16 := n0_; have HB := n1_; clear n0_ n1_; (try clear hb); (try clear hb2); (try clear hk); (try clear hi)) | ((with_reducible refine gate_callee (f := 44) rfl ?_); refine goesL_ (some 78) rfl rfl Tryz.func44 (by kernel_rfl) rfl #[.string t410] rfl (by (try simp only [List.map_toArray, List.map_cons, List.map_nil]); first | done | rfl | (simp only [List.length_drop, List.length_take]; rfl)) ?_; (with_reducible refine (clause_read.calls k2 t410 t413 false _ ?side1 ?side2 ?side3 A28.out).mono ?_); (case side1 => exact HG_maxLen.out.below (by repeat (first | (with_reducible first | exact HB.out | apply below_alloc | apply pw_below_drewN | apply below_drew1) | exact HB.out))); (case side2 => exact HG_numErr.out.below (by repeat (first | (with_reducible first | exact HB.out | apply below_alloc | apply pw_below_drewN | apply below_drew1) | exact HB.out))); (case side3 => exact HG_pow10.out.below (by repeat (first | (with_reducible first | exact HB.out | apply below_alloc | apply pw_below_drewN | apply below_drew1) | exact HB.out))); rintro e w37 ⟨v415, rfl, ho0, hb⟩; refine ⟨_, rfl, ?_⟩; have n0_ := Aside0.mk (Kd.S_elder' (by (with_reducible repeat (first | apply Kd.S_alloc | apply Kd.S_drewN | apply Kd.S_drew)); exact HO_16.out) (Kd.R_base ho0) hb); have n1_ := Aside0.mk (Kd.R_lower ho0 (below_size (by repeat (first | (with_reducible first | exact HB.out | apply below_alloc | apply pw_below_drewN | apply below_drew1) | exact HB.out)))); have n2_ := Aside0.mk (below_step (by repeat (first | (with_reducible first | exact HB.out | apply below_alloc | apply pw_below_drewN | apply below_drew1) | exact HB.out)) hb); clear HO_16; clear HB; have HO_16 := n0_; have HO416 := n1_; have HB := n2_; clear n0_ n1_ n2_; (try clear hb); (try clear hb2); (try clear hk); (try clear hi); (try clear ho0)))
                    go_ret3
                    exact ⟨_, by first | rfl | (simp [errW_none, errW_some] <;> rfl) | (simp [*, errW_none, errW_some] <;> rfl), by first | exact Kd.S_nil _ _ _ _ _ | exact Kd.N_nil _ _ _ _ _ | exact Kd.V_nil _ _ _ _ _ | exact Kd.Q_nil _ _ _ _ _ | exact Kd.R_nil _ _ _ _ _, by repeat (first | (with_reducible first | exact HB.out | apply below_alloc | apply pw_below_drewN | apply below_drew1) | exact HB.out)⟩
                · replace c29 := Bool.eq_false_iff.mpr c29
                  subst c29
                  have H1 : (some (0, ([] : List (List Int)), 5)) = some (r1, r2, r3) := by rw [if_neg (show ¬ (false = true) by decide)] at H; exact H
                  clear H
                  have H := H1
                  clear H1
                  simp only [Option.some.injEq, Prod.mk.injEq] at H
                  obtain ⟨rfl, rfl, rfl⟩ := H
                  go_wp2_with (first | ((with_reducible refine gate_callee (f := 41) rfl ?_); refine goesL_ (some 72) rfl rfl Tryz.func41 (by kernel_rfl) rfl #[.string x6_2, .string (⟨#[10]⟩ : ByteArray)] rfl (by (try simp only [List.map_toArray, List.map_cons, List.map_nil]); first | done | rfl | (simp only [List.length_drop, List.length_take]; rfl)) ?_; (with_reducible refine (strings_Cut.calls x6_2 (⟨#[10]⟩ : ByteArray) t410 t411 false _ ?side1 A27.out).mono ?_); (case side1 => exact HG_maxLen.out.below (by repeat (first | (with_reducible first | exact HB.out | apply below_alloc | apply pw_below_drewN | apply below_drew1) | exact HB.out))); rintro e w38 ⟨rfl, hb⟩; refine ⟨_, rfl, ?_⟩; have n0_ := Aside0.mk (Kd.S_below (by (with_reducible repeat (first | apply Kd.S_alloc | apply Kd.S_drewN | apply Kd.S_drew)); exact HO_16.out) hb); have n1_ := Aside0.mk (below_step (by repeat (first | (with_reducible first | exact HB.out | apply below_alloc | apply pw_below_drewN | apply below_drew1) | exact HB.out)) hb); clear HO_16; clear HB; have HO_16 := n0_; have HB := n1_; clear n0_ n1_; (try clear hb); (try clear hb2); (try clear hk); (try clear hi)) | ((with_reducible refine gate_callee (f := 44) rfl ?_); refine goesL_ (some 78) rfl rfl Tryz.func44 (by kernel_rfl) rfl #[.string t410] rfl (by (try simp only [List.map_toArray, List.map_cons, List.map_nil]); first | done | rfl | (simp only [List.length_drop, List.length_take]; rfl)) ?_; (with_reducible refine (clause_read.calls k2 t410 t413 t414 _ ?side1 ?side2 ?side3 A28.out).mono ?_); (case side1 => exact HG_maxLen.out.below (by repeat (first | (with_reducible first | exact HB.out | apply below_alloc | apply pw_below_drewN | apply below_drew1) | exact HB.out))); (case side2 => exact HG_numErr.out.below (by repeat (first | (with_reducible first | exact HB.out | apply below_alloc | apply pw_below_drewN | apply below_drew1) | exact HB.out))); (case side3 => exact HG_pow10.out.below (by repeat (first | (with_reducible first | exact HB.out | apply below_alloc | apply pw_below_drewN | apply below_drew1) | exact HB.out))); rintro e w39 ⟨v415, rfl, ho0, hb⟩; refine ⟨_, rfl, ?_⟩; have n0_ := Aside0.mk (Kd.S_elder' (by (with_reducible repeat (first | apply Kd.S_alloc | apply Kd.S_drewN | apply Kd.S_drew)); exact HO_16.out) (Kd.R_base ho0) hb); have n1_ := Aside0.mk (Kd.R_lower ho0 (below_size (by repeat (first | (with_reducible first | exact HB.out | apply below_alloc | apply pw_below_drewN | apply below_drew1) | exact HB.out)))); have n2_ := Aside0.mk (below_step (by repeat (first | (with_reducible first | exact HB.out | apply below_alloc | apply pw_below_drewN | apply below_drew1) | exact HB.out)) hb); clear HO_16; clear HB; have HO_16 := n0_; have HO416 := n1_; have HB := n2_; clear n0_ n1_ n2_; (try clear hb); (try clear hb2); (try clear hk); (try clear hi); (try clear ho0)))
                  go_ret3
                  exact ⟨_, by first | rfl | (simp [errW_none, errW_some] <;> rfl) | (simp [*, errW_none, errW_some] <;> rfl), by first | exact Kd.S_nil _ _ _ _ _ | exact Kd.N_nil _ _ _ _ _ | exact Kd.V_nil _ _ _ _ _ | exact Kd.Q_nil _ _ _ _ _ | exact Kd.R_nil _ _ _ _ _, by repeat (first | (with_reducible first | exact HB.out | apply below_alloc | apply pw_below_drewN | apply below_drew1) | exact HB.out)⟩

end Go.Proofs.YtlcfpmdamehopaaGreatDoor.PA
/- A formula's text: what is read of it, and that it is read as it was printed; as plain functions. Conditions: sizes that fit. -/
namespace Go.Proofs.YtlcfpmdamehopaaGreatDoor.PA
open Go.RowKit Go.Proofs.YtlcfpmdamehopaaGreatDoorW.PrintWords Go.Proofs.YtlcfpmdamehopaaGreatDoorW.PrintLast Go.Proofs.YtlcfpmdamehopaaGreatDoorW.PrintMore

def numL (s : List UInt8) : Int × Bool := numberG ⟨s.toArray⟩
theorem num_f (s : List UInt8) (hs : s.length ≤ 1000000) : clause_number.f ⟨s.toArray⟩ = some (numL s) := by
  unfold clause_number.f
  rw [if_pos (by rw [← data_length]; show s.length ≤ _; omega)]; rfl
theorem numL_ok {s : List UInt8} (h : (numL s).2 = true) : Lib.itoa (numL s).1 = s := by
  unfold numL numberG at h ⊢
  split at h
  · rename_i n e
    have h := of_decide_eq_true h
    have := congrArg (fun b : ByteArray => b.data.toList) h
    exact this
  · cases h
theorem numL_range {s : List UInt8} (h : (numL s).2 = true) : isI64 (numL s).1 = true := by
  unfold numL numberG at h ⊢
  split at h
  · rename_i n e
    have := atoi_range e
    unfold isI64
    dsimp only
    rw [decide_eq_true this.1, decide_eq_true this.2]; rfl
  · cases h
theorem numL_itoa (n : Int) (h0 : -1000000 ≤ n) (h1 : n ≤ 1000000) : numL (Lib.itoa n) = (n, true) := by
  unfold numL numberG
  have := num_itoa n h0 h1
  rw [show (itoaB n).data.toList = Lib.itoa n from rfl] at this
  rw [show (⟨(Lib.itoa n).toArray⟩ : ByteArray).data.toList = Lib.itoa n from rfl, this]
  show (n, decide (itoaB n = ⟨(Lib.itoa n).toArray⟩)) = (n, true)
  rw [decide_eq_true (show itoaB n = ⟨(Lib.itoa n).toArray⟩ from rfl)]
/-- The numbers of a clause's line. -/
def readC : Nat → List UInt8 → List Int → List Int × Bool
  | 0, _, _ => ([], false)
  | d + 1, s, acc => if s = [48] then (acc, true) else
    if (cutC 32 s).2.2 = true ∧ (numL (cutC 32 s).1).2 = true ∧ ¬ (numL (cutC 32 s).1).1 = 0 then readC d (cutC 32 s).2.1 (acc ++ [(numL (cutC 32 s).1).1]) else ([], false)
theorem readC_ev : ∀ (d : Nat) (s : List UInt8) (acc : List Int), s.length < d → acc.length + d ≤ 1000000 → Ev (fun k => clause_read.l0 k ⟨s.toArray⟩ acc) (readC d s acc) := by
  intro d
  induction d with
  | zero => intro s acc h; omega
  | succ d ih =>
    intro s acc hs ha
    refine Ev.succ ?_
    simp only [clause_read.l0]
    rw [readC]
    have hl : (⟨s.toArray⟩ : ByteArray).toList = s := mkB_toL s
    rw [hl]
    by_cases h0 : s = [48]
    · rw [if_pos h0]; exact Ev.pos h0 (Ev.some rfl)
    rw [if_neg h0]
    have hle := cutC_le 32 s
    refine Ev.neg h0 (Ev.call (cut_f ⟨s.toArray⟩ 32 (by rw [← data_length]; show s.length < _; omega)) ?_)
    dsimp only
    refine Ev.call (num_f (cutC 32 s).1 (by omega)) ?_
    by_cases h1 : (cutC 32 s).2.2 = true
    case neg =>
      rw [if_neg (fun h => h1 h.1)]
      exact Ev.neg h1 (Ev.some rfl)
    refine Ev.pos h1 ?_
    by_cases h2 : (numL (cutC 32 s).1).2 = true
    case neg =>
      rw [if_neg (fun h => h2 h.2.1)]
      exact Ev.neg h2 (Ev.some rfl)
    refine Ev.pos h2 ?_
    by_cases h3 : (numL (cutC 32 s).1).1 = 0
    · rw [if_neg (fun h => h.2.2 h3)]
      exact Ev.pos h3 (Ev.some rfl)
    rw [if_pos ⟨h1, h2, h3⟩]
    have hlen := cutC_len 32 s h1
    exact Ev.neg h3 (Ev.pos (by omega) (ih _ _ (by omega) (by rw [List.length_append, List.length_singleton]; omega)))
/-- What was read, printed, is the text. -/
theorem readC_back : ∀ (d : Nat) (s : List UInt8) (acc c : List Int), readC d s acc = (c, true) → ∃ r : List Int, c = acc ++ r ∧ s = r.flatMap litT ++ [48] ∧ ∀ x ∈ r, isI64 x = true := by
  intro d
  induction d with
  | zero => intro s acc c h; cases h
  | succ d ih =>
    intro s acc c h
    rw [readC] at h
    by_cases h0 : s = [48]
    · rw [if_pos h0] at h
      obtain ⟨rfl, _⟩ := Prod.mk.inj h
      exact ⟨[], by simp, by rw [h0]; rfl, fun x hx => by cases hx⟩
    rw [if_neg h0] at h
    by_cases h1 : (cutC 32 s).2.2 = true ∧ (numL (cutC 32 s).1).2 = true ∧ ¬ (numL (cutC 32 s).1).1 = 0
    · rw [if_pos h1] at h
      obtain ⟨r, hr, hs, hi64⟩ := ih _ _ _ h
      have hj := cutC_join 32 s h1.1
      have hi := numL_ok h1.2.1
      refine ⟨(numL (cutC 32 s).1).1 :: r, by rw [hr]; simp, ?_, fun x hx => (List.mem_cons.1 hx).elim (fun e => by rw [e]; exact numL_range h1.2.1) (hi64 x)⟩
      have el : litT (numL (cutC 32 s).1).1 = (cutC 32 s).1 ++ [32] := by unfold litT; rw [hi]
      rw [List.flatMap_cons, el, List.append_assoc, List.append_assoc, ← hs]
      exact hj.symm
    · rw [if_neg h1] at h; cases h
theorem itoa_no (c : UInt8) (hc : c.toNat ≤ 44 ∨ 58 ≤ c.toNat) (n : Int) : c ∉ Lib.itoa n := by
  have hd : ∀ m : Nat, ∀ x ∈ Lib.decDigits m, 48 ≤ x.toNat ∧ x.toNat ≤ 57 := by
    intro m
    induction m using Nat.strongRecOn with
    | _ m ih =>
      rw [Lib.decDigits]
      split
      · rename_i h
        intro x hx
        rw [List.mem_singleton.1 hx, digit_nat m h]; omega
      · rename_i h
        intro x hx
        rcases List.mem_append.1 hx with hx | hx
        · exact ih (m / 10) (by omega) x hx
        · have := Nat.mod_lt m (show 0 < 10 by decide)
          rw [List.mem_singleton.1 hx, digit_nat _ this]; omega
  unfold Lib.itoa
  split
  · intro h
    rcases List.mem_cons.1 h with h | h
    · subst h; revert hc; decide
    · have := hd _ c h; omega
  · intro h
    have := hd _ c h; omega
theorem itoa_ne (n : Int) : ∃ x r, Lib.itoa n = x :: r := by
  unfold Lib.itoa
  split
  · exact ⟨_, _, rfl⟩
  · obtain ⟨c, r, e, _⟩ := dec_head n.toNat
    exact ⟨c, r, e⟩
/-- A clause's line is read as that clause. -/
theorem readC_of : ∀ (c : List Int) (d : Nat) (acc : List Int), c.length < d → (∀ x ∈ c, x ≠ 0 ∧ -1000000 ≤ x ∧ x ≤ 1000000) → readC d (c.flatMap litT ++ [48]) acc = (acc ++ c, true) := by
  intro c
  induction c with
  | nil =>
    intro d acc hd _
    obtain ⟨d, rfl⟩ : ∃ m, d = m + 1 := ⟨d - 1, by simp at hd; omega⟩
    rw [List.flatMap_nil, List.nil_append, readC, if_pos rfl, List.append_nil]
  | cons x c ih =>
    intro d acc hd hx
    obtain ⟨d, rfl⟩ : ∃ m, d = m + 1 := ⟨d - 1, by simp at hd; omega⟩
    obtain ⟨h0, h1, h2⟩ := hx x List.mem_cons_self
    have e : (x :: c).flatMap litT ++ [48] = Lib.itoa x ++ 32 :: (c.flatMap litT ++ [48]) := by
      rw [List.flatMap_cons]; unfold litT; simp
    have hc := cutC_of 32 (c.flatMap litT ++ [48]) (Lib.itoa x) (itoa_no 32 (by decide) x)
    have hne : ¬ Lib.itoa x ++ 32 :: (c.flatMap litT ++ [48]) = [48] := by
      obtain ⟨y, r, e⟩ := itoa_ne x
      rw [e]
      intro h
      have := congrArg List.length h
      simp at this
    rw [e, readC, if_neg hne, hc]
    dsimp only
    rw [numL_itoa x h1 h2]
    rw [if_pos ⟨rfl, rfl, h0⟩, ih d (acc ++ [x]) (by rw [List.length_cons] at hd; omega) (fun y hy => hx y (List.mem_cons_of_mem _ hy)), List.append_assoc]
    rfl
/-- The clauses of a text's lines. -/
def linesC : Nat → List UInt8 → List (List Int) → Option (List (List Int))
  | 0, _, _ => none
  | d + 1, s, acc => if s = [] then some acc else
    if (cutC 10 s).2.2 = true ∧ (readC ((cutC 10 s).1.length + 1) (cutC 10 s).1 []).2 = true then linesC d (cutC 10 s).2.1 (acc ++ [(readC ((cutC 10 s).1.length + 1) (cutC 10 s).1 []).1]) else none
def endC (n m : Int) : Option (List (List Int)) → Int × List (List Int) × Int
  | none => (0, [], 5)
  | some l => if (l.length : Int) = m ∧ rightG n l = true then (n, l, 0) else (0, [], 5)
theorem linesC_ev (n m : Int) : ∀ (d : Nat) (s : List UInt8) (acc : List (List Int)), s.length < d → acc.length + d ≤ 100000 → s.length ≤ 60000 → Ev (fun k => clause_Parse.l0 k ⟨s.toArray⟩ n m acc) (endC n m (linesC d s acc)) := by
  intro d
  induction d with
  | zero => intro s acc h; omega
  | succ d ih =>
    intro s acc hs ha hm
    refine Ev.succ ?_
    simp only [clause_Parse.l0]
    rw [linesC]
    have hl : (⟨s.toArray⟩ : ByteArray).toList = s := mkB_toL s
    rw [hl]
    by_cases h0 : s = []
    · rw [if_pos h0]
      refine Ev.pos h0 ?_
      by_cases h1 : (acc.length : Int) = m
      · refine Ev.pos h1 (Ev.call (show clause_Right.f n acc = some (rightG n acc) from rfl) ?_)
        by_cases h2 : rightG n acc = true
        · rw [show endC n m (some acc) = (n, acc, 0) from if_pos ⟨h1, h2⟩]; exact Ev.pos h2 (Ev.some rfl)
        · rw [show endC n m (some acc) = (0, [], 5) from if_neg (fun h => h2 h.2)]; exact Ev.neg h2 (Ev.some rfl)
      · rw [show endC n m (some acc) = (0, [], 5) from if_neg (fun h => h1 h.1)]; exact Ev.neg h1 (Ev.some rfl)
    rw [if_neg h0]
    have hle := cutC_le 10 s
    refine Ev.neg h0 (Ev.call (cut_f ⟨s.toArray⟩ 10 (by rw [← data_length]; show s.length < _; omega)) ?_)
    have hr := readC_ev ((cutC 10 s).1.length + 1) (cutC 10 s).1 [] (by omega) (by simp; omega)
    refine Ev.bind (show Ev (fun k => clause_read.f k _) _ from hr) ?_
    dsimp only
    by_cases h1 : (cutC 10 s).2.2 = true
    case neg =>
      rw [if_neg (fun h => h1 h.1)]
      exact Ev.neg h1 (Ev.some rfl)
    refine Ev.pos h1 ?_
    by_cases h2 : (readC ((cutC 10 s).1.length + 1) (cutC 10 s).1 []).2 = true
    case neg =>
      rw [if_neg (fun h => h2 h.2)]
      exact Ev.neg h2 (Ev.some rfl)
    rw [if_pos ⟨h1, h2⟩]
    have hlen := cutC_len 10 s h1
    exact Ev.pos h2 (Ev.pos (by omega) (ih _ _ (by omega) (by rw [List.length_append, List.length_singleton]; omega) (by omega)))
theorem linesC_back : ∀ (d : Nat) (s : List UInt8) (acc l : List (List Int)), linesC d s acc = some l → ∃ r : List (List Int), l = acc ++ r ∧ s = r.flatMap clauseT ∧ ∀ c ∈ r, ∀ x ∈ c, isI64 x = true := by
  intro d
  induction d with
  | zero => intro s acc l h; cases h
  | succ d ih =>
    intro s acc l h
    rw [linesC] at h
    by_cases h0 : s = []
    · rw [if_pos h0] at h
      obtain rfl := Option.some.inj h
      exact ⟨[], by simp, by rw [h0]; rfl, fun c hc => by cases hc⟩
    rw [if_neg h0] at h
    by_cases h1 : (cutC 10 s).2.2 = true ∧ (readC ((cutC 10 s).1.length + 1) (cutC 10 s).1 []).2 = true
    · rw [if_pos h1] at h
      obtain ⟨r, hr, hs, hi64⟩ := ih _ _ _ h
      obtain ⟨c, hc, hl, hci⟩ := readC_back _ _ _ _ (show readC ((cutC 10 s).1.length + 1) (cutC 10 s).1 [] = ((readC ((cutC 10 s).1.length + 1) (cutC 10 s).1 []).1, true) from by rw [← h1.2])
      rw [List.nil_append] at hc
      refine ⟨c :: r, by rw [hr, hc]; simp, ?_, fun x hx => (List.mem_cons.1 hx).elim (fun e => by rw [e]; exact hci) (hi64 x)⟩
      have el : clauseT c = (c.flatMap litT ++ [48]) ++ [10] := by unfold clauseT; simp
      have hj := cutC_join 10 s h1.1
      rw [hl, hs] at hj
      rw [List.flatMap_cons, el, List.append_assoc]
      exact hj.symm
    · rw [if_neg h1] at h; cases h
theorem linesC_of : ∀ (l : List (List Int)) (d : Nat) (acc : List (List Int)), l.length < d → (∀ c ∈ l, ∀ x ∈ c, x ≠ 0 ∧ -1000000 ≤ x ∧ x ≤ 1000000) → linesC d (l.flatMap clauseT) acc = some (acc ++ l) := by
  intro l
  induction l with
  | nil =>
    intro d acc hd _
    obtain ⟨d, rfl⟩ : ∃ m, d = m + 1 := ⟨d - 1, by simp at hd; omega⟩
    rw [List.flatMap_nil, linesC, if_pos rfl, List.append_nil]
  | cons c l ih =>
    intro d acc hd hx
    obtain ⟨d, rfl⟩ : ∃ m, d = m + 1 := ⟨d - 1, by simp at hd; omega⟩
    have e : (c :: l).flatMap clauseT = (c.flatMap litT ++ [48]) ++ 10 :: l.flatMap clauseT := by
      rw [List.flatMap_cons]
      show (c.flatMap litT ++ [48, 10]) ++ l.flatMap clauseT = _
      simp
    have h10 : (10 : UInt8) ∉ c.flatMap litT ++ [48] := by
      intro h
      rcases List.mem_append.1 h with h | h
      · obtain ⟨x, _, h⟩ := List.mem_flatMap.1 h
        unfold litT at h
        rcases List.mem_append.1 h with h | h
        · exact itoa_no 10 (by decide) x h
        · revert h; decide
      · revert h; decide
    have hc := cutC_of 10 (l.flatMap clauseT) _ h10
    have hne : ¬ (c.flatMap litT ++ [48]) ++ 10 :: l.flatMap clauseT = [] := by simp
    have hlen : c.length < (c.flatMap litT ++ [48]).length + 1 := by
      have : c.length ≤ (c.flatMap litT).length := by
        clear hx hc hne h10 e hd
        induction c with
        | nil => exact Nat.le_refl _
        | cons x c ihc =>
          rw [List.flatMap_cons, List.length_append, List.length_cons]
          have h1 : 1 ≤ (litT x).length := by unfold litT; simp
          exact Nat.le_trans (Nat.add_le_add_right ihc 1) (by omega)
      rw [List.length_append]; omega
    have hr := readC_of c _ [] hlen (hx c List.mem_cons_self)
    rw [e, linesC, if_neg hne, hc]
    dsimp only
    rw [hr, if_pos ⟨rfl, rfl⟩, ih d _ (by rw [List.length_cons] at hd; omega) (fun y hy => hx y (List.mem_cons_of_mem _ hy)), List.append_assoc]
    rfl
end Go.Proofs.YtlcfpmdamehopaaGreatDoor.PA
/- keelson/clause.Units as a plain function: what follows at once, clause by clause, till nothing is new. For lists within the machine's room. -/
namespace Go.Proofs.YtlcfpmdamehopaaGreatDoor.PA
open Go.RowKit Go.Proofs.YtlcfpmdamehopaaGreatDoorW.PrintWords Go.Proofs.YtlcfpmdamehopaaGreatDoorW.PrintLast Go.Proofs.YtlcfpmdamehopaaGreatDoorW.PrintMore

/-! passes -/
def zeros (a : List Int) : Nat := a.count 0
/-! the program's function is this one -/
theorem rdLi_nat (l : List (List Int)) (i : Nat) (h : i < l.length) : rd_L9 l (i : Int) = l[i] := by unfold rd_L9; simp [List.getD_eq_getElem?_getD, List.getElem?_eq_getElem h]
end Go.Proofs.YtlcfpmdamehopaaGreatDoor.PA
-- Printed by gprint.py (wip/ of this repo), over the kit's print.
namespace Go.Proofs.YtlcfpmdamehopaaGreatDoor.PA
open Go.RowKit Go.Proofs.YtlcfpmdamehopaaGreatDoorW.PrintWords Go.Proofs.YtlcfpmdamehopaaGreatDoorW.PrintLast Go.Proofs.YtlcfpmdamehopaaGreatDoorW.PrintMore
attribute [local go_sem] max2_int min2_int max_two min_two max_three min_three max_four min_four   -- for this text's walks alone
set_option linter.unusedVariables false
set_option linter.unusedSimpArgs false

/-! ### keelsonlaw12_sameInts: function 38 -/
def keelsonlaw12_sameInts.l0 : Nat → List Int → List Int → Int → Option (Bool)
  | 0, _, _, _ => none
  | k + 1, x0, x1, x5 => if x5 < (x0.length : Int) then (if 0 ≤ x5 then (if x5 < (x1.length : Int) then (if (rd x0 x5) = (rd x1 x5) then (keelsonlaw12_sameInts.l0 k x0 x1 (wrap64 (x5 + 1))) else (some false)) else (none)) else (none)) else (some true)
def keelsonlaw12_sameInts.f (k : Nat) (l0 : List Int) (l1 : List Int) : Option (Bool) := if (l0.length : Int) = (l1.length : Int) then (keelsonlaw12_sameInts.l0 k l0 l1 0) else (some false)
theorem keelsonlaw12_sameInts.mono_l : ∀ k, (∀ y0 y1 y2, LeO (keelsonlaw12_sameInts.l0 k y0 y1 y2) (keelsonlaw12_sameInts.l0 (k + 1) y0 y1 y2))
  | 0 => fun _ _ _ r h => by simp [keelsonlaw12_sameInts.l0] at h
  | k + 1 => by
    have ih0 := keelsonlaw12_sameInts.mono_l k
    · intro y0 y1 y2
      unfold keelsonlaw12_sameInts.l0
      repeat' first
      | (with_reducible exact ih0 _ _ _)
      | (with_reducible exact LeO.refl _)
      | (with_reducible exact LeO.none _)
      | (with_reducible refine LeO.ite ?_ ?_)
      | (with_reducible refine LeO.bind ?_ (fun _ => ?_))
      | exact ih0 _ _ _
      | exact LeO.none _
      | refine LeO.ite ?_ ?_
      | refine LeO.bind ?_ (fun _ => ?_)
theorem keelsonlaw12_sameInts.mono : ∀ a0 a1 k, LeO (keelsonlaw12_sameInts.f k a0 a1) (keelsonlaw12_sameInts.f (k + 1) a0 a1) := by
  intro a0 a1 k
  have ih0 := keelsonlaw12_sameInts.mono_l k
  unfold keelsonlaw12_sameInts.f
  repeat' first
      | (with_reducible exact ih0 _ _ _)
      | (with_reducible exact LeO.refl _)
      | (with_reducible exact LeO.none _)
      | (with_reducible refine LeO.ite ?_ ?_)
      | (with_reducible refine LeO.bind ?_ (fun _ => ?_))
      | exact ih0 _ _ _
      | exact LeO.none _
      | refine LeO.ite ?_ ?_
      | refine LeO.bind ?_ (fun _ => ?_)
set_option maxHeartbeats 8000000 in
set_option maxRecDepth 100000 in
theorem keelsonlaw12_sameInts.calls (k : Nat) (A0 : Option Addr) (c0 : Nat) (l0 : List Int) (A1 : Option Addr) (c1 : Nat) (l1 : List Int) (r : Bool) (w : World) (hr0 : Kd.C (Kd.int .i64) w A0 l0.length l0) (hc0 : l0.length ≤ c0) (hr1 : Kd.C (Kd.int .i64) w A1 l1.length l1) (hc1 : l1.length ≤ c1) (h : keelsonlaw12_sameInts.f k l0 l1 = some r) :
    Calls Tryz.prog 38 #[.slice A0 l0.length c0, .slice A1 l1.length c1] w fun e w' => e = .returned (.bool r) ∧ Drawn0 w w' := by
  have HR0 := Aside0.mk hr0
  have HC0 := Aside0.mk hc0
  clear hr0 hc0
  have HR1 := Aside0.mk hr1
  have HC1 := Aside0.mk hc1
  clear hr1 hc1
  have H : (if (l0.length : Int) = (l1.length : Int) then (keelsonlaw12_sameInts.l0 k l0 l1 0) else (some false)) = some r := h
  clear h
  by_cases c3 : (l0.length : Int) = (l1.length : Int)
  · rw [if_pos c3] at H
    have c3b0 : ((l0.length : Int) == (l1.length : Int)) = true := beq_iff_eq.mpr c3
    have c3b1 : ((l0.length : Int) != (l1.length : Int)) = false := bne_eq_false_iff_eq.mpr c3
    have c3b2 : (l0.length == l1.length) = true := by first | simpa using c3 | (simp at c3 ⊢; omega)
    clear c3
    have H' := Aside0.mk H
    clear H
    go_enter Tryz.func38, Tryz.ntmps38
    go_wp2
    repeat (go_quiet (fail); try go_wp2)
    go_loopg [5] k (fun kq v5 w' => ∃ (x5_1 : Int), v5 = .int .i64 x5_1 ∧ Aside0 (keelsonlaw12_sameInts.l0 kq l0 l1 x5_1 = some r) ∧ Aside0 (kq ≤ k) ∧ Drawn0 w w')
    case atStart => exact ⟨(0), (by first | rfl | (simp; done) | (simp [*]; done)), H', ⟨Nat.le_refl _⟩, by repeat (first | exact Drawn0.refl _ | apply Drawn0.step)⟩
    case round =>
      clear H'
      try clear c1
      try clear p2
      try clear c3
      try clear c3b0
      try clear c3b1
      try clear c3b2
      obtain ⟨x5_1, rfl, HA, HK1, ⟨m1, rfl⟩⟩ := hrel
      cases gk with
      | zero => exact absurd HA.out (by simp [keelsonlaw12_sameInts.l0])
      | succ k1 =>
        have H := HA.out
        clear HA
        simp only [keelsonlaw12_sameInts.l0] at H
        by_cases c4 : x5_1 < (l0.length : Int)
        · rw [if_pos c4] at H
          have c4b0 : decide (x5_1 < (l0.length : Int)) = true := decide_eq_true c4
          clear c4
          by_cases c5 : 0 ≤ x5_1
          · rw [if_pos c5] at H
            have c5b0 : decide (0 ≤ x5_1) = true := decide_eq_true c5
            clear c5
            by_cases c6 : x5_1 < (l1.length : Int)
            · rw [if_pos c6] at H
              have c6b0 : decide (x5_1 < (l1.length : Int)) = true := decide_eq_true c6
              clear c6
              by_cases c7 : (rd l0 x5_1) = (rd l1 x5_1)
              · rw [if_pos c7] at H
                have c7b0 : ((rd l0 x5_1) == (rd l1 x5_1)) = true := beq_iff_eq.mpr c7
                have c7b1 : ((rd l0 x5_1) != (rd l1 x5_1)) = false := bne_eq_false_iff_eq.mpr c7
                clear c7
                have H' := Aside0.mk H
                clear H
                have p318 : 0 ≤ (x5_1 : Int) := of_decide_eq_true (by first | (with_reducible assumption) | assumption)
                have q318 : x5_1 < (l0.length : Int) := of_decide_eq_true (by first | (with_reducible assumption) | assumption)
                obtain ⟨ad318, e318, hx318_0⟩ := Kd.at_int HR0.out x5_1 p318 q318
                cases e318
                replace p318 := eq_true p318
                replace q318 := eq_true q318
                have p319 : 0 ≤ (x5_1 : Int) := of_decide_eq_true (by first | (with_reducible assumption) | assumption)
                have q319 : x5_1 < (l1.length : Int) := of_decide_eq_true (by first | (with_reducible assumption) | assumption)
                obtain ⟨ad319, e319, hx319_0⟩ := Kd.at_int HR1.out x5_1 p319 q319
                cases e319
                replace p319 := eq_true p319
                replace q319 := eq_true q319
                go_wp2
                repeat (go_quiet (fail); try go_wp2)
                go_roundg k1
                case measure => have := HK1.out; omega
                case rel => exact ⟨(wrap64 (x5_1 + 1)), (by first | rfl | (simp; done) | (simp [*]; done)), H', ⟨by have := HK1.out; omega⟩, by repeat (first | exact Drawn0.refl _ | apply Drawn0.step)⟩
              · rw [if_neg c7] at H
                have c7b0 : ((rd l0 x5_1) == (rd l1 x5_1)) = false := beq_eq_false_iff_ne.mpr c7
                have c7b1 : ((rd l0 x5_1) != (rd l1 x5_1)) = true := bne_iff_ne.mpr c7
                obtain rfl := Option.some.inj H
                have p318 : 0 ≤ (x5_1 : Int) := of_decide_eq_true (by first | (with_reducible assumption) | assumption)
                have q318 : x5_1 < (l0.length : Int) := of_decide_eq_true (by first | (with_reducible assumption) | assumption)
                obtain ⟨ad318, e318, hx318_0⟩ := Kd.at_int HR0.out x5_1 p318 q318
                cases e318
                replace p318 := eq_true p318
                replace q318 := eq_true q318
                have p319 : 0 ≤ (x5_1 : Int) := of_decide_eq_true (by first | (with_reducible assumption) | assumption)
                have q319 : x5_1 < (l1.length : Int) := of_decide_eq_true (by first | (with_reducible assumption) | assumption)
                obtain ⟨ad319, e319, hx319_0⟩ := Kd.at_int HR1.out x5_1 p319 q319
                cases e319
                replace p319 := eq_true p319
                replace q319 := eq_true q319
                go_wp2
                repeat (go_quiet (fail); try go_wp2)
                go_ret
                exact ⟨by first | rfl | (simp; done) | (simp [*]; done), by repeat (first | exact Drawn0.refl _ | apply Drawn0.step)⟩
            · rw [if_neg c6] at H
              exact absurd H (by simp)
          · rw [if_neg c5] at H
            exact absurd H (by simp)
        · rw [if_neg c4] at H
          have c4b0 : decide (x5_1 < (l0.length : Int)) = false := decide_eq_false c4
          clear c4
          obtain rfl := Option.some.inj H
          go_wp2
          repeat (go_quiet (fail); try go_wp2)
          go_ret
          exact ⟨by first | rfl | (simp; done) | (simp [*]; done), by repeat (first | exact Drawn0.refl _ | apply Drawn0.step)⟩
  · rw [if_neg c3] at H
    have c3b0 : ((l0.length : Int) == (l1.length : Int)) = false := beq_eq_false_iff_ne.mpr c3
    have c3b1 : ((l0.length : Int) != (l1.length : Int)) = true := bne_iff_ne.mpr c3
    have c3b2 : (l0.length == l1.length) = false := by first | simpa using c3 | (simp at c3 ⊢; omega)
    obtain rfl := Option.some.inj H
    go_enter Tryz.func38, Tryz.ntmps38
    go_wp2
    repeat (go_quiet (fail); try go_wp2)
    go_ret
    exact ⟨by first | rfl | (simp; done) | (simp [*]; done), by repeat (first | exact Drawn0.refl _ | apply Drawn0.step)⟩

/-! ### keelsonlaw12_small: function 17 -/
def keelsonlaw12_small.l0 : Nat → List (List Int) → Int → Option (Bool)
  | 0, _, _ => none
  | k + 1, x0, x3 => if x3 < (x0.length : Int) then (if 0 ≤ x3 then (if ((rd_L9 x0 x3).length : Int) > 310 then (some false) else (keelsonlaw12_small.l0 k x0 (wrap64 (x3 + 1)))) else (none)) else (some true)
def keelsonlaw12_small.f (k : Nat) (l0 : List (List Int)) : Option (Bool) := if (l0.length : Int) > 100 then (some false) else (keelsonlaw12_small.l0 k l0 0)
set_option maxHeartbeats 8000000 in
set_option maxRecDepth 100000 in
theorem keelsonlaw12_small.calls (k : Nat) (A0 : Option Addr) (c0 : Nat) (l0 : List (List Int)) (r : Bool) (w : World) (hr0 : Kd.C (Kd.slice 3 (Kd.int .i64)) w A0 l0.length l0) (hc0 : l0.length ≤ c0) (h : keelsonlaw12_small.f k l0 = some r) :
    Calls Tryz.prog 17 #[.slice A0 l0.length c0] w fun e w' => e = .returned (.bool r) ∧ Drawn0 w w' := by
  have HR0 := Aside0.mk hr0
  have HC0 := Aside0.mk hc0
  clear hr0 hc0
  have H : (if (l0.length : Int) > 100 then (some false) else (keelsonlaw12_small.l0 k l0 0)) = some r := h
  clear h
  by_cases c2 : (l0.length : Int) > 100
  · rw [if_pos c2] at H
    have c2b0 : decide (100 < (l0.length : Int)) = true := decide_eq_true c2
    have c2b1 : decide (100 < l0.length) = true := decide_eq_true (by omega)
    clear c2
    obtain rfl := Option.some.inj H
    go_enter Tryz.func17, Tryz.ntmps17
    go_wp2
    go_ret
    exact ⟨by first | rfl | (simp; done) | (simp [*]; done), by repeat (first | exact Drawn0.refl _ | apply Drawn0.step)⟩
  · rw [if_neg c2] at H
    have c2b0 : decide (100 < (l0.length : Int)) = false := decide_eq_false c2
    have c2b1 : decide (100 < l0.length) = false := decide_eq_false (by omega)
    clear c2
    have H' := Aside0.mk H
    clear H
    go_enter Tryz.func17, Tryz.ntmps17
    go_wp2
    go_loopg [3] k (fun kq v3 w' => ∃ (x3_1 : Int), v3 = .int .i64 x3_1 ∧ Aside0 (keelsonlaw12_small.l0 kq l0 x3_1 = some r) ∧ Aside0 (kq ≤ k) ∧ Drawn0 w w')
    case atStart => exact ⟨(0), (by first | rfl | (simp; done) | (simp [*]; done)), H', ⟨Nat.le_refl _⟩, by repeat (first | exact Drawn0.refl _ | apply Drawn0.step)⟩
    case round =>
      clear H'
      try clear c1
      try clear c2
      try clear c2b0
      try clear c2b1
      try clear p2
      obtain ⟨x3_1, rfl, HA, HK1, ⟨m1, rfl⟩⟩ := hrel
      cases gk with
      | zero => exact absurd HA.out (by simp [keelsonlaw12_small.l0])
      | succ k1 =>
        have H := HA.out
        clear HA
        simp only [keelsonlaw12_small.l0] at H
        by_cases c3 : x3_1 < (l0.length : Int)
        · rw [if_pos c3] at H
          have c3b0 : decide (x3_1 < (l0.length : Int)) = true := decide_eq_true c3
          clear c3
          by_cases c4 : 0 ≤ x3_1
          · rw [if_pos c4] at H
            have c4b0 : decide (0 ≤ x3_1) = true := decide_eq_true c4
            clear c4
            by_cases c5 : ((rd_L9 l0 x3_1).length : Int) > 310
            · rw [if_pos c5] at H
              have c5b0 : decide (310 < ((rd_L9 l0 x3_1).length : Int)) = true := decide_eq_true c5
              have c5b1 : decide (310 < (rd_L9 l0 x3_1).length) = true := decide_eq_true (by omega)
              clear c5
              obtain rfl := Option.some.inj H
              have p385 : 0 ≤ (x3_1 : Int) := of_decide_eq_true (by first | (with_reducible assumption) | assumption)
              have q385 : x3_1 < (l0.length : Int) := of_decide_eq_true (by first | (with_reducible assumption) | assumption)
              obtain ⟨ad385, A385_0, c385_0, e385, hx385_0, hl385_0, hi385_0⟩ := at_L9 HR0.out x3_1 p385 q385
              cases e385
              have HR385_0 := Aside0.mk hi385_0
              have HC385_0 := Aside0.mk hl385_0
              clear hi385_0 hl385_0
              replace p385 := eq_true p385
              replace q385 := eq_true q385
              go_wp2
              go_ret
              exact ⟨by first | rfl | (simp; done) | (simp [*]; done), by repeat (first | exact Drawn0.refl _ | apply Drawn0.step)⟩
            · rw [if_neg c5] at H
              have c5b0 : decide (310 < ((rd_L9 l0 x3_1).length : Int)) = false := decide_eq_false c5
              have c5b1 : decide (310 < (rd_L9 l0 x3_1).length) = false := decide_eq_false (by omega)
              clear c5
              have H' := Aside0.mk H
              clear H
              have p385 : 0 ≤ (x3_1 : Int) := of_decide_eq_true (by first | (with_reducible assumption) | assumption)
              have q385 : x3_1 < (l0.length : Int) := of_decide_eq_true (by first | (with_reducible assumption) | assumption)
              obtain ⟨ad385, A385_0, c385_0, e385, hx385_0, hl385_0, hi385_0⟩ := at_L9 HR0.out x3_1 p385 q385
              cases e385
              have HR385_0 := Aside0.mk hi385_0
              have HC385_0 := Aside0.mk hl385_0
              clear hi385_0 hl385_0
              replace p385 := eq_true p385
              replace q385 := eq_true q385
              go_wp2
              go_roundg k1
              case measure => have := HK1.out; omega
              case rel => exact ⟨(wrap64 (x3_1 + 1)), (by first | rfl | (simp; done) | (simp [*]; done)), H', ⟨by have := HK1.out; omega⟩, by repeat (first | exact Drawn0.refl _ | apply Drawn0.step)⟩
          · rw [if_neg c4] at H
            exact absurd H (by simp)
        · rw [if_neg c3] at H
          have c3b0 : decide (x3_1 < (l0.length : Int)) = false := decide_eq_false c3
          clear c3
          obtain rfl := Option.some.inj H
          go_wp2
          go_ret
          exact ⟨by first | rfl | (simp; done) | (simp [*]; done), by repeat (first | exact Drawn0.refl _ | apply Drawn0.step)⟩

/-! ### keelsonlaw12_same: function 21 -/
def keelsonlaw12_same.l0 : Nat → List (List Int) → List (List Int) → Int → Option (Bool)
  | 0, _, _, _ => none
  | k + 1, x0, x1, x5 => if x5 < (x0.length : Int) then (if 0 ≤ x5 then (if x5 < (x1.length : Int) then ((keelsonlaw12_sameInts.f k (rd_L9 x0 x5) (rd_L9 x1 x5)).bind fun t422 => (if t422 = true then (keelsonlaw12_same.l0 k x0 x1 (wrap64 (x5 + 1))) else (some false))) else (none)) else (none)) else (some true)
def keelsonlaw12_same.f (k : Nat) (l0 : List (List Int)) (l1 : List (List Int)) : Option (Bool) := if (l0.length : Int) = (l1.length : Int) then (keelsonlaw12_same.l0 k l0 l1 0) else (some false)
set_option maxHeartbeats 8000000 in
set_option maxRecDepth 100000 in
theorem keelsonlaw12_same.calls (k : Nat) (A0 : Option Addr) (c0 : Nat) (l0 : List (List Int)) (A1 : Option Addr) (c1 : Nat) (l1 : List (List Int)) (r : Bool) (w : World) (hr0 : Kd.C (Kd.slice 3 (Kd.int .i64)) w A0 l0.length l0) (hc0 : l0.length ≤ c0) (hr1 : Kd.C (Kd.slice 3 (Kd.int .i64)) w A1 l1.length l1) (hc1 : l1.length ≤ c1) (h : keelsonlaw12_same.f k l0 l1 = some r) :
    Calls Tryz.prog 21 #[.slice A0 l0.length c0, .slice A1 l1.length c1] w fun e w' => e = .returned (.bool r) ∧ Drawn0 w w' := by
  have HR0 := Aside0.mk hr0
  have HC0 := Aside0.mk hc0
  clear hr0 hc0
  have HR1 := Aside0.mk hr1
  have HC1 := Aside0.mk hc1
  clear hr1 hc1
  have H : (if (l0.length : Int) = (l1.length : Int) then (keelsonlaw12_same.l0 k l0 l1 0) else (some false)) = some r := h
  clear h
  by_cases c3 : (l0.length : Int) = (l1.length : Int)
  · rw [if_pos c3] at H
    have c3b0 : ((l0.length : Int) == (l1.length : Int)) = true := beq_iff_eq.mpr c3
    have c3b1 : ((l0.length : Int) != (l1.length : Int)) = false := bne_eq_false_iff_eq.mpr c3
    have c3b2 : (l0.length == l1.length) = true := by first | simpa using c3 | (simp at c3 ⊢; omega)
    clear c3
    have H' := Aside0.mk H
    clear H
    go_enter Tryz.func21, Tryz.ntmps21
    go_wp2
    repeat (go_quiet (fail); try go_wp2)
    go_loopg [5] k (fun kq v5 w' => ∃ (x5_1 : Int), v5 = .int .i64 x5_1 ∧ Aside0 (keelsonlaw12_same.l0 kq l0 l1 x5_1 = some r) ∧ Aside0 (kq ≤ k) ∧ Drawn0 w w')
    case atStart => exact ⟨(0), (by first | rfl | (simp; done) | (simp [*]; done)), H', ⟨Nat.le_refl _⟩, by repeat (first | exact Drawn0.refl _ | apply Drawn0.step)⟩
    case round =>
      clear H'
      try clear c1
      try clear c2
      try clear p2
      try clear c3
      try clear c3b0
      try clear c3b1
      try clear c3b2
      obtain ⟨x5_1, rfl, HA, HK1, ⟨m1, rfl⟩⟩ := hrel
      cases gk with
      | zero => exact absurd HA.out (by simp [keelsonlaw12_same.l0])
      | succ k1 =>
        have H := HA.out
        clear HA
        simp only [keelsonlaw12_same.l0] at H
        by_cases c4 : x5_1 < (l0.length : Int)
        · rw [if_pos c4] at H
          have c4b0 : decide (x5_1 < (l0.length : Int)) = true := decide_eq_true c4
          clear c4
          by_cases c5 : 0 ≤ x5_1
          · rw [if_pos c5] at H
            have c5b0 : decide (0 ≤ x5_1) = true := decide_eq_true c5
            clear c5
            by_cases c6 : x5_1 < (l1.length : Int)
            · rw [if_pos c6] at H
              have c6b0 : decide (x5_1 < (l1.length : Int)) = true := decide_eq_true c6
              clear c6
              replace H := Option.bind_eq_some_iff.mp H
              obtain ⟨t422, A70, H⟩ := H
              replace H : (if t422 = true then (keelsonlaw12_same.l0 k1 l0 l1 (wrap64 (x5_1 + 1))) else (some false)) = some r := H
              have A7 := Aside0.mk A70
              clear A70
              by_cases c8 : t422 = true
              · subst c8
                have H1 : (keelsonlaw12_same.l0 k1 l0 l1 (wrap64 (x5_1 + 1))) = some r := by rw [if_pos rfl] at H; exact H
                clear H
                have H := H1
                clear H1
                have H' := Aside0.mk H
                clear H
                have p420 : 0 ≤ (x5_1 : Int) := of_decide_eq_true (by first | (with_reducible assumption) | assumption)
                have q420 : x5_1 < (l0.length : Int) := of_decide_eq_true (by first | (with_reducible assumption) | assumption)
                obtain ⟨ad420, A420_0, c420_0, e420, hx420_0, hl420_0, hi420_0⟩ := at_L9 HR0.out x5_1 p420 q420
                cases e420
                have HR420_0 := Aside0.mk hi420_0
                have HC420_0 := Aside0.mk hl420_0
                clear hi420_0 hl420_0
                replace p420 := eq_true p420
                replace q420 := eq_true q420
                have p421 : 0 ≤ (x5_1 : Int) := of_decide_eq_true (by first | (with_reducible assumption) | assumption)
                have q421 : x5_1 < (l1.length : Int) := of_decide_eq_true (by first | (with_reducible assumption) | assumption)
                obtain ⟨ad421, A421_0, c421_0, e421, hx421_0, hl421_0, hi421_0⟩ := at_L9 HR1.out x5_1 p421 q421
                cases e421
                have HR421_0 := Aside0.mk hi421_0
                have HC421_0 := Aside0.mk hl421_0
                clear hi421_0 hl421_0
                replace p421 := eq_true p421
                replace q421 := eq_true q421
                go_wp2_with (first | (go_at_call 38; (with_reducible refine (keelsonlaw12_sameInts.calls k1 _ _ (rd_L9 l0 x5_1) _ _ (rd_L9 l1 x5_1) true _ ?side1 ?side2 ?side3 ?side4 A7.out).mono ?_); (case side1 => repeat (first | exact HR420_0.out | (with_reducible refine Kd.C_alloc ?_ _) | (with_reducible refine Kd.C_drewN ?_ _) | (with_reducible refine Kd.C_drew ?_))); (case side2 => exact HC420_0.out); (case side3 => repeat (first | exact HR421_0.out | (with_reducible refine Kd.C_alloc ?_ _) | (with_reducible refine Kd.C_drewN ?_ _) | (with_reducible refine Kd.C_drew ?_))); (case side4 => exact HC421_0.out); rintro e w' ⟨rfl, ⟨nd, rfl⟩⟩; (try first | exact ⟨rfl, _, World.drewN_drewN _ _ _⟩ | exact ⟨rfl, _, Eq.trans (World.drewN_drewN _ _ _) (congrArg (World.drewN _) (Nat.add_assoc _ _ _))⟩)))
                repeat (go_quiet (first | (go_at_call 38; (with_reducible refine (keelsonlaw12_sameInts.calls k1 _ _ (rd_L9 l0 x5_1) _ _ (rd_L9 l1 x5_1) true _ ?side1 ?side2 ?side3 ?side4 A7.out).mono ?_); (case side1 => repeat (first | exact HR420_0.out | (with_reducible refine Kd.C_alloc ?_ _) | (with_reducible refine Kd.C_drewN ?_ _) | (with_reducible refine Kd.C_drew ?_))); (case side2 => exact HC420_0.out); (case side3 => repeat (first | exact HR421_0.out | (with_reducible refine Kd.C_alloc ?_ _) | (with_reducible refine Kd.C_drewN ?_ _) | (with_reducible refine Kd.C_drew ?_))); (case side4 => exact HC421_0.out); rintro e w' ⟨rfl, ⟨nd, rfl⟩⟩; (try first | exact ⟨rfl, _, World.drewN_drewN _ _ _⟩ | exact ⟨rfl, _, Eq.trans (World.drewN_drewN _ _ _) (congrArg (World.drewN _) (Nat.add_assoc _ _ _))⟩))); try go_wp2_with (first | (go_at_call 38; (with_reducible refine (keelsonlaw12_sameInts.calls k1 _ _ (rd_L9 l0 x5_1) _ _ (rd_L9 l1 x5_1) true _ ?side1 ?side2 ?side3 ?side4 A7.out).mono ?_); (case side1 => repeat (first | exact HR420_0.out | (with_reducible refine Kd.C_alloc ?_ _) | (with_reducible refine Kd.C_drewN ?_ _) | (with_reducible refine Kd.C_drew ?_))); (case side2 => exact HC420_0.out); (case side3 => repeat (first | exact HR421_0.out | (with_reducible refine Kd.C_alloc ?_ _) | (with_reducible refine Kd.C_drewN ?_ _) | (with_reducible refine Kd.C_drew ?_))); (case side4 => exact HC421_0.out); rintro e w' ⟨rfl, ⟨nd, rfl⟩⟩; (try first | exact ⟨rfl, _, World.drewN_drewN _ _ _⟩ | exact ⟨rfl, _, Eq.trans (World.drewN_drewN _ _ _) (congrArg (World.drewN _) (Nat.add_assoc _ _ _))⟩))))
                go_roundg k1
                case measure => have := HK1.out; omega
                case rel => exact ⟨(wrap64 (x5_1 + 1)), (by first | rfl | (simp; done) | (simp [*]; done)), H', ⟨by have := HK1.out; omega⟩, by repeat (first | exact Drawn0.refl _ | apply Drawn0.step)⟩
              · replace c8 := Bool.eq_false_iff.mpr c8
                subst c8
                have H1 : (some false) = some r := by rw [if_neg (show ¬ (false = true) by decide)] at H; exact H
                clear H
                have H := H1
                clear H1
                obtain rfl := Option.some.inj H
                have p420 : 0 ≤ (x5_1 : Int) := of_decide_eq_true (by first | (with_reducible assumption) | assumption)
                have q420 : x5_1 < (l0.length : Int) := of_decide_eq_true (by first | (with_reducible assumption) | assumption)
                obtain ⟨ad420, A420_0, c420_0, e420, hx420_0, hl420_0, hi420_0⟩ := at_L9 HR0.out x5_1 p420 q420
                cases e420
                have HR420_0 := Aside0.mk hi420_0
                have HC420_0 := Aside0.mk hl420_0
                clear hi420_0 hl420_0
                replace p420 := eq_true p420
                replace q420 := eq_true q420
                have p421 : 0 ≤ (x5_1 : Int) := of_decide_eq_true (by first | (with_reducible assumption) | assumption)
                have q421 : x5_1 < (l1.length : Int) := of_decide_eq_true (by first | (with_reducible assumption) | assumption)
                obtain ⟨ad421, A421_0, c421_0, e421, hx421_0, hl421_0, hi421_0⟩ := at_L9 HR1.out x5_1 p421 q421
                cases e421
                have HR421_0 := Aside0.mk hi421_0
                have HC421_0 := Aside0.mk hl421_0
                clear hi421_0 hl421_0
                replace p421 := eq_true p421
                replace q421 := eq_true q421
                go_wp2_with (first | (go_at_call 38; (with_reducible refine (keelsonlaw12_sameInts.calls k1 _ _ (rd_L9 l0 x5_1) _ _ (rd_L9 l1 x5_1) false _ ?side1 ?side2 ?side3 ?side4 A7.out).mono ?_); (case side1 => repeat (first | exact HR420_0.out | (with_reducible refine Kd.C_alloc ?_ _) | (with_reducible refine Kd.C_drewN ?_ _) | (with_reducible refine Kd.C_drew ?_))); (case side2 => exact HC420_0.out); (case side3 => repeat (first | exact HR421_0.out | (with_reducible refine Kd.C_alloc ?_ _) | (with_reducible refine Kd.C_drewN ?_ _) | (with_reducible refine Kd.C_drew ?_))); (case side4 => exact HC421_0.out); rintro e w' ⟨rfl, ⟨nd, rfl⟩⟩; (try first | exact ⟨rfl, _, World.drewN_drewN _ _ _⟩ | exact ⟨rfl, _, Eq.trans (World.drewN_drewN _ _ _) (congrArg (World.drewN _) (Nat.add_assoc _ _ _))⟩)))
                repeat (go_quiet (first | (go_at_call 38; (with_reducible refine (keelsonlaw12_sameInts.calls k1 _ _ (rd_L9 l0 x5_1) _ _ (rd_L9 l1 x5_1) false _ ?side1 ?side2 ?side3 ?side4 A7.out).mono ?_); (case side1 => repeat (first | exact HR420_0.out | (with_reducible refine Kd.C_alloc ?_ _) | (with_reducible refine Kd.C_drewN ?_ _) | (with_reducible refine Kd.C_drew ?_))); (case side2 => exact HC420_0.out); (case side3 => repeat (first | exact HR421_0.out | (with_reducible refine Kd.C_alloc ?_ _) | (with_reducible refine Kd.C_drewN ?_ _) | (with_reducible refine Kd.C_drew ?_))); (case side4 => exact HC421_0.out); rintro e w' ⟨rfl, ⟨nd, rfl⟩⟩; (try first | exact ⟨rfl, _, World.drewN_drewN _ _ _⟩ | exact ⟨rfl, _, Eq.trans (World.drewN_drewN _ _ _) (congrArg (World.drewN _) (Nat.add_assoc _ _ _))⟩))); try go_wp2_with (first | (go_at_call 38; (with_reducible refine (keelsonlaw12_sameInts.calls k1 _ _ (rd_L9 l0 x5_1) _ _ (rd_L9 l1 x5_1) false _ ?side1 ?side2 ?side3 ?side4 A7.out).mono ?_); (case side1 => repeat (first | exact HR420_0.out | (with_reducible refine Kd.C_alloc ?_ _) | (with_reducible refine Kd.C_drewN ?_ _) | (with_reducible refine Kd.C_drew ?_))); (case side2 => exact HC420_0.out); (case side3 => repeat (first | exact HR421_0.out | (with_reducible refine Kd.C_alloc ?_ _) | (with_reducible refine Kd.C_drewN ?_ _) | (with_reducible refine Kd.C_drew ?_))); (case side4 => exact HC421_0.out); rintro e w' ⟨rfl, ⟨nd, rfl⟩⟩; (try first | exact ⟨rfl, _, World.drewN_drewN _ _ _⟩ | exact ⟨rfl, _, Eq.trans (World.drewN_drewN _ _ _) (congrArg (World.drewN _) (Nat.add_assoc _ _ _))⟩))))
                go_ret
                exact ⟨by first | rfl | (simp; done) | (simp [*]; done), by repeat (first | exact Drawn0.refl _ | apply Drawn0.step)⟩
            · rw [if_neg c6] at H
              exact absurd H (by simp)
          · rw [if_neg c5] at H
            exact absurd H (by simp)
        · rw [if_neg c4] at H
          have c4b0 : decide (x5_1 < (l0.length : Int)) = false := decide_eq_false c4
          clear c4
          obtain rfl := Option.some.inj H
          go_wp2
          repeat (go_quiet (fail); try go_wp2)
          go_ret
          exact ⟨by first | rfl | (simp; done) | (simp [*]; done), by repeat (first | exact Drawn0.refl _ | apply Drawn0.step)⟩
  · rw [if_neg c3] at H
    have c3b0 : ((l0.length : Int) == (l1.length : Int)) = false := beq_eq_false_iff_ne.mpr c3
    have c3b1 : ((l0.length : Int) != (l1.length : Int)) = true := bne_iff_ne.mpr c3
    have c3b2 : (l0.length == l1.length) = false := by first | simpa using c3 | (simp at c3 ⊢; omega)
    obtain rfl := Option.some.inj H
    go_enter Tryz.func21, Tryz.ntmps21
    go_wp2
    repeat (go_quiet (fail); try go_wp2)
    go_ret
    exact ⟨by first | rfl | (simp; done) | (simp [*]; done), by repeat (first | exact Drawn0.refl _ | apply Drawn0.step)⟩

end Go.Proofs.YtlcfpmdamehopaaGreatDoor.PA
/- Rows of numbers that are the call's own, through the library: cloned, sorted, compacted, with some deleted. What is asked: the row is the call's own (or reads so, for Clone) and within the machine's room. -/
namespace Go.Proofs.YtlcfpmdamehopaaGreatDoor.PA
open Go.RowKit Go.Lib Go.Sort Go.Proofs.YtlcfpmdamehopaaGreatDoorW.PrintWords Go.Proofs.YtlcfpmdamehopaaGreatDoorW.PrintLast Go.Proofs.YtlcfpmdamehopaaGreatDoorW.PrintMore

/-- The value v is a row of numbers xs of the call's own: blocks from B on; below B all is as it was in w0. -/
def OwnS (B : Nat) (w0 W : World) (v : Value) (xs : List Int) : Prop := W.ownsRow B 3 1 v xs.length (xs.map (Value.int .i64)) ∧ Below B w0 W ∧ B ≤ W.heap.size
theorem OwnS.nil {B : Nat} {w0 W : World} (h : Below B w0 W) (hB : B ≤ W.heap.size) : OwnS B w0 W (.slice none 0 0) [] := ⟨own_nil _ _ _ _, h, hB⟩
theorem OwnS.slice {B : Nat} {w0 W : World} {v : Value} {xs : List Int} (h : OwnS B w0 W v xs) : ∃ A c, v = .slice A xs.length c ∧ xs.length ≤ c := by
  rcases h.1.2 with ⟨rfl, hl⟩ | ⟨g, cap, cur, rfl, _, _, hn, _⟩
  · exact ⟨none, 0, by rw [hl], by omega⟩
  · exact ⟨_, cap, rfl, hn⟩
theorem OwnS.R {B : Nat} {w0 W : World} {v : Value} {xs : List Int} (h : OwnS B w0 W v xs) : Kd.R (Kd.int .i64) 3 W B (fun _ => True) v xs := Kd.R_of_own h.1 (fun _ _ => trivial)
theorem OwnS.of_R {B : Nat} {w0 W : World} {v : Value} {xs : List Int} {ok : Nat → Prop} (h : Kd.R (Kd.int .i64) 3 W B ok v xs) (hb : Below B w0 W) (hB : B ≤ W.heap.size) : OwnS B w0 W v xs := by
  exact ⟨Kd.own_of_R h, hb, hB⟩
theorem OwnS.drewN {B : Nat} {w0 W : World} {v : Value} {xs : List Int} (h : OwnS B w0 W v xs) (m : Nat) : OwnS B w0 (W.drewN m) v xs := ⟨h.1, pw_below_drewN h.2.1 m, h.2.2⟩
theorem OwnS.size {B : Nat} {w0 W : World} {v : Value} {xs : List Int} (h : OwnS B w0 W v xs) : xs.length ≤ maxLen := by
  rcases h.1.2 with ⟨_, hl⟩ | ⟨g, cap, cur, _, _, _, hn, hm, _⟩
  · rw [hl]; exact Nat.zero_le _
  · exact Nat.le_trans hn hm
theorem OwnS.below {B : Nat} {w0 W W1 : World} {v : Value} {xs : List Int} (h : OwnS B w0 W v xs) (hb : Below W.heap.size W W1) : OwnS B w0 W1 v xs := ⟨pw_own_below h.1 hb, h.2.1.trans (hb.mono h.2.2), Nat.le_trans h.2.2 hb.size⟩
theorem OwnS.bel {B : Nat} {w0 W : World} {v : Value} {xs : List Int} (h : OwnS B w0 W v xs) : Below B w0 W := h.2.1
theorem OwnS.base {B : Nat} {w0 W : World} {v : Value} {xs : List Int} (h : OwnS B w0 W v xs) : B ≤ W.heap.size := h.2.2
theorem OwnS.lower {B B0 : Nat} {w0 W W1 : World} {v : Value} {xs : List Int} (h : OwnS B W W1 v xs) (hb : Below B0 w0 W) (h0 : B0 ≤ B) : OwnS B0 w0 W1 v xs := by
  obtain ⟨⟨hl', h1⟩, h2, h3⟩ := h
  refine ⟨⟨hl', ?_⟩, hb.trans (h2.mono h0), Nat.le_trans h0 h3⟩
  rcases h1 with ⟨e, e2⟩ | ⟨g, cap, cur, e, hg, r⟩
  · exact .inl ⟨e, e2⟩
  · exact .inr ⟨g, cap, cur, e, Nat.le_trans h0 hg, r⟩
/-- Either no element, or a row at the head of a block. -/
theorem OwnS.form {B : Nat} {w0 W : World} {v : Value} {xs : List Int} (h : OwnS B w0 W v xs) : (xs = [] ∧ ∃ A c, v = .slice A 0 c) ∨ (xs ≠ [] ∧ ∃ g cap, v = .slice (some ⟨g, 0, none⟩) xs.length cap ∧ B ≤ g ∧ g < W.heap.size ∧ xs.length ≤ cap ∧ cap ≤ maxLen ∧ Holds (Value.int .i64) W g 0 xs.toArray) := by
  by_cases hx : xs = []
  · obtain ⟨A, c, e, _⟩ := h.slice
    exact .inl ⟨hx, A, c, by rw [e, hx]; rfl⟩
  · refine .inr ⟨hx, ?_⟩
    have hv : v ≠ .slice none 0 0 := by
      rintro rfl
      rcases h.1.2 with ⟨_, hl⟩ | ⟨g, cap, cur, e, _⟩
      · exact hx (List.length_eq_zero_iff.1 hl)
      · cases e
    obtain ⟨g, cap, e, h1, h2, h3, h4, _, h5⟩ := holds_of_ownsRow h.1 hv
    exact ⟨g, cap, e, h1, h2, h3, h4, h5⟩
/-- Behind a sort in place. -/
theorem OwnS.sorted {B : Nat} {w0 W : World} {g cap : Nat} {xs ys : List Int} (h : OwnS B w0 W (.slice (some ⟨g, 0, none⟩) xs.length cap) xs) (hl : ys.length = xs.length) (hg : B ≤ g) (n : Nat) (os : Array Obj) :
    OwnS B w0 (grow (putRow (Value.int .i64) (Sort.ahead W n) g 0 ys.toArray) os) (.slice (some ⟨g, 0, none⟩) xs.length cap) ys := by
  have h1 := ownsRow_putRow (q := n) (k := xs.length) (ys := ys) h.1 hl (Nat.le_refl _)
  have hb := below_putRow (enc := Value.int .i64) (q := n) (d := ys.toArray) h.2.1 hg
  have hz : (putRow (Value.int .i64) (Sort.ahead W n) g 0 ys.toArray).heap.size = W.heap.size := by simp [putRow, mapBlock, Sort.ahead]
  rw [List.take_of_length_le (by omega)] at h1
  have hg2 : Below (putRow (Value.int .i64) (Sort.ahead W n) g 0 ys.toArray).heap.size (putRow (Value.int .i64) (Sort.ahead W n) g 0 ys.toArray) (grow (putRow (Value.int .i64) (Sort.ahead W n) g 0 ys.toArray) os) :=
    ⟨rfl, rfl, rfl, by show _ ≤ (_ ++ os).size; rw [Array.size_append]; omega, fun _ hj => Sort.heap_grow_old _ os hj⟩
  have := pw_own_below h1 hg2
  rw [← hl] at this ⊢
  exact ⟨this, hb.trans (hg2.mono (by rw [hz]; exact h.2.2)), Nat.le_trans (by rw [hz]; exact h.2.2) hg2.size⟩

theorem cell_spot {w : World} {a : Addr} {u : Value} (h : w.cell? a = some u) : a = ⟨a.block, a.off, none⟩ := by
  obtain ⟨b, o, s⟩ := a
  unfold World.cell? at h
  cases hh : w.heap[b]? with
  | none => rw [hh] at h; cases h
  | some ob =>
    rw [hh] at h
    cases ob with
    | cells c e f =>
      cases s with
      | none => rfl
      | some s => simp at h
    | _ => simp at h
/-- slices.Clone of numbers. -/
theorem clone_own (A : Option Addr) (c : Nat) (xs : List Int) (w : World) (hr : Kd.C (Kd.int .i64) w A xs.length xs) (hl : xs.length * 8 ≤ 140737488355328) :
    Calls Tryz.prog 72 #[.slice A xs.length c] w fun e w' => ∃ v, e = .returned v ∧ OwnS w.heap.size w w' v xs := by
  by_cases hn : xs = []
  · subst hn
    cases A with
    | none => exact (Tryz.slices_Clone_int_nil 0 c w).mono fun _ _ ⟨he, hw⟩ => ⟨_, he, by rw [hw]; exact OwnS.nil (Below.refl _ _) (Nat.le_refl _)⟩
    | some a => exact (Tryz.slices_Clone_int_zero a c w).mono fun _ _ ⟨v, he, ho, _, hb⟩ => ⟨v, he, ho, hb, hb.size⟩
  · have h0 : 0 < xs.length := List.length_pos_iff.2 hn
    obtain ⟨ad, rfl⟩ := C_addr hr h0
    have hcell : ∀ j, j < xs.length → w.cell? (ad.add j) = some (.int .i64 (xs.getD j 0)) := by
      intro j hj
      obtain ⟨ad', e, hx⟩ := Kd.at_int hr (j : Int) (by omega) (by omega)
      cases e
      rw [Int.toNat_natCast, show Go.Proofs.YtlcfpmdamehopaaGreatDoorW.PrintWords.rd xs (j : Int) = xs.getD j 0 from by unfold Go.Proofs.YtlcfpmdamehopaaGreatDoorW.PrintWords.rd; simp] at hx
      exact hx
    have had : ad = ⟨ad.block, ad.off, none⟩ := cell_spot (by simpa [Addr.add] using hcell 0 h0)
    have h := Tryz.slices_Clone_int ad.block ad.off xs.length c xs w (Nat.le_refl _) hl (by
      intro j hj
      have hj' := hcell j hj
      rw [had] at hj'
      by_cases hj0 : j = 0
      · subst hj0; simpa [Addr.add] using hj'
      · simpa [Addr.add, hj0] using hj')
    rw [← had, List.take_of_length_le (Nat.le_refl _)] at h
    exact h.mono fun _ _ ⟨v, he, ho, _, hb⟩ => ⟨v, he, ho, hb, hb.size⟩

/-- slices.SortFunc of numbers that are the call's own, by a comparison that parts whatever two that are not one. -/
theorem sortf_own (cf : Int → Int → Int) (hO : SWO (ltOf cf)) (hT : ∀ x y, (ltOf cf) x y = false → (ltOf cf) y x = false → x = y) (g : Nat) (cb : Array Value) (eg : ∀ args w, (callFunc g args).run Tryz.prog w = .ok (.enter g args) w)
    (hc : ∀ W x y, Calls Tryz.prog g (#[.int .i64 x, .int .i64 y] ++ cb) W fun e w' => e = .returned (.int .i64 (cf x y)) ∧ ∃ q os', w' = grow (W.drewN q) os')
    (B : Nat) (w0 W : World) (v : Value) (xs : List Int) (hs : xs.length < 4611686018427387904) (h : OwnS B w0 W v xs) :
    Calls Tryz.prog 73 #[v, .func (.func g) #[] cb] W fun e w' => e = .returned (.tuple #[]) ∧ OwnS B w0 w' v (xs.mergeSort fun x y => !(ltOf cf) y x) := by
  rcases h.form with ⟨rfl, A, c, rfl⟩ | ⟨hx, b, cap, rfl, hB, hlt, hn, hm, hH⟩
  · exact (Tryz.slices_SortFunc_none (α := Int) A c (.func (.func g) #[] cb) W).mono fun _ _ ⟨he, hw⟩ => ⟨he, by rw [hw, List.mergeSort_nil]; exact h⟩
  · have h2 := Tryz.slices_SortFunc_total (Value.int .i64) (fun _ => rfl) cf hO g cb b 0 cap xs.toArray W eg (fun m os dk _ x y => hc _ x y) hH hlt (by simpa using hs) hT
    refine h2.mono ?_
    rintro e w' ⟨rfl, n, os, rfl⟩
    exact ⟨rfl, h.sorted (by simp) hB n os⟩
theorem OwnS.cut {B : Nat} {w0 W : World} {g cap : Nat} {xs zs ys : List Int} (h : OwnS B w0 W (.slice (some ⟨g, 0, none⟩) xs.length cap) xs) (hl : (zs ++ ys).length = xs.length) (hg : B ≤ g) (n : Nat) :
    OwnS B w0 (putRow (Value.int .i64) (Sort.ahead W n) g 0 (zs ++ ys).toArray) (.slice (some ⟨g, 0, none⟩) zs.length cap) zs := by
  have h1 := ownsRow_putRow (q := n) (k := zs.length) (ys := zs ++ ys) h.1 hl (by rw [← hl, List.length_append]; omega)
  rw [List.take_left'  rfl] at h1
  exact ⟨h1, below_putRow h.2.1 hg, by simpa [putRow, mapBlock, Sort.ahead] using h.2.2⟩
/-- slices.Compact of numbers that are the call's own. -/
theorem compact_own (B : Nat) (w0 W : World) (v : Value) (xs : List Int) (h : OwnS B w0 W v xs) :
    Calls Tryz.prog 77 #[v] W fun e w' => ∃ v', e = .returned v' ∧ OwnS B w0 w' v' (Lib.compact xs) := by
  rcases h.form with ⟨rfl, A, c, rfl⟩ | ⟨hx, b, cap, rfl, hB, hlt, hn, hm, hH⟩
  · exact (Tryz.slices_Compact_int_empty A c W).mono fun _ _ ⟨he, hw⟩ => ⟨_, he, by rw [hw]; exact h⟩
  · have hs := h.size
    have hc := compact_length_le xs
    refine (Tryz.slices_Compact_int b 0 cap xs W hH (by simp [maxLen] at hs; omega) hn).mono ?_
    rintro e w' ⟨rfl, n, rfl⟩
    exact ⟨_, rfl, h.cut (by simp; omega) hB n⟩
/-- slices.DeleteFunc of numbers that are the call's own. -/
theorem delete_own (p : Int → Bool) (g : Nat) (lb : Array Value) (eg : ∀ args w, (callFunc g args).run Tryz.prog w = .ok (.enter g args) w)
    (B : Nat) (w0 W : World) (v : Value) (xs : List Int) (hx : xs ≠ []) (h : OwnS B w0 W v xs)
    (hp : ∀ (b : Nat) (n : Nat) (os : Array Obj) (dk : Array Int) (x : Int), B ≤ b → Calls Tryz.prog g (#[.int .i64 x] ++ lb) (sortWorld (Value.int .i64) W b 0 n dk os) fun e w' => e = .returned (.bool (p x)) ∧ ∃ q, w' = (sortWorld (Value.int .i64) W b 0 n dk os).drewN q)
    (hq : ∀ W' x, Below W.heap.size W W' → Calls Tryz.prog g (#[.int .i64 x] ++ lb) W' fun e w' => e = .returned (.bool (p x)) ∧ ∃ q, w' = W'.drewN q) :
    Calls Tryz.prog 83 #[v, .func (.func g) #[] lb] W fun e w' => ∃ v', e = .returned v' ∧ OwnS B w0 w' v' (xs.filter fun x => !p x) := by
  rcases h.form with ⟨rfl, A, c, rfl⟩ | ⟨_, b, cap, rfl, hB, hlt, hn, hm, hH⟩
  · exact absurd rfl hx
  · have hs := h.size
    have hc : (xs.filter fun x => !p x).length ≤ xs.length := List.length_filter_le _ _
    refine (Tryz.slices_DeleteFunc (Value.int .i64) (fun _ => rfl) p g lb eg 0 Tryz.zeroValue3 b 0 cap xs.toArray W (fun W' x hb => hq W' x hb) (fun n os dk x _ => hp b n os dk x hB) hH (by simp [maxLen] at hs ⊢; omega) (by simpa using hn)).mono ?_
    rintro e w' ⟨rfl, n, rfl⟩
    exact ⟨_, rfl, h.cut (by simp; omega) hB n⟩
end Go.Proofs.YtlcfpmdamehopaaGreatDoor.PA
/- Literals of numbers as they read. No condition. -/
namespace Go.Proofs.YtlcfpmdamehopaaGreatDoor.PA
open Go.RowKit Go.Proofs.YtlcfpmdamehopaaGreatDoorW.PrintWords Go.Proofs.YtlcfpmdamehopaaGreatDoorW.PrintLast Go.Proofs.YtlcfpmdamehopaaGreatDoorW.PrintMore
end Go.Proofs.YtlcfpmdamehopaaGreatDoor.PA
/- keelson/clause.Tidy: a clause sorted, each literal once; are both literals of a variable in it. At most 2^44 literals (the machine's room). -/
namespace Go.Proofs.YtlcfpmdamehopaaGreatDoor.PA
open Go.RowKit Go.Lib Go.Sort Go.Proofs.YtlcfpmdamehopaaGreatDoorW.PrintWords Go.Proofs.YtlcfpmdamehopaaGreatDoorW.PrintLast Go.Proofs.YtlcfpmdamehopaaGreatDoorW.PrintMore
attribute [local go_sem] max2_int min2_int max_two min_two

/-- The order of literals: by the variable, the plain one first. -/
def keyL (x : Int) : Int := mx x (wrap64 (-x))
def cmpI (x y : Int) : Int := if x < y then -1 else if x > y then 1 else 0
def cfL (x y : Int) : Int := if cmpI (keyL x) (keyL y) ≠ 0 then cmpI (keyL x) (keyL y) else cmpI y x
theorem cfL_lt (x y : Int) : ltOf cfL x y = decide (keyL x < keyL y ∨ (keyL x = keyL y ∧ y < x)) := by
  unfold ltOf cfL cmpI
  by_cases h1 : keyL x < keyL y
  · simp [h1]
  · by_cases h2 : keyL x > keyL y
    · have : ¬ keyL x = keyL y := by omega
      simp [h1, h2, this]
    · have e : keyL x = keyL y := by omega
      by_cases h3 : y < x
      · simp [e, h3]
      · by_cases h4 : x < y <;> simp [e, h3, h4]
theorem swoL : SWO (ltOf cfL) where
  irrefl x := by rw [cfL_lt]; simp
  trans x y z h1 h2 := by rw [cfL_lt] at *; simp only [decide_eq_true_eq] at *; omega
  ntrans x y z h1 h2 := by rw [cfL_lt] at *; simp only [decide_eq_false_iff_not] at *; omega
theorem totL (x y : Int) (h1 : ltOf cfL x y = false) (h2 : ltOf cfL y x = false) : x = y := by
  rw [cfL_lt] at *; simp only [decide_eq_false_iff_not] at *; omega
def bothL : List Int → Bool
  | x :: y :: l => decide (y = wrap64 (-x)) || bothL (y :: l)
  | _ => false
def tidyL (c : List Int) : List Int := Lib.compact (c.mergeSort fun x y => !(ltOf cfL) y x)
def clause_Tidy.f (l0 : List Int) : Option (List Int × Bool) := if l0.length ≤ 17592186044416 then some (tidyL l0, bothL (tidyL l0)) else none

theorem cmp_eq (x y : Int) : cmp_Compare_int.f x y = some (cmpI x y) := by
  unfold cmp_Compare_int.f cmp_isNaN_int.f cmpI
  simp
  split
  · rfl
  · split <;> rfl
theorem or_eq (x y : Int) : ∃ k, cmp_Or_int.f k [x, y] = some (if x ≠ 0 then x else y) := by
  refine ⟨5, ?_⟩
  by_cases h : x = 0
  · subst h
    by_cases h2 : y = 0
    · subst h2; decide +kernel
    · simp [cmp_Or_int.f, cmp_Or_int.l0, Go.Proofs.YtlcfpmdamehopaaGreatDoorW.PrintWords.rd, wrap64, h2]
  · simp [cmp_Or_int.f, cmp_Or_int.l0, Go.Proofs.YtlcfpmdamehopaaGreatDoorW.PrintWords.rd, h]
theorem lit_two {w : World} {b : Nat} {x y : Int} (h0 : w.cell? ⟨b, 0, none⟩ = some (.int .i64 x)) (h1 : w.cell? ⟨b, 1, none⟩ = some (.int .i64 y)) : Kd.C (Kd.int .i64) w (some ⟨b, 0, none⟩) 2 [x, y] :=
  ⟨rfl, by decide, fun _ => ⟨_, rfl, fun j p hp => by
    have hj := (List.getElem?_eq_some_iff.1 hp).1
    simp at hj
    refine ⟨[.int .i64 p], rfl, rfl, fun i u hu => ?_⟩
    have hi := (List.getElem?_eq_some_iff.1 hu).1
    have hi0 : i = 0 := by simp at hi; omega
    subst hi0
    simp at hu
    subst hu
    rcases (show j = 0 ∨ j = 1 by omega) with rfl | rfl
    · simp at hp; subst hp; simpa [Addr.add] using h0
    · simp at hp; subst hp
      rw [show (Kd.int IntKind.i64).sz = 1 from rfl]
      simpa [Addr.add] using h1⟩⟩

set_option maxHeartbeats 1000000 in
set_option maxRecDepth 20000 in
theorem tidy1_any (x y : Int) (W : World) :
    Calls Tryz.prog 74 #[.int .i64 x, .int .i64 y] W fun e w' => e = .returned (.int .i64 (cfL x y)) ∧ ∃ q os', w' = grow (W.drewN q) os' := by
  obtain ⟨k, hk⟩ := or_eq (cmpI (keyL x) (keyL y)) (cmpI y x)
  have h1 := fun w => cmp_Compare_int.calls (keyL x) (keyL y) _ w (cmp_eq _ _)
  have h2 := fun w => cmp_Compare_int.calls y x _ w (cmp_eq _ _)
  have h3 : ∀ (m : Nat) (w1 : World), w1 = (W.drewN m).alloc (.cells #[.int .i64 (cmpI (keyL x) (keyL y)), .int .i64 (cmpI y x)] 3) → Calls Tryz.prog 75 #[.slice (some ⟨W.heap.size, 0, none⟩) 2 2] w1 fun e w' => e = .returned (.int .i64 (cfL x y)) ∧ ∃ q os', w' = grow (W.drewN q) os' := by
    rintro m w1 rfl
    refine (cmp_Or_int.calls k (some ⟨W.heap.size, 0, none⟩) 2 [cmpI (keyL x) (keyL y), cmpI y x] _ ((W.drewN m).alloc (.cells #[.int .i64 (cmpI (keyL x) (keyL y)), .int .i64 (cmpI y x)] 3)) (lit_two (by simp [World.cell?, World.alloc, World.drewN]) (by simp [World.cell?, World.alloc, World.drewN])) (Nat.le_refl _) hk).mono ?_
    rintro e w' ⟨rfl, q, rfl⟩
    refine ⟨rfl, m + q, #[.cells #[.int .i64 (cmpI (keyL x) (keyL y)), .int .i64 (cmpI y x)] 3], ?_⟩
    simp [World.drewN, World.alloc, grow, Nat.add_assoc]
  have HK : (if x < wrap64 (-x) then wrap64 (-x) else x) = keyL x := rfl
  have HK2 : (if y < wrap64 (-y) then wrap64 (-y) else y) = keyL y := rfl
  generalize cmpI (keyL x) (keyL y) = a at h1 h3
  generalize cmpI y x = b at h2 h3
  generalize keyL x = kx at h1 HK
  generalize keyL y = ky at h1 HK2
  generalize cfL x y = r at h3
  go_enter Tryz.func74, Tryz.ntmps74
  go_wp2_with (first | (go_at_call 76; with_reducible refine (h1 _).mono ?_; rintro e w' ⟨rfl, m, rfl⟩) | (go_at_call 76; with_reducible refine (h2 _).mono ?_; rintro e w' ⟨rfl, m, rfl⟩) | (go_at_call 75; with_reducible refine (h3 _ _ rfl).mono ?_; rintro e w' ⟨rfl, hq⟩))
  go_ret
  exact ⟨rfl, hq⟩

theorem tidy1_enters : ∀ args w, (callFunc 74 args).run Tryz.prog w = .ok (.enter 74 args) w := enters_of Tryz.func74 (by kernel_rfl) rfl
set_option maxHeartbeats 1000000 in
theorem clause_Tidy.calls (A0 : Option Addr) (c0 : Nat) (l0 : List Int) (r1 : List Int) (r2 : Bool) (w : World) (hr0 : Kd.C (Kd.int .i64) w A0 l0.length l0) (_hc0 : l0.length ≤ c0) (h : clause_Tidy.f l0 = some (r1, r2)) :
    Calls Tryz.prog 35 #[.slice A0 l0.length c0] w fun e w' => ∃ v0_ : Value, e = .returned (.tuple #[v0_, .bool r2]) ∧ Kd.R (Kd.int .i64) 3 w' w.heap.size (fun _ => True) v0_ r1 ∧ Below w.heap.size w w' := by
  unfold clause_Tidy.f at h
  split at h
  case isFalse => cases h
  case isTrue hlen =>
  simp only [Option.some.injEq, Prod.mk.injEq] at h
  obtain ⟨rfl, rfl⟩ := h
  have hcl := clone_own A0 c0 l0 w hr0 (by omega)
  have hso := fun W v => sortf_own cfL swoL totL 74 #[] tidy1_enters (fun W x y => tidy1_any x y W) w.heap.size w W v l0 (by omega)
  have hco := fun W v => compact_own w.heap.size w W v (l0.mergeSort fun x y => !(ltOf cfL) y x)
  have hT : Lib.compact (l0.mergeSort fun x y => !(ltOf cfL) y x) = tidyL l0 := rfl
  rw [hT] at hco
  generalize tidyL l0 = r at hco ⊢
  generalize (l0.mergeSort fun x y => !(ltOf cfL) y x) = q at hso hco
  have hmf := makeFunc_run
  clear hr0 hT
  go_enter Tryz.func35, Tryz.ntmps35
  go_wp2_with (first | (go_at_call 72; with_reducible refine hcl.mono ?_; rintro e w1 ⟨v1, rfl, o1⟩; have O1 := Lib.hid o1; clear o1) | (go_at_call 73; with_reducible refine (hso _ _ O1.out).mono ?_; rintro e w2 ⟨rfl, o2⟩; have O2 := Lib.hid o2; clear o2) | (go_at_call 77; with_reducible refine (hco _ _ O2.out).mono ?_; rintro e w3 ⟨v3, rfl, o3⟩; obtain ⟨A3, c3, rfl, hc3⟩ := o3.slice; have O3 := Lib.hid o3; clear o3))
  have hn : r.length ≤ 9223372036854775807 := Nat.le_trans O3.out.size (by decide)
  go_loopg [5, 6] r.length (fun gg s5 s6 wr => ∃ (j : Nat) (bb : Bool), (j + 1 ≤ r.length ∨ j = 0) ∧ r.length - j ≤ gg ∧ s5 = .bool bb ∧ s6 = .int .i64 ((j : Int) + 1) ∧ Aside (OwnS w.heap.size w wr (.slice A3 r.length c3) r) ∧ Aside ((bb || bothL (r.drop j)) = bothL r))
  case atStart => exact ⟨0, false, .inr rfl, by omega, rfl, rfl, O3.out, by rw [List.drop_zero]; exact rfl⟩
  case round =>
    obtain ⟨j, bb, hj, hg, rfl, rfl, RO, RB⟩ := hrel
    by_cases hlt : j + 1 < r.length
    · have hltz : (j : Int) + 1 < (r.length : Int) := by omega
      have hC := (Kd.R_reads' RO.out.R).2.2
      obtain ⟨ad, e, hx⟩ := Kd.at_int hC ((j : Int) + 1) (by omega) (by omega)
      obtain ⟨ad', e', hy⟩ := Kd.at_int hC (j : Int) (by omega) (by omega)
      subst e
      cases e'
      have hd : bothL (r.drop j) = (decide (r[j + 1] = wrap64 (-r[j])) || bothL (r.drop (j + 1))) := by
        rw [List.drop_eq_getElem_cons (show j < r.length by omega), List.drop_eq_getElem_cons hlt, bothL]
      rw [show Go.Proofs.YtlcfpmdamehopaaGreatDoorW.PrintWords.rd r ((j : Int) + 1) = r[j + 1] from by unfold Go.Proofs.YtlcfpmdamehopaaGreatDoorW.PrintWords.rd; simp [show ((j : Int) + 1).toNat = j + 1 by omega, List.getD_eq_getElem?_getD, List.getElem?_eq_getElem hlt]] at hx
      rw [show Go.Proofs.YtlcfpmdamehopaaGreatDoorW.PrintWords.rd r (j : Int) = r[j] from by unfold Go.Proofs.YtlcfpmdamehopaaGreatDoorW.PrintWords.rd; simp [List.getD_eq_getElem?_getD, List.getElem?_eq_getElem (show j < r.length by omega)]] at hy
      have hw : wrap64 ((j : Int) + 1 - 1) = (j : Int) := by unfold wrap64; omega
      generalize r[j + 1] = b at hx hd
      generalize r[j] = a at hy hd
      have hw' : IntKind.i64.wrap ((j : Int) + 1 - 1) = (j : Int) := by rw [i64_w]; exact hw
      have hn' : IntKind.i64.wrap (-a) = wrap64 (-a) := i64_w _
      have hx2 := hx
      have hy2 := hy
      rw [show ((j : Int) + 1).toNat = j + 1 by omega] at hx2
      rw [Int.toNat_natCast] at hy2
      have hx3 : wr.cell? ⟨ad.block, ad.off + (j + 1), none⟩ = some (.int .i64 b) := by simpa [Addr.add] using hx2
      have p1 : (0 ≤ (j : Int) + 1) = True := eq_true (by omega)
      have p2 : ((j : Int) + 1 < (r.length : Int)) = True := eq_true hltz
      have p3 : (0 ≤ (j : Int)) = True := eq_true (by omega)
      have p4 : ((j : Int) < (r.length : Int)) = True := eq_true (by omega)
      clear hC
      cases bb with
      | true =>
        have RB' := Lib.hid RB.out
        clear RB hd
        have o' := RO.out
        go_wp2
        repeat (go_quiet (fail); try go_wp2)
        go_roundg (r.length - (j + 1))
        case measure => omega
        case rel => exact ⟨j + 1, true, by omega, by omega, rfl, by go_num, RO.out.drewN _, by rw [← RB'.out]; rfl⟩
      | false =>
        rw [Bool.false_or, hd] at RB
        by_cases he : b = wrap64 (-a)
        · have he0 : (b == wrap64 (-a)) = true := beq_iff_eq.2 he
          rw [decide_eq_true he] at RB
          have RB' := Lib.hid RB.out
          clear RB hd he
          go_wp2
          repeat (go_quiet (fail); try go_wp2)
          go_roundg (r.length - (j + 1))
          case measure => omega
          case rel => exact ⟨j + 1, true, by omega, by omega, rfl, by go_num, RO.out.drewN _, by rw [← RB'.out]; rfl⟩
        · have he0 : (b == wrap64 (-a)) = false := beq_eq_false_iff_ne.2 he
          rw [decide_eq_false he] at RB
          have RB' := Lib.hid RB.out
          clear RB hd he
          go_wp2
          repeat (go_quiet (fail); try go_wp2)
          go_roundg (r.length - (j + 1))
          case measure => omega
          case rel => exact ⟨j + 1, false, by omega, by omega, rfl, by go_num, RO.out.drewN _, by rw [← RB'.out]; rfl⟩
    · have hltz : ¬ (j : Int) + 1 < (r.length : Int) := by omega
      have hfin : bothL (r.drop j) = false := by
        match hm : r.drop j with
        | [] => rfl
        | [x] => rfl
        | x :: y :: l =>
          have := congrArg List.length hm
          simp at this
          omega
      rw [hfin, Bool.or_false] at RB
      have HB := Lib.hid RB.out
      go_wp2
      go_ret2
      exact ⟨_, by rw [← HB.out]; rfl, RO.out.R, RO.out.2.1⟩
end Go.Proofs.YtlcfpmdamehopaaGreatDoor.PA
-- Printed by gprint.py (wip/ of this repo), over the kit's print.
namespace Go.Proofs.YtlcfpmdamehopaaGreatDoor.PA
open Go.RowKit Go.Proofs.YtlcfpmdamehopaaGreatDoorW.PrintWords Go.Proofs.YtlcfpmdamehopaaGreatDoorW.PrintLast Go.Proofs.YtlcfpmdamehopaaGreatDoorW.PrintMore
attribute [local go_sem] max2_int min2_int max_two min_two max_three min_three max_four min_four   -- for this text's walks alone
set_option linter.unusedVariables false
set_option linter.unusedSimpArgs false

/-! ### slices_Index_int_int: function 117 -/
def slices_Index_int_int.l0 : Nat → List Int → Int → Int → Int → Option (Int)
  | 0, _, _, _, _ => none
  | k + 1, x0, x1, x7, x8 => if x8 < x7 then (if 0 ≤ x8 then (if x8 < (x0.length : Int) then (if x1 = (rd x0 x8) then (some x8) else (slices_Index_int_int.l0 k x0 x1 x7 (wrap64 (x8 + 1)))) else (none)) else (none)) else (some (-1))
def slices_Index_int_int.f (k : Nat) (l0 : List Int) (a1 : Int) : Option (Int) := slices_Index_int_int.l0 k l0 a1 (l0.length : Int) 0
set_option maxHeartbeats 8000000 in
set_option maxRecDepth 100000 in
theorem slices_Index_int_int.calls (k : Nat) (A0 : Option Addr) (c0 : Nat) (l0 : List Int) (a1 : Int) (r : Int) (w : World) (hr0 : Kd.C (Kd.int .i64) w A0 l0.length l0) (hc0 : l0.length ≤ c0) (h : slices_Index_int_int.f k l0 a1 = some r) :
    Calls Tryz.prog 117 #[.slice A0 l0.length c0, .int .i64 a1] w fun e w' => e = .returned (.int .i64 r) ∧ Drawn0 w w' := by
  have HR0 := Aside0.mk hr0
  have HC0 := Aside0.mk hc0
  clear hr0 hc0
  have H : (slices_Index_int_int.l0 k l0 a1 (l0.length : Int) 0) = some r := h
  clear h
  have H' := Aside0.mk H
  clear H
  go_enter Tryz.func117, Tryz.ntmps117
  go_wp2
  go_loopg [8] k (fun kq v8 w' => ∃ (x8_1 : Int), v8 = .int .i64 x8_1 ∧ Aside0 (slices_Index_int_int.l0 kq l0 a1 (l0.length : Int) x8_1 = some r) ∧ Aside0 (kq ≤ k) ∧ Drawn0 w w')
  case atStart => exact ⟨(0), (by first | rfl | (simp; done) | (simp [*]; done)), H', ⟨Nat.le_refl _⟩, by repeat (first | exact Drawn0.refl _ | apply Drawn0.step)⟩
  case round =>
    clear H'
    try clear c1
    try clear p2
    obtain ⟨x8_1, rfl, HA, HK1, ⟨m1, rfl⟩⟩ := hrel
    cases gk with
    | zero => exact absurd HA.out (by simp [slices_Index_int_int.l0])
    | succ k1 =>
      have H := HA.out
      clear HA
      simp only [slices_Index_int_int.l0] at H
      by_cases c3 : x8_1 < (l0.length : Int)
      · rw [if_pos c3] at H
        have c3b0 : decide (x8_1 < (l0.length : Int)) = true := decide_eq_true c3
        clear c3
        by_cases c4 : 0 ≤ x8_1
        · rw [if_pos c4] at H
          have c4b0 : decide (0 ≤ x8_1) = true := decide_eq_true c4
          clear c4
          by_cases c5 : x8_1 < (l0.length : Int)
          · rw [if_pos c5] at H
            have c5b0 : decide (x8_1 < (l0.length : Int)) = true := decide_eq_true c5
            clear c5
            by_cases c6 : a1 = (rd l0 x8_1)
            · rw [if_pos c6] at H
              have c6b0 : (a1 == (rd l0 x8_1)) = true := beq_iff_eq.mpr c6
              have c6b1 : (a1 != (rd l0 x8_1)) = false := bne_eq_false_iff_eq.mpr c6
              clear c6
              obtain rfl := Option.some.inj H
              have p316 : 0 ≤ (x8_1 : Int) := of_decide_eq_true (by first | (with_reducible assumption) | assumption)
              have q316 : x8_1 < (l0.length : Int) := of_decide_eq_true (by first | (with_reducible assumption) | assumption)
              obtain ⟨ad316, e316, hx316_0⟩ := Kd.at_int HR0.out x8_1 p316 q316
              cases e316
              replace p316 := eq_true p316
              replace q316 := eq_true q316
              go_wp2
              go_ret
              exact ⟨by first | rfl | (simp; done) | (simp [*]; done), by repeat (first | exact Drawn0.refl _ | apply Drawn0.step)⟩
            · rw [if_neg c6] at H
              have c6b0 : (a1 == (rd l0 x8_1)) = false := beq_eq_false_iff_ne.mpr c6
              have c6b1 : (a1 != (rd l0 x8_1)) = true := bne_iff_ne.mpr c6
              have H' := Aside0.mk H
              clear H
              have p316 : 0 ≤ (x8_1 : Int) := of_decide_eq_true (by first | (with_reducible assumption) | assumption)
              have q316 : x8_1 < (l0.length : Int) := of_decide_eq_true (by first | (with_reducible assumption) | assumption)
              obtain ⟨ad316, e316, hx316_0⟩ := Kd.at_int HR0.out x8_1 p316 q316
              cases e316
              replace p316 := eq_true p316
              replace q316 := eq_true q316
              go_wp2
              go_roundg k1
              case measure => have := HK1.out; omega
              case rel => exact ⟨(wrap64 (x8_1 + 1)), (by first | rfl | (simp; done) | (simp [*]; done)), H', ⟨by have := HK1.out; omega⟩, by repeat (first | exact Drawn0.refl _ | apply Drawn0.step)⟩
          · rw [if_neg c5] at H
            exact absurd H (by simp)
        · rw [if_neg c4] at H
          exact absurd H (by simp)
      · rw [if_neg c3] at H
        have c3b0 : decide (x8_1 < (l0.length : Int)) = false := decide_eq_false c3
        clear c3
        obtain rfl := Option.some.inj H
        go_wp2
        go_ret
        exact ⟨by first | rfl | (simp; done) | (simp [*]; done), by repeat (first | exact Drawn0.refl _ | apply Drawn0.step)⟩

/-! ### slices_Contains_int_int: function 81 -/
def slices_Contains_int_int.f (k : Nat) (l0 : List Int) (a1 : Int) : Option (Bool) := (slices_Index_int_int.f k l0 a1).bind fun t317 => (some (decide (t317 ≥ 0)))
set_option maxHeartbeats 8000000 in
set_option maxRecDepth 100000 in
theorem slices_Contains_int_int.calls (k : Nat) (A0 : Option Addr) (c0 : Nat) (l0 : List Int) (a1 : Int) (r : Bool) (w : World) (hr0 : Kd.C (Kd.int .i64) w A0 l0.length l0) (hc0 : l0.length ≤ c0) (h : slices_Contains_int_int.f k l0 a1 = some r) :
    Calls Tryz.prog 81 #[.slice A0 l0.length c0, .int .i64 a1] w fun e w' => e = .returned (.bool r) ∧ Drawn0 w w' := by
  have HR0 := Aside0.mk hr0
  have HC0 := Aside0.mk hc0
  clear hr0 hc0
  have H : ((slices_Index_int_int.f k l0 a1).bind fun t317 => (some (decide (t317 ≥ 0)))) = some r := h
  clear h
  replace H := Option.bind_eq_some_iff.mp H
  obtain ⟨t317, A30, H⟩ := H
  replace H : (some (decide (t317 ≥ 0))) = some r := H
  have A3 := Aside0.mk A30
  clear A30
  obtain rfl := Option.some.inj H
  go_enter Tryz.func81, Tryz.ntmps81
  go_wp2_with (first | ((with_reducible refine gate_callee (f := 117) rfl ?_); refine goesL_ (some 7) rfl rfl Tryz.func117 (by kernel_rfl) rfl #[.slice A0 l0.length c0, .int .i64 a1] rfl (by (try simp only [List.map_toArray, List.map_cons, List.map_nil]); first | done | rfl | (simp only [List.length_drop, List.length_take]; rfl)) ?_; (with_reducible refine (slices_Index_int_int.calls k _ _ l0 a1 t317 _ ?side1 ?side2 A3.out).mono ?_); (case side1 => repeat (first | exact HR0.out | (with_reducible refine Kd.C_alloc ?_ _) | (with_reducible refine Kd.C_drewN ?_ _) | (with_reducible refine Kd.C_drew ?_))); (case side2 => exact HC0.out); rintro e w' ⟨rfl, ⟨nd, rfl⟩⟩; refine ⟨_, rfl, ?_⟩))
  go_ret
  exact ⟨by first | rfl | (simp; done) | (simp [*]; done), by repeat (first | exact Drawn0.refl _ | apply Drawn0.step)⟩

end Go.Proofs.YtlcfpmdamehopaaGreatDoor.PA
/- slices.Contains of numbers, as a plain function. For slices within the machine's room. -/
namespace Go.Proofs.YtlcfpmdamehopaaGreatDoor.PA
open Go.RowKit Go.Proofs.YtlcfpmdamehopaaGreatDoorW.PrintWords Go.Proofs.YtlcfpmdamehopaaGreatDoorW.PrintLast Go.Proofs.YtlcfpmdamehopaaGreatDoorW.PrintMore
theorem index_loop (l : List Int) (x : Int) (hn : l.length ≤ 9223372036854775807) (d : Nat) : ∀ i : Nat, i + d = l.length →
    Ev (fun k => slices_Index_int_int.l0 k l x (l.length : Int) (i : Int)) (match (l.drop i).findIdx? (fun y => decide (x = y)) with | some j => ((i + j : Nat) : Int) | none => -1) := by
  induction d with
  | zero =>
    intro i hi
    refine Ev.succ ?_
    simp only [slices_Index_int_int.l0]
    rw [List.drop_eq_nil_of_le (by omega)]
    exact Ev.neg (by omega) (Ev.some rfl)
  | succ d ih =>
    intro i hi
    have hil : i < l.length := by omega
    refine Ev.succ ?_
    simp only [slices_Index_int_int.l0]
    refine Ev.pos (by omega) (Ev.pos (by omega) (Ev.pos (by omega) ?_))
    rw [rd_nat _ _ hil, wrap_step hil hn, List.drop_eq_getElem_cons hil, List.findIdx?_cons]
    by_cases h : x = l[i]
    · refine Ev.pos h (Ev.some ?_)
      simp [h]
    · refine Ev.neg h ?_
      have hq := ih (i + 1) (by omega)
      rw [decide_eq_false h]
      simp only [Bool.false_eq_true, if_false]
      cases hf : (l.drop (i + 1)).findIdx? (fun y => decide (x = y)) with
      | none => rw [hf] at hq; exact hq
      | some j =>
        rw [hf] at hq
        simp only [Option.map_some]
        rw [show i + (j + 1) = i + 1 + j from by omega]
        exact hq
theorem contains_ev (l : List Int) (x : Int) (hn : l.length ≤ 9223372036854775807) : Ev (fun k => slices_Contains_int_int.f k l x) (decide (x ∈ l)) := by
  unfold slices_Contains_int_int.f slices_Index_int_int.f
  refine Ev.bind (index_loop l x hn l.length 0 (by omega)) (Ev.some ?_)
  rw [List.drop_zero]
  cases hf : l.findIdx? (fun y => decide (x = y)) with
  | none =>
    rw [List.findIdx?_eq_none_iff] at hf
    have : ¬ x ∈ l := fun hx => by have := hf x hx; simp at this
    simp [this]
  | some j =>
    obtain ⟨hj, hp, _⟩ := List.findIdx?_eq_some_iff_getElem.1 hf
    have : x ∈ l := by
      have e : x = l[j] := of_decide_eq_true hp
      rw [e]; exact List.getElem_mem hj
    simp [this]

end Go.Proofs.YtlcfpmdamehopaaGreatDoor.PA
/- keelson/clause.Resolve: two clauses resolved. At most 2^43 literals each (the machine's room). -/
namespace Go.Proofs.YtlcfpmdamehopaaGreatDoor.PA
open Go.RowKit Go.Lib Go.Sort Go.Proofs.YtlcfpmdamehopaaGreatDoorW.PrintWords Go.Proofs.YtlcfpmdamehopaaGreatDoorW.PrintLast Go.Proofs.YtlcfpmdamehopaaGreatDoorW.PrintMore

def lessL (l : List Int) (x : Int) : List Int := l.filter fun y => !(y == x)
def resolveG (a b : List Int) (v : Int) : List Int × Bool := if v < 1 ∨ ¬ v ∈ a ∨ ¬ wrap64 (-v) ∈ b then ([], false) else (tidyL (lessL a v ++ lessL b (wrap64 (-v))), true)
def clause_Resolve.f (l0 l1 : List Int) (a2 : Int) : Option (List Int × Bool) := if l0.length ≤ 8796093022208 ∧ l1.length ≤ 8796093022208 then some (resolveG l0 l1 a2) else none

theorem below_sortWorld {B : Nat} {W : World} {b n : Nat} {os : Array Obj} {dk : Array Int} (hb : B ≤ b) (hB : B ≤ W.heap.size) : RowKit.Below B W (sortWorld (Value.int .i64) W b 0 n dk os) := by
  have h1 := below_putRow (enc := Value.int .i64) (q := n) (d := dk) (g := b) (RowKit.Below.refl B W) hb
  have hz : (putRow (Value.int .i64) (Sort.ahead W n) b 0 dk).heap.size = W.heap.size := by simp [putRow, mapBlock, Sort.ahead]
  have hg2 : RowKit.Below (putRow (Value.int .i64) (Sort.ahead W n) b 0 dk).heap.size (putRow (Value.int .i64) (Sort.ahead W n) b 0 dk) (grow (putRow (Value.int .i64) (Sort.ahead W n) b 0 dk) os) :=
    ⟨rfl, rfl, rfl, by show _ ≤ (_ ++ os).size; rw [Array.size_append]; omega, fun _ hj => Sort.heap_grow_old _ os hj⟩
  exact h1.trans (hg2.mono (by rw [hz]; exact hB))
set_option maxHeartbeats 400000 in
theorem resolve11_any (p : Addr) (x y : Int) (w : World) (hp : w.cell? p = some (.int .i64 x)) :
    Calls Tryz.prog 84 #[.int .i64 y, .pointer (some p)] w fun e w' => e = .returned (.bool (y == x)) ∧ ∃ q, w' = w.drewN q := by
  go_enter Tryz.func84, Tryz.ntmps84
  go_wp2
  go_ret
  exact ⟨rfl, 0, rfl⟩
theorem resolve11_enters : ∀ args w, (callFunc 84 args).run Tryz.prog w = .ok (.enter 84 args) w := enters_of Tryz.func84 (by kernel_rfl) rfl
set_option maxHeartbeats 1000000 in
theorem resolve1_any (A : Option Addr) (c : Nat) (l : List Int) (x : Int) (w : World) (hr : Kd.C (Kd.int .i64) w A l.length l) (hl : l.length ≤ 17592186044416) (hx : l ≠ []) :
    Calls Tryz.prog 82 #[.slice A l.length c, .int .i64 x] w fun e w' => ∃ v, e = .returned v ∧ OwnS w.heap.size w w' v (lessL l x) := by
  have hb1 : RowKit.Below w.heap.size w (w.alloc (.cells #[.int .i64 x] 3)) := (RowKit.Below.refl _ w).alloc (Nat.le_refl _) _
  have hcl := clone_own A c l (w.alloc (.cells #[.int .i64 x] 3)) (Kd.C_below hr hb1) (by omega)
  have hcell : (w.alloc (.cells #[.int .i64 x] 3)).cell? ⟨w.heap.size, 0, none⟩ = some (.int .i64 x) := by simp [go_sem]
  have hz : w.heap.size < (w.alloc (.cells #[.int .i64 x] 3)).heap.size := by simp
  generalize hw1 : w.alloc (.cells #[.int .i64 x] 3) = w1 at hb1 hcl hcell hz
  have hde : ∀ W v, OwnS w1.heap.size w1 W v l → Calls Tryz.prog 83 #[v, .func (.func 84) #[] #[.pointer (some ⟨w.heap.size, 0, none⟩)]] W fun e w' => ∃ v', e = .returned v' ∧ OwnS w.heap.size w w' v' (lessL l x) := by
    intro W v ho
    have hW : W.cell? ⟨w.heap.size, 0, none⟩ = some (.int .i64 x) := (ho.2.1.cell hz).trans hcell
    refine (delete_own (fun y => y == x) 84 #[.pointer (some ⟨w.heap.size, 0, none⟩)] resolve11_enters w1.heap.size w1 W v l hx ho ?_ ?_).mono ?_
    · intro b n os dk y hb
      exact resolve11_any _ x y _ (((below_sortWorld hb ho.2.2).cell hz).trans hW)
    · intro W' y hb
      exact resolve11_any _ x y _ (pw_cell_below hb hW)
    · rintro e w' ⟨v', rfl, h1, h2, h3⟩
      exact ⟨v', rfl, OwnS.lower ⟨h1, h2, h3⟩ hb1 hb1.size⟩
  have HDE := Lib.hid hde
  have hmf := makeFunc_run
  clear hde hcell hz hr hx hl hb1
  subst hw1
  go_enter Tryz.func82, Tryz.ntmps82
  go_wp2_with (first | (go_at_call 72; with_reducible refine hcl.mono ?_; rintro e w2 ⟨v1, rfl, o1⟩; have O1 := Lib.hid o1; clear o1) | (go_at_call 83; with_reducible refine (HDE.out _ _ O1.out).mono ?_; rintro e w3 ⟨v2, rfl, o2⟩; have O2 := Lib.hid o2; clear o2))
  go_ret
  exact ⟨_, rfl, O2.out⟩
theorem contains_calls (A : Option Addr) (c : Nat) (l : List Int) (x : Int) (w : World) (hr : Kd.C (Kd.int .i64) w A l.length l) (hc : l.length ≤ c) :
    Calls Tryz.prog 81 #[.slice A l.length c, .int .i64 x] w fun e w' => e = .returned (.bool (decide (x ∈ l))) ∧ Drawn0 w w' := by
  obtain ⟨K, hK⟩ := contains_ev l x hr.2.1
  exact slices_Contains_int_int.calls K A c l x _ w hr hc (hK K (Nat.le_refl _))
set_option maxHeartbeats 4000000 in
theorem clause_Resolve.calls (A0 : Option Addr) (c0 : Nat) (l0 : List Int) (A1 : Option Addr) (c1 : Nat) (l1 : List Int) (a2 : Int) (r1 : List Int) (r2 : Bool) (w : World) (hr0 : Kd.C (Kd.int .i64) w A0 l0.length l0) (hc0 : l0.length ≤ c0)
    (hr1 : Kd.C (Kd.int .i64) w A1 l1.length l1) (hc1 : l1.length ≤ c1) (h : clause_Resolve.f l0 l1 a2 = some (r1, r2)) :
    Calls Tryz.prog 37 #[.slice A0 l0.length c0, .slice A1 l1.length c1, .int .i64 a2] w fun e w' => ∃ v0_ : Value, e = .returned (.tuple #[v0_, .bool r2]) ∧ Kd.R (Kd.int .i64) 3 w' w.heap.size (fun _ => True) v0_ r1 ∧ Below w.heap.size w w' := by
  unfold clause_Resolve.f at h
  split at h
  case isFalse => cases h
  case isTrue hlen =>
  replace h := Option.some.inj h
  have k0 := contains_calls A0 c0 l0 a2 w hr0 hc0
  have k1 := fun m => contains_calls A1 c1 l1 (wrap64 (-a2)) (w.drewN m) (Kd.C_drewN hr1 m) hc1
  by_cases g0 : a2 < 1
  · have hG : resolveG l0 l1 a2 = ([], false) := by unfold resolveG; rw [if_pos (.inl g0)]
    rw [hG] at h
    cases h
    clear hr0 hr1 k0 k1
    go_enter Tryz.func37, Tryz.ntmps37
    go_wp2
    go_ret2
    exact ⟨_, rfl, (OwnS.nil (RowKit.Below.refl _ _) (Nat.le_refl _)).R, RowKit.Below.refl _ _⟩
  by_cases g1 : a2 ∈ l0
  case neg =>
    have hG : resolveG l0 l1 a2 = ([], false) := by unfold resolveG; rw [if_pos (.inr (.inl g1))]
    rw [hG] at h
    cases h
    rw [decide_eq_false g1] at k0
    clear hr0 hr1 k1 g1
    go_enter Tryz.func37, Tryz.ntmps37
    go_wp2_with (go_at_call 81; with_reducible refine k0.mono ?_; rintro e w' ⟨rfl, m, rfl⟩)
    go_ret2
    exact ⟨_, rfl, (OwnS.nil (pw_below_drewN (RowKit.Below.refl _ _) _) (Nat.le_refl _)).R, pw_below_drewN (RowKit.Below.refl _ _) _⟩
  by_cases g2 : wrap64 (-a2) ∈ l1
  case neg =>
    have hG : resolveG l0 l1 a2 = ([], false) := by unfold resolveG; rw [if_pos (.inr (.inr g2))]
    rw [hG] at h
    cases h
    rw [decide_eq_true g1] at k0
    rw [decide_eq_false g2] at k1
    clear hr0 hr1 g1 g2
    go_enter Tryz.func37, Tryz.ntmps37
    go_wp2_with (first | (go_at_call 81; with_reducible refine k0.mono ?_; rintro e w' ⟨rfl, m, rfl⟩) | (go_at_call 81; with_reducible refine (k1 _).mono ?_; rintro e w' ⟨rfl, m2, rfl⟩))
    go_ret2
    exact ⟨_, rfl, (OwnS.nil (pw_below_drewN (RowKit.Below.refl _ _) _) (Nat.le_refl _)).R, pw_below_drewN (RowKit.Below.refl _ _) _⟩
  have hG : resolveG l0 l1 a2 = (tidyL (lessL l0 a2 ++ lessL l1 (wrap64 (-a2))), true) := by
    unfold resolveG; rw [if_neg]; rintro (z | z | z) <;> contradiction
  rw [hG] at h
  cases h
  rw [decide_eq_true g1] at k0
  rw [decide_eq_true g2] at k1
  have n0 : l0 ≠ [] := List.ne_nil_of_mem g1
  have n1 : l1 ≠ [] := List.ne_nil_of_mem g2
  have q0 : (lessL l0 a2).length ≤ 8796093022208 := Nat.le_trans (List.length_filter_le _ _) hlen.1
  have q1 : (lessL l1 (wrap64 (-a2))).length ≤ 8796093022208 := Nat.le_trans (List.length_filter_le _ _) hlen.2
  have f0 := fun m => resolve1_any A0 c0 l0 a2 (w.drewN m) (Kd.C_drewN hr0 m) (by omega) n0
  have f1 := fun (W : World) (hW : RowKit.Below w.heap.size w W) => resolve1_any A1 c1 l1 (wrap64 (-a2)) W (Kd.C_below hr1 hW) (by omega) n1
  have ft := fun (W : World) (A : Option Addr) (c : Nat) (h1 : Kd.C (Kd.int .i64) W A (lessL l0 a2 ++ lessL l1 (wrap64 (-a2))).length (lessL l0 a2 ++ lessL l1 (wrap64 (-a2)))) (h2 : (lessL l0 a2 ++ lessL l1 (wrap64 (-a2))).length ≤ c) => clause_Tidy.calls A c _ (tidyL (lessL l0 a2 ++ lessL l1 (wrap64 (-a2)))) (bothL (tidyL (lessL l0 a2 ++ lessL l1 (wrap64 (-a2))))) W h1 h2 (by unfold clause_Tidy.f; rw [if_pos (by rw [List.length_append]; omega)])
  generalize lessL l0 a2 = x0 at f0 ft q0 ⊢
  generalize lessL l1 (wrap64 (-a2)) = x1 at f1 ft q1 ⊢
  generalize hy : x0 ++ x1 = y at ft ⊢
  generalize bothL (tidyL y) = bb at ft
  generalize tidyL y = r at ft ⊢
  have F1 := Lib.hid f1
  have FT := Lib.hid ft
  clear hr0 hr1 g1 g2 n0 n1 f1 ft hG
  go_enter Tryz.func37, Tryz.ntmps37
  go_wp2_with (first | (go_at_call 81; with_reducible refine k0.mono ?_; rintro e w' ⟨rfl, m, rfl⟩) | (go_at_call 81; with_reducible refine (k1 _).mono ?_; rintro e w' ⟨rfl, m2, rfl⟩) | (go_at_call 82; with_reducible refine (f0 _).mono ?_; rintro e w1 ⟨v1, rfl, o1⟩; have O1 := Lib.hid (OwnS.lower o1 (pw_below_drewN (RowKit.Below.refl w.heap.size w) _) (Nat.le_refl _)); clear o1) | (go_at_call 82; with_reducible refine (F1.out _ O1.out.bel).mono ?_; rintro e w2 ⟨v2, rfl, o2⟩; obtain ⟨A2, c2, rfl, hc2⟩ := o2.slice; have O1b := Lib.hid (O1.out.below o2.bel); have O2 := Lib.hid o2; clear o2 O1) | ((with_reducible refine gate_builtin (b := .append) (xs := #[.tmp 30, .tmp 35]) rfl ?_); (try (refine gate_guard (by rfl) ?_; dsimp only)); at_builtin; refine Kd.R_append_rows (Kd.int .i64) (w0 := w) w.heap.size rfl (.tmp 30) (.tmp 35) 64 3 (.int .i64 0) 8 rfl Tryz.underlying64 info3 rfl (by decide) (by omega) v1 x0 x1 _ _ _ (fun _ => True) (fun _ => False) rfl rfl O1b.out.R (Kd.R_reads' O2.out.R).2.2 (fun _ _ h => h) (fun _ h => h.elim) (fun _ _ => trivial) O1b.out.bel O1b.out.base (by omega) ?_; intro v3 w3 ho hb hg hat; rw [hy] at ho; obtain ⟨A3, c3, rfl⟩ := Kd.R_slice ho; have HO := Lib.hid ho; have HB := Lib.hid hb; clear ho hb hg hat) | (go_at_call 35; with_reducible refine (FT.out _ _ _ (Kd.R_reads' HO.out).2.2 (Kd.R_reads' HO.out).2.1).mono ?_; rintro e w4 ⟨v4, rfl, hR, hb4⟩; have O4 := Lib.hid (OwnS.lower (OwnS.of_R hR hb4 hb4.size) HB.out HB.out.size); clear hR hb4))
  go_ret2
  exact ⟨_, rfl, O4.out.R, O4.out.2.1⟩
end Go.Proofs.YtlcfpmdamehopaaGreatDoor.PA
