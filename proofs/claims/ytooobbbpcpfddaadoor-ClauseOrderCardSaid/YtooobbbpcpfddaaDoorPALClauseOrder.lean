-- Printed by gprint.py (wip/ of this repo), over the kit's print.
import Derived.Test.YtooobbbpcpfddaaDoorPA0
import Derived.Test.YtooobbbpcpfddaaDoorPAclause1
import Derived.Test.YtooobbbpcpfddaaDoorPAkeelsonlaw120
import Derived.Test.YtooobbbpcpfddaaDoorPAkeelsonlaw122
namespace Go.Proofs.YtooobbbpcpfddaaDoor.PA
open Go.RowKit Go.Proofs.YtooobbbpcpfddaaDoorW.PrintWords Go.Proofs.YtooobbbpcpfddaaDoorW.PrintLast Go.Proofs.YtooobbbpcpfddaaDoorW.PrintMore
attribute [local go_sem] max2_int min2_int max_two min_two max_three min_three max_four min_four   -- for this text's walks alone
set_option linter.unusedVariables false
set_option linter.unusedSimpArgs false

/-! ### keelsonlaw12_ClauseOrder: function 8 -/
mutual
def keelsonlaw12_ClauseOrder.j0 : Nat → Int → List (List Int) → List Int → Int → Bool → Bool → Option (Bool)
  | 0, _, _, _, _, _, _ => none
  | k + 1, x0, x1, x2, x3, x9, x47 => if x47 = true then (some x9) else (if (x1.length : Int) = 0 then (none) else (if (Int.tmod x3 (x1.length : Int)) < 0 then (keelsonlaw12_ClauseOrder.j1 k x0 x1 x2 (wrap64 (-(Int.tmod x3 (x1.length : Int))))) else (keelsonlaw12_ClauseOrder.j1 k x0 x1 x2 (Int.tmod x3 (x1.length : Int)))))
def keelsonlaw12_ClauseOrder.j1 : Nat → Int → List (List Int) → List Int → Int → Option (Bool)
  | 0, _, _, _, _ => none
  | k + 1, x0, x1, x2, x11 => keelsonlaw12_ClauseOrder.l0 k x0 x1 x2 x11 ([] : List (List Int)) 0
def keelsonlaw12_ClauseOrder.l0 : Nat → Int → List (List Int) → List Int → Int → List (List Int) → Int → Option (Bool)
  | 0, _, _, _, _, _, _ => none
  | k + 1, x0, x1, x2, x11, x12, x13 => if x13 < (x1.length : Int) then (if (x1.length : Int) = 0 then (none) else (if 0 ≤ (Int.tmod (wrap64 (x13 + x11)) (x1.length : Int)) then (if (Int.tmod (wrap64 (x13 + x11)) (x1.length : Int)) < (x1.length : Int) then (keelsonlaw12_ClauseOrder.l1 k x0 x1 x2 x11 x12 x13 (rd_L1 x1 (Int.tmod (wrap64 (x13 + x11)) (x1.length : Int))) ([] : List Int) (wrap64 (((rd_L1 x1 (Int.tmod (wrap64 (x13 + x11)) (x1.length : Int))).length : Int) - 1))) else (none)) else (none))) else ((clause_Units.f k x0 x1 x2).bind fun bt435 => ((clause_Units.f k x0 x12 x2).bind fun bt439 => ((keelsonlaw12_sameInts.f k bt435.1 bt439.1).bind fun t443 => (if t443 = true then (keelsonlaw12_ClauseOrder.j4 k x0 x1 bt435.1 bt435.2 (bt435.2 != bt439.2)) else (keelsonlaw12_ClauseOrder.j4 k x0 x1 bt435.1 bt435.2 true)))))
def keelsonlaw12_ClauseOrder.l1 : Nat → Int → List (List Int) → List Int → Int → List (List Int) → Int → List Int → List Int → Int → Option (Bool)
  | 0, _, _, _, _, _, _, _, _, _ => none
  | k + 1, x0, x1, x2, x11, x12, x13, x14, x15, x16 => if x16 ≥ 0 then (if 0 ≤ x16 then (if x16 < (x14.length : Int) then (if x15.length < 17592186044416 then (keelsonlaw12_ClauseOrder.l1 k x0 x1 x2 x11 x12 x13 x14 (x15 ++ [rd x14 x16]) (wrap64 (x16 - 1))) else (none)) else (none)) else (none)) else (if x12.length < 5864062014805 then (keelsonlaw12_ClauseOrder.l0 k x0 x1 x2 x11 (x12 ++ [x15]) (wrap64 (x13 + 1))) else (none))
def keelsonlaw12_ClauseOrder.j4 : Nat → Int → List (List Int) → List Int → Bool → Bool → Option (Bool)
  | 0, _, _, _, _, _ => none
  | k + 1, x0, x1, x17, x18, x112 => if x112 = true then (none) else (keelsonlaw12_ClauseOrder.l2 k x0 x1 x17 x18 ([] : List Int) 0)
def keelsonlaw12_ClauseOrder.l2 : Nat → Int → List (List Int) → List Int → Bool → List Int → Int → Option (Bool)
  | 0, _, _, _, _, _, _ => none
  | k + 1, x0, x1, x17, x18, x21, x22 => if x22 < (x17.length : Int) then (if 0 ≤ x22 then (if (rd x17 x22) = 0 then (keelsonlaw12_ClauseOrder.l2 k x0 x1 x17 x18 x21 (wrap64 (x22 + 1))) else (if x21.length < 17592186044416 then (keelsonlaw12_ClauseOrder.l2 k x0 x1 x17 x18 (x21 ++ [wrap64 ((wrap64 (x22 + 1)) * (rd x17 x22))]) (wrap64 (x22 + 1))) else (none))) else (none)) else ((clause_Units.f k x0 x1 x21).bind fun bt449 => (if x18 = true then (if bt449.2 = true then ((keelsonlaw12_sameInts.f k x17 bt449.1).bind fun t453 => (some t453)) else (none)) else (some true)))
end
def keelsonlaw12_ClauseOrder.f (k : Nat) (a0 : Int) (l1 : List (List Int)) (l2 : List Int) (a3 : Int) : Option (Bool) := (keelsonlaw12_shown.f k).bind fun t425 => ((keelsonlaw12_small.f k l1).bind fun t426 => (if t425 = true then (if t426 = true then (if (l2.length : Int) > 100 then (keelsonlaw12_ClauseOrder.j0 k a0 l1 l2 a3 t425 true) else (if a0 > 1000 then (keelsonlaw12_ClauseOrder.j0 k a0 l1 l2 a3 t425 true) else (keelsonlaw12_ClauseOrder.j0 k a0 l1 l2 a3 t425 ((l1.length : Int) == 0)))) else (keelsonlaw12_ClauseOrder.j0 k a0 l1 l2 a3 t425 true)) else (keelsonlaw12_ClauseOrder.j0 k a0 l1 l2 a3 t425 true)))
theorem keelsonlaw12_ClauseOrder.mono_l : ∀ k, (∀ y0 y1 y2 y3 y4 y5, LeO (keelsonlaw12_ClauseOrder.j0 k y0 y1 y2 y3 y4 y5) (keelsonlaw12_ClauseOrder.j0 (k + 1) y0 y1 y2 y3 y4 y5)) ∧ (∀ y0 y1 y2 y3, LeO (keelsonlaw12_ClauseOrder.j1 k y0 y1 y2 y3) (keelsonlaw12_ClauseOrder.j1 (k + 1) y0 y1 y2 y3)) ∧ (∀ y0 y1 y2 y3 y4 y5, LeO (keelsonlaw12_ClauseOrder.l0 k y0 y1 y2 y3 y4 y5) (keelsonlaw12_ClauseOrder.l0 (k + 1) y0 y1 y2 y3 y4 y5)) ∧ (∀ y0 y1 y2 y3 y4 y5 y6 y7 y8, LeO (keelsonlaw12_ClauseOrder.l1 k y0 y1 y2 y3 y4 y5 y6 y7 y8) (keelsonlaw12_ClauseOrder.l1 (k + 1) y0 y1 y2 y3 y4 y5 y6 y7 y8)) ∧ (∀ y0 y1 y2 y3 y4, LeO (keelsonlaw12_ClauseOrder.j4 k y0 y1 y2 y3 y4) (keelsonlaw12_ClauseOrder.j4 (k + 1) y0 y1 y2 y3 y4)) ∧ (∀ y0 y1 y2 y3 y4 y5, LeO (keelsonlaw12_ClauseOrder.l2 k y0 y1 y2 y3 y4 y5) (keelsonlaw12_ClauseOrder.l2 (k + 1) y0 y1 y2 y3 y4 y5))
  | 0 => ⟨fun _ _ _ _ _ _ r h => by simp [keelsonlaw12_ClauseOrder.j0] at h, fun _ _ _ _ r h => by simp [keelsonlaw12_ClauseOrder.j1] at h, fun _ _ _ _ _ _ r h => by simp [keelsonlaw12_ClauseOrder.l0] at h, fun _ _ _ _ _ _ _ _ _ r h => by simp [keelsonlaw12_ClauseOrder.l1] at h, fun _ _ _ _ _ r h => by simp [keelsonlaw12_ClauseOrder.j4] at h, fun _ _ _ _ _ _ r h => by simp [keelsonlaw12_ClauseOrder.l2] at h⟩
  | k + 1 => by
    obtain ⟨ih0, ih1, ih2, ih3, ih4, ih5⟩ := keelsonlaw12_ClauseOrder.mono_l k
    refine ⟨?_, ?_, ?_, ?_, ?_, ?_⟩
    · intro y0 y1 y2 y3 y4 y5
      unfold keelsonlaw12_ClauseOrder.j0
      repeat' first
      | (with_reducible exact ih0 _ _ _ _ _ _)
      | (with_reducible exact ih1 _ _ _ _)
      | (with_reducible exact ih2 _ _ _ _ _ _)
      | (with_reducible exact ih3 _ _ _ _ _ _ _ _ _)
      | (with_reducible exact ih4 _ _ _ _ _)
      | (with_reducible exact ih5 _ _ _ _ _ _)
      | (with_reducible exact clause_Units.mono _ _ _ _)
      | (with_reducible exact keelsonlaw12_sameInts.mono _ _ _)
      | (with_reducible exact keelsonlaw12_shown.mono _)
      | (with_reducible exact keelsonlaw12_small.mono _ _)
      | (with_reducible exact LeO.refl _)
      | (with_reducible exact LeO.none _)
      | (with_reducible refine LeO.ite ?_ ?_)
      | (with_reducible refine LeO.bind ?_ (fun _ => ?_))
      | exact ih0 _ _ _ _ _ _
      | exact ih1 _ _ _ _
      | exact ih2 _ _ _ _ _ _
      | exact ih3 _ _ _ _ _ _ _ _ _
      | exact ih4 _ _ _ _ _
      | exact ih5 _ _ _ _ _ _
      | exact clause_Units.mono _ _ _ _
      | exact keelsonlaw12_sameInts.mono _ _ _
      | exact keelsonlaw12_shown.mono _
      | exact keelsonlaw12_small.mono _ _
      | exact LeO.none _
      | refine LeO.ite ?_ ?_
      | refine LeO.bind ?_ (fun _ => ?_)
    · intro y0 y1 y2 y3
      unfold keelsonlaw12_ClauseOrder.j1
      repeat' first
      | (with_reducible exact ih0 _ _ _ _ _ _)
      | (with_reducible exact ih1 _ _ _ _)
      | (with_reducible exact ih2 _ _ _ _ _ _)
      | (with_reducible exact ih3 _ _ _ _ _ _ _ _ _)
      | (with_reducible exact ih4 _ _ _ _ _)
      | (with_reducible exact ih5 _ _ _ _ _ _)
      | (with_reducible exact clause_Units.mono _ _ _ _)
      | (with_reducible exact keelsonlaw12_sameInts.mono _ _ _)
      | (with_reducible exact keelsonlaw12_shown.mono _)
      | (with_reducible exact keelsonlaw12_small.mono _ _)
      | (with_reducible exact LeO.refl _)
      | (with_reducible exact LeO.none _)
      | (with_reducible refine LeO.ite ?_ ?_)
      | (with_reducible refine LeO.bind ?_ (fun _ => ?_))
      | exact ih0 _ _ _ _ _ _
      | exact ih1 _ _ _ _
      | exact ih2 _ _ _ _ _ _
      | exact ih3 _ _ _ _ _ _ _ _ _
      | exact ih4 _ _ _ _ _
      | exact ih5 _ _ _ _ _ _
      | exact clause_Units.mono _ _ _ _
      | exact keelsonlaw12_sameInts.mono _ _ _
      | exact keelsonlaw12_shown.mono _
      | exact keelsonlaw12_small.mono _ _
      | exact LeO.none _
      | refine LeO.ite ?_ ?_
      | refine LeO.bind ?_ (fun _ => ?_)
    · intro y0 y1 y2 y3 y4 y5
      unfold keelsonlaw12_ClauseOrder.l0
      repeat' first
      | (with_reducible exact ih0 _ _ _ _ _ _)
      | (with_reducible exact ih1 _ _ _ _)
      | (with_reducible exact ih2 _ _ _ _ _ _)
      | (with_reducible exact ih3 _ _ _ _ _ _ _ _ _)
      | (with_reducible exact ih4 _ _ _ _ _)
      | (with_reducible exact ih5 _ _ _ _ _ _)
      | (with_reducible exact clause_Units.mono _ _ _ _)
      | (with_reducible exact keelsonlaw12_sameInts.mono _ _ _)
      | (with_reducible exact keelsonlaw12_shown.mono _)
      | (with_reducible exact keelsonlaw12_small.mono _ _)
      | (with_reducible exact LeO.refl _)
      | (with_reducible exact LeO.none _)
      | (with_reducible refine LeO.ite ?_ ?_)
      | (with_reducible refine LeO.bind ?_ (fun _ => ?_))
      | exact ih0 _ _ _ _ _ _
      | exact ih1 _ _ _ _
      | exact ih2 _ _ _ _ _ _
      | exact ih3 _ _ _ _ _ _ _ _ _
      | exact ih4 _ _ _ _ _
      | exact ih5 _ _ _ _ _ _
      | exact clause_Units.mono _ _ _ _
      | exact keelsonlaw12_sameInts.mono _ _ _
      | exact keelsonlaw12_shown.mono _
      | exact keelsonlaw12_small.mono _ _
      | exact LeO.none _
      | refine LeO.ite ?_ ?_
      | refine LeO.bind ?_ (fun _ => ?_)
    · intro y0 y1 y2 y3 y4 y5 y6 y7 y8
      unfold keelsonlaw12_ClauseOrder.l1
      repeat' first
      | (with_reducible exact ih0 _ _ _ _ _ _)
      | (with_reducible exact ih1 _ _ _ _)
      | (with_reducible exact ih2 _ _ _ _ _ _)
      | (with_reducible exact ih3 _ _ _ _ _ _ _ _ _)
      | (with_reducible exact ih4 _ _ _ _ _)
      | (with_reducible exact ih5 _ _ _ _ _ _)
      | (with_reducible exact clause_Units.mono _ _ _ _)
      | (with_reducible exact keelsonlaw12_sameInts.mono _ _ _)
      | (with_reducible exact keelsonlaw12_shown.mono _)
      | (with_reducible exact keelsonlaw12_small.mono _ _)
      | (with_reducible exact LeO.refl _)
      | (with_reducible exact LeO.none _)
      | (with_reducible refine LeO.ite ?_ ?_)
      | (with_reducible refine LeO.bind ?_ (fun _ => ?_))
      | exact ih0 _ _ _ _ _ _
      | exact ih1 _ _ _ _
      | exact ih2 _ _ _ _ _ _
      | exact ih3 _ _ _ _ _ _ _ _ _
      | exact ih4 _ _ _ _ _
      | exact ih5 _ _ _ _ _ _
      | exact clause_Units.mono _ _ _ _
      | exact keelsonlaw12_sameInts.mono _ _ _
      | exact keelsonlaw12_shown.mono _
      | exact keelsonlaw12_small.mono _ _
      | exact LeO.none _
      | refine LeO.ite ?_ ?_
      | refine LeO.bind ?_ (fun _ => ?_)
    · intro y0 y1 y2 y3 y4
      unfold keelsonlaw12_ClauseOrder.j4
      repeat' first
      | (with_reducible exact ih0 _ _ _ _ _ _)
      | (with_reducible exact ih1 _ _ _ _)
      | (with_reducible exact ih2 _ _ _ _ _ _)
      | (with_reducible exact ih3 _ _ _ _ _ _ _ _ _)
      | (with_reducible exact ih4 _ _ _ _ _)
      | (with_reducible exact ih5 _ _ _ _ _ _)
      | (with_reducible exact clause_Units.mono _ _ _ _)
      | (with_reducible exact keelsonlaw12_sameInts.mono _ _ _)
      | (with_reducible exact keelsonlaw12_shown.mono _)
      | (with_reducible exact keelsonlaw12_small.mono _ _)
      | (with_reducible exact LeO.refl _)
      | (with_reducible exact LeO.none _)
      | (with_reducible refine LeO.ite ?_ ?_)
      | (with_reducible refine LeO.bind ?_ (fun _ => ?_))
      | exact ih0 _ _ _ _ _ _
      | exact ih1 _ _ _ _
      | exact ih2 _ _ _ _ _ _
      | exact ih3 _ _ _ _ _ _ _ _ _
      | exact ih4 _ _ _ _ _
      | exact ih5 _ _ _ _ _ _
      | exact clause_Units.mono _ _ _ _
      | exact keelsonlaw12_sameInts.mono _ _ _
      | exact keelsonlaw12_shown.mono _
      | exact keelsonlaw12_small.mono _ _
      | exact LeO.none _
      | refine LeO.ite ?_ ?_
      | refine LeO.bind ?_ (fun _ => ?_)
    · intro y0 y1 y2 y3 y4 y5
      unfold keelsonlaw12_ClauseOrder.l2
      repeat' first
      | (with_reducible exact ih0 _ _ _ _ _ _)
      | (with_reducible exact ih1 _ _ _ _)
      | (with_reducible exact ih2 _ _ _ _ _ _)
      | (with_reducible exact ih3 _ _ _ _ _ _ _ _ _)
      | (with_reducible exact ih4 _ _ _ _ _)
      | (with_reducible exact ih5 _ _ _ _ _ _)
      | (with_reducible exact clause_Units.mono _ _ _ _)
      | (with_reducible exact keelsonlaw12_sameInts.mono _ _ _)
      | (with_reducible exact keelsonlaw12_shown.mono _)
      | (with_reducible exact keelsonlaw12_small.mono _ _)
      | (with_reducible exact LeO.refl _)
      | (with_reducible exact LeO.none _)
      | (with_reducible refine LeO.ite ?_ ?_)
      | (with_reducible refine LeO.bind ?_ (fun _ => ?_))
      | exact ih0 _ _ _ _ _ _
      | exact ih1 _ _ _ _
      | exact ih2 _ _ _ _ _ _
      | exact ih3 _ _ _ _ _ _ _ _ _
      | exact ih4 _ _ _ _ _
      | exact ih5 _ _ _ _ _ _
      | exact clause_Units.mono _ _ _ _
      | exact keelsonlaw12_sameInts.mono _ _ _
      | exact keelsonlaw12_shown.mono _
      | exact keelsonlaw12_small.mono _ _
      | exact LeO.none _
      | refine LeO.ite ?_ ?_
      | refine LeO.bind ?_ (fun _ => ?_)
theorem keelsonlaw12_ClauseOrder.mono : ∀ a0 a1 a2 a3 k, LeO (keelsonlaw12_ClauseOrder.f k a0 a1 a2 a3) (keelsonlaw12_ClauseOrder.f (k + 1) a0 a1 a2 a3) := by
  intro a0 a1 a2 a3 k
  obtain ⟨ih0, ih1, ih2, ih3, ih4, ih5⟩ := keelsonlaw12_ClauseOrder.mono_l k
  unfold keelsonlaw12_ClauseOrder.f
  repeat' first
      | (with_reducible exact ih0 _ _ _ _ _ _)
      | (with_reducible exact ih1 _ _ _ _)
      | (with_reducible exact ih2 _ _ _ _ _ _)
      | (with_reducible exact ih3 _ _ _ _ _ _ _ _ _)
      | (with_reducible exact ih4 _ _ _ _ _)
      | (with_reducible exact ih5 _ _ _ _ _ _)
      | (with_reducible exact clause_Units.mono _ _ _ _)
      | (with_reducible exact keelsonlaw12_sameInts.mono _ _ _)
      | (with_reducible exact keelsonlaw12_shown.mono _)
      | (with_reducible exact keelsonlaw12_small.mono _ _)
      | (with_reducible exact LeO.refl _)
      | (with_reducible exact LeO.none _)
      | (with_reducible refine LeO.ite ?_ ?_)
      | (with_reducible refine LeO.bind ?_ (fun _ => ?_))
      | exact ih0 _ _ _ _ _ _
      | exact ih1 _ _ _ _
      | exact ih2 _ _ _ _ _ _
      | exact ih3 _ _ _ _ _ _ _ _ _
      | exact ih4 _ _ _ _ _
      | exact ih5 _ _ _ _ _ _
      | exact clause_Units.mono _ _ _ _
      | exact keelsonlaw12_sameInts.mono _ _ _
      | exact keelsonlaw12_shown.mono _
      | exact keelsonlaw12_small.mono _ _
      | exact LeO.none _
      | refine LeO.ite ?_ ?_
      | refine LeO.bind ?_ (fun _ => ?_)
set_option maxHeartbeats 8000000 in
set_option maxRecDepth 100000 in
theorem keelsonlaw12_ClauseOrder.calls (k : Nat) (a0 : Int) (A1 : Option Addr) (c1 : Nat) (l1 : List (List Int)) (A2 : Option Addr) (c2 : Nat) (l2 : List Int) (a3 : Int) (r : Bool) (w : World) (hr1 : Kd.C (Kd.slice 3 (Kd.int .i64)) w A1 l1.length l1) (hc1 : l1.length ≤ c1) (hr2 : Kd.C (Kd.int .i64) w A2 l2.length l2) (hc2 : l2.length ≤ c2) (hG_pow10 : GlobPow10 w) (h : keelsonlaw12_ClauseOrder.f k a0 l1 l2 a3 = some r) :
    Calls Tryd.prog 8 #[.int .i64 a0, .slice A1 l1.length c1, .slice A2 l2.length c2, .int .i64 a3] w fun e w' => e = .returned (.bool r) ∧ Below w.heap.size w w' := by
  have HG_pow10 := Aside0.mk hG_pow10
  clear hG_pow10
  have HR1 := Aside0.mk hr1
  have HC1 := Aside0.mk hc1
  clear hr1 hc1
  have HR2 := Aside0.mk hr2
  have HC2 := Aside0.mk hc2
  clear hr2 hc2
  have HB := Aside0.mk (Below.refl w.heap.size w)
  have H : ((keelsonlaw12_shown.f k).bind fun t425 => ((keelsonlaw12_small.f k l1).bind fun t426 => (if t425 = true then (if t426 = true then (if (l2.length : Int) > 100 then (keelsonlaw12_ClauseOrder.j0 k a0 l1 l2 a3 t425 true) else (if a0 > 1000 then (keelsonlaw12_ClauseOrder.j0 k a0 l1 l2 a3 t425 true) else (keelsonlaw12_ClauseOrder.j0 k a0 l1 l2 a3 t425 ((l1.length : Int) == 0)))) else (keelsonlaw12_ClauseOrder.j0 k a0 l1 l2 a3 t425 true)) else (keelsonlaw12_ClauseOrder.j0 k a0 l1 l2 a3 t425 true)))) = some r := h
  clear h
  replace H := Option.bind_eq_some_iff.mp H
  obtain ⟨t425, A50, H⟩ := H
  replace H : ((keelsonlaw12_small.f k l1).bind fun t426 => (if t425 = true then (if t426 = true then (if (l2.length : Int) > 100 then (keelsonlaw12_ClauseOrder.j0 k a0 l1 l2 a3 t425 true) else (if a0 > 1000 then (keelsonlaw12_ClauseOrder.j0 k a0 l1 l2 a3 t425 true) else (keelsonlaw12_ClauseOrder.j0 k a0 l1 l2 a3 t425 ((l1.length : Int) == 0)))) else (keelsonlaw12_ClauseOrder.j0 k a0 l1 l2 a3 t425 true)) else (keelsonlaw12_ClauseOrder.j0 k a0 l1 l2 a3 t425 true))) = some r := H
  have A5 := Aside0.mk A50
  clear A50
  replace H := Option.bind_eq_some_iff.mp H
  obtain ⟨t426, A60, H⟩ := H
  replace H : (if t425 = true then (if t426 = true then (if (l2.length : Int) > 100 then (keelsonlaw12_ClauseOrder.j0 k a0 l1 l2 a3 t425 true) else (if a0 > 1000 then (keelsonlaw12_ClauseOrder.j0 k a0 l1 l2 a3 t425 true) else (keelsonlaw12_ClauseOrder.j0 k a0 l1 l2 a3 t425 ((l1.length : Int) == 0)))) else (keelsonlaw12_ClauseOrder.j0 k a0 l1 l2 a3 t425 true)) else (keelsonlaw12_ClauseOrder.j0 k a0 l1 l2 a3 t425 true)) = some r := H
  have A6 := Aside0.mk A60
  clear A60
  have HC7 := Aside0.mk H
  clear H
  go_enter Tryd.func8, Tryd.ntmps8
  go_upto_region 3 with (first | ((with_reducible refine gate_callee (f := 33) rfl ?_); refine goesL_ (some 25) rfl rfl Tryd.func33 (by kernel_rfl) rfl #[] rfl (by (try simp only [List.map_toArray, List.map_cons, List.map_nil]); first | done | rfl | (simp only [List.length_drop, List.length_take]; rfl)) ?_; (with_reducible refine (keelsonlaw12_shown.calls k  t425 _ ?side1 A5.out).mono ?_); (case side1 => exact HG_pow10.out.below (by repeat (first | (with_reducible first | exact HB.out | apply below_alloc | apply pw_below_drewN | apply below_drew1) | exact HB.out))); rintro e w8 ⟨rfl, hb⟩; refine ⟨_, rfl, ?_⟩; have n0_ := Aside0.mk (below_step (by repeat (first | (with_reducible first | exact HB.out | apply below_alloc | apply pw_below_drewN | apply below_drew1) | exact HB.out)) hb); clear HB; have HB := n0_; clear n0_; (try clear hb); (try clear hb2); (try clear hk); (try clear hi)) | ((with_reducible refine gate_callee (f := 34) rfl ?_); refine goesL_ (some 27) rfl rfl Tryd.func34 (by kernel_rfl) rfl #[.slice A1 l1.length c1] rfl (by (try simp only [List.map_toArray, List.map_cons, List.map_nil]); first | done | rfl | (simp only [List.length_drop, List.length_take]; rfl)) ?_; (with_reducible refine (keelsonlaw12_small.calls k _ _ l1 t426 _ ?side1 ?side2 A6.out).mono ?_); (case side1 => repeat (first | exact (Kd.C_below HR1.out HB.out) | (with_reducible refine Kd.C_alloc ?_ _) | (with_reducible refine Kd.C_drewN ?_ _) | (with_reducible refine Kd.C_drew ?_))); (case side2 => exact HC1.out); rintro e w' ⟨rfl, ⟨nd, rfl⟩⟩; refine ⟨_, rfl, ?_⟩))
  (try simp only [Act.put, List.setIfInBounds_toArray, List.set_cons_zero, List.set_cons_succ])
  go_cut [47] (fun v47 wc => ∃ (kq : Nat) (x47_6 : Bool), v47 = .bool x47_6 ∧ Aside0 (keelsonlaw12_ClauseOrder.j0 kq a0 l1 l2 a3 t425 x47_6 = some r) ∧ Aside0 (kq ≤ k) ∧ Aside0 (Below w.heap.size w wc))
  case first => as_aux_lemma =>
    have H := HC7.out
    clear HC7
    by_cases c9 : t425 = true
    · subst c9
      have H1 : (if t426 = true then (if (l2.length : Int) > 100 then (keelsonlaw12_ClauseOrder.j0 k a0 l1 l2 a3 true true) else (if a0 > 1000 then (keelsonlaw12_ClauseOrder.j0 k a0 l1 l2 a3 true true) else (keelsonlaw12_ClauseOrder.j0 k a0 l1 l2 a3 true ((l1.length : Int) == 0)))) else (keelsonlaw12_ClauseOrder.j0 k a0 l1 l2 a3 true true)) = some r := by rw [if_pos rfl] at H; exact H
      clear H
      have H := H1
      clear H1
      by_cases c10 : t426 = true
      · subst c10
        have H1 : (if (l2.length : Int) > 100 then (keelsonlaw12_ClauseOrder.j0 k a0 l1 l2 a3 true true) else (if a0 > 1000 then (keelsonlaw12_ClauseOrder.j0 k a0 l1 l2 a3 true true) else (keelsonlaw12_ClauseOrder.j0 k a0 l1 l2 a3 true ((l1.length : Int) == 0)))) = some r := by rw [if_pos rfl] at H; exact H
        clear H
        have H := H1
        clear H1
        by_cases c11 : (l2.length : Int) > 100
        · rw [if_pos c11] at H
          have c11b0 : decide (100 < (l2.length : Int)) = true := decide_eq_true c11
          have c11b1 : decide (100 < l2.length) = true := decide_eq_true (by omega)
          clear c11
          (first | rw [c11b0] | (simp only [i64_w, i32_w]; rw [c11b0]) | rw [c11b1] | skip)
          have H' := Aside0.mk H
          clear H
          go_wp2
          go_meet
          case rel => exact ⟨_, (true), (by first | rfl | (simp; done) | (simp [*]; done)), H', ⟨by first | omega | exact Nat.le_refl _⟩, ⟨by repeat (first | (with_reducible first | exact HB.out | apply below_alloc | apply pw_below_drewN | apply below_drew1) | exact HB.out)⟩⟩
        · rw [if_neg c11] at H
          have c11b0 : decide (100 < (l2.length : Int)) = false := decide_eq_false c11
          have c11b1 : decide (100 < l2.length) = false := decide_eq_false (by omega)
          clear c11
          (first | rw [c11b0] | (simp only [i64_w, i32_w]; rw [c11b0]) | rw [c11b1] | skip)
          by_cases c12 : a0 > 1000
          · rw [if_pos c12] at H
            have c12b0 : decide (1000 < a0) = true := decide_eq_true c12
            clear c12
            have H' := Aside0.mk H
            clear H
            go_wp2
            go_meet
            case rel => exact ⟨_, (true), (by first | rfl | (simp; done) | (simp [*]; done)), H', ⟨by first | omega | exact Nat.le_refl _⟩, ⟨by repeat (first | (with_reducible first | exact HB.out | apply below_alloc | apply pw_below_drewN | apply below_drew1) | exact HB.out)⟩⟩
          · rw [if_neg c12] at H
            have c12b0 : decide (1000 < a0) = false := decide_eq_false c12
            clear c12
            have H' := Aside0.mk H
            clear H
            go_wp2
            go_meet
            case rel => exact ⟨_, (((l1.length : Int) == 0)), (by first | rfl | (simp; done) | (simp [*]; done)), H', ⟨by first | omega | exact Nat.le_refl _⟩, ⟨by repeat (first | (with_reducible first | exact HB.out | apply below_alloc | apply pw_below_drewN | apply below_drew1) | exact HB.out)⟩⟩
      · replace c10 := Bool.eq_false_iff.mpr c10
        subst c10
        have H1 : (keelsonlaw12_ClauseOrder.j0 k a0 l1 l2 a3 true true) = some r := by rw [if_neg (show ¬ (false = true) by decide)] at H; exact H
        clear H
        have H := H1
        clear H1
        have H' := Aside0.mk H
        clear H
        go_wp2
        go_meet
        case rel => exact ⟨_, (true), (by first | rfl | (simp; done) | (simp [*]; done)), H', ⟨by first | omega | exact Nat.le_refl _⟩, ⟨by repeat (first | (with_reducible first | exact HB.out | apply below_alloc | apply pw_below_drewN | apply below_drew1) | exact HB.out)⟩⟩
    · replace c9 := Bool.eq_false_iff.mpr c9
      subst c9
      have H1 : (keelsonlaw12_ClauseOrder.j0 k a0 l1 l2 a3 false true) = some r := by rw [if_neg (show ¬ (false = true) by decide)] at H; exact H
      clear H
      have H := H1
      clear H1
      have H' := Aside0.mk H
      clear H
      go_wp2
      go_meet
      case rel => exact ⟨_, (true), (by first | rfl | (simp; done) | (simp [*]; done)), H', ⟨by first | omega | exact Nat.le_refl _⟩, ⟨by repeat (first | (with_reducible first | exact HB.out | apply below_alloc | apply pw_below_drewN | apply below_drew1) | exact HB.out)⟩⟩
  case rest => as_aux_lemma =>
    clear HC7
    try clear c1
    try clear c2
    try clear p2
    try clear c3
    try clear c8
    try clear c9
    try clear c10
    try clear c11
    try clear c11b0
    try clear c11b1
    try clear c12
    try clear c12b0
    obtain ⟨kq, x47_6, rfl, HA, HJ6, HB⟩ := hcut
    cases kq with
    | zero => exact absurd HA.out (by simp [keelsonlaw12_ClauseOrder.j0])
    | succ kj6 =>
      have H := HA.out
      clear HA
      simp only [keelsonlaw12_ClauseOrder.j0] at H
      by_cases c13 : x47_6 = true
      · subst c13
        have H1 : (some t425) = some r := by rw [if_pos rfl] at H; exact H
        clear H
        have H := H1
        clear H1
        obtain rfl := Option.some.inj H
        go_wp2
        go_ret
        exact ⟨by first | rfl | (simp [errW_none, errW_some] <;> rfl) | (simp [*, errW_none, errW_some] <;> rfl), by repeat (first | (with_reducible first | exact HB.out | apply below_alloc | apply pw_below_drewN | apply below_drew1) | exact HB.out)⟩
      · replace c13 := Bool.eq_false_iff.mpr c13
        subst c13
        have H1 : (if (l1.length : Int) = 0 then (none) else (if (Int.tmod a3 (l1.length : Int)) < 0 then (keelsonlaw12_ClauseOrder.j1 kj6 a0 l1 l2 (wrap64 (-(Int.tmod a3 (l1.length : Int))))) else (keelsonlaw12_ClauseOrder.j1 kj6 a0 l1 l2 (Int.tmod a3 (l1.length : Int))))) = some r := by rw [if_neg (show ¬ (false = true) by decide)] at H; exact H
        clear H
        have H := H1
        clear H1
        by_cases c14 : (l1.length : Int) = 0
        · rw [if_pos c14] at H
          exact absurd H (by simp)
        · rw [if_neg c14] at H
          have c14b0 : ((l1.length : Int) == 0) = false := beq_eq_false_iff_ne.mpr c14
          have c14b1 : ((l1.length : Int) != 0) = true := bne_iff_ne.mpr c14
          have c14b2 : ¬ (l1 = []) := fun h_ => c14 (by rw [h_]; rfl)
          have HC15 := Aside0.mk H
          clear H
          go_upto_if 54 with (fail)
          go_cut [11] (fun v11 wc => ∃ (kq : Nat) (x11_14 : Int), v11 = .int .i64 x11_14 ∧ Aside0 (keelsonlaw12_ClauseOrder.j1 kq a0 l1 l2 x11_14 = some r) ∧ Aside0 (kq ≤ kj6) ∧ Aside0 (Below w.heap.size w wc))
          case first => as_aux_lemma =>
            have H := HC15.out
            clear HC15
            by_cases c16 : (Int.tmod a3 (l1.length : Int)) < 0
            · rw [if_pos c16] at H
              have c16b0 : decide ((Int.tmod a3 (l1.length : Int)) < 0) = true := decide_eq_true c16
              clear c16
              (first | rw [c16b0] | (simp only [i64_w, i32_w]; rw [c16b0]) | rw [c16b1] | skip)
              have H' := Aside0.mk H
              clear H
              go_wp2
              go_meet
              case rel => exact ⟨_, (wrap64 (-(Int.tmod a3 (l1.length : Int)))), (by first | rfl | (simp; done) | (simp [*]; done)), H', ⟨by have := HJ6.out; first | omega | exact Nat.le_refl _⟩, ⟨by repeat (first | (with_reducible first | exact HB.out | apply below_alloc | apply pw_below_drewN | apply below_drew1) | exact HB.out)⟩⟩
            · rw [if_neg c16] at H
              have c16b0 : decide ((Int.tmod a3 (l1.length : Int)) < 0) = false := decide_eq_false c16
              clear c16
              (first | rw [c16b0] | (simp only [i64_w, i32_w]; rw [c16b0]) | rw [c16b1] | skip)
              have H' := Aside0.mk H
              clear H
              go_wp2
              go_meet
              case rel => exact ⟨_, (Int.tmod a3 (l1.length : Int)), (by first | rfl | (simp; done) | (simp [*]; done)), H', ⟨by have := HJ6.out; first | omega | exact Nat.le_refl _⟩, ⟨by repeat (first | (with_reducible first | exact HB.out | apply below_alloc | apply pw_below_drewN | apply below_drew1) | exact HB.out)⟩⟩
          case rest => as_aux_lemma =>
            clear HC15
            try clear c1
            try clear c2
            try clear p2
            try clear c3
            try clear p6
            try clear c8
            try clear c9
            try clear c10
            try clear c11
            try clear c11b0
            try clear c11b1
            try clear c12
            try clear c12b0
            try clear c13
            try clear c14
            try clear c14b0
            try clear c14b1
            try clear c14b2
            try clear c16
            try clear c16b0
            try clear c16b1
            try clear p2
            obtain ⟨kq, x11_14, rfl, HA, HJ14, HB⟩ := hcut
            cases kq with
            | zero => exact absurd HA.out (by simp [keelsonlaw12_ClauseOrder.j1])
            | succ kj14 =>
              have H := HA.out
              clear HA
              simp only [keelsonlaw12_ClauseOrder.j1] at H
              have H' := Aside0.mk H
              clear H
              go_wp2
              go_loopg [12, 13] kj14 (fun kq v12 v13 w' => ∃ (x12_3 : List (List Int)) (x13_3 : Int), v13 = .int .i64 x13_3 ∧ Aside0 (keelsonlaw12_ClauseOrder.l0 kq a0 l1 l2 x11_14 x12_3 x13_3 = some r) ∧ Aside0 (kq ≤ kj14) ∧ Aside0 (Kd.S (Kd.slice 3 (Kd.int .i64)) 22 w' w.heap.size (fun _ => True) v12 x12_3) ∧ Aside0 (Below w.heap.size w w'))
              case atStart => exact ⟨(([] : List (List Int))), (0), (by first | rfl | (simp; done) | (simp [*]; done)), H', ⟨Nat.le_refl _⟩, ⟨by first | exact Kd.S_nil _ _ _ _ _ | exact Kd.N_nil _ _ _ _ _ | exact Kd.V_nil _ _ _ _ _ | exact Kd.Q_nil _ _ _ _ _ | exact Kd.R_nil _ _ _ _ _⟩, ⟨by repeat (first | (with_reducible first | exact HB.out | apply below_alloc | apply pw_below_drewN | apply below_drew1) | exact HB.out)⟩⟩
              case round => as_aux_lemma =>
                clear H'
                try clear c1
                try clear c2
                try clear p2
                try clear c3
                try clear p6
                try clear c8
                try clear c9
                try clear c10
                try clear c11
                try clear c11b0
                try clear c11b1
                try clear c12
                try clear c12b0
                try clear c13
                try clear c14
                try clear c14b0
                try clear c14b1
                try clear c14b2
                try clear c16
                try clear c16b0
                try clear c16b1
                try clear p2
                try clear p6
                obtain ⟨x12_3, x13_3, rfl, HA, HK3, HO_12, HB⟩ := hrel
                cases gk with
                | zero => exact absurd HA.out (by simp [keelsonlaw12_ClauseOrder.l0])
                | succ k3 =>
                  have H := HA.out
                  clear HA
                  simp only [keelsonlaw12_ClauseOrder.l0] at H
                  by_cases c17 : x13_3 < (l1.length : Int)
                  · rw [if_pos c17] at H
                    have c17b0 : decide (x13_3 < (l1.length : Int)) = true := decide_eq_true c17
                    clear c17
                    by_cases c18 : (l1.length : Int) = 0
                    · rw [if_pos c18] at H
                      exact absurd H (by simp)
                    · rw [if_neg c18] at H
                      have c18b0 : ((l1.length : Int) == 0) = false := beq_eq_false_iff_ne.mpr c18
                      have c18b1 : ((l1.length : Int) != 0) = true := bne_iff_ne.mpr c18
                      have c18b2 : ¬ (l1 = []) := fun h_ => c18 (by rw [h_]; rfl)
                      obtain ⟨ji19, hji19⟩ : ∃ j_ : Int, (Int.tmod (wrap64 (x13_3 + x11_14)) (l1.length : Int)) = j_ := ⟨_, rfl⟩
                      replace H : (if 0 ≤ (ji19) then (if (ji19) < (l1.length : Int) then (keelsonlaw12_ClauseOrder.l1 k3 a0 l1 l2 x11_14 x12_3 x13_3 (rd_L1 l1 (ji19)) ([] : List Int) (wrap64 (((rd_L1 l1 (ji19)).length : Int) - 1))) else (none)) else (none)) = some r := by first | (rw [hji19] at H; exact H) | (simp only [hji19] at H ⊢; exact H)
                      by_cases c20 : 0 ≤ (ji19)
                      · rw [if_pos c20] at H
                        have c20b0 : decide (0 ≤ (ji19)) = true := decide_eq_true c20
                        clear c20
                        by_cases c21 : (ji19) < (l1.length : Int)
                        · rw [if_pos c21] at H
                          have c21b0 : decide ((ji19) < (l1.length : Int)) = true := decide_eq_true c21
                          clear c21
                          have H' := Aside0.mk H
                          clear H
                          have p427 : 0 ≤ ((ji19) : Int) := of_decide_eq_true (by first | (with_reducible assumption) | assumption)
                          have q427 : (ji19) < (l1.length : Int) := of_decide_eq_true (by first | (with_reducible assumption) | assumption)
                          obtain ⟨ad427, A427_0, c427_0, e427, hx427_0, hl427_0, hi427_0⟩ := at_L1 HR1.out (ji19) p427 q427
                          cases e427
                          replace hx427_0 := (HB.out.cell (World.block_lt_of_cell? w _ hx427_0)).trans hx427_0
                          have HR427_0 := Aside0.mk hi427_0
                          have HC427_0 := Aside0.mk hl427_0
                          clear hi427_0 hl427_0
                          replace p427 := eq_true p427
                          replace q427 := eq_true q427
                          go_wp2
                          go_loopg [15, 16] k3 (fun kq v15 v16 w' => ∃ (x15_4 : List Int) (x16_4 : Int), v16 = .int .i64 x16_4 ∧ Aside0 (keelsonlaw12_ClauseOrder.l1 kq a0 l1 l2 x11_14 x12_3 x13_3 (rd_L1 l1 (ji19)) x15_4 x16_4 = some r) ∧ Aside0 (kq ≤ k3) ∧ Aside0 (Kd.S (Kd.slice 3 (Kd.int .i64)) 22 w' w.heap.size (fun k_ => some k_ ≠ (v15 : Value).ownBlock) u12 x12_3) ∧ Aside0 (Kd.R (Kd.int .i64) 3 w' w.heap.size (fun _ => True) v15 x15_4) ∧ Aside0 (Below w.heap.size w w'))
                          case atStart => exact ⟨(([] : List Int)), (wrap64 (((rd_L1 l1 (ji19)).length : Int) - 1)), (by first | rfl | (simp; done) | (simp only [← hji19] <;> (first | rfl | simp)) | (simp [*]; done)), H', ⟨Nat.le_refl _⟩, ⟨by (with_reducible repeat (first | apply Kd.S_alloc | apply Kd.S_drewN | apply Kd.S_drew)); exact Kd.S_mono HO_12.out (fun _ hk => (by simp [Value.ownBlock]))⟩, ⟨by first | exact Kd.R_nil _ _ _ _ _ | exact Kd.N_nil _ _ _ _ _ | exact Kd.V_nil _ _ _ _ _ | exact Kd.Q_nil _ _ _ _ _ | exact Kd.S_nil _ _ _ _ _⟩, ⟨by repeat (first | (with_reducible first | exact HB.out | apply below_alloc | apply pw_below_drewN | apply below_drew1) | exact HB.out)⟩⟩
                          case round => as_aux_lemma =>
                            clear H'
                            try clear c1
                            try clear c2
                            try clear p2
                            try clear c3
                            try clear c4
                            try clear p4
                            try clear q4
                            try clear hx4
                            try clear p6
                            try clear c8
                            try clear c9
                            try clear c10
                            try clear c11
                            try clear c11b0
                            try clear c11b1
                            try clear c12
                            try clear c12b0
                            try clear c13
                            try clear c14
                            try clear c14b0
                            try clear c14b1
                            try clear c14b2
                            try clear c16
                            try clear c16b0
                            try clear c16b1
                            try clear c17
                            try clear c17b0
                            try clear c18
                            try clear c18b0
                            try clear c18b1
                            try clear c18b2
                            try clear c20
                            try clear c20b0
                            try clear c21
                            try clear c21b0
                            try clear hx427_0
                            try clear p2
                            try clear p427
                            try clear p6
                            try clear q427
                            obtain ⟨x15_4, x16_4, rfl, HA, HK4, HO_12, HO_15, HB⟩ := hrel
                            cases gk with
                            | zero => exact absurd HA.out (by simp [keelsonlaw12_ClauseOrder.l1])
                            | succ k4 =>
                              have H := HA.out
                              clear HA
                              simp only [keelsonlaw12_ClauseOrder.l1] at H
                              by_cases c22 : x16_4 ≥ 0
                              · rw [if_pos c22] at H
                                have c22b0 : decide (0 ≤ x16_4) = true := decide_eq_true c22
                                clear c22
                                by_cases c23 : 0 ≤ x16_4
                                · rw [if_pos c23] at H
                                  have c23b0 : decide (0 ≤ x16_4) = true := decide_eq_true c23
                                  clear c23
                                  by_cases c24 : x16_4 < ((rd_L1 l1 (ji19)).length : Int)
                                  · rw [if_pos c24] at H
                                    have c24b0 : decide (x16_4 < ((rd_L1 l1 (ji19)).length : Int)) = true := decide_eq_true c24
                                    clear c24
                                    by_cases c25 : x15_4.length < 17592186044416
                                    · rw [if_pos c25] at H
                                      have LMc25 := Aside0.mk c25
                                      clear c25
                                      obtain ⟨y429, hy429⟩ : ∃ y_ : List Int, y_ = (x15_4 ++ [rd (rd_L1 l1 (ji19)) x16_4]) := ⟨_, rfl⟩
                                      replace H : (keelsonlaw12_ClauseOrder.l1 k4 a0 l1 l2 x11_14 x12_3 x13_3 (rd_L1 l1 (ji19)) y429 (wrap64 (x16_4 - 1))) = some r := by first | (rw [hy429]; with_reducible exact H) | (have H2_ := (Option.bind_some _ _).symm.trans H; rw [hy429]; with_reducible exact H2_) | (have H2_ := (Option.bind_some _ _).symm.trans H; with_reducible exact H2_) | with_reducible exact H | (rw [hy429]; exact H) | exact H
                                      have Ny429 := Aside0.mk hy429
                                      clear hy429
                                      have H' := Aside0.mk H
                                      clear H
                                      have p428 : 0 ≤ (x16_4 : Int) := of_decide_eq_true (by first | (with_reducible assumption) | assumption)
                                      have q428 : x16_4 < ((rd_L1 l1 (ji19)).length : Int) := of_decide_eq_true (by first | (with_reducible assumption) | assumption)
                                      obtain ⟨ad428, e428, hx428_0⟩ := Kd.at_int HR427_0.out x16_4 p428 q428
                                      cases e428
                                      replace hx428_0 := (HB.out.cell (World.block_lt_of_cell? w _ hx428_0)).trans hx428_0
                                      replace p428 := eq_true p428
                                      replace q428 := eq_true q428
                                      go_wp2_with (first | ((with_reducible refine gate_builtin (b := .append) (xs := #[.tmp 79, .tmp 84]) rfl ?_); (try (refine gate_guard (by rfl) ?_; dsimp only)); at_builtin; refine Kd.R_append (Kd.int .i64) (w0 := w) w.heap.size rfl (.tmp 79) (.tmp 84) 22 3 (.int .i64 0) 8 rfl Tryd.underlying22 info3 rfl (by decide) (by omega) u15 x15_4 (rd (rd_L1 l1 (ji19)) x16_4) [.int .i64 (rd (rd_L1 l1 (ji19)) x16_4)] (fun _ => True) (fun _ => False) rfl rfl ?aP (fun _ hk => hk.elim) ?aF ?aO ?aB ?aS ?aL ?_; (case aP => exact rfl); (case aB => exact (by repeat (first | (with_reducible first | exact HB.out | apply below_alloc | apply pw_below_drewN | apply below_drew1) | exact HB.out))); (case aF => exact (fun _ _ => trivial)); (case aO => exact (by (with_reducible repeat (first | apply Kd.R_alloc | apply Kd.R_drewN | apply Kd.R_drew)); exact HO_15.out)); (case aS => exact (below_size (by repeat (first | (with_reducible first | exact HB.out | apply below_alloc | apply pw_below_drewN | apply below_drew1) | exact HB.out)))); (case aL => have := LMc25.out; omega); intro v430 w26 ho hb hg hat; rw [← Ny429.out] at ho; have n0_ := Aside0.mk (Kd.S_after (ok := (fun _ => True)) (by (with_reducible repeat (first | apply Kd.S_alloc | apply Kd.S_drewN | apply Kd.S_drew)); exact Kd.S_mono HO_12.out (fun _ hk => ⟨trivial, hk⟩)) hg hat); have n1_ := Aside0.mk (hb); have n2_ := Aside0.mk (ho); clear HO_12; clear HB; clear HO_15; have HO_12 := n0_; have HB := n1_; have HO431 := n2_; clear n0_ n1_ n2_; clear ho hb hg hat))
                                      go_roundg k4
                                      case measure => have := HJ6.out; have := HJ14.out; have := HK3.out; have := HK4.out; omega
                                      case rel => exact ⟨(y429), (wrap64 (x16_4 - 1)), (by first | rfl | (simp; done) | (simp [*]; done)), H', ⟨by have := HJ6.out; have := HJ14.out; have := HK3.out; have := HK4.out; omega⟩, ⟨by (with_reducible repeat (first | apply Kd.S_alloc | apply Kd.S_drewN | apply Kd.S_drew)); exact Kd.S_mono HO_12.out (fun _ hk => hk.2)⟩, ⟨by (with_reducible repeat (first | apply Kd.R_alloc | apply Kd.R_drewN | apply Kd.R_drew)); exact HO431.out⟩, ⟨by repeat (first | (with_reducible first | exact HB.out | apply below_alloc | apply pw_below_drewN | apply below_drew1) | exact HB.out)⟩⟩
                                    · rw [if_neg c25] at H
                                      exact absurd H (by simp)
                                  · rw [if_neg c24] at H
                                    exact absurd H (by simp)
                                · rw [if_neg c23] at H
                                  exact absurd H (by simp)
                              · rw [if_neg c22] at H
                                have c22b0 : decide (0 ≤ x16_4) = false := decide_eq_false c22
                                clear c22
                                by_cases c27 : x12_3.length < 5864062014805
                                · rw [if_pos c27] at H
                                  have LMc27 := Aside0.mk c27
                                  clear c27
                                  obtain ⟨y432, hy432⟩ : ∃ y_ : List (List Int), y_ = (x12_3 ++ [x15_4]) := ⟨_, rfl⟩
                                  replace H : (keelsonlaw12_ClauseOrder.l0 k4 a0 l1 l2 x11_14 y432 (wrap64 (x13_3 + 1))) = some r := by first | (rw [hy432]; with_reducible exact H) | (have H2_ := (Option.bind_some _ _).symm.trans H; rw [hy432]; with_reducible exact H2_) | (have H2_ := (Option.bind_some _ _).symm.trans H; with_reducible exact H2_) | with_reducible exact H | (rw [hy432]; exact H) | exact H
                                  have Ny432 := Aside0.mk hy432
                                  clear hy432
                                  have H' := Aside0.mk H
                                  clear H
                                  obtain ⟨Ao29, co29, eo29⟩ := Kd.R_slice HO_15.out
                                  subst eo29
                                  go_wp2_with (first | ((with_reducible refine gate_builtin (b := .append) (xs := #[.tmp 86, .tmp 88]) rfl ?_); (try (refine gate_guard (by rfl) ?_; dsimp only)); at_builtin; refine Kd.S_append (Kd.slice 3 (Kd.int .i64)) (w0 := w) w.heap.size rfl (.tmp 86) (.tmp 88) 24 22 (.slice none 0 0) 24 rfl Tryd.underlying24 info22 rfl (by decide) (by omega) u12 x12_3 x15_4 [.slice Ao29 x15_4.length co29] (fun _ => True) (fun k_ => some k_ = (.slice Ao29 x15_4.length co29 : Value).ownBlock) rfl rfl ?aP (fun k_ hk_ => ((Kd.R_mono (ok' := fun k_ => ((fun _ => True)) k_ ∧ some k_ ≠ (u12 : Value).ownBlock) (Kd.R_apart' (HO_15.out) (Kd.S_typed HO_12.out) (by decide)) (fun k_ hk => ⟨trivial, hk.2⟩))).1 k_ hk_.symm) ?aF ?aO ?aB ?aS ?aL ?_; (case aP => exact Kd.M_row (Kd.R_mono (Kd.R_tight rfl (Kd.R_mono (ok' := fun k_ => ((fun _ => True)) k_ ∧ some k_ ≠ (u12 : Value).ownBlock) (Kd.R_apart' (HO_15.out) (Kd.S_typed HO_12.out) (by decide)) (fun k_ hk => ⟨trivial, hk.2⟩))) (fun _ h_ => h_))); (case aB => exact (by repeat (first | (with_reducible first | exact HB.out | apply below_alloc | apply pw_below_drewN | apply below_drew1) | exact HB.out))); (case aF => exact (fun _ _ => trivial)); (case aO => exact (by (with_reducible repeat (first | apply Kd.S_alloc | apply Kd.S_drewN | apply Kd.S_drew)); exact Kd.S_mono HO_12.out (fun k_ hk => ⟨trivial, fun e_ => hk e_⟩))); (case aS => exact (below_size (by repeat (first | (with_reducible first | exact HB.out | apply below_alloc | apply pw_below_drewN | apply below_drew1) | exact HB.out)))); (case aL => have := LMc27.out; omega); intro v433 w28 ho hb hg hat; rw [← Ny432.out] at ho; have n0_ := Aside0.mk (hb); have n1_ := Aside0.mk (ho); clear HB; clear HO_12; clear HO_15; have HB := n0_; have HO434 := n1_; clear n0_ n1_; clear ho hb hg hat))
                                  go_roundg k4
                                  case measure => have := HJ6.out; have := HJ14.out; have := HK3.out; have := HK4.out; omega
                                  case rel => exact ⟨(y432), (wrap64 (x13_3 + 1)), (by first | rfl | (simp; done) | (simp [*]; done)), H', ⟨by have := HJ6.out; have := HJ14.out; have := HK3.out; have := HK4.out; omega⟩, ⟨by (with_reducible repeat (first | apply Kd.S_alloc | apply Kd.S_drewN | apply Kd.S_drew)); exact HO434.out⟩, ⟨by repeat (first | (with_reducible first | exact HB.out | apply below_alloc | apply pw_below_drewN | apply below_drew1) | exact HB.out)⟩⟩
                                · rw [if_neg c27] at H
                                  exact absurd H (by simp)
                        · rw [if_neg c21] at H
                          exact absurd H (by simp)
                      · rw [if_neg c20] at H
                        exact absurd H (by simp)
                  · rw [if_neg c17] at H
                    have c17b0 : decide (x13_3 < (l1.length : Int)) = false := decide_eq_false c17
                    clear c17
                    replace H := Option.bind_eq_some_iff.mp H
                    obtain ⟨⟨t435, t436⟩, A300, H⟩ := H
                    replace H : ((clause_Units.f k3 a0 x12_3 l2).bind fun bt439 => ((keelsonlaw12_sameInts.f k3 t435 bt439.1).bind fun t443 => (if t443 = true then (keelsonlaw12_ClauseOrder.j4 k3 a0 l1 t435 t436 (t436 != bt439.2)) else (keelsonlaw12_ClauseOrder.j4 k3 a0 l1 t435 t436 true)))) = some r := H
                    have A30 := Aside0.mk A300
                    clear A300
                    replace H := Option.bind_eq_some_iff.mp H
                    obtain ⟨⟨t439, t440⟩, A310, H⟩ := H
                    replace H : ((keelsonlaw12_sameInts.f k3 t435 t439).bind fun t443 => (if t443 = true then (keelsonlaw12_ClauseOrder.j4 k3 a0 l1 t435 t436 (t436 != t440)) else (keelsonlaw12_ClauseOrder.j4 k3 a0 l1 t435 t436 true))) = some r := H
                    have A31 := Aside0.mk A310
                    clear A310
                    have HC32 := Aside0.mk H
                    clear H
                    go_upto_region 21 with (first | ((with_reducible refine gate_callee (f := 35) rfl ?_); refine goesL_ (some 94) rfl rfl Tryd.func35 (by kernel_rfl) rfl #[.int .i64 a0, .slice A1 l1.length c1, .slice A2 l2.length c2] rfl (by (try simp only [List.map_toArray, List.map_cons, List.map_nil]); first | done | rfl | (simp only [List.length_drop, List.length_take]; rfl)) ?_; (with_reducible refine (clause_Units.calls k3 a0 _ _ l1 _ _ l2 t435 t436 _ ?side1 ?side2 ?side3 ?side4 A30.out).mono ?_); (case side1 => repeat (first | exact (Kd.C_below HR1.out HB.out) | (with_reducible refine Kd.C_alloc ?_ _) | (with_reducible refine Kd.C_drewN ?_ _) | (with_reducible refine Kd.C_drew ?_))); (case side2 => exact HC1.out); (case side3 => repeat (first | exact (Kd.C_below HR2.out HB.out) | (with_reducible refine Kd.C_alloc ?_ _) | (with_reducible refine Kd.C_drewN ?_ _) | (with_reducible refine Kd.C_drew ?_))); (case side4 => exact HC2.out); rintro e w33 ⟨v437, rfl, ho0, hb⟩; refine ⟨_, rfl, ?_⟩; have n0_ := Aside0.mk (Kd.S_elder' (by (with_reducible repeat (first | apply Kd.S_alloc | apply Kd.S_drewN | apply Kd.S_drew)); exact HO_12.out) (Kd.R_base ho0) hb); have n1_ := Aside0.mk (Kd.R_lower ho0 (below_size (by repeat (first | (with_reducible first | exact HB.out | apply below_alloc | apply pw_below_drewN | apply below_drew1) | exact HB.out)))); have n2_ := Aside0.mk (below_step (by repeat (first | (with_reducible first | exact HB.out | apply below_alloc | apply pw_below_drewN | apply below_drew1) | exact HB.out)) hb); clear HO_12; clear HB; have HO_12 := n0_; have HO438 := n1_; have HB := n2_; clear n0_ n1_ n2_; (try clear hb); (try clear hb2); (try clear hk); (try clear hi); (try clear ho0); obtain ⟨Ao34, co34, eo34⟩ := Kd.S_slice HO_12.out; subst eo34) | ((with_reducible refine gate_callee (f := 35) rfl ?_); refine goesL_ (some 101) rfl rfl Tryd.func35 (by kernel_rfl) rfl #[.int .i64 a0, .slice Ao34 x12_3.length co34, .slice A2 l2.length c2] rfl (by (try simp only [List.map_toArray, List.map_cons, List.map_nil]); first | done | rfl | (simp only [List.length_drop, List.length_take]; rfl)) ?_; (with_reducible refine (clause_Units.calls k3 a0 _ _ x12_3 _ _ l2 t439 t440 _ ?side1 ?side2 ?side3 ?side4 A31.out).mono ?_); (case side1 => repeat (first | exact (Kd.S_reads' HO_12.out).2.2 | (with_reducible refine Kd.C_alloc ?_ _) | (with_reducible refine Kd.C_drewN ?_ _) | (with_reducible refine Kd.C_drew ?_))); (case side2 => exact (Kd.S_reads' HO_12.out).2.1); (case side3 => repeat (first | exact (Kd.C_below HR2.out HB.out) | (with_reducible refine Kd.C_alloc ?_ _) | (with_reducible refine Kd.C_drewN ?_ _) | (with_reducible refine Kd.C_drew ?_))); (case side4 => exact HC2.out); rintro e w35 ⟨v441, rfl, ho0, hb⟩; refine ⟨_, rfl, ?_⟩; have n0_ := Aside0.mk (Kd.S_elder' (by (with_reducible repeat (first | apply Kd.S_alloc | apply Kd.S_drewN | apply Kd.S_drew)); exact HO_12.out) (Kd.R_base ho0) hb); have n1_ := Aside0.mk (Kd.R_elder' (by (with_reducible repeat (first | apply Kd.R_alloc | apply Kd.R_drewN | apply Kd.R_drew)); exact HO438.out) (Kd.R_base ho0) hb); have n2_ := Aside0.mk (Kd.R_lower (Kd.R_new' ho0 (Kd.R_lt (by (with_reducible repeat (first | apply Kd.R_alloc | apply Kd.R_drewN | apply Kd.R_drew)); exact HO438.out))) (below_size (by repeat (first | (with_reducible first | exact HB.out | apply below_alloc | apply pw_below_drewN | apply below_drew1) | exact HB.out)))); have n3_ := Aside0.mk (below_step (by repeat (first | (with_reducible first | exact HB.out | apply below_alloc | apply pw_below_drewN | apply below_drew1) | exact HB.out)) hb); clear HO_12; clear HO438; clear HB; have HO_12 := n0_; have HO438 := n1_; have HO442 := n2_; have HB := n3_; clear n0_ n1_ n2_ n3_; (try clear hb); (try clear hb2); (try clear hk); (try clear hi); (try clear ho0)))
                    (try simp only [Act.put, List.setIfInBounds_toArray, List.set_cons_zero, List.set_cons_succ])
                    go_cut [112] (fun v112 wc => ∃ (kq : Nat) (x112_31 : Bool), v112 = .bool x112_31 ∧ Aside0 (keelsonlaw12_ClauseOrder.j4 kq a0 l1 t435 t436 x112_31 = some r) ∧ Aside0 (kq ≤ k3) ∧ Aside0 (Kd.R (Kd.int .i64) 3 wc w.heap.size (fun _ => True) v437 t435) ∧ Aside0 (Below w.heap.size w wc))
                    case first => as_aux_lemma =>
                      have H := HC32.out
                      clear HC32
                      replace H := Option.bind_eq_some_iff.mp H
                      obtain ⟨t443, A360, H⟩ := H
                      replace H : (if t443 = true then (keelsonlaw12_ClauseOrder.j4 k3 a0 l1 t435 t436 (t436 != t440)) else (keelsonlaw12_ClauseOrder.j4 k3 a0 l1 t435 t436 true)) = some r := H
                      have A36 := Aside0.mk A360
                      clear A360
                      by_cases c37 : t443 = true
                      · subst c37
                        have H1 : (keelsonlaw12_ClauseOrder.j4 k3 a0 l1 t435 t436 (t436 != t440)) = some r := by rw [if_pos rfl] at H; exact H
                        clear H
                        have H := H1
                        clear H1
                        have H' := Aside0.mk H
                        clear H
                        obtain ⟨Ao38, co38, eo38⟩ := Kd.R_slice HO438.out
                        subst eo38
                        obtain ⟨Ao39, co39, eo39⟩ := Kd.R_slice HO442.out
                        subst eo39
                        go_wp2_with (first | ((with_reducible refine gate_callee (f := 37) rfl ?_); refine goesL_ (some 106) rfl rfl Tryd.func37 (by kernel_rfl) rfl #[.slice Ao38 t435.length co38, .slice Ao39 t439.length co39] rfl (by (try simp only [List.map_toArray, List.map_cons, List.map_nil]); first | done | rfl | (simp only [List.length_drop, List.length_take]; rfl)) ?_; (with_reducible refine (keelsonlaw12_sameInts.calls k3 _ _ t435 _ _ t439 true _ ?side1 ?side2 ?side3 ?side4 A36.out).mono ?_); (case side1 => repeat (first | exact (Kd.R_reads' HO438.out).2.2 | (with_reducible refine Kd.C_alloc ?_ _) | (with_reducible refine Kd.C_drewN ?_ _) | (with_reducible refine Kd.C_drew ?_))); (case side2 => exact (Kd.R_reads' HO438.out).2.1); (case side3 => repeat (first | exact (Kd.R_reads' HO442.out).2.2 | (with_reducible refine Kd.C_alloc ?_ _) | (with_reducible refine Kd.C_drewN ?_ _) | (with_reducible refine Kd.C_drew ?_))); (case side4 => exact (Kd.R_reads' HO442.out).2.1); rintro e w' ⟨rfl, ⟨nd, rfl⟩⟩; refine ⟨_, rfl, ?_⟩))
                        go_meet
                        case rel => exact ⟨_, ((t436 != t440)), (by first | rfl | (simp; done) | (simp [*]; done)), H', ⟨by have := HJ6.out; have := HJ14.out; have := HK3.out; first | omega | exact Nat.le_refl _⟩, ⟨by (with_reducible repeat (first | apply Kd.R_alloc | apply Kd.R_drewN | apply Kd.R_drew)); exact Kd.R_mono HO438.out (fun _ hk => trivial)⟩, ⟨by repeat (first | (with_reducible first | exact HB.out | apply below_alloc | apply pw_below_drewN | apply below_drew1) | exact HB.out)⟩⟩
                      · replace c37 := Bool.eq_false_iff.mpr c37
                        subst c37
                        have H1 : (keelsonlaw12_ClauseOrder.j4 k3 a0 l1 t435 t436 true) = some r := by rw [if_neg (show ¬ (false = true) by decide)] at H; exact H
                        clear H
                        have H := H1
                        clear H1
                        have H' := Aside0.mk H
                        clear H
                        obtain ⟨Ao40, co40, eo40⟩ := Kd.R_slice HO438.out
                        subst eo40
                        obtain ⟨Ao41, co41, eo41⟩ := Kd.R_slice HO442.out
                        subst eo41
                        go_wp2_with (first | ((with_reducible refine gate_callee (f := 37) rfl ?_); refine goesL_ (some 106) rfl rfl Tryd.func37 (by kernel_rfl) rfl #[.slice Ao40 t435.length co40, .slice Ao41 t439.length co41] rfl (by (try simp only [List.map_toArray, List.map_cons, List.map_nil]); first | done | rfl | (simp only [List.length_drop, List.length_take]; rfl)) ?_; (with_reducible refine (keelsonlaw12_sameInts.calls k3 _ _ t435 _ _ t439 false _ ?side1 ?side2 ?side3 ?side4 A36.out).mono ?_); (case side1 => repeat (first | exact (Kd.R_reads' HO438.out).2.2 | (with_reducible refine Kd.C_alloc ?_ _) | (with_reducible refine Kd.C_drewN ?_ _) | (with_reducible refine Kd.C_drew ?_))); (case side2 => exact (Kd.R_reads' HO438.out).2.1); (case side3 => repeat (first | exact (Kd.R_reads' HO442.out).2.2 | (with_reducible refine Kd.C_alloc ?_ _) | (with_reducible refine Kd.C_drewN ?_ _) | (with_reducible refine Kd.C_drew ?_))); (case side4 => exact (Kd.R_reads' HO442.out).2.1); rintro e w' ⟨rfl, ⟨nd, rfl⟩⟩; refine ⟨_, rfl, ?_⟩))
                        go_meet
                        case rel => exact ⟨_, (true), (by first | rfl | (simp; done) | (simp [*]; done)), H', ⟨by have := HJ6.out; have := HJ14.out; have := HK3.out; first | omega | exact Nat.le_refl _⟩, ⟨by (with_reducible repeat (first | apply Kd.R_alloc | apply Kd.R_drewN | apply Kd.R_drew)); exact Kd.R_mono HO438.out (fun _ hk => trivial)⟩, ⟨by repeat (first | (with_reducible first | exact HB.out | apply below_alloc | apply pw_below_drewN | apply below_drew1) | exact HB.out)⟩⟩
                    case rest => as_aux_lemma =>
                      clear HC32
                      try clear c1
                      try clear c2
                      try clear p2
                      try clear c3
                      try clear c4
                      try clear p4
                      try clear q4
                      try clear hx4
                      try clear p6
                      try clear c8
                      try clear c9
                      try clear c10
                      try clear c11
                      try clear c11b0
                      try clear c11b1
                      try clear c12
                      try clear c12b0
                      try clear c13
                      try clear c14
                      try clear c14b0
                      try clear c14b1
                      try clear c14b2
                      try clear c16
                      try clear c16b0
                      try clear c16b1
                      try clear c17
                      try clear c17b0
                      try clear c18
                      try clear c18b0
                      try clear c18b1
                      try clear c18b2
                      try clear c20
                      try clear c20b0
                      try clear c21
                      try clear c21b0
                      try clear c22
                      try clear c22b0
                      try clear c23
                      try clear c23b0
                      try clear c24
                      try clear c24b0
                      try clear c25
                      try clear c27
                      try clear c33
                      try clear c34
                      try clear c35
                      try clear c37
                      try clear hx427_0
                      try clear hx428_0
                      try clear p2
                      try clear p4
                      try clear p427
                      try clear p428
                      try clear p6
                      try clear q4
                      try clear q427
                      try clear q428
                      obtain ⟨kq, x112_31, rfl, HA, HJ31, HO_17, HB⟩ := hcut
                      cases kq with
                      | zero => exact absurd HA.out (by simp [keelsonlaw12_ClauseOrder.j4])
                      | succ kj31 =>
                        have H := HA.out
                        clear HA
                        simp only [keelsonlaw12_ClauseOrder.j4] at H
                        by_cases c42 : x112_31 = true
                        · subst c42
                          have H1 : (none) = some r := by rw [if_pos rfl] at H; exact H
                          clear H
                          have H := H1
                          clear H1
                          exact absurd H (by simp)
                        · replace c42 := Bool.eq_false_iff.mpr c42
                          subst c42
                          have H1 : (keelsonlaw12_ClauseOrder.l2 kj31 a0 l1 t435 t436 ([] : List Int) 0) = some r := by rw [if_neg (show ¬ (false = true) by decide)] at H; exact H
                          clear H
                          have H := H1
                          clear H1
                          have H' := Aside0.mk H
                          clear H
                          go_wp2
                          go_loopg [21, 22] kj31 (fun kq v21 v22 w' => ∃ (x21_5 : List Int) (x22_5 : Int), v22 = .int .i64 x22_5 ∧ Aside0 (keelsonlaw12_ClauseOrder.l2 kq a0 l1 t435 t436 x21_5 x22_5 = some r) ∧ Aside0 (kq ≤ kj31) ∧ Aside0 (Kd.R (Kd.int .i64) 3 w' w.heap.size (fun k_ => some k_ ≠ (v21 : Value).ownBlock) v437 t435) ∧ Aside0 (Kd.R (Kd.int .i64) 3 w' w.heap.size (fun k_ => some k_ ≠ (v437 : Value).ownBlock) v21 x21_5) ∧ Aside0 (Below w.heap.size w w'))
                          case atStart => exact ⟨(([] : List Int)), (0), (by first | rfl | (simp; done) | (simp [*]; done)), H', ⟨Nat.le_refl _⟩, ⟨by (with_reducible repeat (first | apply Kd.R_alloc | apply Kd.R_drewN | apply Kd.R_drew)); exact Kd.R_mono HO_17.out (fun _ hk => (by simp [Value.ownBlock]))⟩, ⟨by first | exact Kd.R_nil _ _ _ _ _ | exact Kd.N_nil _ _ _ _ _ | exact Kd.V_nil _ _ _ _ _ | exact Kd.Q_nil _ _ _ _ _ | exact Kd.S_nil _ _ _ _ _⟩, ⟨by repeat (first | (with_reducible first | exact HB.out | apply below_alloc | apply pw_below_drewN | apply below_drew1) | exact HB.out)⟩⟩
                          case round => as_aux_lemma =>
                            clear H'
                            try clear c1
                            try clear c2
                            try clear p2
                            try clear c3
                            try clear c4
                            try clear p4
                            try clear q4
                            try clear hx4
                            try clear p6
                            try clear c8
                            try clear c9
                            try clear c10
                            try clear c11
                            try clear c11b0
                            try clear c11b1
                            try clear c12
                            try clear c12b0
                            try clear c13
                            try clear c14
                            try clear c14b0
                            try clear c14b1
                            try clear c14b2
                            try clear c16
                            try clear c16b0
                            try clear c16b1
                            try clear c17
                            try clear c17b0
                            try clear c18
                            try clear c18b0
                            try clear c18b1
                            try clear c18b2
                            try clear c20
                            try clear c20b0
                            try clear c21
                            try clear c21b0
                            try clear c22
                            try clear c22b0
                            try clear c23
                            try clear c23b0
                            try clear c24
                            try clear c24b0
                            try clear c25
                            try clear c27
                            try clear c33
                            try clear c34
                            try clear c35
                            try clear c37
                            try clear c42
                            try clear p42
                            try clear q42
                            try clear hx42
                            try clear hx427_0
                            try clear hx428_0
                            try clear p2
                            try clear p4
                            try clear p427
                            try clear p428
                            try clear p6
                            try clear q4
                            try clear q427
                            try clear q428
                            obtain ⟨x21_5, x22_5, rfl, HA, HK5, HO_17, HO_21, HB⟩ := hrel
                            cases gk with
                            | zero => exact absurd HA.out (by simp [keelsonlaw12_ClauseOrder.l2])
                            | succ k5 =>
                              have H := HA.out
                              clear HA
                              simp only [keelsonlaw12_ClauseOrder.l2] at H
                              by_cases c43 : x22_5 < (t435.length : Int)
                              · rw [if_pos c43] at H
                                have c43b0 : decide (x22_5 < (t435.length : Int)) = true := decide_eq_true c43
                                clear c43
                                by_cases c44 : 0 ≤ x22_5
                                · rw [if_pos c44] at H
                                  have c44b0 : decide (0 ≤ x22_5) = true := decide_eq_true c44
                                  clear c44
                                  by_cases c45 : (rd t435 x22_5) = 0
                                  · rw [if_pos c45] at H
                                    have c45b0 : ((rd t435 x22_5) == 0) = true := beq_iff_eq.mpr c45
                                    have c45b1 : ((rd t435 x22_5) != 0) = false := bne_eq_false_iff_eq.mpr c45
                                    clear c45
                                    have H' := Aside0.mk H
                                    clear H
                                    obtain ⟨Ao46, co46, eo46⟩ := Kd.R_slice HO_17.out
                                    subst eo46
                                    have p444 : 0 ≤ (x22_5 : Int) := of_decide_eq_true (by first | (with_reducible assumption) | assumption)
                                    have q444 : x22_5 < (t435.length : Int) := of_decide_eq_true (by first | (with_reducible assumption) | assumption)
                                    obtain ⟨ad444, e444, hx444_0⟩ := Kd.at_int (Kd.R_reads' HO_17.out).2.2 x22_5 p444 q444
                                    cases e444
                                    replace p444 := eq_true p444
                                    replace q444 := eq_true q444
                                    go_wp2
                                    go_roundg k5
                                    case measure => have := HJ6.out; have := HJ14.out; have := HK3.out; have := HJ31.out; have := HK5.out; omega
                                    case rel => exact ⟨(x21_5), (wrap64 (x22_5 + 1)), (by first | rfl | (simp; done) | (simp [*]; done)), H', ⟨by have := HJ6.out; have := HJ14.out; have := HK3.out; have := HJ31.out; have := HK5.out; omega⟩, ⟨by (with_reducible repeat (first | apply Kd.R_alloc | apply Kd.R_drewN | apply Kd.R_drew)); exact HO_17.out⟩, ⟨by (with_reducible repeat (first | apply Kd.R_alloc | apply Kd.R_drewN | apply Kd.R_drew)); exact HO_21.out⟩, ⟨by repeat (first | (with_reducible first | exact HB.out | apply below_alloc | apply pw_below_drewN | apply below_drew1) | exact HB.out)⟩⟩
                                  · rw [if_neg c45] at H
                                    have c45b0 : ((rd t435 x22_5) == 0) = false := beq_eq_false_iff_ne.mpr c45
                                    have c45b1 : ((rd t435 x22_5) != 0) = true := bne_iff_ne.mpr c45
                                    by_cases c47 : x21_5.length < 17592186044416
                                    · rw [if_pos c47] at H
                                      have LMc47 := Aside0.mk c47
                                      clear c47
                                      obtain ⟨y446, hy446⟩ : ∃ y_ : List Int, y_ = (x21_5 ++ [wrap64 ((wrap64 (x22_5 + 1)) * (rd t435 x22_5))]) := ⟨_, rfl⟩
                                      replace H : (keelsonlaw12_ClauseOrder.l2 k5 a0 l1 t435 t436 y446 (wrap64 (x22_5 + 1))) = some r := by first | (rw [hy446]; with_reducible exact H) | (have H2_ := (Option.bind_some _ _).symm.trans H; rw [hy446]; with_reducible exact H2_) | (have H2_ := (Option.bind_some _ _).symm.trans H; with_reducible exact H2_) | with_reducible exact H | (rw [hy446]; exact H) | exact H
                                      have Ny446 := Aside0.mk hy446
                                      clear hy446
                                      have H' := Aside0.mk H
                                      clear H
                                      obtain ⟨Ao48, co48, eo48⟩ := Kd.R_slice HO_17.out
                                      subst eo48
                                      have p444 : 0 ≤ (x22_5 : Int) := of_decide_eq_true (by first | (with_reducible assumption) | assumption)
                                      have q444 : x22_5 < (t435.length : Int) := of_decide_eq_true (by first | (with_reducible assumption) | assumption)
                                      obtain ⟨ad444, e444, hx444_0⟩ := Kd.at_int (Kd.R_reads' HO_17.out).2.2 x22_5 p444 q444
                                      cases e444
                                      replace p444 := eq_true p444
                                      replace q444 := eq_true q444
                                      have p445 : 0 ≤ (x22_5 : Int) := of_decide_eq_true (by first | (with_reducible assumption) | assumption)
                                      have q445 : x22_5 < (t435.length : Int) := of_decide_eq_true (by first | (with_reducible assumption) | assumption)
                                      obtain ⟨ad445, e445, hx445_0⟩ := Kd.at_int (Kd.R_reads' HO_17.out).2.2 x22_5 p445 q445
                                      obtain rfl : ad444 = ad445 := (by injection e445)
                                      replace p445 := eq_true p445
                                      replace q445 := eq_true q445
                                      go_wp2_with (first | ((with_reducible refine gate_builtin (b := .append) (xs := #[.tmp 124, .tmp 132]) rfl ?_); (try (refine gate_guard (by rfl) ?_; dsimp only)); at_builtin; refine Kd.R_append (Kd.int .i64) (w0 := w) w.heap.size rfl (.tmp 124) (.tmp 132) 22 3 (.int .i64 0) 8 rfl Tryd.underlying22 info3 rfl (by decide) (by omega) u21 x21_5 (wrap64 ((wrap64 (x22_5 + 1)) * (rd t435 x22_5))) [.int .i64 (wrap64 ((wrap64 (x22_5 + 1)) * (rd t435 x22_5)))] (fun k_ => some k_ ≠ (.slice (some ad444) t435.length co48 : Value).ownBlock) (fun _ => False) rfl rfl ?aP (fun _ hk => hk.elim) ?aF ?aO ?aB ?aS ?aL ?_; (case aP => exact rfl); (case aB => exact (by repeat (first | (with_reducible first | exact HB.out | apply below_alloc | apply pw_below_drewN | apply below_drew1) | exact HB.out))); (case aF => exact (fun k_ hk => Kd.fresh' (Kd.R_lt (by (with_reducible repeat (first | apply Kd.R_alloc | apply Kd.R_drewN | apply Kd.R_drew)); exact HO_17.out)) k_ hk)); (case aO => exact (by (with_reducible repeat (first | apply Kd.R_alloc | apply Kd.R_drewN | apply Kd.R_drew)); exact HO_21.out)); (case aS => exact (below_size (by repeat (first | (with_reducible first | exact HB.out | apply below_alloc | apply pw_below_drewN | apply below_drew1) | exact HB.out)))); (case aL => have := LMc47.out; omega); intro v447 w49 ho hb hg hat; rw [← Ny446.out] at ho; have n0_ := Aside0.mk (Kd.R_after (ok := (fun _ => True)) (by (with_reducible repeat (first | apply Kd.R_alloc | apply Kd.R_drewN | apply Kd.R_drew)); exact Kd.R_mono HO_17.out (fun _ hk => ⟨trivial, hk⟩)) hg hat); have n1_ := Aside0.mk (hb); have n2_ := Aside0.mk (ho); clear HO_17; clear HB; clear HO_21; have HO_17 := n0_; have HB := n1_; have HO448 := n2_; clear n0_ n1_ n2_; clear ho hb hg hat))
                                      go_roundg k5
                                      case measure => have := HJ6.out; have := HJ14.out; have := HK3.out; have := HJ31.out; have := HK5.out; omega
                                      case rel => exact ⟨(y446), (wrap64 (x22_5 + 1)), (by first | rfl | (simp; done) | (simp [*]; done)), H', ⟨by have := HJ6.out; have := HJ14.out; have := HK3.out; have := HJ31.out; have := HK5.out; omega⟩, ⟨by (with_reducible repeat (first | apply Kd.R_alloc | apply Kd.R_drewN | apply Kd.R_drew)); exact Kd.R_mono HO_17.out (fun _ hk => hk.2)⟩, ⟨by (with_reducible repeat (first | apply Kd.R_alloc | apply Kd.R_drewN | apply Kd.R_drew)); exact HO448.out⟩, ⟨by repeat (first | (with_reducible first | exact HB.out | apply below_alloc | apply pw_below_drewN | apply below_drew1) | exact HB.out)⟩⟩
                                    · rw [if_neg c47] at H
                                      exact absurd H (by simp)
                                · rw [if_neg c44] at H
                                  exact absurd H (by simp)
                              · rw [if_neg c43] at H
                                have c43b0 : decide (x22_5 < (t435.length : Int)) = false := decide_eq_false c43
                                clear c43
                                replace H := Option.bind_eq_some_iff.mp H
                                obtain ⟨⟨t449, t450⟩, A500, H⟩ := H
                                replace H : (if t436 = true then (if t450 = true then ((keelsonlaw12_sameInts.f k5 t435 t449).bind fun t453 => (some t453)) else (none)) else (some true)) = some r := H
                                have A50 := Aside0.mk A500
                                clear A500
                                by_cases c51 : t436 = true
                                · subst c51
                                  have H1 : (if t450 = true then ((keelsonlaw12_sameInts.f k5 t435 t449).bind fun t453 => (some t453)) else (none)) = some r := by rw [if_pos rfl] at H; exact H
                                  clear H
                                  have H := H1
                                  clear H1
                                  by_cases c52 : t450 = true
                                  · subst c52
                                    have H1 : ((keelsonlaw12_sameInts.f k5 t435 t449).bind fun t453 => (some t453)) = some r := by rw [if_pos rfl] at H; exact H
                                    clear H
                                    have H := H1
                                    clear H1
                                    replace H := Option.bind_eq_some_iff.mp H
                                    obtain ⟨t453, A530, H⟩ := H
                                    replace H : (some t453) = some r := H
                                    have A53 := Aside0.mk A530
                                    clear A530
                                    obtain rfl := Option.some.inj H
                                    obtain ⟨Ao54, co54, eo54⟩ := Kd.R_slice HO_17.out
                                    subst eo54
                                    obtain ⟨Ao55, co55, eo55⟩ := Kd.R_slice HO_21.out
                                    subst eo55
                                    go_wp2_with (first | ((with_reducible refine gate_callee (f := 35) rfl ?_); refine goesL_ (some 138) rfl rfl Tryd.func35 (by kernel_rfl) rfl #[.int .i64 a0, .slice A1 l1.length c1, .slice Ao55 x21_5.length co55] rfl (by (try simp only [List.map_toArray, List.map_cons, List.map_nil]); first | done | rfl | (simp only [List.length_drop, List.length_take]; rfl)) ?_; (with_reducible refine (clause_Units.calls k5 a0 _ _ l1 _ _ x21_5 t449 true _ ?side1 ?side2 ?side3 ?side4 A50.out).mono ?_); (case side1 => repeat (first | exact (Kd.C_below HR1.out HB.out) | (with_reducible refine Kd.C_alloc ?_ _) | (with_reducible refine Kd.C_drewN ?_ _) | (with_reducible refine Kd.C_drew ?_))); (case side2 => exact HC1.out); (case side3 => repeat (first | exact (Kd.R_reads' HO_21.out).2.2 | (with_reducible refine Kd.C_alloc ?_ _) | (with_reducible refine Kd.C_drewN ?_ _) | (with_reducible refine Kd.C_drew ?_))); (case side4 => exact (Kd.R_reads' HO_21.out).2.1); rintro e w56 ⟨v451, rfl, ho0, hb⟩; refine ⟨_, rfl, ?_⟩; have n0_ := Aside0.mk (Kd.R_elder' (by (with_reducible repeat (first | apply Kd.R_alloc | apply Kd.R_drewN | apply Kd.R_drew)); exact HO_17.out) (Kd.R_base ho0) hb); have n1_ := Aside0.mk (Kd.R_elder' (by (with_reducible repeat (first | apply Kd.R_alloc | apply Kd.R_drewN | apply Kd.R_drew)); exact HO_21.out) (Kd.R_base ho0) hb); have n2_ := Aside0.mk (Kd.R_lower (Kd.R_new' (Kd.R_new' ho0 (Kd.R_lt (by (with_reducible repeat (first | apply Kd.R_alloc | apply Kd.R_drewN | apply Kd.R_drew)); exact HO_17.out))) (Kd.R_lt (by (with_reducible repeat (first | apply Kd.R_alloc | apply Kd.R_drewN | apply Kd.R_drew)); exact HO_21.out))) (below_size (by repeat (first | (with_reducible first | exact HB.out | apply below_alloc | apply pw_below_drewN | apply below_drew1) | exact HB.out)))); have n3_ := Aside0.mk (below_step (by repeat (first | (with_reducible first | exact HB.out | apply below_alloc | apply pw_below_drewN | apply below_drew1) | exact HB.out)) hb); clear HO_17; clear HO_21; clear HB; have HO_17 := n0_; have HO_21 := n1_; have HO452 := n2_; have HB := n3_; clear n0_ n1_ n2_ n3_; (try clear hb); (try clear hb2); (try clear hk); (try clear hi); (try clear ho0); obtain ⟨Ao57, co57, eo57⟩ := Kd.R_slice HO452.out; subst eo57) | (go_at_call 37; (with_reducible refine (keelsonlaw12_sameInts.calls k5 _ _ t435 _ _ t449 t453 _ ?side1 ?side2 ?side3 ?side4 A53.out).mono ?_); (case side1 => repeat (first | exact (Kd.R_reads' HO_17.out).2.2 | (with_reducible refine Kd.C_alloc ?_ _) | (with_reducible refine Kd.C_drewN ?_ _) | (with_reducible refine Kd.C_drew ?_))); (case side2 => exact (Kd.R_reads' HO_17.out).2.1); (case side3 => repeat (first | exact (Kd.R_reads' HO452.out).2.2 | (with_reducible refine Kd.C_alloc ?_ _) | (with_reducible refine Kd.C_drewN ?_ _) | (with_reducible refine Kd.C_drew ?_))); (case side4 => exact (Kd.R_reads' HO452.out).2.1); rintro e w' ⟨rfl, ⟨nd, rfl⟩⟩))
                                    go_ret
                                    exact ⟨by first | rfl | (simp [errW_none, errW_some] <;> rfl) | (simp [*, errW_none, errW_some] <;> rfl), by repeat (first | (with_reducible first | exact HB.out | apply below_alloc | apply pw_below_drewN | apply below_drew1) | exact HB.out)⟩
                                  · replace c52 := Bool.eq_false_iff.mpr c52
                                    subst c52
                                    have H1 : (none) = some r := by rw [if_neg (show ¬ (false = true) by decide)] at H; exact H
                                    clear H
                                    have H := H1
                                    clear H1
                                    exact absurd H (by simp)
                                · replace c51 := Bool.eq_false_iff.mpr c51
                                  subst c51
                                  have H1 : (some true) = some r := by rw [if_neg (show ¬ (false = true) by decide)] at H; exact H
                                  clear H
                                  have H := H1
                                  clear H1
                                  obtain rfl := Option.some.inj H
                                  obtain ⟨Ao58, co58, eo58⟩ := Kd.R_slice HO_17.out
                                  subst eo58
                                  obtain ⟨Ao59, co59, eo59⟩ := Kd.R_slice HO_21.out
                                  subst eo59
                                  go_wp2_with (first | ((with_reducible refine gate_callee (f := 35) rfl ?_); refine goesL_ (some 138) rfl rfl Tryd.func35 (by kernel_rfl) rfl #[.int .i64 a0, .slice A1 l1.length c1, .slice Ao59 x21_5.length co59] rfl (by (try simp only [List.map_toArray, List.map_cons, List.map_nil]); first | done | rfl | (simp only [List.length_drop, List.length_take]; rfl)) ?_; (with_reducible refine (clause_Units.calls k5 a0 _ _ l1 _ _ x21_5 t449 t450 _ ?side1 ?side2 ?side3 ?side4 A50.out).mono ?_); (case side1 => repeat (first | exact (Kd.C_below HR1.out HB.out) | (with_reducible refine Kd.C_alloc ?_ _) | (with_reducible refine Kd.C_drewN ?_ _) | (with_reducible refine Kd.C_drew ?_))); (case side2 => exact HC1.out); (case side3 => repeat (first | exact (Kd.R_reads' HO_21.out).2.2 | (with_reducible refine Kd.C_alloc ?_ _) | (with_reducible refine Kd.C_drewN ?_ _) | (with_reducible refine Kd.C_drew ?_))); (case side4 => exact (Kd.R_reads' HO_21.out).2.1); rintro e w60 ⟨v451, rfl, ho0, hb⟩; refine ⟨_, rfl, ?_⟩; have n0_ := Aside0.mk (Kd.R_elder' (by (with_reducible repeat (first | apply Kd.R_alloc | apply Kd.R_drewN | apply Kd.R_drew)); exact HO_17.out) (Kd.R_base ho0) hb); have n1_ := Aside0.mk (Kd.R_elder' (by (with_reducible repeat (first | apply Kd.R_alloc | apply Kd.R_drewN | apply Kd.R_drew)); exact HO_21.out) (Kd.R_base ho0) hb); have n2_ := Aside0.mk (Kd.R_lower (Kd.R_new' (Kd.R_new' ho0 (Kd.R_lt (by (with_reducible repeat (first | apply Kd.R_alloc | apply Kd.R_drewN | apply Kd.R_drew)); exact HO_17.out))) (Kd.R_lt (by (with_reducible repeat (first | apply Kd.R_alloc | apply Kd.R_drewN | apply Kd.R_drew)); exact HO_21.out))) (below_size (by repeat (first | (with_reducible first | exact HB.out | apply below_alloc | apply pw_below_drewN | apply below_drew1) | exact HB.out)))); have n3_ := Aside0.mk (below_step (by repeat (first | (with_reducible first | exact HB.out | apply below_alloc | apply pw_below_drewN | apply below_drew1) | exact HB.out)) hb); clear HO_17; clear HO_21; clear HB; have HO_17 := n0_; have HO_21 := n1_; have HO452 := n2_; have HB := n3_; clear n0_ n1_ n2_ n3_; (try clear hb); (try clear hb2); (try clear hk); (try clear hi); (try clear ho0)))
                                  go_ret
                                  exact ⟨by first | rfl | (simp [errW_none, errW_some] <;> rfl) | (simp [*, errW_none, errW_some] <;> rfl), by repeat (first | (with_reducible first | exact HB.out | apply below_alloc | apply pw_below_drewN | apply below_drew1) | exact HB.out)⟩

end Go.Proofs.YtooobbbpcpfddaaDoor.PA
