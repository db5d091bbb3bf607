-- Printed by gprint.py (wip/ of this repo), over the kit's print.
import Derived.Test.YtooobbbpcpfddaaDoorPA0
import Derived.Test.YtooobbbpcpfddaaDoorPAclause1
import Derived.Test.YtooobbbpcpfddaaDoorPAkeelsonlaw120
import Derived.Test.YtooobbbpcpfddaaDoorPAkeelsonlaw122
import Derived.Test.YtooobbbpcpfddaaDoorPAkeelsonref120
namespace Go.Proofs.YtooobbbpcpfddaaDoor.PA
open Go.RowKit Go.Proofs.YtooobbbpcpfddaaDoorW.PrintWords Go.Proofs.YtooobbbpcpfddaaDoorW.PrintLast Go.Proofs.YtooobbbpcpfddaaDoorW.PrintMore
attribute [local go_sem] max2_int min2_int max_two min_two max_three min_three max_four min_four   -- for this text's walks alone
set_option linter.unusedVariables false
set_option linter.unusedSimpArgs false

/-! ### keelsonlaw12_ClauseUnits: function 7 -/
def keelsonlaw12_ClauseUnits.j0 : Nat → Int → List (List Int) → List Int → Bool → Bool → Option (Bool)
  | 0, _, _, _, _, _ => none
  | k + 1, x0, x1, x2, x7, x30 => if x30 = true then (some x7) else ((clause_Units.f k x0 x1 x2).bind fun bt416 => ((keelsonref12_Units.f k x0 x1 x2).bind fun bt420 => ((keelsonlaw12_sameInts.f k bt416.1 bt420.1).bind fun t424 => (if t424 = true then (some (bt416.2 == bt420.2)) else (none)))))
def keelsonlaw12_ClauseUnits.f (k : Nat) (a0 : Int) (l1 : List (List Int)) (l2 : List Int) : Option (Bool) := (keelsonlaw12_shown.f k).bind fun t414 => ((keelsonlaw12_small.f k l1).bind fun t415 => (if t414 = true then (if t415 = true then (if (l2.length : Int) > 100 then (keelsonlaw12_ClauseUnits.j0 k a0 l1 l2 t414 true) else (keelsonlaw12_ClauseUnits.j0 k a0 l1 l2 t414 (decide (a0 > 4100)))) else (keelsonlaw12_ClauseUnits.j0 k a0 l1 l2 t414 true)) else (keelsonlaw12_ClauseUnits.j0 k a0 l1 l2 t414 true)))
theorem keelsonlaw12_ClauseUnits.mono_l : ∀ k, (∀ y0 y1 y2 y3 y4, LeO (keelsonlaw12_ClauseUnits.j0 k y0 y1 y2 y3 y4) (keelsonlaw12_ClauseUnits.j0 (k + 1) y0 y1 y2 y3 y4))
  | 0 => fun _ _ _ _ _ r h => by simp [keelsonlaw12_ClauseUnits.j0] at h
  | k + 1 => by
    have ih0 := keelsonlaw12_ClauseUnits.mono_l k
    · intro y0 y1 y2 y3 y4
      unfold keelsonlaw12_ClauseUnits.j0
      repeat' first
      | (with_reducible exact ih0 _ _ _ _ _)
      | (with_reducible exact clause_Units.mono _ _ _ _)
      | (with_reducible exact keelsonlaw12_sameInts.mono _ _ _)
      | (with_reducible exact keelsonlaw12_shown.mono _)
      | (with_reducible exact keelsonlaw12_small.mono _ _)
      | (with_reducible exact keelsonref12_Units.mono _ _ _ _)
      | (with_reducible exact LeO.refl _)
      | (with_reducible exact LeO.none _)
      | (with_reducible refine LeO.ite ?_ ?_)
      | (with_reducible refine LeO.bind ?_ (fun _ => ?_))
      | exact ih0 _ _ _ _ _
      | exact clause_Units.mono _ _ _ _
      | exact keelsonlaw12_sameInts.mono _ _ _
      | exact keelsonlaw12_shown.mono _
      | exact keelsonlaw12_small.mono _ _
      | exact keelsonref12_Units.mono _ _ _ _
      | exact LeO.none _
      | refine LeO.ite ?_ ?_
      | refine LeO.bind ?_ (fun _ => ?_)
theorem keelsonlaw12_ClauseUnits.mono : ∀ a0 a1 a2 k, LeO (keelsonlaw12_ClauseUnits.f k a0 a1 a2) (keelsonlaw12_ClauseUnits.f (k + 1) a0 a1 a2) := by
  intro a0 a1 a2 k
  have ih0 := keelsonlaw12_ClauseUnits.mono_l k
  unfold keelsonlaw12_ClauseUnits.f
  repeat' first
      | (with_reducible exact ih0 _ _ _ _ _)
      | (with_reducible exact clause_Units.mono _ _ _ _)
      | (with_reducible exact keelsonlaw12_sameInts.mono _ _ _)
      | (with_reducible exact keelsonlaw12_shown.mono _)
      | (with_reducible exact keelsonlaw12_small.mono _ _)
      | (with_reducible exact keelsonref12_Units.mono _ _ _ _)
      | (with_reducible exact LeO.refl _)
      | (with_reducible exact LeO.none _)
      | (with_reducible refine LeO.ite ?_ ?_)
      | (with_reducible refine LeO.bind ?_ (fun _ => ?_))
      | exact ih0 _ _ _ _ _
      | exact clause_Units.mono _ _ _ _
      | exact keelsonlaw12_sameInts.mono _ _ _
      | exact keelsonlaw12_shown.mono _
      | exact keelsonlaw12_small.mono _ _
      | exact keelsonref12_Units.mono _ _ _ _
      | exact LeO.none _
      | refine LeO.ite ?_ ?_
      | refine LeO.bind ?_ (fun _ => ?_)
set_option maxHeartbeats 8000000 in
set_option maxRecDepth 100000 in
theorem keelsonlaw12_ClauseUnits.calls (k : Nat) (a0 : Int) (A1 : Option Addr) (c1 : Nat) (l1 : List (List Int)) (A2 : Option Addr) (c2 : Nat) (l2 : List Int) (r : Bool) (w : World) (hr1 : Kd.C (Kd.slice 3 (Kd.int .i64)) w A1 l1.length l1) (hc1 : l1.length ≤ c1) (hr2 : Kd.C (Kd.int .i64) w A2 l2.length l2) (hc2 : l2.length ≤ c2) (hG_pow10 : GlobPow10 w) (h : keelsonlaw12_ClauseUnits.f k a0 l1 l2 = some r) :
    Calls Tryd.prog 7 #[.int .i64 a0, .slice A1 l1.length c1, .slice A2 l2.length c2] w fun e w' => e = .returned (.bool r) ∧ Below w.heap.size w w' := by
  have HG_pow10 := Aside0.mk hG_pow10
  clear hG_pow10
  have HR1 := Aside0.mk hr1
  have HC1 := Aside0.mk hc1
  clear hr1 hc1
  have HR2 := Aside0.mk hr2
  have HC2 := Aside0.mk hc2
  clear hr2 hc2
  have HB := Aside0.mk (Below.refl w.heap.size w)
  have H : ((keelsonlaw12_shown.f k).bind fun t414 => ((keelsonlaw12_small.f k l1).bind fun t415 => (if t414 = true then (if t415 = true then (if (l2.length : Int) > 100 then (keelsonlaw12_ClauseUnits.j0 k a0 l1 l2 t414 true) else (keelsonlaw12_ClauseUnits.j0 k a0 l1 l2 t414 (decide (a0 > 4100)))) else (keelsonlaw12_ClauseUnits.j0 k a0 l1 l2 t414 true)) else (keelsonlaw12_ClauseUnits.j0 k a0 l1 l2 t414 true)))) = some r := h
  clear h
  replace H := Option.bind_eq_some_iff.mp H
  obtain ⟨t414, A40, H⟩ := H
  replace H : ((keelsonlaw12_small.f k l1).bind fun t415 => (if t414 = true then (if t415 = true then (if (l2.length : Int) > 100 then (keelsonlaw12_ClauseUnits.j0 k a0 l1 l2 t414 true) else (keelsonlaw12_ClauseUnits.j0 k a0 l1 l2 t414 (decide (a0 > 4100)))) else (keelsonlaw12_ClauseUnits.j0 k a0 l1 l2 t414 true)) else (keelsonlaw12_ClauseUnits.j0 k a0 l1 l2 t414 true))) = some r := H
  have A4 := Aside0.mk A40
  clear A40
  replace H := Option.bind_eq_some_iff.mp H
  obtain ⟨t415, A50, H⟩ := H
  replace H : (if t414 = true then (if t415 = true then (if (l2.length : Int) > 100 then (keelsonlaw12_ClauseUnits.j0 k a0 l1 l2 t414 true) else (keelsonlaw12_ClauseUnits.j0 k a0 l1 l2 t414 (decide (a0 > 4100)))) else (keelsonlaw12_ClauseUnits.j0 k a0 l1 l2 t414 true)) else (keelsonlaw12_ClauseUnits.j0 k a0 l1 l2 t414 true)) = some r := H
  have A5 := Aside0.mk A50
  clear A50
  have HC6 := Aside0.mk H
  clear H
  go_enter Tryd.func7, Tryd.ntmps7
  go_upto_region 3 with (first | ((with_reducible refine gate_callee (f := 33) rfl ?_); refine goesL_ (some 13) rfl rfl Tryd.func33 (by kernel_rfl) rfl #[] rfl (by (try simp only [List.map_toArray, List.map_cons, List.map_nil]); first | done | rfl | (simp only [List.length_drop, List.length_take]; rfl)) ?_; (with_reducible refine (keelsonlaw12_shown.calls k  t414 _ ?side1 A4.out).mono ?_); (case side1 => exact HG_pow10.out.below (by repeat (first | (with_reducible first | exact HB.out | apply below_alloc | apply pw_below_drewN | apply below_drew1) | exact HB.out))); rintro e w7 ⟨rfl, hb⟩; refine ⟨_, rfl, ?_⟩; have n0_ := Aside0.mk (below_step (by repeat (first | (with_reducible first | exact HB.out | apply below_alloc | apply pw_below_drewN | apply below_drew1) | exact HB.out)) hb); clear HB; have HB := n0_; clear n0_; (try clear hb); (try clear hb2); (try clear hk); (try clear hi)) | ((with_reducible refine gate_callee (f := 34) rfl ?_); refine goesL_ (some 15) rfl rfl Tryd.func34 (by kernel_rfl) rfl #[.slice A1 l1.length c1] rfl (by (try simp only [List.map_toArray, List.map_cons, List.map_nil]); first | done | rfl | (simp only [List.length_drop, List.length_take]; rfl)) ?_; (with_reducible refine (keelsonlaw12_small.calls k _ _ l1 t415 _ ?side1 ?side2 A5.out).mono ?_); (case side1 => repeat (first | exact (Kd.C_below HR1.out HB.out) | (with_reducible refine Kd.C_alloc ?_ _) | (with_reducible refine Kd.C_drewN ?_ _) | (with_reducible refine Kd.C_drew ?_))); (case side2 => exact HC1.out); rintro e w' ⟨rfl, ⟨nd, rfl⟩⟩; refine ⟨_, rfl, ?_⟩))
  (try simp only [Act.put, List.setIfInBounds_toArray, List.set_cons_zero, List.set_cons_succ])
  go_cut [30] (fun v30 wc => ∃ (kq : Nat) (x30_5 : Bool), v30 = .bool x30_5 ∧ Aside0 (keelsonlaw12_ClauseUnits.j0 kq a0 l1 l2 t414 x30_5 = some r) ∧ Aside0 (kq ≤ k) ∧ Aside0 (Below w.heap.size w wc))
  case first => as_aux_lemma =>
    have H := HC6.out
    clear HC6
    by_cases c8 : t414 = true
    · subst c8
      have H1 : (if t415 = true then (if (l2.length : Int) > 100 then (keelsonlaw12_ClauseUnits.j0 k a0 l1 l2 true true) else (keelsonlaw12_ClauseUnits.j0 k a0 l1 l2 true (decide (a0 > 4100)))) else (keelsonlaw12_ClauseUnits.j0 k a0 l1 l2 true true)) = some r := by rw [if_pos rfl] at H; exact H
      clear H
      have H := H1
      clear H1
      by_cases c9 : t415 = true
      · subst c9
        have H1 : (if (l2.length : Int) > 100 then (keelsonlaw12_ClauseUnits.j0 k a0 l1 l2 true true) else (keelsonlaw12_ClauseUnits.j0 k a0 l1 l2 true (decide (a0 > 4100)))) = some r := by rw [if_pos rfl] at H; exact H
        clear H
        have H := H1
        clear H1
        by_cases c10 : (l2.length : Int) > 100
        · rw [if_pos c10] at H
          have c10b0 : decide (100 < (l2.length : Int)) = true := decide_eq_true c10
          have c10b1 : decide (100 < l2.length) = true := decide_eq_true (by omega)
          clear c10
          (first | rw [c10b0] | (simp only [i64_w, i32_w]; rw [c10b0]) | rw [c10b1] | skip)
          have H' := Aside0.mk H
          clear H
          go_wp2
          go_meet
          case rel => exact ⟨_, (true), (by first | rfl | (simp; done) | (simp [*]; done)), H', ⟨by first | omega | exact Nat.le_refl _⟩, ⟨by repeat (first | (with_reducible first | exact HB.out | apply below_alloc | apply pw_below_drewN | apply below_drew1) | exact HB.out)⟩⟩
        · rw [if_neg c10] at H
          have c10b0 : decide (100 < (l2.length : Int)) = false := decide_eq_false c10
          have c10b1 : decide (100 < l2.length) = false := decide_eq_false (by omega)
          clear c10
          (first | rw [c10b0] | (simp only [i64_w, i32_w]; rw [c10b0]) | rw [c10b1] | skip)
          have H' := Aside0.mk H
          clear H
          go_wp2
          go_meet
          case rel => exact ⟨_, (decide (a0 > 4100)), (by first | rfl | (simp; done) | (simp [*]; done)), H', ⟨by first | omega | exact Nat.le_refl _⟩, ⟨by repeat (first | (with_reducible first | exact HB.out | apply below_alloc | apply pw_below_drewN | apply below_drew1) | exact HB.out)⟩⟩
      · replace c9 := Bool.eq_false_iff.mpr c9
        subst c9
        have H1 : (keelsonlaw12_ClauseUnits.j0 k a0 l1 l2 true true) = some r := by rw [if_neg (show ¬ (false = true) by decide)] at H; exact H
        clear H
        have H := H1
        clear H1
        have H' := Aside0.mk H
        clear H
        go_wp2
        go_meet
        case rel => exact ⟨_, (true), (by first | rfl | (simp; done) | (simp [*]; done)), H', ⟨by first | omega | exact Nat.le_refl _⟩, ⟨by repeat (first | (with_reducible first | exact HB.out | apply below_alloc | apply pw_below_drewN | apply below_drew1) | exact HB.out)⟩⟩
    · replace c8 := Bool.eq_false_iff.mpr c8
      subst c8
      have H1 : (keelsonlaw12_ClauseUnits.j0 k a0 l1 l2 false true) = some r := by rw [if_neg (show ¬ (false = true) by decide)] at H; exact H
      clear H
      have H := H1
      clear H1
      have H' := Aside0.mk H
      clear H
      go_wp2
      go_meet
      case rel => exact ⟨_, (true), (by first | rfl | (simp; done) | (simp [*]; done)), H', ⟨by first | omega | exact Nat.le_refl _⟩, ⟨by repeat (first | (with_reducible first | exact HB.out | apply below_alloc | apply pw_below_drewN | apply below_drew1) | exact HB.out)⟩⟩
  case rest => as_aux_lemma =>
    clear HC6
    try clear c1
    try clear c2
    try clear p2
    try clear c3
    try clear c7
    try clear c8
    try clear c9
    try clear c10
    try clear c10b0
    try clear c10b1
    obtain ⟨kq, x30_5, rfl, HA, HJ5, HB⟩ := hcut
    cases kq with
    | zero => exact absurd HA.out (by simp [keelsonlaw12_ClauseUnits.j0])
    | succ kj5 =>
      have H := HA.out
      clear HA
      simp only [keelsonlaw12_ClauseUnits.j0] at H
      by_cases c11 : x30_5 = true
      · subst c11
        have H1 : (some t414) = some r := by rw [if_pos rfl] at H; exact H
        clear H
        have H := H1
        clear H1
        obtain rfl := Option.some.inj H
        go_wp2
        go_ret
        exact ⟨by first | rfl | (simp [errW_none, errW_some] <;> rfl) | (simp [*, errW_none, errW_some] <;> rfl), by repeat (first | (with_reducible first | exact HB.out | apply below_alloc | apply pw_below_drewN | apply below_drew1) | exact HB.out)⟩
      · replace c11 := Bool.eq_false_iff.mpr c11
        subst c11
        have H1 : ((clause_Units.f kj5 a0 l1 l2).bind fun bt416 => ((keelsonref12_Units.f kj5 a0 l1 l2).bind fun bt420 => ((keelsonlaw12_sameInts.f kj5 bt416.1 bt420.1).bind fun t424 => (if t424 = true then (some (bt416.2 == bt420.2)) else (none))))) = some r := by rw [if_neg (show ¬ (false = true) by decide)] at H; exact H
        clear H
        have H := H1
        clear H1
        replace H := Option.bind_eq_some_iff.mp H
        obtain ⟨⟨t416, t417⟩, A120, H⟩ := H
        replace H : ((keelsonref12_Units.f kj5 a0 l1 l2).bind fun bt420 => ((keelsonlaw12_sameInts.f kj5 t416 bt420.1).bind fun t424 => (if t424 = true then (some (t417 == bt420.2)) else (none)))) = some r := H
        have A12 := Aside0.mk A120
        clear A120
        replace H := Option.bind_eq_some_iff.mp H
        obtain ⟨⟨t420, t421⟩, A130, H⟩ := H
        replace H : ((keelsonlaw12_sameInts.f kj5 t416 t420).bind fun t424 => (if t424 = true then (some (t417 == t421)) else (none))) = some r := H
        have A13 := Aside0.mk A130
        clear A130
        replace H := Option.bind_eq_some_iff.mp H
        obtain ⟨t424, A140, H⟩ := H
        replace H : (if t424 = true then (some (t417 == t421)) else (none)) = some r := H
        have A14 := Aside0.mk A140
        clear A140
        by_cases c15 : t424 = true
        · subst c15
          have H1 : (some (t417 == t421)) = some r := by rw [if_pos rfl] at H; exact H
          clear H
          have H := H1
          clear H1
          obtain rfl := Option.some.inj H
          go_wp2_with (first | ((with_reducible refine gate_callee (f := 35) rfl ?_); refine goesL_ (some 36) rfl rfl Tryd.func35 (by kernel_rfl) rfl #[.int .i64 a0, .slice A1 l1.length c1, .slice A2 l2.length c2] rfl (by (try simp only [List.map_toArray, List.map_cons, List.map_nil]); first | done | rfl | (simp only [List.length_drop, List.length_take]; rfl)) ?_; (with_reducible refine (clause_Units.calls kj5 a0 _ _ l1 _ _ l2 t416 t417 _ ?side1 ?side2 ?side3 ?side4 A12.out).mono ?_); (case side1 => repeat (first | exact (Kd.C_below HR1.out HB.out) | (with_reducible refine Kd.C_alloc ?_ _) | (with_reducible refine Kd.C_drewN ?_ _) | (with_reducible refine Kd.C_drew ?_))); (case side2 => exact HC1.out); (case side3 => repeat (first | exact (Kd.C_below HR2.out HB.out) | (with_reducible refine Kd.C_alloc ?_ _) | (with_reducible refine Kd.C_drewN ?_ _) | (with_reducible refine Kd.C_drew ?_))); (case side4 => exact HC2.out); rintro e w16 ⟨v418, rfl, ho0, hb⟩; refine ⟨_, rfl, ?_⟩; have n0_ := Aside0.mk (Kd.R_lower ho0 (below_size (by repeat (first | (with_reducible first | exact HB.out | apply below_alloc | apply pw_below_drewN | apply below_drew1) | exact HB.out)))); have n1_ := Aside0.mk (below_step (by repeat (first | (with_reducible first | exact HB.out | apply below_alloc | apply pw_below_drewN | apply below_drew1) | exact HB.out)) hb); clear HB; have HO419 := n0_; have HB := n1_; clear n0_ n1_; (try clear hb); (try clear hb2); (try clear hk); (try clear hi); (try clear ho0)) | ((with_reducible refine gate_callee (f := 36) rfl ?_); refine goesL_ (some 43) rfl rfl Tryd.func36 (by kernel_rfl) rfl #[.int .i64 a0, .slice A1 l1.length c1, .slice A2 l2.length c2] rfl (by (try simp only [List.map_toArray, List.map_cons, List.map_nil]); first | done | rfl | (simp only [List.length_drop, List.length_take]; rfl)) ?_; (with_reducible refine (keelsonref12_Units.calls kj5 a0 _ _ l1 _ _ l2 t420 t421 _ ?side1 ?side2 ?side3 ?side4 A13.out).mono ?_); (case side1 => repeat (first | exact (Kd.C_below HR1.out HB.out) | (with_reducible refine Kd.C_alloc ?_ _) | (with_reducible refine Kd.C_drewN ?_ _) | (with_reducible refine Kd.C_drew ?_))); (case side2 => exact HC1.out); (case side3 => repeat (first | exact (Kd.C_below HR2.out HB.out) | (with_reducible refine Kd.C_alloc ?_ _) | (with_reducible refine Kd.C_drewN ?_ _) | (with_reducible refine Kd.C_drew ?_))); (case side4 => exact HC2.out); rintro e w17 ⟨v422, rfl, ho0, hb⟩; refine ⟨_, rfl, ?_⟩; have n0_ := Aside0.mk (Kd.R_elder' (by (with_reducible repeat (first | apply Kd.R_alloc | apply Kd.R_drewN | apply Kd.R_drew)); exact HO419.out) (Kd.R_base ho0) hb); have n1_ := Aside0.mk (Kd.R_lower (Kd.R_new' ho0 (Kd.R_lt (by (with_reducible repeat (first | apply Kd.R_alloc | apply Kd.R_drewN | apply Kd.R_drew)); exact HO419.out))) (below_size (by repeat (first | (with_reducible first | exact HB.out | apply below_alloc | apply pw_below_drewN | apply below_drew1) | exact HB.out)))); have n2_ := Aside0.mk (below_step (by repeat (first | (with_reducible first | exact HB.out | apply below_alloc | apply pw_below_drewN | apply below_drew1) | exact HB.out)) hb); clear HO419; clear HB; have HO419 := n0_; have HO423 := n1_; have HB := n2_; clear n0_ n1_ n2_; (try clear hb); (try clear hb2); (try clear hk); (try clear hi); (try clear ho0); obtain ⟨Ao18, co18, eo18⟩ := Kd.R_slice HO419.out; subst eo18; obtain ⟨Ao19, co19, eo19⟩ := Kd.R_slice HO423.out; subst eo19) | ((with_reducible refine gate_callee (f := 37) rfl ?_); refine goesL_ (some 48) rfl rfl Tryd.func37 (by kernel_rfl) rfl #[.slice Ao18 t416.length co18, .slice Ao19 t420.length co19] rfl (by (try simp only [List.map_toArray, List.map_cons, List.map_nil]); first | done | rfl | (simp only [List.length_drop, List.length_take]; rfl)) ?_; (with_reducible refine (keelsonlaw12_sameInts.calls kj5 _ _ t416 _ _ t420 true _ ?side1 ?side2 ?side3 ?side4 A14.out).mono ?_); (case side1 => repeat (first | exact (Kd.R_reads' HO419.out).2.2 | (with_reducible refine Kd.C_alloc ?_ _) | (with_reducible refine Kd.C_drewN ?_ _) | (with_reducible refine Kd.C_drew ?_))); (case side2 => exact (Kd.R_reads' HO419.out).2.1); (case side3 => repeat (first | exact (Kd.R_reads' HO423.out).2.2 | (with_reducible refine Kd.C_alloc ?_ _) | (with_reducible refine Kd.C_drewN ?_ _) | (with_reducible refine Kd.C_drew ?_))); (case side4 => exact (Kd.R_reads' HO423.out).2.1); rintro e w' ⟨rfl, ⟨nd, rfl⟩⟩; refine ⟨_, rfl, ?_⟩))
          go_ret
          exact ⟨by first | rfl | (simp [errW_none, errW_some] <;> rfl) | (simp [*, errW_none, errW_some] <;> rfl), by repeat (first | (with_reducible first | exact HB.out | apply below_alloc | apply pw_below_drewN | apply below_drew1) | exact HB.out)⟩
        · replace c15 := Bool.eq_false_iff.mpr c15
          subst c15
          have H1 : (none) = some r := by rw [if_neg (show ¬ (false = true) by decide)] at H; exact H
          clear H
          have H := H1
          clear H1
          exact absurd H (by simp)

end Go.Proofs.YtooobbbpcpfddaaDoor.PA
