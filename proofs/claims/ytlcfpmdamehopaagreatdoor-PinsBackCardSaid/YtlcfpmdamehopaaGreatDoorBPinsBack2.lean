/- PinsBack returns true, whatever it is given, and leaves it as it was: pins that have a text are parsed of it as they were, what was parsed of a text, printed, is parsed as the same. Conditions: those of the given row alone. -/
import Derived.Test.YtlcfpmdamehopaaGreatDoorBPinsBack1
import Derived.Test.YtlcfpmdamehopaaGreatDoorTie
import Derived.Test.YtlcfpmdamehopaaGreatDoorCards
import Derived.SevenTiedAt
import Derived.OpenShut
import Derived.ShutString
import Derived.WideWitness
-- Printed by gprint.py (wip/ of this repo), over the kit's print.
namespace Go.Proofs.YtlcfpmdamehopaaGreatDoor.PA
open Go.RowKit Go.Proofs.YtlcfpmdamehopaaGreatDoorW.PrintWords Go.Proofs.YtlcfpmdamehopaaGreatDoorW.PrintLast Go.Proofs.YtlcfpmdamehopaaGreatDoorW.PrintMore
attribute [local go_sem] max2_int min2_int max_two min_two max_three min_three max_four min_four   -- for this text's walks alone
set_option linter.unusedVariables false
set_option linter.unusedSimpArgs false

/-! ### keelsonlaw8_PinsBack: function 5 -/
mutual
def keelsonlaw8_PinsBack.j0 : Nat → List (S30) → ByteArray → Bool → Bool → Option (Bool)
  | 0, _, _, _, _ => none
  | k + 1, x0, x1, x5, x30 => if x30 = true then (some x5) else ((pins_Print.f k x0).bind fun t271 => (if t271.toList = ([] : List UInt8) then (keelsonlaw8_PinsBack.j1 k x1) else ((pins_Parse.f k t271).bind fun bt272 => (if bt272.2.2 = 0 then (if bt272.2.1 = 0 then ((keelsonlaw8_same.f k bt272.1 x0).bind fun t277 => (if t277 = true then (keelsonlaw8_PinsBack.j1 k x1) else (none))) else (none)) else (none)))))
def keelsonlaw8_PinsBack.j1 : Nat → ByteArray → Option (Bool)
  | 0, _ => none
  | k + 1, x1 => (pins_Parse.f k x1).bind fun bt278 => ((pins_Print.f k bt278.1).bind fun t283 => ((pins_Parse.f k t283).bind fun bt284 => (if bt278.2.2 = 0 then (if bt284.2.2 = 0 then ((keelsonlaw8_same.f k bt278.1 bt284.1).bind fun t289 => (some t289)) else (none)) else (if (bt278.1.length : Int) = 0 then (some true) else (none)))))
end
def keelsonlaw8_PinsBack.f (k : Nat) (l0 : List (S30)) (a1 : ByteArray) : Option (Bool) := (keelsonlaw8_shown.f k).bind fun t269 => ((keelsonlaw8_small.f k l0).bind fun t270 => (if t269 = true then (if t270 = true then (keelsonlaw8_PinsBack.j0 k l0 a1 t269 (decide ((a1.size : Int) > 4000))) else (keelsonlaw8_PinsBack.j0 k l0 a1 t269 true)) else (keelsonlaw8_PinsBack.j0 k l0 a1 t269 true)))
set_option maxHeartbeats 8000000 in
set_option maxRecDepth 100000 in
theorem keelsonlaw8_PinsBack.calls (k : Nat) (A0 : Option Addr) (c0 : Nat) (l0 : List (S30)) (a1 : ByteArray) (r : Bool) (w : World) (hr0 : Kd.C k30 w A0 l0.length l0) (hc0 : l0.length ≤ c0) (hG_maxLen : GlobMaxLen w) (hG_numErr : GlobNumErr w) (hG_pow10 : GlobPow10 w) (h : keelsonlaw8_PinsBack.f k l0 a1 = some r) :
    Calls Tryz.prog 5 #[.slice A0 l0.length c0, .string a1] w fun e w' => e = .returned (.bool r) ∧ Below w.heap.size w w' := by
  have HG_maxLen := Aside0.mk hG_maxLen
  clear hG_maxLen
  have HG_numErr := Aside0.mk hG_numErr
  clear hG_numErr
  have HG_pow10 := Aside0.mk hG_pow10
  clear hG_pow10
  have HR0 := Aside0.mk hr0
  have HC0 := Aside0.mk hc0
  clear hr0 hc0
  have HB := Aside0.mk (Below.refl w.heap.size w)
  have H : ((keelsonlaw8_shown.f k).bind fun t269 => ((keelsonlaw8_small.f k l0).bind fun t270 => (if t269 = true then (if t270 = true then (keelsonlaw8_PinsBack.j0 k l0 a1 t269 (decide ((a1.size : Int) > 4000))) else (keelsonlaw8_PinsBack.j0 k l0 a1 t269 true)) else (keelsonlaw8_PinsBack.j0 k l0 a1 t269 true)))) = some r := h
  clear h
  replace H := Option.bind_eq_some_iff.mp H
  obtain ⟨t269, A30, H⟩ := H
  replace H : ((keelsonlaw8_small.f k l0).bind fun t270 => (if t269 = true then (if t270 = true then (keelsonlaw8_PinsBack.j0 k l0 a1 t269 (decide ((a1.size : Int) > 4000))) else (keelsonlaw8_PinsBack.j0 k l0 a1 t269 true)) else (keelsonlaw8_PinsBack.j0 k l0 a1 t269 true))) = some r := H
  have A3 := Aside0.mk A30
  clear A30
  replace H := Option.bind_eq_some_iff.mp H
  obtain ⟨t270, A40, H⟩ := H
  replace H : (if t269 = true then (if t270 = true then (keelsonlaw8_PinsBack.j0 k l0 a1 t269 (decide ((a1.size : Int) > 4000))) else (keelsonlaw8_PinsBack.j0 k l0 a1 t269 true)) else (keelsonlaw8_PinsBack.j0 k l0 a1 t269 true)) = some r := H
  have A4 := Aside0.mk A40
  clear A40
  have HC5 := Aside0.mk H
  clear H
  go_enter Tryz.func5, Tryz.ntmps5
  go_upto_region 3 with (first | ((with_reducible refine gate_callee (f := 7) rfl ?_); refine goesL_ (some 17) rfl rfl Tryz.func7 (by kernel_rfl) rfl #[] rfl (by (try simp only [List.map_toArray, List.map_cons, List.map_nil]); first | done | rfl | (simp only [List.length_drop, List.length_take]; rfl)) ?_; (with_reducible refine (keelsonlaw8_shown.calls k  t269 _ ?side1 ?side2 ?side3 A3.out).mono ?_); (case side1 => exact HG_maxLen.out.below (by repeat (first | (with_reducible first | exact HB.out | apply below_alloc | apply pw_below_drewN | apply below_drew1) | exact HB.out))); (case side2 => exact HG_numErr.out.below (by repeat (first | (with_reducible first | exact HB.out | apply below_alloc | apply pw_below_drewN | apply below_drew1) | exact HB.out))); (case side3 => exact HG_pow10.out.below (by repeat (first | (with_reducible first | exact HB.out | apply below_alloc | apply pw_below_drewN | apply below_drew1) | exact HB.out))); rintro e w6 ⟨rfl, hb⟩; refine ⟨_, rfl, ?_⟩; have n0_ := Aside0.mk (below_step (by repeat (first | (with_reducible first | exact HB.out | apply below_alloc | apply pw_below_drewN | apply below_drew1) | exact HB.out)) hb); clear HB; have HB := n0_; clear n0_; (try clear hb); (try clear hb2); (try clear hk); (try clear hi)) | ((with_reducible refine gate_callee (f := 11) rfl ?_); refine goesL_ (some 19) rfl rfl Tryz.func11 (by kernel_rfl) rfl #[.slice A0 l0.length c0] rfl (by (try simp only [List.map_toArray, List.map_cons, List.map_nil]); first | done | rfl | (simp only [List.length_drop, List.length_take]; rfl)) ?_; (with_reducible refine (keelsonlaw8_small.calls k _ _ l0 t270 _ ?side1 ?side2 A4.out).mono ?_); (case side1 => repeat (first | exact (Kd.C_below HR0.out HB.out) | (with_reducible refine Kd.C_alloc ?_ _) | (with_reducible refine Kd.C_drewN ?_ _) | (with_reducible refine Kd.C_drew ?_))); (case side2 => exact HC0.out); rintro e w' ⟨rfl, ⟨nd, rfl⟩⟩; refine ⟨_, rfl, ?_⟩))
  (try simp only [Act.put, List.setIfInBounds_toArray, List.set_cons_zero, List.set_cons_succ])
  go_cut [30] (fun v30 wc => ∃ (kq : Nat) (x30_4 : Bool), v30 = .bool x30_4 ∧ Aside0 (keelsonlaw8_PinsBack.j0 kq l0 a1 t269 x30_4 = some r) ∧ Aside0 (kq ≤ k) ∧ Aside0 (Below w.heap.size w wc))
  case first => as_aux_lemma =>
    have H := HC5.out
    clear HC5
    by_cases c7 : t269 = true
    · subst c7
      have H1 : (if t270 = true then (keelsonlaw8_PinsBack.j0 k l0 a1 true (decide ((a1.size : Int) > 4000))) else (keelsonlaw8_PinsBack.j0 k l0 a1 true true)) = some r := by rw [if_pos rfl] at H; exact H
      clear H
      have H := H1
      clear H1
      by_cases c8 : t270 = true
      · subst c8
        have H1 : (keelsonlaw8_PinsBack.j0 k l0 a1 true (decide ((a1.size : Int) > 4000))) = some r := by rw [if_pos rfl] at H; exact H
        clear H
        have H := H1
        clear H1
        have H' := Aside0.mk H
        clear H
        go_wp2
        go_meet
        case rel => exact ⟨_, (decide ((a1.size : Int) > 4000)), (by first | rfl | (simp; done) | (simp [*]; done)), H', ⟨by first | omega | exact Nat.le_refl _⟩, ⟨by repeat (first | (with_reducible first | exact HB.out | apply below_alloc | apply pw_below_drewN | apply below_drew1) | exact HB.out)⟩⟩
      · replace c8 := Bool.eq_false_iff.mpr c8
        subst c8
        have H1 : (keelsonlaw8_PinsBack.j0 k l0 a1 true true) = some r := by rw [if_neg (show ¬ (false = true) by decide)] at H; exact H
        clear H
        have H := H1
        clear H1
        have H' := Aside0.mk H
        clear H
        go_wp2
        go_meet
        case rel => exact ⟨_, (true), (by first | rfl | (simp; done) | (simp [*]; done)), H', ⟨by first | omega | exact Nat.le_refl _⟩, ⟨by repeat (first | (with_reducible first | exact HB.out | apply below_alloc | apply pw_below_drewN | apply below_drew1) | exact HB.out)⟩⟩
    · replace c7 := Bool.eq_false_iff.mpr c7
      subst c7
      have H1 : (keelsonlaw8_PinsBack.j0 k l0 a1 false true) = some r := by rw [if_neg (show ¬ (false = true) by decide)] at H; exact H
      clear H
      have H := H1
      clear H1
      have H' := Aside0.mk H
      clear H
      go_wp2
      go_meet
      case rel => exact ⟨_, (true), (by first | rfl | (simp; done) | (simp [*]; done)), H', ⟨by first | omega | exact Nat.le_refl _⟩, ⟨by repeat (first | (with_reducible first | exact HB.out | apply below_alloc | apply pw_below_drewN | apply below_drew1) | exact HB.out)⟩⟩
  case rest => as_aux_lemma =>
    clear HC5
    try clear c1
    try clear p2
    try clear c5
    try clear c7
    try clear c8
    obtain ⟨kq, x30_4, rfl, HA, HJ4, HB⟩ := hcut
    cases kq with
    | zero => exact absurd HA.out (by simp [keelsonlaw8_PinsBack.j0])
    | succ kj4 =>
      have H := HA.out
      clear HA
      simp only [keelsonlaw8_PinsBack.j0] at H
      by_cases c9 : x30_4 = true
      · subst c9
        have H1 : (some t269) = some r := by rw [if_pos rfl] at H; exact H
        clear H
        have H := H1
        clear H1
        obtain rfl := Option.some.inj H
        go_wp2
        go_ret
        exact ⟨by first | rfl | (simp [errW_none, errW_some] <;> rfl) | (simp [*, errW_none, errW_some] <;> rfl), by repeat (first | (with_reducible first | exact HB.out | apply below_alloc | apply pw_below_drewN | apply below_drew1) | exact HB.out)⟩
      · replace c9 := Bool.eq_false_iff.mpr c9
        subst c9
        have H1 : ((pins_Print.f kj4 l0).bind fun t271 => (if t271.toList = ([] : List UInt8) then (keelsonlaw8_PinsBack.j1 kj4 a1) else ((pins_Parse.f kj4 t271).bind fun bt272 => (if bt272.2.2 = 0 then (if bt272.2.1 = 0 then ((keelsonlaw8_same.f kj4 bt272.1 l0).bind fun t277 => (if t277 = true then (keelsonlaw8_PinsBack.j1 kj4 a1) else (none))) else (none)) else (none))))) = some r := by rw [if_neg (show ¬ (false = true) by decide)] at H; exact H
        clear H
        have H := H1
        clear H1
        replace H := Option.bind_eq_some_iff.mp H
        obtain ⟨t271, A100, H⟩ := H
        replace H : (if t271.toList = ([] : List UInt8) then (keelsonlaw8_PinsBack.j1 kj4 a1) else ((pins_Parse.f kj4 t271).bind fun bt272 => (if bt272.2.2 = 0 then (if bt272.2.1 = 0 then ((keelsonlaw8_same.f kj4 bt272.1 l0).bind fun t277 => (if t277 = true then (keelsonlaw8_PinsBack.j1 kj4 a1) else (none))) else (none)) else (none)))) = some r := H
        have A10 := Aside0.mk A100
        clear A100
        have HC11 := Aside0.mk H
        clear H
        go_upto_if 35 with (first | ((with_reducible refine gate_callee (f := 14) rfl ?_); refine goesL_ (some 33) rfl rfl Tryz.func14 (by kernel_rfl) rfl #[.slice A0 l0.length c0] rfl (by (try simp only [List.map_toArray, List.map_cons, List.map_nil]); first | done | rfl | (simp only [List.length_drop, List.length_take]; rfl)) ?_; (with_reducible refine (pins_Print.calls kj4 _ _ l0 t271 _ ?side1 ?side2 ?side3 ?side4 A10.out).mono ?_); (case side1 => repeat (first | exact (Kd.C_below HR0.out HB.out) | (with_reducible refine Kd.C_alloc ?_ _) | (with_reducible refine Kd.C_drewN ?_ _) | (with_reducible refine Kd.C_drew ?_))); (case side2 => exact HC0.out); (case side3 => exact HG_maxLen.out.below (by repeat (first | (with_reducible first | exact HB.out | apply below_alloc | apply pw_below_drewN | apply below_drew1) | exact HB.out))); (case side4 => exact HG_pow10.out.below (by repeat (first | (with_reducible first | exact HB.out | apply below_alloc | apply pw_below_drewN | apply below_drew1) | exact HB.out))); rintro e w12 ⟨rfl, hb⟩; refine ⟨_, rfl, ?_⟩; have n0_ := Aside0.mk (below_step (by repeat (first | (with_reducible first | exact HB.out | apply below_alloc | apply pw_below_drewN | apply below_drew1) | exact HB.out)) hb); clear HB; have HB := n0_; clear n0_; (try clear hb); (try clear hb2); (try clear hk); (try clear hi)))
        (try simp only [Act.put, List.setIfInBounds_toArray, List.set_cons_zero, List.set_cons_succ])
        go_cut [] (fun wc => ∃ (kq : Nat), Aside0 (keelsonlaw8_PinsBack.j1 kq a1 = some r) ∧ Aside0 (kq ≤ kj4) ∧ Aside0 (Below w.heap.size w wc))
        case first => as_aux_lemma =>
          have H := HC11.out
          clear HC11
          by_cases c13 : t271.toList = ([] : List UInt8)
          · rw [if_pos c13] at H
            have c13b0 : (t271.toList == ([] : List UInt8)) = true := beq_iff_eq.mpr c13
            have c13b1 : (t271.toList != ([] : List UInt8)) = false := bne_eq_false_iff_eq.mpr c13
            have c13b4 : (t271.toList = []) = True := eq_true c13
            have c13b5 : t271.toList.isEmpty = true := by first | simpa using c13 | (simp; exact c13)
            clear c13
            (first | rw [c13b0] | (simp only [i64_w, i32_w]; rw [c13b0]) | rw [c13b1] | rw [c13b5] | skip)
            have H' := Aside0.mk H
            clear H
            go_wp2
            go_meet
            case rel => exact ⟨_, H', ⟨by have := HJ4.out; first | omega | exact Nat.le_refl _⟩, ⟨by repeat (first | (with_reducible first | exact HB.out | apply below_alloc | apply pw_below_drewN | apply below_drew1) | exact HB.out)⟩⟩
          · rw [if_neg c13] at H
            have c13b0 : (t271.toList == ([] : List UInt8)) = false := beq_eq_false_iff_ne.mpr c13
            have c13b1 : (t271.toList != ([] : List UInt8)) = true := bne_iff_ne.mpr c13
            have c13b4 : (t271.toList = []) = False := eq_false c13
            have c13b5 : t271.toList.isEmpty = false := by first | simpa using c13 | (simp; exact c13)
            (first | rw [c13b0] | (simp only [i64_w, i32_w]; rw [c13b0]) | rw [c13b1] | rw [c13b5] | skip)
            replace H := Option.bind_eq_some_iff.mp H
            obtain ⟨⟨t272, t273, t274⟩, A140, H⟩ := H
            replace H : (if t274 = 0 then (if t273 = 0 then ((keelsonlaw8_same.f kj4 t272 l0).bind fun t277 => (if t277 = true then (keelsonlaw8_PinsBack.j1 kj4 a1) else (none))) else (none)) else (none)) = some r := H
            have A14 := Aside0.mk A140
            clear A140
            by_cases c15 : t274 = 0
            · rw [if_pos c15] at H
              have c15b0 : (t274 == 0) = true := beq_iff_eq.mpr c15
              have c15b1 : (t274 != 0) = false := bne_eq_false_iff_eq.mpr c15
              clear c15
              by_cases c16 : t273 = 0
              · rw [if_pos c16] at H
                have c16b0 : (t273 == 0) = true := beq_iff_eq.mpr c16
                have c16b1 : (t273 != 0) = false := bne_eq_false_iff_eq.mpr c16
                clear c16
                replace H := Option.bind_eq_some_iff.mp H
                obtain ⟨t277, A170, H⟩ := H
                replace H : (if t277 = true then (keelsonlaw8_PinsBack.j1 kj4 a1) else (none)) = some r := H
                have A17 := Aside0.mk A170
                clear A170
                by_cases c18 : t277 = true
                · subst c18
                  have H1 : (keelsonlaw8_PinsBack.j1 kj4 a1) = some r := by rw [if_pos rfl] at H; exact H
                  clear H
                  have H := H1
                  clear H1
                  have H' := Aside0.mk H
                  clear H
                  go_wp2_with (first | ((with_reducible refine gate_callee (f := 8) rfl ?_); refine goesL_ (some 38) rfl rfl Tryz.func8 (by kernel_rfl) rfl #[.string t271] rfl (by (try simp only [List.map_toArray, List.map_cons, List.map_nil]); first | done | rfl | (simp only [List.length_drop, List.length_take]; rfl)) ?_; (with_reducible refine (pins_Parse.calls kj4 t271 t272 t273 t274 _ ?side1 ?side2 ?side3 A14.out).mono ?_); (case side1 => exact HG_maxLen.out.below (by repeat (first | (with_reducible first | exact HB.out | apply below_alloc | apply pw_below_drewN | apply below_drew1) | exact HB.out))); (case side2 => exact HG_numErr.out.below (by repeat (first | (with_reducible first | exact HB.out | apply below_alloc | apply pw_below_drewN | apply below_drew1) | exact HB.out))); (case side3 => exact HG_pow10.out.below (by repeat (first | (with_reducible first | exact HB.out | apply below_alloc | apply pw_below_drewN | apply below_drew1) | exact HB.out))); rintro e w19 ⟨v275, rfl, ho0, hb⟩; refine ⟨_, rfl, ?_⟩; have n0_ := Aside0.mk (Kd.R_lower ho0 (below_size (by repeat (first | (with_reducible first | exact HB.out | apply below_alloc | apply pw_below_drewN | apply below_drew1) | exact HB.out)))); have n1_ := Aside0.mk (below_step (by repeat (first | (with_reducible first | exact HB.out | apply below_alloc | apply pw_below_drewN | apply below_drew1) | exact HB.out)) hb); clear HB; have HO276 := n0_; have HB := n1_; clear n0_ n1_; (try clear hb); (try clear hb2); (try clear hk); (try clear hi); (try clear ho0); obtain ⟨Ao20, co20, eo20⟩ := Kd.R_slice HO276.out; subst eo20) | (go_at_call 10; (with_reducible refine (keelsonlaw8_same.calls kj4 _ _ t272 _ _ l0 true _ ?side1 ?side2 ?side3 ?side4 A17.out).mono ?_); (case side1 => repeat (first | exact (Kd.R_reads' HO276.out).2.2 | (with_reducible refine Kd.C_alloc ?_ _) | (with_reducible refine Kd.C_drewN ?_ _) | (with_reducible refine Kd.C_drew ?_))); (case side2 => exact (Kd.R_reads' HO276.out).2.1); (case side3 => repeat (first | exact (Kd.C_below HR0.out HB.out) | (with_reducible refine Kd.C_alloc ?_ _) | (with_reducible refine Kd.C_drewN ?_ _) | (with_reducible refine Kd.C_drew ?_))); (case side4 => exact HC0.out); rintro e w' ⟨rfl, ⟨nd, rfl⟩⟩))
                  go_meet
                  case rel => exact ⟨_, H', ⟨by have := HJ4.out; first | omega | exact Nat.le_refl _⟩, ⟨by repeat (first | (with_reducible first | exact HB.out | apply below_alloc | apply pw_below_drewN | apply below_drew1) | exact HB.out)⟩⟩
                · replace c18 := Bool.eq_false_iff.mpr c18
                  subst c18
                  have H1 : (none) = some r := by rw [if_neg (show ¬ (false = true) by decide)] at H; exact H
                  clear H
                  have H := H1
                  clear H1
                  exact absurd H (by simp)
              · rw [if_neg c16] at H
                exact absurd H (by simp)
            · rw [if_neg c15] at H
              exact absurd H (by simp)
        case rest => as_aux_lemma =>
          clear HC11
          try clear c1
          try clear p2
          try clear c5
          try clear c7
          try clear c8
          try clear c9
          try clear c11
          try clear c13
          try clear c13b0
          try clear c13b1
          try clear c14
          try clear c15
          try clear c15b0
          try clear c15b1
          try clear c16
          try clear c16b0
          try clear c16b1
          try clear c18
          try clear p2
          obtain ⟨kq, HA, HJ10, HB⟩ := hcut
          cases kq with
          | zero => exact absurd HA.out (by simp [keelsonlaw8_PinsBack.j1])
          | succ kj10 =>
            have H := HA.out
            clear HA
            simp only [keelsonlaw8_PinsBack.j1] at H
            replace H := Option.bind_eq_some_iff.mp H
            obtain ⟨⟨t278, t279, t280⟩, A210, H⟩ := H
            replace H : ((pins_Print.f kj10 t278).bind fun t283 => ((pins_Parse.f kj10 t283).bind fun bt284 => (if t280 = 0 then (if bt284.2.2 = 0 then ((keelsonlaw8_same.f kj10 t278 bt284.1).bind fun t289 => (some t289)) else (none)) else (if (t278.length : Int) = 0 then (some true) else (none))))) = some r := H
            have A21 := Aside0.mk A210
            clear A210
            replace H := Option.bind_eq_some_iff.mp H
            obtain ⟨t283, A220, H⟩ := H
            replace H : ((pins_Parse.f kj10 t283).bind fun bt284 => (if t280 = 0 then (if bt284.2.2 = 0 then ((keelsonlaw8_same.f kj10 t278 bt284.1).bind fun t289 => (some t289)) else (none)) else (if (t278.length : Int) = 0 then (some true) else (none)))) = some r := H
            have A22 := Aside0.mk A220
            clear A220
            replace H := Option.bind_eq_some_iff.mp H
            obtain ⟨⟨t284, t285, t286⟩, A230, H⟩ := H
            replace H : (if t280 = 0 then (if t286 = 0 then ((keelsonlaw8_same.f kj10 t278 t284).bind fun t289 => (some t289)) else (none)) else (if (t278.length : Int) = 0 then (some true) else (none))) = some r := H
            have A23 := Aside0.mk A230
            clear A230
            by_cases c24 : t280 = 0
            · rw [if_pos c24] at H
              have c24b0 : (t280 == 0) = true := beq_iff_eq.mpr c24
              have c24b1 : (t280 != 0) = false := bne_eq_false_iff_eq.mpr c24
              clear c24
              by_cases c25 : t286 = 0
              · rw [if_pos c25] at H
                have c25b0 : (t286 == 0) = true := beq_iff_eq.mpr c25
                have c25b1 : (t286 != 0) = false := bne_eq_false_iff_eq.mpr c25
                clear c25
                replace H := Option.bind_eq_some_iff.mp H
                obtain ⟨t289, A260, H⟩ := H
                replace H : (some t289) = some r := H
                have A26 := Aside0.mk A260
                clear A260
                obtain rfl := Option.some.inj H
                go_wp2_with (first | ((with_reducible refine gate_callee (f := 8) rfl ?_); refine goesL_ (some 56) rfl rfl Tryz.func8 (by kernel_rfl) rfl #[.string a1] rfl (by (try simp only [List.map_toArray, List.map_cons, List.map_nil]); first | done | rfl | (simp only [List.length_drop, List.length_take]; rfl)) ?_; (with_reducible refine (pins_Parse.calls kj10 a1 t278 t279 t280 _ ?side1 ?side2 ?side3 A21.out).mono ?_); (case side1 => exact HG_maxLen.out.below (by repeat (first | (with_reducible first | exact HB.out | apply below_alloc | apply pw_below_drewN | apply below_drew1) | exact HB.out))); (case side2 => exact HG_numErr.out.below (by repeat (first | (with_reducible first | exact HB.out | apply below_alloc | apply pw_below_drewN | apply below_drew1) | exact HB.out))); (case side3 => exact HG_pow10.out.below (by repeat (first | (with_reducible first | exact HB.out | apply below_alloc | apply pw_below_drewN | apply below_drew1) | exact HB.out))); rintro e w27 ⟨v281, rfl, ho0, hb⟩; refine ⟨_, rfl, ?_⟩; have n0_ := Aside0.mk (Kd.R_lower ho0 (below_size (by repeat (first | (with_reducible first | exact HB.out | apply below_alloc | apply pw_below_drewN | apply below_drew1) | exact HB.out)))); have n1_ := Aside0.mk (below_step (by repeat (first | (with_reducible first | exact HB.out | apply below_alloc | apply pw_below_drewN | apply below_drew1) | exact HB.out)) hb); clear HB; have HO282 := n0_; have HB := n1_; clear n0_ n1_; (try clear hb); (try clear hb2); (try clear hk); (try clear hi); (try clear ho0); obtain ⟨Ao28, co28, eo28⟩ := Kd.R_slice HO282.out; subst eo28) | ((with_reducible refine gate_callee (f := 14) rfl ?_); refine goesL_ (some 62) rfl rfl Tryz.func14 (by kernel_rfl) rfl #[.slice Ao28 t278.length co28] rfl (by (try simp only [List.map_toArray, List.map_cons, List.map_nil]); first | done | rfl | (simp only [List.length_drop, List.length_take]; rfl)) ?_; (with_reducible refine (pins_Print.calls kj10 _ _ t278 t283 _ ?side1 ?side2 ?side3 ?side4 A22.out).mono ?_); (case side1 => repeat (first | exact (Kd.R_reads' HO282.out).2.2 | (with_reducible refine Kd.C_alloc ?_ _) | (with_reducible refine Kd.C_drewN ?_ _) | (with_reducible refine Kd.C_drew ?_))); (case side2 => exact (Kd.R_reads' HO282.out).2.1); (case side3 => exact HG_maxLen.out.below (by repeat (first | (with_reducible first | exact HB.out | apply below_alloc | apply pw_below_drewN | apply below_drew1) | exact HB.out))); (case side4 => exact HG_pow10.out.below (by repeat (first | (with_reducible first | exact HB.out | apply below_alloc | apply pw_below_drewN | apply below_drew1) | exact HB.out))); rintro e w29 ⟨rfl, hb⟩; refine ⟨_, rfl, ?_⟩; have n0_ := Aside0.mk (Kd.R_below (by (with_reducible repeat (first | apply Kd.R_alloc | apply Kd.R_drewN | apply Kd.R_drew)); exact HO282.out) hb); have n1_ := Aside0.mk (below_step (by repeat (first | (with_reducible first | exact HB.out | apply below_alloc | apply pw_below_drewN | apply below_drew1) | exact HB.out)) hb); clear HO282; clear HB; have HO282 := n0_; have HB := n1_; clear n0_ n1_; (try clear hb); (try clear hb2); (try clear hk); (try clear hi)) | ((with_reducible refine gate_callee (f := 8) rfl ?_); refine goesL_ (some 63) rfl rfl Tryz.func8 (by kernel_rfl) rfl #[.string t283] rfl (by (try simp only [List.map_toArray, List.map_cons, List.map_nil]); first | done | rfl | (simp only [List.length_drop, List.length_take]; rfl)) ?_; (with_reducible refine (pins_Parse.calls kj10 t283 t284 t285 t286 _ ?side1 ?side2 ?side3 A23.out).mono ?_); (case side1 => exact HG_maxLen.out.below (by repeat (first | (with_reducible first | exact HB.out | apply below_alloc | apply pw_below_drewN | apply below_drew1) | exact HB.out))); (case side2 => exact HG_numErr.out.below (by repeat (first | (with_reducible first | exact HB.out | apply below_alloc | apply pw_below_drewN | apply below_drew1) | exact HB.out))); (case side3 => exact HG_pow10.out.below (by repeat (first | (with_reducible first | exact HB.out | apply below_alloc | apply pw_below_drewN | apply below_drew1) | exact HB.out))); rintro e w30 ⟨v287, rfl, ho0, hb⟩; refine ⟨_, rfl, ?_⟩; have n0_ := Aside0.mk (Kd.R_elder' (by (with_reducible repeat (first | apply Kd.R_alloc | apply Kd.R_drewN | apply Kd.R_drew)); exact HO282.out) (Kd.R_base ho0) hb); have n1_ := Aside0.mk (Kd.R_lower (Kd.R_new' ho0 (Kd.R_lt (by (with_reducible repeat (first | apply Kd.R_alloc | apply Kd.R_drewN | apply Kd.R_drew)); exact HO282.out))) (below_size (by repeat (first | (with_reducible first | exact HB.out | apply below_alloc | apply pw_below_drewN | apply below_drew1) | exact HB.out)))); have n2_ := Aside0.mk (below_step (by repeat (first | (with_reducible first | exact HB.out | apply below_alloc | apply pw_below_drewN | apply below_drew1) | exact HB.out)) hb); clear HO282; clear HB; have HO282 := n0_; have HO288 := n1_; have HB := n2_; clear n0_ n1_ n2_; (try clear hb); (try clear hb2); (try clear hk); (try clear hi); (try clear ho0); obtain ⟨Ao31, co31, eo31⟩ := Kd.R_slice HO288.out; subst eo31) | (go_at_call 10; (with_reducible refine (keelsonlaw8_same.calls kj10 _ _ t278 _ _ t284 t289 _ ?side1 ?side2 ?side3 ?side4 A26.out).mono ?_); (case side1 => repeat (first | exact (Kd.R_reads' HO282.out).2.2 | (with_reducible refine Kd.C_alloc ?_ _) | (with_reducible refine Kd.C_drewN ?_ _) | (with_reducible refine Kd.C_drew ?_))); (case side2 => exact (Kd.R_reads' HO282.out).2.1); (case side3 => repeat (first | exact (Kd.R_reads' HO288.out).2.2 | (with_reducible refine Kd.C_alloc ?_ _) | (with_reducible refine Kd.C_drewN ?_ _) | (with_reducible refine Kd.C_drew ?_))); (case side4 => exact (Kd.R_reads' HO288.out).2.1); rintro e w' ⟨rfl, ⟨nd, rfl⟩⟩))
                go_ret
                exact ⟨by first | rfl | (simp [errW_none, errW_some] <;> rfl) | (simp [*, errW_none, errW_some] <;> rfl), by repeat (first | (with_reducible first | exact HB.out | apply below_alloc | apply pw_below_drewN | apply below_drew1) | exact HB.out)⟩
              · rw [if_neg c25] at H
                exact absurd H (by simp)
            · rw [if_neg c24] at H
              have c24b0 : (t280 == 0) = false := beq_eq_false_iff_ne.mpr c24
              have c24b1 : (t280 != 0) = true := bne_iff_ne.mpr c24
              by_cases c32 : (t278.length : Int) = 0
              · rw [if_pos c32] at H
                have c32b0 : ((t278.length : Int) == 0) = true := beq_iff_eq.mpr c32
                have c32b1 : ((t278.length : Int) != 0) = false := bne_eq_false_iff_eq.mpr c32
                clear c32
                obtain rfl := Option.some.inj H
                go_wp2_with (first | ((with_reducible refine gate_callee (f := 8) rfl ?_); refine goesL_ (some 56) rfl rfl Tryz.func8 (by kernel_rfl) rfl #[.string a1] rfl (by (try simp only [List.map_toArray, List.map_cons, List.map_nil]); first | done | rfl | (simp only [List.length_drop, List.length_take]; rfl)) ?_; (with_reducible refine (pins_Parse.calls kj10 a1 t278 t279 t280 _ ?side1 ?side2 ?side3 A21.out).mono ?_); (case side1 => exact HG_maxLen.out.below (by repeat (first | (with_reducible first | exact HB.out | apply below_alloc | apply pw_below_drewN | apply below_drew1) | exact HB.out))); (case side2 => exact HG_numErr.out.below (by repeat (first | (with_reducible first | exact HB.out | apply below_alloc | apply pw_below_drewN | apply below_drew1) | exact HB.out))); (case side3 => exact HG_pow10.out.below (by repeat (first | (with_reducible first | exact HB.out | apply below_alloc | apply pw_below_drewN | apply below_drew1) | exact HB.out))); rintro e w33 ⟨v281, rfl, ho0, hb⟩; refine ⟨_, rfl, ?_⟩; have n0_ := Aside0.mk (Kd.R_lower ho0 (below_size (by repeat (first | (with_reducible first | exact HB.out | apply below_alloc | apply pw_below_drewN | apply below_drew1) | exact HB.out)))); have n1_ := Aside0.mk (below_step (by repeat (first | (with_reducible first | exact HB.out | apply below_alloc | apply pw_below_drewN | apply below_drew1) | exact HB.out)) hb); clear HB; have HO282 := n0_; have HB := n1_; clear n0_ n1_; (try clear hb); (try clear hb2); (try clear hk); (try clear hi); (try clear ho0); obtain ⟨Ao34, co34, eo34⟩ := Kd.R_slice HO282.out; subst eo34) | ((with_reducible refine gate_callee (f := 14) rfl ?_); refine goesL_ (some 62) rfl rfl Tryz.func14 (by kernel_rfl) rfl #[.slice Ao34 t278.length co34] rfl (by (try simp only [List.map_toArray, List.map_cons, List.map_nil]); first | done | rfl | (simp only [List.length_drop, List.length_take]; rfl)) ?_; (with_reducible refine (pins_Print.calls kj10 _ _ t278 t283 _ ?side1 ?side2 ?side3 ?side4 A22.out).mono ?_); (case side1 => repeat (first | exact (Kd.R_reads' HO282.out).2.2 | (with_reducible refine Kd.C_alloc ?_ _) | (with_reducible refine Kd.C_drewN ?_ _) | (with_reducible refine Kd.C_drew ?_))); (case side2 => exact (Kd.R_reads' HO282.out).2.1); (case side3 => exact HG_maxLen.out.below (by repeat (first | (with_reducible first | exact HB.out | apply below_alloc | apply pw_below_drewN | apply below_drew1) | exact HB.out))); (case side4 => exact HG_pow10.out.below (by repeat (first | (with_reducible first | exact HB.out | apply below_alloc | apply pw_below_drewN | apply below_drew1) | exact HB.out))); rintro e w35 ⟨rfl, hb⟩; refine ⟨_, rfl, ?_⟩; have n0_ := Aside0.mk (Kd.R_below (by (with_reducible repeat (first | apply Kd.R_alloc | apply Kd.R_drewN | apply Kd.R_drew)); exact HO282.out) hb); have n1_ := Aside0.mk (below_step (by repeat (first | (with_reducible first | exact HB.out | apply below_alloc | apply pw_below_drewN | apply below_drew1) | exact HB.out)) hb); clear HO282; clear HB; have HO282 := n0_; have HB := n1_; clear n0_ n1_; (try clear hb); (try clear hb2); (try clear hk); (try clear hi)) | ((with_reducible refine gate_callee (f := 8) rfl ?_); refine goesL_ (some 63) rfl rfl Tryz.func8 (by kernel_rfl) rfl #[.string t283] rfl (by (try simp only [List.map_toArray, List.map_cons, List.map_nil]); first | done | rfl | (simp only [List.length_drop, List.length_take]; rfl)) ?_; (with_reducible refine (pins_Parse.calls kj10 t283 t284 t285 t286 _ ?side1 ?side2 ?side3 A23.out).mono ?_); (case side1 => exact HG_maxLen.out.below (by repeat (first | (with_reducible first | exact HB.out | apply below_alloc | apply pw_below_drewN | apply below_drew1) | exact HB.out))); (case side2 => exact HG_numErr.out.below (by repeat (first | (with_reducible first | exact HB.out | apply below_alloc | apply pw_below_drewN | apply below_drew1) | exact HB.out))); (case side3 => exact HG_pow10.out.below (by repeat (first | (with_reducible first | exact HB.out | apply below_alloc | apply pw_below_drewN | apply below_drew1) | exact HB.out))); rintro e w36 ⟨v287, rfl, ho0, hb⟩; refine ⟨_, rfl, ?_⟩; have n0_ := Aside0.mk (Kd.R_elder' (by (with_reducible repeat (first | apply Kd.R_alloc | apply Kd.R_drewN | apply Kd.R_drew)); exact HO282.out) (Kd.R_base ho0) hb); have n1_ := Aside0.mk (Kd.R_lower (Kd.R_new' ho0 (Kd.R_lt (by (with_reducible repeat (first | apply Kd.R_alloc | apply Kd.R_drewN | apply Kd.R_drew)); exact HO282.out))) (below_size (by repeat (first | (with_reducible first | exact HB.out | apply below_alloc | apply pw_below_drewN | apply below_drew1) | exact HB.out)))); have n2_ := Aside0.mk (below_step (by repeat (first | (with_reducible first | exact HB.out | apply below_alloc | apply pw_below_drewN | apply below_drew1) | exact HB.out)) hb); clear HO282; clear HB; have HO282 := n0_; have HO288 := n1_; have HB := n2_; clear n0_ n1_ n2_; (try clear hb); (try clear hb2); (try clear hk); (try clear hi); (try clear ho0)))
                go_ret
                exact ⟨by first | rfl | (simp [errW_none, errW_some] <;> rfl) | (simp [*, errW_none, errW_some] <;> rfl), by repeat (first | (with_reducible first | exact HB.out | apply below_alloc | apply pw_below_drewN | apply below_drew1) | exact HB.out)⟩
              · rw [if_neg c32] at H
                exact absurd H (by simp)

end Go.Proofs.YtlcfpmdamehopaaGreatDoor.PA
/- PinsBack's plain law: pins that have a text are parsed of it as they were; what was parsed, printed, is parsed as the same. -/
namespace Go.Proofs.YtlcfpmdamehopaaGreatDoor.PA
open Go.RowKit Go.Proofs.YtlcfpmdamehopaaGreatDoorW.PrintWords Go.Proofs.YtlcfpmdamehopaaGreatDoorW.PrintLast Go.Proofs.YtlcfpmdamehopaaGreatDoorW.PrintMore

theorem right_f1 {p : Pn} (h : rightQ p = true) : p.f1.size ≤ 1000000 := by
  have := (right_parts h).2.2.1; omega
theorem back_j1 (s : ByteArray) : Ev (fun k => keelsonlaw8_PinsBack.j1 k s) true := by
  refine Ev.succ ?_
  simp only [keelsonlaw8_PinsBack.j1]
  have hl := parseP_len s.data.toList
  have hr := parseP_right s.data.toList
  have h0 := parseP_none s.data.toList
  refine Ev.bind (pparse_ev s) ?_
  generalize parseP s.data.toList = a at *
  have hb := print_back a.1 hl hr
  have hp := pparse_ev (printP a.1)
  rw [hb] at hp
  refine Ev.bind (print8_ev a.1 (by omega) (fun p hp => right_f1 (hr p hp))) (Ev.bind hp ?_)
  by_cases h : a.2.2 = 0
  · exact Ev.pos h (Ev.pos rfl (Ev.bind (same8_ev a.1 (by omega)) (Ev.some rfl)))
  · exact Ev.neg h (Ev.pos (by rw [h0 h]; rfl) (Ev.some rfl))
theorem PinsBack_pure {P0 : Prop} {Q : Pn → Prop} (l : List Pn) (hl : okL (Tryz.prog.bytesOf 30) Q l) (s : ByteArray) (_ : P0) : ∃ k, keelsonlaw8_PinsBack.f k l s = some true := by
  have hl := hl.1
  rw [show Tryz.prog.bytesOf 30 = 40 by kernel_rfl] at hl
  refine Ev.rounds (g := fun k => keelsonlaw8_PinsBack.f k l s) ?_
  unfold keelsonlaw8_PinsBack.f
  refine Ev.bind shown8_ev (Ev.bind (small8_ev l (by omega)) (Ev.pos rfl ?_))
  have done : Ev (fun k => keelsonlaw8_PinsBack.j0 k l s true true) true := by
    refine Ev.succ ?_
    simp only [keelsonlaw8_PinsBack.j0]
    exact Ev.pos (by trivial) (Ev.some rfl)
  cases hs : smallP l with
  | false => exact Ev.neg (by decide) done
  | true =>
    refine Ev.pos rfl ?_
    by_cases h4 : (s.size : Int) > 4000
    · rw [decide_eq_true h4]; exact done
    rw [decide_eq_false h4]
    obtain ⟨h1, h2⟩ := smallP_sizes hs
    refine Ev.succ ?_
    simp only [keelsonlaw8_PinsBack.j0]
    refine Ev.neg (by decide) (Ev.bind (print8_ev l (by omega) (fun p hp => by have := h2 p hp; omega)) ?_)
    refine Ev.ite2 (fun h => back_j1 s) (fun h => ?_)
    have hne : ¬ printP l = ⟨#[]⟩ := fun e => h (by rw [e, ByteArray.toList_eq])
    have hall : l.all rightQ = true := by
      cases e : l.all rightQ with
      | true => rfl
      | false => exact absurd (by unfold printP; rw [e]; rfl) hne
    have h64 : l.length ≤ 64 := by
      rcases Nat.lt_or_ge 64 l.length with h | h
      · exact absurd (by unfold printP; rw [if_pos hall, if_pos h]) hne
      · exact h
    have hp := pparse_ev (printP l)
    rw [print_back l h64 (List.all_eq_true.1 hall)] at hp
    exact Ev.bind hp (Ev.pos rfl (Ev.pos rfl (Ev.bind (same8_ev l (by omega)) (Ev.pos rfl (back_j1 s)))))
end Go.Proofs.YtlcfpmdamehopaaGreatDoor.PA
namespace Go.Proofs.YtlcfpmdamehopaaGreatDoor.pinsBack
open Go.ChangeShapes Go.WideShapes Go.ChangeAt Go.RowKit Go.Proofs.YtlcfpmdamehopaaGreatDoor.PA Go.Proofs.YtlcfpmdamehopaaGreatDoorW.PrintWords
open Go.ChangeMaps (open_string shut_string)
theorem own : ownKnob Tryz.prog.godebug = none := by kernel_rfl
theorem laidOut : laidOutB Tryz.prog = true := by kernel_rfl
set_option maxRecDepth 100000 in
theorem lifted (os : Os) (started : os.Started) (H : Type) (enc : TypeId × Value → H) :
    ReturnsInHanded {} Tryz.checked os 5 .any (fun w args => (Rows.pinsBackSpec.pre enc Tryz.prog Tryz.f5 [] false w args ∧ laidMet Tryz.prog Rows.pinsBackRow.laid w) ∧ sizedMet enc Tryz.prog Tryz.f5 (OpenSpec.ofChange Rows.pinsBackSpec) false w args) (Rows.pinsBackSpec.post enc Tryz.prog Tryz.f5 false true false false) := by
  refine returns_laid_shaped (C := Tryz.checked) (X := fun w _ => laidMet Tryz.prog Rows.pinsBackRow.laid w) (fun _ _ _ hh h => h.of_heap hh) own started (by kernel_rfl) Tryz.func5
    (ChangeSpec.witness_at (enc := enc) (C := Tryz.checked) (os := os) (X := fun w _ => laidMet Tryz.prog Rows.pinsBackRow.laid w) false (laidWorld os) #[.slice none 0 0, .string ByteArray.empty] 8 rfl (by kernel_rfl) (by kernel_rfl) (by kernel_rfl) (by kernel_rfl) (by kernel_rfl) (laid_met_deBruijn32tab_deBruijn64tab_uint64pow10_acceptRanges_ErrRange_ErrSyntax_first os _)) ?_
  intro W base args ds gs before hval0 hW hcnd hsz0 hL hSh _
  have hsz : (DataW.weightsEach Tryz.prog (Tryz.f5.params.toList ++ Rows.pinsBackSpec.plain.varTypes Tryz.prog) (ds ++ gs)).all (· ≤ reachBytes) = true := hsz0
  have hval : ∀ (j : Nat) t v, Tryz.f5.params[j]? = some t → args[j]? = some v → Value.okWide Tryz.prog W .any base t v := hval0
  have hW' := hW
  obtain ⟨p, q, hA0, hV, rfl, hfz, hnd⟩ := hW
  have hA : DataW.TrodAll enc Tryz.prog W 0 (fun _ => true) true Tryz.f5.params.toList args.toList ds p := hA0
  rw [Tryz.params5] at hA hval hsz
  obtain ⟨v0, vs0, d0, ds0, p0, q0, hargs, rfl, rfl, h0, r0⟩ := trodAll_cons hA
  obtain ⟨v1, vs1, d1, ds1, p1, q1, rfl, rfl, rfl, h1, r1⟩ := trodAll_cons r0
  obtain ⟨rfl, rfl, rfl⟩ := trodAll_nil r1
  obtain rfl : args = #[v0, v1] := by cases args; simp_all
  obtain ⟨rfl, rfl⟩ := trodVars_none hV
  have hwt : ∀ n ∈ DataW.weightsEach Tryz.prog (([23, 9] : List TypeId) ++ []) (([d0, d1] : List (DataW H)) ++ []), n ≤ reachBytes := fun n hn => of_decide_eq_true (List.all_eq_true.1 hsz n hn)
  obtain ⟨a0, len0, cap0, rfl⟩ := okWide_slice Tryz.underlying23 (hval 0 23 v0 rfl rfl)
  have k0 := h0
  have lt0 : ∀ x ∈ p0, x.block < W.heap.size := by obtain ⟨m, hm⟩ := k0; exact DataW.trod_lt m _ _ _ hm
  obtain ⟨l0, hK0, ok0⟩ : ∃ l, ((Kd.slice 30 k30)).K W l [.slice a0 len0 cap0] ∧ (okL (Tryz.prog.bytesOf 30) (fun x : S30 => (okP okS (okP okS (okI .i64))) (x.f0, x.f1, x.f2))) l := by
    obtain ⟨fuel, hf⟩ := h0
    exact (opens_slice (d := k30) (ok := (fun x : S30 => (okP okS (okP okS (okI .i64))) (x.f0, x.f1, x.f2))) Tryz.underlying23 (by kernel_rfl) (opens_iso (fun x : S30 => (x.f0, x.f1, x.f2)) (fun p => ⟨p.1, p.2.1, p.2.2⟩) (fun _ => rfl) (opens_struct (ts := [9, 9, 3]) Tryz.underlying30 (by kernel_rfl) (by kernel_rfl) (by kernel_rfl) (opensF_cons (opens_string Tryz.underlying9 (by kernel_rfl)) (opensF_cons (opens_string Tryz.underlying9 (by kernel_rfl)) (opensF_one (opens_int Tryz.underlying3 (by kernel_rfl)))))))).2 enc W _ _ fuel _ _ hf (fun n hn => hwt n (DataW.weights_mem_each (j := 0) rfl rfl n hn))
  obtain ⟨A0, c0, hcs0, hc0, hr0⟩ := hK0
  simp only [List.cons.injEq, Value.slice.injEq, and_true] at hcs0
  obtain ⟨rfl, rfl, rfl⟩ := hcs0
  obtain ⟨a1, rfl, rfl, rfl, y1⟩ := open_string Tryz.underlying9 (hval 1 9 v1 rfl rfl) h1
  have ok1 : okS a1 := by
    have z := sized_string hsz (j := 1) (t := 9) rfl rfl
    rw [Array.length_toList] at z
    exact z
  obtain ⟨k, hk⟩ := PinsBack_pure l0 ok0 a1 ok1
  refine (keelsonlaw8_PinsBack.calls k _ _ l0 a1 true W hr0 hc0 (maxLen_of_shape hSh) (numErr_of_laid hL) (pow10_of_laid hL) hk).mono fun e W' ⟨he, bel⟩ => ?_
  subst he
  exact ⟨_, rfl, _, _, _, [], _, [], hW', trodAll_mk1 (shut_bool Tryz.underlying4 _), (trodAll_cons_mk (Below.trod laidOut (by kernel_rfl) (of_decide_eq_true (by kernel_rfl)) k0 bel lt0) (trodAll_cons_mk (shut_string Tryz.underlying9 y1) trodAll_mk0)), rfl, bel.frame _, fun h => by cases h⟩
theorem over : Rows.pinsBackRow.holds Tryz.pinned (OpenSpec.ofChange Rows.pinsBackSpec) :=
  OpenClaim.holds_of_wide 5 Tryz.f5 rfl rfl rfl rfl rfl rfl rfl ⟨rfl, rfl, rfl, rfl, rfl⟩ rfl rfl rfl rfl rfl (by kernel_rfl) Tryz.func5 (by kernel_rfl)
    (of_decide_eq_true (by kernel_rfl)) (by unfold Func.isWrapper; first | (rw [if_pos (by decide +kernel)]; kernel_rfl) | (rw [if_neg (by decide +kernel)]; exact ⟨rfl, rfl⟩))
    (fun os started H enc _ => lifted os started H enc)
theorem said : Rows.PinsBackSaid := over
theorem proved : Rows.PinsBackCardSaid :=
  Claim7.holds_tied_plain_at .later [] [.data, .data, .data, .data, .sentinel, .sentinel, .pinned] true (true, "ae8b5f4508b27d05baee40571132509b03caa991d8903e13fecbf2c179cc327a") true
    said (fun _ h => by cases h) (by kernel_rfl) (fun _ h => by cases h) pinsBack_row_tie rfl ⟨rfl, rfl⟩ (by kernel_rfl) rfl
    (fun f fn hf hfn => by
      obtain rfl : f = 5 := Option.some.inj ((show Tryz.prog.funcNamed "keelson/keelsonlaw8.PinsBack" = some 5 by kernel_rfl).symm.trans hf) |>.symm
      obtain rfl : fn = Tryz.f5 := (Option.some.inj (Tryz.func5.symm.trans hfn)).symm
      exact ⟨by kernel_rfl, fun j t ht => by
        rw [Tryz.params5] at ht
        have hm : t ∈ ([23, 9] : List TypeId) := List.mem_of_getElem? (by simpa using ht)
        have hall : ([23, 9] : List TypeId).all (fun t => !Tryz.prog.wantsStandIn t) = true := by kernel_rfl
        have := List.all_eq_true.1 hall t hm
        exact (show Tryz.prog.wantsStandIn t = false by simpa using this)⟩)
    (by kernel_rfl)
#print axioms proved
end Go.Proofs.YtlcfpmdamehopaaGreatDoor.pinsBack
namespace Go.Proofs.YtlcfpmdamehopaaGreatDoor
/-- The statement, under a short name, for the claim. -/
theorem pinsBack_holds : Rows.PinsBackCardSaid := pinsBack.proved
end Go.Proofs.YtlcfpmdamehopaaGreatDoor
