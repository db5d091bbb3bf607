-- Printed by gprint.py (wip/ of this repo), over the kit's print.
import Derived.Test.YtekplcjgmnahmaaDoorPA0
import Derived.Test.YtekplcjgmnahmaaDoorPAkeelsonlaw50
import Derived.Test.YtekplcjgmnahmaaDoorPAkeelsonlaw52
import Derived.Test.YtekplcjgmnahmaaDoorPAkeelsonref50
import Derived.Test.YtekplcjgmnahmaaDoorPAstanza1
import Derived.Test.YtekplcjgmnahmaaDoorGPlace5
namespace Go.Proofs.YtekplcjgmnahmaaDoor.PA
open Go.RowKit Go.Proofs.YtekplcjgmnahmaaDoorW.PrintWords Go.Proofs.YtekplcjgmnahmaaDoorW.PrintLast Go.Proofs.YtekplcjgmnahmaaDoorW.PrintMore
attribute [local go_sem] max2_int min2_int max_two min_two max_three min_three max_four min_four   -- for this text's walks alone
set_option linter.unusedVariables false
set_option linter.unusedSimpArgs false

/-! ### keelsonlaw5_StanzaFields: function 6 -/
def keelsonlaw5_StanzaFields.j0 : Nat → List (S49) → ByteArray → ByteArray → List ByteArray → Bool → Bool → Option (Bool)
  | 0, _, _, _, _, _, _ => none
  | k + 1, x0, x1, x2, x3, x9, x26 => if x26 = true then (some x9) else ((stanza_Get.f x0 x1).bind fun bt244 => ((keelsonref5_Get.f k x0 x1).bind fun bt246 => (if bt244.1.toList = bt246.1.toList then (if (bt244.2 == bt246.2) = true then ((stanza_Put.f x0 x1 x2).bind fun t248 => ((keelsonref5_Put.f k x0 x1 x2).bind fun t251 => ((keelsonlaw5_sameFields.f k t248 t251).bind fun t254 => (if t254 = true then ((stanza_Only.f x0 x3).bind fun t255 => ((keelsonref5_Only.f k x0 x3).bind fun t256 => (some (t255 == t256)))) else (none))))) else (none)) else (none))))
def keelsonlaw5_StanzaFields.f (k : Nat) (l0 : List (S49)) (a1 : ByteArray) (a2 : ByteArray) (l3 : List ByteArray) : Option (Bool) := (keelsonlaw5_shown.f k).bind fun t243 => (if t243 = true then (if (l0.length : Int) > 100 then (keelsonlaw5_StanzaFields.j0 k l0 a1 a2 l3 t243 true) else (keelsonlaw5_StanzaFields.j0 k l0 a1 a2 l3 t243 (decide ((l3.length : Int) > 100)))) else (keelsonlaw5_StanzaFields.j0 k l0 a1 a2 l3 t243 true))
theorem keelsonlaw5_StanzaFields.mono_l : ∀ k, (∀ y0 y1 y2 y3 y4 y5, LeO (keelsonlaw5_StanzaFields.j0 k y0 y1 y2 y3 y4 y5) (keelsonlaw5_StanzaFields.j0 (k + 1) y0 y1 y2 y3 y4 y5))
  | 0 => fun _ _ _ _ _ _ r h => by simp [keelsonlaw5_StanzaFields.j0] at h
  | k + 1 => by
    have ih0 := keelsonlaw5_StanzaFields.mono_l k
    · intro y0 y1 y2 y3 y4 y5
      unfold keelsonlaw5_StanzaFields.j0
      repeat' first
      | (with_reducible exact ih0 _ _ _ _ _ _)
      | (with_reducible exact keelsonlaw5_sameFields.mono _ _ _)
      | (with_reducible exact keelsonlaw5_shown.mono _)
      | (with_reducible exact keelsonref5_Get.mono _ _ _)
      | (with_reducible exact keelsonref5_Only.mono _ _ _)
      | (with_reducible exact keelsonref5_Put.mono _ _ _ _)
      | (with_reducible exact LeO.refl _)
      | (with_reducible exact LeO.none _)
      | (with_reducible refine LeO.ite ?_ ?_)
      | (with_reducible refine LeO.bind ?_ (fun _ => ?_))
      | exact ih0 _ _ _ _ _ _
      | exact keelsonlaw5_sameFields.mono _ _ _
      | exact keelsonlaw5_shown.mono _
      | exact keelsonref5_Get.mono _ _ _
      | exact keelsonref5_Only.mono _ _ _
      | exact keelsonref5_Put.mono _ _ _ _
      | exact LeO.none _
      | refine LeO.ite ?_ ?_
      | refine LeO.bind ?_ (fun _ => ?_)
theorem keelsonlaw5_StanzaFields.mono : ∀ a0 a1 a2 a3 k, LeO (keelsonlaw5_StanzaFields.f k a0 a1 a2 a3) (keelsonlaw5_StanzaFields.f (k + 1) a0 a1 a2 a3) := by
  intro a0 a1 a2 a3 k
  have ih0 := keelsonlaw5_StanzaFields.mono_l k
  unfold keelsonlaw5_StanzaFields.f
  repeat' first
      | (with_reducible exact ih0 _ _ _ _ _ _)
      | (with_reducible exact keelsonlaw5_sameFields.mono _ _ _)
      | (with_reducible exact keelsonlaw5_shown.mono _)
      | (with_reducible exact keelsonref5_Get.mono _ _ _)
      | (with_reducible exact keelsonref5_Only.mono _ _ _)
      | (with_reducible exact keelsonref5_Put.mono _ _ _ _)
      | (with_reducible exact LeO.refl _)
      | (with_reducible exact LeO.none _)
      | (with_reducible refine LeO.ite ?_ ?_)
      | (with_reducible refine LeO.bind ?_ (fun _ => ?_))
      | exact ih0 _ _ _ _ _ _
      | exact keelsonlaw5_sameFields.mono _ _ _
      | exact keelsonlaw5_shown.mono _
      | exact keelsonref5_Get.mono _ _ _
      | exact keelsonref5_Only.mono _ _ _
      | exact keelsonref5_Put.mono _ _ _ _
      | exact LeO.none _
      | refine LeO.ite ?_ ?_
      | refine LeO.bind ?_ (fun _ => ?_)
set_option maxHeartbeats 8000000 in
set_option maxRecDepth 100000 in
theorem keelsonlaw5_StanzaFields.calls (k : Nat) (A0 : Option Addr) (c0 : Nat) (l0 : List (S49)) (a1 : ByteArray) (a2 : ByteArray) (A3 : Option Addr) (c3 : Nat) (l3 : List ByteArray) (r : Bool) (w : World) (hr0 : Kd.C k49 w A0 l0.length l0) (hc0 : l0.length ≤ c0) (hr3 : Kd.C Kd.string w A3 l3.length l3) (hc3 : l3.length ≤ c3) (hG_maxLen : GlobMaxLen w) (h : keelsonlaw5_StanzaFields.f k l0 a1 a2 l3 = some r) :
    Calls Tryd.prog 6 #[.slice A0 l0.length c0, .string a1, .string a2, .slice A3 l3.length c3] w fun e w' => e = .returned (.bool r) ∧ Below w.heap.size w w' := by
  have HG_maxLen := Aside0.mk hG_maxLen
  clear hG_maxLen
  have HR0 := Aside0.mk hr0
  have HC0 := Aside0.mk hc0
  clear hr0 hc0
  have HR3 := Aside0.mk hr3
  have HC3 := Aside0.mk hc3
  clear hr3 hc3
  have HB := Aside0.mk (Below.refl w.heap.size w)
  have H : ((keelsonlaw5_shown.f k).bind fun t243 => (if t243 = true then (if (l0.length : Int) > 100 then (keelsonlaw5_StanzaFields.j0 k l0 a1 a2 l3 t243 true) else (keelsonlaw5_StanzaFields.j0 k l0 a1 a2 l3 t243 (decide ((l3.length : Int) > 100)))) else (keelsonlaw5_StanzaFields.j0 k l0 a1 a2 l3 t243 true))) = some r := h
  clear h
  replace H := Option.bind_eq_some_iff.mp H
  obtain ⟨t243, A50, H⟩ := H
  replace H : (if t243 = true then (if (l0.length : Int) > 100 then (keelsonlaw5_StanzaFields.j0 k l0 a1 a2 l3 t243 true) else (keelsonlaw5_StanzaFields.j0 k l0 a1 a2 l3 t243 (decide ((l3.length : Int) > 100)))) else (keelsonlaw5_StanzaFields.j0 k l0 a1 a2 l3 t243 true)) = some r := H
  have A5 := Aside0.mk A50
  clear A50
  have HC6 := Aside0.mk H
  clear H
  go_enter Tryd.func6, Tryd.ntmps6
  go_upto_region 2 with (first | ((with_reducible refine gate_callee (f := 9) rfl ?_); refine goesL_ (some 14) rfl rfl Tryd.func9 (by kernel_rfl) rfl #[] rfl (by (try simp only [List.map_toArray, List.map_cons, List.map_nil]); first | done | rfl | (simp only [List.length_drop, List.length_take]; rfl)) ?_; (with_reducible refine (keelsonlaw5_shown.calls k  t243 _ ?side1 A5.out).mono ?_); (case side1 => exact HG_maxLen.out.below (by repeat (first | (with_reducible first | exact HB.out | apply below_alloc | apply pw_below_drewN | apply below_drew1) | exact HB.out))); rintro e w7 ⟨rfl, hb⟩; refine ⟨_, rfl, ?_⟩; have n0_ := Aside0.mk (below_step (by repeat (first | (with_reducible first | exact HB.out | apply below_alloc | apply pw_below_drewN | apply below_drew1) | exact HB.out)) hb); clear HB; have HB := n0_; clear n0_; (try clear hb); (try clear hb2); (try clear hk); (try clear hi)))
  (try simp only [Act.put, List.setIfInBounds_toArray, List.set_cons_zero, List.set_cons_succ])
  go_cut [26] (fun v26 wc => ∃ (kq : Nat) (x26_5 : Bool), v26 = .bool x26_5 ∧ Aside0 (keelsonlaw5_StanzaFields.j0 kq l0 a1 a2 l3 t243 x26_5 = some r) ∧ Aside0 (kq ≤ k) ∧ Aside0 (Below w.heap.size w wc))
  case first => as_aux_lemma =>
    have H := HC6.out
    clear HC6
    by_cases c8 : t243 = true
    · subst c8
      have H1 : (if (l0.length : Int) > 100 then (keelsonlaw5_StanzaFields.j0 k l0 a1 a2 l3 true true) else (keelsonlaw5_StanzaFields.j0 k l0 a1 a2 l3 true (decide ((l3.length : Int) > 100)))) = some r := by rw [if_pos rfl] at H; exact H
      clear H
      have H := H1
      clear H1
      by_cases c9 : (l0.length : Int) > 100
      · rw [if_pos c9] at H
        have c9b0 : decide (100 < (l0.length : Int)) = true := decide_eq_true c9
        have c9b1 : decide (100 < l0.length) = true := decide_eq_true (by omega)
        clear c9
        (first | rw [c9b0] | (simp only [i64_w, i32_w]; rw [c9b0]) | rw [c9b1] | skip)
        have H' := Aside0.mk H
        clear H
        go_wp2
        go_meet
        case rel => exact ⟨_, (true), (by first | rfl | (simp; done) | (simp [*]; done)), H', ⟨by first | omega | exact Nat.le_refl _⟩, ⟨by repeat (first | (with_reducible first | exact HB.out | apply below_alloc | apply pw_below_drewN | apply below_drew1) | exact HB.out)⟩⟩
      · rw [if_neg c9] at H
        have c9b0 : decide (100 < (l0.length : Int)) = false := decide_eq_false c9
        have c9b1 : decide (100 < l0.length) = false := decide_eq_false (by omega)
        clear c9
        (first | rw [c9b0] | (simp only [i64_w, i32_w]; rw [c9b0]) | rw [c9b1] | skip)
        have H' := Aside0.mk H
        clear H
        go_wp2
        go_meet
        case rel => exact ⟨_, (decide ((l3.length : Int) > 100)), (by first | rfl | (simp; done) | (simp [*]; done)), H', ⟨by first | omega | exact Nat.le_refl _⟩, ⟨by repeat (first | (with_reducible first | exact HB.out | apply below_alloc | apply pw_below_drewN | apply below_drew1) | exact HB.out)⟩⟩
    · replace c8 := Bool.eq_false_iff.mpr c8
      subst c8
      have H1 : (keelsonlaw5_StanzaFields.j0 k l0 a1 a2 l3 false true) = some r := by rw [if_neg (show ¬ (false = true) by decide)] at H; exact H
      clear H
      have H := H1
      clear H1
      have H' := Aside0.mk H
      clear H
      go_wp2
      go_meet
      case rel => exact ⟨_, (true), (by first | rfl | (simp; done) | (simp [*]; done)), H', ⟨by first | omega | exact Nat.le_refl _⟩, ⟨by repeat (first | (with_reducible first | exact HB.out | apply below_alloc | apply pw_below_drewN | apply below_drew1) | exact HB.out)⟩⟩
  case rest => as_aux_lemma =>
    clear HC6
    try clear p2
    try clear c3
    try clear c6
    try clear c8
    try clear c9
    try clear c9b0
    try clear c9b1
    obtain ⟨kq, x26_5, rfl, HA, HJ5, HB⟩ := hcut
    cases kq with
    | zero => exact absurd HA.out (by simp [keelsonlaw5_StanzaFields.j0])
    | succ kj5 =>
      have H := HA.out
      clear HA
      simp only [keelsonlaw5_StanzaFields.j0] at H
      by_cases c10 : x26_5 = true
      · subst c10
        have H1 : (some t243) = some r := by rw [if_pos rfl] at H; exact H
        clear H
        have H := H1
        clear H1
        obtain rfl := Option.some.inj H
        go_wp2
        go_ret
        exact ⟨by first | rfl | (simp [errW_none, errW_some] <;> rfl) | (simp [*, errW_none, errW_some] <;> rfl), by repeat (first | (with_reducible first | exact HB.out | apply below_alloc | apply pw_below_drewN | apply below_drew1) | exact HB.out)⟩
      · replace c10 := Bool.eq_false_iff.mpr c10
        subst c10
        have H1 : ((stanza_Get.f l0 a1).bind fun bt244 => ((keelsonref5_Get.f kj5 l0 a1).bind fun bt246 => (if bt244.1.toList = bt246.1.toList then (if (bt244.2 == bt246.2) = true then ((stanza_Put.f l0 a1 a2).bind fun t248 => ((keelsonref5_Put.f kj5 l0 a1 a2).bind fun t251 => ((keelsonlaw5_sameFields.f kj5 t248 t251).bind fun t254 => (if t254 = true then ((stanza_Only.f l0 l3).bind fun t255 => ((keelsonref5_Only.f kj5 l0 l3).bind fun t256 => (some (t255 == t256)))) else (none))))) else (none)) else (none)))) = some r := by rw [if_neg (show ¬ (false = true) by decide)] at H; exact H
        clear H
        have H := H1
        clear H1
        replace H := Option.bind_eq_some_iff.mp H
        obtain ⟨⟨t244, t245⟩, A110, H⟩ := H
        replace H : ((keelsonref5_Get.f kj5 l0 a1).bind fun bt246 => (if t244.toList = bt246.1.toList then (if (t245 == bt246.2) = true then ((stanza_Put.f l0 a1 a2).bind fun t248 => ((keelsonref5_Put.f kj5 l0 a1 a2).bind fun t251 => ((keelsonlaw5_sameFields.f kj5 t248 t251).bind fun t254 => (if t254 = true then ((stanza_Only.f l0 l3).bind fun t255 => ((keelsonref5_Only.f kj5 l0 l3).bind fun t256 => (some (t255 == t256)))) else (none))))) else (none)) else (none))) = some r := H
        have A11 := Aside0.mk A110
        clear A110
        replace H := Option.bind_eq_some_iff.mp H
        obtain ⟨⟨t246, t247⟩, A120, H⟩ := H
        replace H : (if t244.toList = t246.toList then (if (t245 == t247) = true then ((stanza_Put.f l0 a1 a2).bind fun t248 => ((keelsonref5_Put.f kj5 l0 a1 a2).bind fun t251 => ((keelsonlaw5_sameFields.f kj5 t248 t251).bind fun t254 => (if t254 = true then ((stanza_Only.f l0 l3).bind fun t255 => ((keelsonref5_Only.f kj5 l0 l3).bind fun t256 => (some (t255 == t256)))) else (none))))) else (none)) else (none)) = some r := H
        have A12 := Aside0.mk A120
        clear A120
        by_cases c13 : t244.toList = t246.toList
        · rw [if_pos c13] at H
          have c13b0 : (t244.toList == t246.toList) = true := beq_iff_eq.mpr c13
          have c13b1 : (t244.toList != t246.toList) = false := bne_eq_false_iff_eq.mpr c13
          clear c13
          by_cases c14 : (t245 == t247) = true
          · rw [if_pos c14] at H
            have c14b0 : (t245 == t247) = true := c14
            (try (have c14b1 : decide (t245 = t247) = true := by simpa using c14))
            (try (have c14b2 : (t245 == t247) = true := by simpa using c14))
            clear c14
            replace H := Option.bind_eq_some_iff.mp H
            obtain ⟨t248, A150, H⟩ := H
            replace H : ((keelsonref5_Put.f kj5 l0 a1 a2).bind fun t251 => ((keelsonlaw5_sameFields.f kj5 t248 t251).bind fun t254 => (if t254 = true then ((stanza_Only.f l0 l3).bind fun t255 => ((keelsonref5_Only.f kj5 l0 l3).bind fun t256 => (some (t255 == t256)))) else (none)))) = some r := H
            have A15 := Aside0.mk A150
            clear A150
            replace H := Option.bind_eq_some_iff.mp H
            obtain ⟨t251, A160, H⟩ := H
            replace H : ((keelsonlaw5_sameFields.f kj5 t248 t251).bind fun t254 => (if t254 = true then ((stanza_Only.f l0 l3).bind fun t255 => ((keelsonref5_Only.f kj5 l0 l3).bind fun t256 => (some (t255 == t256)))) else (none))) = some r := H
            have A16 := Aside0.mk A160
            clear A160
            replace H := Option.bind_eq_some_iff.mp H
            obtain ⟨t254, A170, H⟩ := H
            replace H : (if t254 = true then ((stanza_Only.f l0 l3).bind fun t255 => ((keelsonref5_Only.f kj5 l0 l3).bind fun t256 => (some (t255 == t256)))) else (none)) = some r := H
            have A17 := Aside0.mk A170
            clear A170
            by_cases c18 : t254 = true
            · subst c18
              have H1 : ((stanza_Only.f l0 l3).bind fun t255 => ((keelsonref5_Only.f kj5 l0 l3).bind fun t256 => (some (t255 == t256)))) = some r := by rw [if_pos rfl] at H; exact H
              clear H
              have H := H1
              clear H1
              replace H := Option.bind_eq_some_iff.mp H
              obtain ⟨t255, A190, H⟩ := H
              replace H : ((keelsonref5_Only.f kj5 l0 l3).bind fun t256 => (some (t255 == t256))) = some r := H
              have A19 := Aside0.mk A190
              clear A190
              replace H := Option.bind_eq_some_iff.mp H
              obtain ⟨t256, A200, H⟩ := H
              replace H : (some (t255 == t256)) = some r := H
              have A20 := Aside0.mk A200
              clear A200
              obtain rfl := Option.some.inj H
              go_wp2_with (first | ((with_reducible refine gate_callee (f := 16) rfl ?_); refine goesL_ (some 31) rfl rfl Tryd.func16 (by kernel_rfl) rfl #[.slice A0 l0.length c0, .string a1] rfl (by (try simp only [List.map_toArray, List.map_cons, List.map_nil]); first | done | rfl | (simp only [List.length_drop, List.length_take]; rfl)) ?_; (with_reducible refine (stanza_Get.calls _ _ l0 a1 t244 t245 _ ?side1 ?side2 A11.out).mono ?_); (case side1 => repeat (first | exact (Kd.C_below HR0.out HB.out) | (with_reducible refine Kd.C_alloc ?_ _) | (with_reducible refine Kd.C_drewN ?_ _) | (with_reducible refine Kd.C_drew ?_))); (case side2 => exact HC0.out); rintro e w21 ⟨rfl, hb⟩; refine ⟨_, rfl, ?_⟩; have n0_ := Aside0.mk (below_step (by repeat (first | (with_reducible first | exact HB.out | apply below_alloc | apply pw_below_drewN | apply below_drew1) | exact HB.out)) hb); clear HB; have HB := n0_; clear n0_; (try clear hb); (try clear hb2); (try clear hk); (try clear hi)) | ((with_reducible refine gate_callee (f := 18) rfl ?_); refine goesL_ (some 37) rfl rfl Tryd.func18 (by kernel_rfl) rfl #[.slice A0 l0.length c0, .string a1] rfl (by (try simp only [List.map_toArray, List.map_cons, List.map_nil]); first | done | rfl | (simp only [List.length_drop, List.length_take]; rfl)) ?_; (with_reducible refine (keelsonref5_Get.calls kj5 _ _ l0 a1 t246 t247 _ ?side1 ?side2 A12.out).mono ?_); (case side1 => repeat (first | exact (Kd.C_below HR0.out HB.out) | (with_reducible refine Kd.C_alloc ?_ _) | (with_reducible refine Kd.C_drewN ?_ _) | (with_reducible refine Kd.C_drew ?_))); (case side2 => exact HC0.out); rintro e w' ⟨rfl, ⟨nd, rfl⟩⟩; refine ⟨_, rfl, ?_⟩) | (go_at_call 15; (with_reducible refine (stanza_Put.calls _ _ l0 a1 a2 t248 _ ?side1 ?side2 A15.out).mono ?_); (case side1 => repeat (first | exact (Kd.C_below HR0.out (by repeat (first | (with_reducible first | exact HB.out | apply below_alloc | apply pw_below_drewN | apply below_drew1) | exact HB.out))) | (with_reducible refine Kd.C_alloc ?_ _) | (with_reducible refine Kd.C_drewN ?_ _) | (with_reducible refine Kd.C_drew ?_))); (case side2 => exact HC0.out); rintro e w22 ⟨v249, rfl, ho0, hb⟩; have n0_ := Aside0.mk (Kd.R_lower ho0 (below_size (by repeat (first | (with_reducible first | exact HB.out | apply below_alloc | apply pw_below_drewN | apply below_drew1) | exact HB.out)))); have n1_ := Aside0.mk (below_step (by repeat (first | (with_reducible first | exact HB.out | apply below_alloc | apply pw_below_drewN | apply below_drew1) | exact HB.out)) hb); clear HB; have HO250 := n0_; have HB := n1_; clear n0_ n1_; (try clear hb); (try clear hb2); (try clear hk); (try clear hi); (try clear ho0)) | (go_at_call 19; (with_reducible refine (keelsonref5_Put.calls kj5 _ _ l0 a1 a2 t251 _ ?side1 ?side2 A16.out).mono ?_); (case side1 => repeat (first | exact (Kd.C_below HR0.out HB.out) | (with_reducible refine Kd.C_alloc ?_ _) | (with_reducible refine Kd.C_drewN ?_ _) | (with_reducible refine Kd.C_drew ?_))); (case side2 => exact HC0.out); rintro e w23 ⟨v252, rfl, ho0, hb⟩; have n0_ := Aside0.mk (Kd.R_elder' (by (with_reducible repeat (first | apply Kd.R_alloc | apply Kd.R_drewN | apply Kd.R_drew)); exact HO250.out) (Kd.R_base ho0) hb); have n1_ := Aside0.mk (Kd.R_lower (Kd.R_new' ho0 (Kd.R_lt (by (with_reducible repeat (first | apply Kd.R_alloc | apply Kd.R_drewN | apply Kd.R_drew)); exact HO250.out))) (below_size (by repeat (first | (with_reducible first | exact HB.out | apply below_alloc | apply pw_below_drewN | apply below_drew1) | exact HB.out)))); have n2_ := Aside0.mk (below_step (by repeat (first | (with_reducible first | exact HB.out | apply below_alloc | apply pw_below_drewN | apply below_drew1) | exact HB.out)) hb); clear HO250; clear HB; have HO250 := n0_; have HO253 := n1_; have HB := n2_; clear n0_ n1_ n2_; (try clear hb); (try clear hb2); (try clear hk); (try clear hi); (try clear ho0); obtain ⟨Ao24, co24, eo24⟩ := Kd.R_slice HO250.out; subst eo24; obtain ⟨Ao25, co25, eo25⟩ := Kd.R_slice HO253.out; subst eo25) | (go_at_call 17; (with_reducible refine (keelsonlaw5_sameFields.calls kj5 _ _ t248 _ _ t251 true _ ?side1 ?side2 ?side3 ?side4 A17.out).mono ?_); (case side1 => repeat (first | exact (Kd.R_reads' HO250.out).2.2 | (with_reducible refine Kd.C_alloc ?_ _) | (with_reducible refine Kd.C_drewN ?_ _) | (with_reducible refine Kd.C_drew ?_))); (case side2 => exact (Kd.R_reads' HO250.out).2.1); (case side3 => repeat (first | exact (Kd.R_reads' HO253.out).2.2 | (with_reducible refine Kd.C_alloc ?_ _) | (with_reducible refine Kd.C_drewN ?_ _) | (with_reducible refine Kd.C_drew ?_))); (case side4 => exact (Kd.R_reads' HO253.out).2.1); rintro e w' ⟨rfl, ⟨nd, rfl⟩⟩) | (go_at_call 20; (with_reducible refine (stanza_Only.calls _ _ l0 _ _ l3 t255 _ ?side1 ?side2 ?side3 ?side4 A19.out).mono ?_); (case side1 => repeat (first | exact (Kd.C_below HR0.out (by repeat (first | (with_reducible first | exact HB.out | apply below_alloc | apply pw_below_drewN | apply below_drew1) | exact HB.out))) | (with_reducible refine Kd.C_alloc ?_ _) | (with_reducible refine Kd.C_drewN ?_ _) | (with_reducible refine Kd.C_drew ?_))); (case side2 => exact HC0.out); (case side3 => repeat (first | exact (Kd.C_below HR3.out (by repeat (first | (with_reducible first | exact HB.out | apply below_alloc | apply pw_below_drewN | apply below_drew1) | exact HB.out))) | (with_reducible refine Kd.C_alloc ?_ _) | (with_reducible refine Kd.C_drewN ?_ _) | (with_reducible refine Kd.C_drew ?_))); (case side4 => exact HC3.out); rintro e w26 ⟨rfl, hb⟩; have n0_ := Aside0.mk (Kd.R_below (by (with_reducible repeat (first | apply Kd.R_alloc | apply Kd.R_drewN | apply Kd.R_drew)); exact HO250.out) hb); have n1_ := Aside0.mk (Kd.R_below (by (with_reducible repeat (first | apply Kd.R_alloc | apply Kd.R_drewN | apply Kd.R_drew)); exact HO253.out) hb); have n2_ := Aside0.mk (below_step (by repeat (first | (with_reducible first | exact HB.out | apply below_alloc | apply pw_below_drewN | apply below_drew1) | exact HB.out)) hb); clear HO250; clear HO253; clear HB; have HO250 := n0_; have HO253 := n1_; have HB := n2_; clear n0_ n1_ n2_; (try clear hb); (try clear hb2); (try clear hk); (try clear hi)) | (go_at_call 21; (with_reducible refine (keelsonref5_Only.calls kj5 _ _ l0 _ _ l3 t256 _ ?side1 ?side2 ?side3 ?side4 A20.out).mono ?_); (case side1 => repeat (first | exact (Kd.C_below HR0.out HB.out) | (with_reducible refine Kd.C_alloc ?_ _) | (with_reducible refine Kd.C_drewN ?_ _) | (with_reducible refine Kd.C_drew ?_))); (case side2 => exact HC0.out); (case side3 => repeat (first | exact (Kd.C_below HR3.out HB.out) | (with_reducible refine Kd.C_alloc ?_ _) | (with_reducible refine Kd.C_drewN ?_ _) | (with_reducible refine Kd.C_drew ?_))); (case side4 => exact HC3.out); rintro e w' ⟨rfl, ⟨nd, rfl⟩⟩))
              go_ret
              exact ⟨by first | rfl | (simp [errW_none, errW_some] <;> rfl) | (simp [*, errW_none, errW_some] <;> rfl), by repeat (first | (with_reducible first | exact HB.out | apply below_alloc | apply pw_below_drewN | apply below_drew1) | exact HB.out)⟩
            · replace c18 := Bool.eq_false_iff.mpr c18
              subst c18
              have H1 : (none) = some r := by rw [if_neg (show ¬ (false = true) by decide)] at H; exact H
              clear H
              have H := H1
              clear H1
              exact absurd H (by simp)
          · rw [if_neg c14] at H
            exact absurd H (by simp)
        · rw [if_neg c13] at H
          exact absurd H (by simp)

end Go.Proofs.YtekplcjgmnahmaaDoor.PA
