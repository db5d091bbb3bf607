-- Printed by gprint.py (wip/ of this repo), over the kit's print.
import Derived.Test.YtekplcjgmnahmaaDoorPA0
import Derived.Test.YtekplcjgmnahmaaDoorPAkeelsonlaw50
import Derived.Test.YtekplcjgmnahmaaDoorPAkeelsonlaw52
import Derived.Test.YtekplcjgmnahmaaDoorPAkeelsonref50
import Derived.Test.YtekplcjgmnahmaaDoorPAkeelsonref51
import Derived.Test.YtekplcjgmnahmaaDoorGName5
import Derived.Test.YtekplcjgmnahmaaDoorGRight5
namespace Go.Proofs.YtekplcjgmnahmaaDoor.PA
open Go.RowKit Go.Proofs.YtekplcjgmnahmaaDoorW.PrintWords Go.Proofs.YtekplcjgmnahmaaDoorW.PrintLast Go.Proofs.YtekplcjgmnahmaaDoorW.PrintMore
attribute [local go_sem] max2_int min2_int max_two min_two max_three min_three max_four min_four   -- for this text's walks alone
set_option linter.unusedVariables false
set_option linter.unusedSimpArgs false

/-! ### keelsonlaw5_StanzaPrints: function 8 -/
def keelsonlaw5_StanzaPrints.j0 : Nat → List (List (S49)) → ByteArray → Bool → Bool → Option (Bool)
  | 0, _, _, _, _ => none
  | k + 1, x0, x1, x5, x20 => if x20 = true then (some x5) else ((stanza_Name.f x1).bind fun t338 => ((keelsonref5_Name.f k x1).bind fun t339 => (if (t338 == t339) = true then ((stanza_Right.f x0).bind fun t340 => ((keelsonlaw5_as.f k x0).bind fun t341 => ((keelsonref5_Right.f k t341).bind fun t344 => (if (t340 == t344) = true then ((stanza_Print.f x0).bind fun t345 => ((keelsonlaw5_as.f k x0).bind fun t346 => ((keelsonref5_Print.f k t346).bind fun t349 => (some (t345.toList == t349.toList))))) else (none))))) else (none))))
def keelsonlaw5_StanzaPrints.f (k : Nat) (l0 : List (List (S49))) (a1 : ByteArray) : Option (Bool) := (keelsonlaw5_shown.f k).bind fun t336 => ((keelsonlaw5_small.f k l0).bind fun t337 => (if t336 = true then (if t337 = true then (keelsonlaw5_StanzaPrints.j0 k l0 a1 t336 (decide ((a1.size : Int) > 300))) else (keelsonlaw5_StanzaPrints.j0 k l0 a1 t336 true)) else (keelsonlaw5_StanzaPrints.j0 k l0 a1 t336 true)))
theorem keelsonlaw5_StanzaPrints.mono_l : ∀ k, (∀ y0 y1 y2 y3, LeO (keelsonlaw5_StanzaPrints.j0 k y0 y1 y2 y3) (keelsonlaw5_StanzaPrints.j0 (k + 1) y0 y1 y2 y3))
  | 0 => fun _ _ _ _ r h => by simp [keelsonlaw5_StanzaPrints.j0] at h
  | k + 1 => by
    have ih0 := keelsonlaw5_StanzaPrints.mono_l k
    · intro y0 y1 y2 y3
      unfold keelsonlaw5_StanzaPrints.j0
      repeat' first
      | (with_reducible exact ih0 _ _ _ _)
      | (with_reducible exact keelsonlaw5_as.mono _ _)
      | (with_reducible exact keelsonlaw5_shown.mono _)
      | (with_reducible exact keelsonlaw5_small.mono _ _)
      | (with_reducible exact keelsonref5_Name.mono _ _)
      | (with_reducible exact keelsonref5_Print.mono _ _)
      | (with_reducible exact keelsonref5_Right.mono _ _)
      | (with_reducible exact LeO.refl _)
      | (with_reducible exact LeO.none _)
      | (with_reducible refine LeO.ite ?_ ?_)
      | (with_reducible refine LeO.bind ?_ (fun _ => ?_))
      | exact ih0 _ _ _ _
      | exact keelsonlaw5_as.mono _ _
      | exact keelsonlaw5_shown.mono _
      | exact keelsonlaw5_small.mono _ _
      | exact keelsonref5_Name.mono _ _
      | exact keelsonref5_Print.mono _ _
      | exact keelsonref5_Right.mono _ _
      | exact LeO.none _
      | refine LeO.ite ?_ ?_
      | refine LeO.bind ?_ (fun _ => ?_)
theorem keelsonlaw5_StanzaPrints.mono : ∀ a0 a1 k, LeO (keelsonlaw5_StanzaPrints.f k a0 a1) (keelsonlaw5_StanzaPrints.f (k + 1) a0 a1) := by
  intro a0 a1 k
  have ih0 := keelsonlaw5_StanzaPrints.mono_l k
  unfold keelsonlaw5_StanzaPrints.f
  repeat' first
      | (with_reducible exact ih0 _ _ _ _)
      | (with_reducible exact keelsonlaw5_as.mono _ _)
      | (with_reducible exact keelsonlaw5_shown.mono _)
      | (with_reducible exact keelsonlaw5_small.mono _ _)
      | (with_reducible exact keelsonref5_Name.mono _ _)
      | (with_reducible exact keelsonref5_Print.mono _ _)
      | (with_reducible exact keelsonref5_Right.mono _ _)
      | (with_reducible exact LeO.refl _)
      | (with_reducible exact LeO.none _)
      | (with_reducible refine LeO.ite ?_ ?_)
      | (with_reducible refine LeO.bind ?_ (fun _ => ?_))
      | exact ih0 _ _ _ _
      | exact keelsonlaw5_as.mono _ _
      | exact keelsonlaw5_shown.mono _
      | exact keelsonlaw5_small.mono _ _
      | exact keelsonref5_Name.mono _ _
      | exact keelsonref5_Print.mono _ _
      | exact keelsonref5_Right.mono _ _
      | exact LeO.none _
      | refine LeO.ite ?_ ?_
      | refine LeO.bind ?_ (fun _ => ?_)
set_option maxHeartbeats 8000000 in
set_option maxRecDepth 100000 in
theorem keelsonlaw5_StanzaPrints.calls (k : Nat) (A0 : Option Addr) (c0 : Nat) (l0 : List (List (S49))) (a1 : ByteArray) (r : Bool) (w : World) (hr0 : Kd.C (Kd.slice 49 k49) w A0 l0.length l0) (hc0 : l0.length ≤ c0) (hG_maxLen : GlobMaxLen w) (h : keelsonlaw5_StanzaPrints.f k l0 a1 = some r) :
    Calls Tryd.prog 8 #[.slice A0 l0.length c0, .string a1] w fun e w' => e = .returned (.bool r) ∧ Below w.heap.size w w' := by
  have HG_maxLen := Aside0.mk hG_maxLen
  clear hG_maxLen
  have HR0 := Aside0.mk hr0
  have HC0 := Aside0.mk hc0
  clear hr0 hc0
  have HB := Aside0.mk (Below.refl w.heap.size w)
  have H : ((keelsonlaw5_shown.f k).bind fun t336 => ((keelsonlaw5_small.f k l0).bind fun t337 => (if t336 = true then (if t337 = true then (keelsonlaw5_StanzaPrints.j0 k l0 a1 t336 (decide ((a1.size : Int) > 300))) else (keelsonlaw5_StanzaPrints.j0 k l0 a1 t336 true)) else (keelsonlaw5_StanzaPrints.j0 k l0 a1 t336 true)))) = some r := h
  clear h
  replace H := Option.bind_eq_some_iff.mp H
  obtain ⟨t336, A30, H⟩ := H
  replace H : ((keelsonlaw5_small.f k l0).bind fun t337 => (if t336 = true then (if t337 = true then (keelsonlaw5_StanzaPrints.j0 k l0 a1 t336 (decide ((a1.size : Int) > 300))) else (keelsonlaw5_StanzaPrints.j0 k l0 a1 t336 true)) else (keelsonlaw5_StanzaPrints.j0 k l0 a1 t336 true))) = some r := H
  have A3 := Aside0.mk A30
  clear A30
  replace H := Option.bind_eq_some_iff.mp H
  obtain ⟨t337, A40, H⟩ := H
  replace H : (if t336 = true then (if t337 = true then (keelsonlaw5_StanzaPrints.j0 k l0 a1 t336 (decide ((a1.size : Int) > 300))) else (keelsonlaw5_StanzaPrints.j0 k l0 a1 t336 true)) else (keelsonlaw5_StanzaPrints.j0 k l0 a1 t336 true)) = some r := H
  have A4 := Aside0.mk A40
  clear A40
  have HC5 := Aside0.mk H
  clear H
  go_enter Tryd.func8, Tryd.ntmps8
  go_upto_region 3 with (first | ((with_reducible refine gate_callee (f := 9) rfl ?_); refine goesL_ (some 7) rfl rfl Tryd.func9 (by kernel_rfl) rfl #[] rfl (by (try simp only [List.map_toArray, List.map_cons, List.map_nil]); first | done | rfl | (simp only [List.length_drop, List.length_take]; rfl)) ?_; (with_reducible refine (keelsonlaw5_shown.calls k  t336 _ ?side1 A3.out).mono ?_); (case side1 => exact HG_maxLen.out.below (by repeat (first | (with_reducible first | exact HB.out | apply below_alloc | apply pw_below_drewN | apply below_drew1) | exact HB.out))); rintro e w6 ⟨rfl, hb⟩; refine ⟨_, rfl, ?_⟩; have n0_ := Aside0.mk (below_step (by repeat (first | (with_reducible first | exact HB.out | apply below_alloc | apply pw_below_drewN | apply below_drew1) | exact HB.out)) hb); clear HB; have HB := n0_; clear n0_; (try clear hb); (try clear hb2); (try clear hk); (try clear hi)) | ((with_reducible refine gate_callee (f := 22) rfl ?_); refine goesL_ (some 9) rfl rfl Tryd.func22 (by kernel_rfl) rfl #[.slice A0 l0.length c0] rfl (by (try simp only [List.map_toArray, List.map_cons, List.map_nil]); first | done | rfl | (simp only [List.length_drop, List.length_take]; rfl)) ?_; (with_reducible refine (keelsonlaw5_small.calls k _ _ l0 t337 _ ?side1 ?side2 A4.out).mono ?_); (case side1 => repeat (first | exact (Kd.C_below HR0.out HB.out) | (with_reducible refine Kd.C_alloc ?_ _) | (with_reducible refine Kd.C_drewN ?_ _) | (with_reducible refine Kd.C_drew ?_))); (case side2 => exact HC0.out); rintro e w' ⟨rfl, ⟨nd, rfl⟩⟩; refine ⟨_, rfl, ?_⟩))
  (try simp only [Act.put, List.setIfInBounds_toArray, List.set_cons_zero, List.set_cons_succ])
  go_cut [20] (fun v20 wc => ∃ (kq : Nat) (x20_4 : Bool), v20 = .bool x20_4 ∧ Aside0 (keelsonlaw5_StanzaPrints.j0 kq l0 a1 t336 x20_4 = some r) ∧ Aside0 (kq ≤ k) ∧ Aside0 (Below w.heap.size w wc))
  case first => as_aux_lemma =>
    have H := HC5.out
    clear HC5
    by_cases c7 : t336 = true
    · subst c7
      have H1 : (if t337 = true then (keelsonlaw5_StanzaPrints.j0 k l0 a1 true (decide ((a1.size : Int) > 300))) else (keelsonlaw5_StanzaPrints.j0 k l0 a1 true true)) = some r := by rw [if_pos rfl] at H; exact H
      clear H
      have H := H1
      clear H1
      by_cases c8 : t337 = true
      · subst c8
        have H1 : (keelsonlaw5_StanzaPrints.j0 k l0 a1 true (decide ((a1.size : Int) > 300))) = some r := by rw [if_pos rfl] at H; exact H
        clear H
        have H := H1
        clear H1
        have H' := Aside0.mk H
        clear H
        go_wp2
        go_meet
        case rel => exact ⟨_, (decide ((a1.size : Int) > 300)), (by first | rfl | (simp; done) | (simp [*]; done)), H', ⟨by first | omega | exact Nat.le_refl _⟩, ⟨by repeat (first | (with_reducible first | exact HB.out | apply below_alloc | apply pw_below_drewN | apply below_drew1) | exact HB.out)⟩⟩
      · replace c8 := Bool.eq_false_iff.mpr c8
        subst c8
        have H1 : (keelsonlaw5_StanzaPrints.j0 k l0 a1 true true) = some r := by rw [if_neg (show ¬ (false = true) by decide)] at H; exact H
        clear H
        have H := H1
        clear H1
        have H' := Aside0.mk H
        clear H
        go_wp2
        go_meet
        case rel => exact ⟨_, (true), (by first | rfl | (simp; done) | (simp [*]; done)), H', ⟨by first | omega | exact Nat.le_refl _⟩, ⟨by repeat (first | (with_reducible first | exact HB.out | apply below_alloc | apply pw_below_drewN | apply below_drew1) | exact HB.out)⟩⟩
    · replace c7 := Bool.eq_false_iff.mpr c7
      subst c7
      have H1 : (keelsonlaw5_StanzaPrints.j0 k l0 a1 false true) = some r := by rw [if_neg (show ¬ (false = true) by decide)] at H; exact H
      clear H
      have H := H1
      clear H1
      have H' := Aside0.mk H
      clear H
      go_wp2
      go_meet
      case rel => exact ⟨_, (true), (by first | rfl | (simp; done) | (simp [*]; done)), H', ⟨by first | omega | exact Nat.le_refl _⟩, ⟨by repeat (first | (with_reducible first | exact HB.out | apply below_alloc | apply pw_below_drewN | apply below_drew1) | exact HB.out)⟩⟩
  case rest => as_aux_lemma =>
    clear HC5
    try clear c2
    try clear p2
    try clear c7
    try clear c8
    obtain ⟨kq, x20_4, rfl, HA, HJ4, HB⟩ := hcut
    cases kq with
    | zero => exact absurd HA.out (by simp [keelsonlaw5_StanzaPrints.j0])
    | succ kj4 =>
      have H := HA.out
      clear HA
      simp only [keelsonlaw5_StanzaPrints.j0] at H
      by_cases c9 : x20_4 = true
      · subst c9
        have H1 : (some t336) = some r := by rw [if_pos rfl] at H; exact H
        clear H
        have H := H1
        clear H1
        obtain rfl := Option.some.inj H
        go_wp2
        go_ret
        exact ⟨by first | rfl | (simp [errW_none, errW_some] <;> rfl) | (simp [*, errW_none, errW_some] <;> rfl), by repeat (first | (with_reducible first | exact HB.out | apply below_alloc | apply pw_below_drewN | apply below_drew1) | exact HB.out)⟩
      · replace c9 := Bool.eq_false_iff.mpr c9
        subst c9
        have H1 : ((stanza_Name.f a1).bind fun t338 => ((keelsonref5_Name.f kj4 a1).bind fun t339 => (if (t338 == t339) = true then ((stanza_Right.f l0).bind fun t340 => ((keelsonlaw5_as.f kj4 l0).bind fun t341 => ((keelsonref5_Right.f kj4 t341).bind fun t344 => (if (t340 == t344) = true then ((stanza_Print.f l0).bind fun t345 => ((keelsonlaw5_as.f kj4 l0).bind fun t346 => ((keelsonref5_Print.f kj4 t346).bind fun t349 => (some (t345.toList == t349.toList))))) else (none))))) else (none)))) = some r := by rw [if_neg (show ¬ (false = true) by decide)] at H; exact H
        clear H
        have H := H1
        clear H1
        replace H := Option.bind_eq_some_iff.mp H
        obtain ⟨t338, A100, H⟩ := H
        replace H : ((keelsonref5_Name.f kj4 a1).bind fun t339 => (if (t338 == t339) = true then ((stanza_Right.f l0).bind fun t340 => ((keelsonlaw5_as.f kj4 l0).bind fun t341 => ((keelsonref5_Right.f kj4 t341).bind fun t344 => (if (t340 == t344) = true then ((stanza_Print.f l0).bind fun t345 => ((keelsonlaw5_as.f kj4 l0).bind fun t346 => ((keelsonref5_Print.f kj4 t346).bind fun t349 => (some (t345.toList == t349.toList))))) else (none))))) else (none))) = some r := H
        have A10 := Aside0.mk A100
        clear A100
        replace H := Option.bind_eq_some_iff.mp H
        obtain ⟨t339, A110, H⟩ := H
        replace H : (if (t338 == t339) = true then ((stanza_Right.f l0).bind fun t340 => ((keelsonlaw5_as.f kj4 l0).bind fun t341 => ((keelsonref5_Right.f kj4 t341).bind fun t344 => (if (t340 == t344) = true then ((stanza_Print.f l0).bind fun t345 => ((keelsonlaw5_as.f kj4 l0).bind fun t346 => ((keelsonref5_Print.f kj4 t346).bind fun t349 => (some (t345.toList == t349.toList))))) else (none))))) else (none)) = some r := H
        have A11 := Aside0.mk A110
        clear A110
        by_cases c12 : (t338 == t339) = true
        · rw [if_pos c12] at H
          have c12b0 : (t338 == t339) = true := c12
          (try (have c12b1 : decide (t338 = t339) = true := by simpa using c12))
          (try (have c12b2 : (t338 == t339) = true := by simpa using c12))
          clear c12
          replace H := Option.bind_eq_some_iff.mp H
          obtain ⟨t340, A130, H⟩ := H
          replace H : ((keelsonlaw5_as.f kj4 l0).bind fun t341 => ((keelsonref5_Right.f kj4 t341).bind fun t344 => (if (t340 == t344) = true then ((stanza_Print.f l0).bind fun t345 => ((keelsonlaw5_as.f kj4 l0).bind fun t346 => ((keelsonref5_Print.f kj4 t346).bind fun t349 => (some (t345.toList == t349.toList))))) else (none)))) = some r := H
          have A13 := Aside0.mk A130
          clear A130
          replace H := Option.bind_eq_some_iff.mp H
          obtain ⟨t341, A140, H⟩ := H
          replace H : ((keelsonref5_Right.f kj4 t341).bind fun t344 => (if (t340 == t344) = true then ((stanza_Print.f l0).bind fun t345 => ((keelsonlaw5_as.f kj4 l0).bind fun t346 => ((keelsonref5_Print.f kj4 t346).bind fun t349 => (some (t345.toList == t349.toList))))) else (none))) = some r := H
          have A14 := Aside0.mk A140
          clear A140
          replace H := Option.bind_eq_some_iff.mp H
          obtain ⟨t344, A150, H⟩ := H
          replace H : (if (t340 == t344) = true then ((stanza_Print.f l0).bind fun t345 => ((keelsonlaw5_as.f kj4 l0).bind fun t346 => ((keelsonref5_Print.f kj4 t346).bind fun t349 => (some (t345.toList == t349.toList))))) else (none)) = some r := H
          have A15 := Aside0.mk A150
          clear A150
          by_cases c16 : (t340 == t344) = true
          · rw [if_pos c16] at H
            have c16b0 : (t340 == t344) = true := c16
            (try (have c16b1 : decide (t340 = t344) = true := by simpa using c16))
            (try (have c16b2 : (t340 == t344) = true := by simpa using c16))
            clear c16
            replace H := Option.bind_eq_some_iff.mp H
            obtain ⟨t345, A170, H⟩ := H
            replace H : ((keelsonlaw5_as.f kj4 l0).bind fun t346 => ((keelsonref5_Print.f kj4 t346).bind fun t349 => (some (t345.toList == t349.toList)))) = some r := H
            have A17 := Aside0.mk A170
            clear A170
            replace H := Option.bind_eq_some_iff.mp H
            obtain ⟨t346, A180, H⟩ := H
            replace H : ((keelsonref5_Print.f kj4 t346).bind fun t349 => (some (t345.toList == t349.toList))) = some r := H
            have A18 := Aside0.mk A180
            clear A180
            replace H := Option.bind_eq_some_iff.mp H
            obtain ⟨t349, A190, H⟩ := H
            replace H : (some (t345.toList == t349.toList)) = some r := H
            have A19 := Aside0.mk A190
            clear A190
            obtain rfl := Option.some.inj H
            go_wp2_with (first | ((with_reducible refine gate_callee (f := 23) rfl ?_); refine goesL_ (some 23) rfl rfl Tryd.func23 (by kernel_rfl) rfl #[.string a1] rfl (by (try simp only [List.map_toArray, List.map_cons, List.map_nil]); first | done | rfl | (simp only [List.length_drop, List.length_take]; rfl)) ?_; (with_reducible refine (stanza_Name.calls a1 t338 _ A10.out).mono ?_); rintro e w20 ⟨rfl, hb⟩; refine ⟨_, rfl, ?_⟩; have n0_ := Aside0.mk (below_step (by repeat (first | (with_reducible first | exact HB.out | apply below_alloc | apply pw_below_drewN | apply below_drew1) | exact HB.out)) hb); clear HB; have HB := n0_; clear n0_; (try clear hb); (try clear hb2); (try clear hk); (try clear hi)) | ((with_reducible refine gate_callee (f := 24) rfl ?_); refine goesL_ (some 25) rfl rfl Tryd.func24 (by kernel_rfl) rfl #[.string a1] rfl (by (try simp only [List.map_toArray, List.map_cons, List.map_nil]); first | done | rfl | (simp only [List.length_drop, List.length_take]; rfl)) ?_; (with_reducible refine (keelsonref5_Name.calls kj4 a1 t339 _ A11.out).mono ?_); rintro e w' ⟨rfl, ⟨nd, rfl⟩⟩; refine ⟨_, rfl, ?_⟩) | (go_at_call 25; (with_reducible refine (stanza_Right.calls _ _ l0 t340 _ ?side1 ?side2 ?side3 A13.out).mono ?_); (case side1 => repeat (first | exact (Kd.C_below HR0.out (by repeat (first | (with_reducible first | exact HB.out | apply below_alloc | apply pw_below_drewN | apply below_drew1) | exact HB.out))) | (with_reducible refine Kd.C_alloc ?_ _) | (with_reducible refine Kd.C_drewN ?_ _) | (with_reducible refine Kd.C_drew ?_))); (case side2 => exact HC0.out); (case side3 => exact HG_maxLen.out.below (by repeat (first | (with_reducible first | exact HB.out | apply below_alloc | apply pw_below_drewN | apply below_drew1) | exact HB.out))); rintro e w21 ⟨rfl, hb⟩; have n0_ := Aside0.mk (below_step (by repeat (first | (with_reducible first | exact HB.out | apply below_alloc | apply pw_below_drewN | apply below_drew1) | exact HB.out)) hb); clear HB; have HB := n0_; clear n0_; (try clear hb); (try clear hb2); (try clear hk); (try clear hi)) | (go_at_call 13; (with_reducible refine (keelsonlaw5_as.calls kj4 (fun k_ => k_ < w.heap.size) _ _ l0 t346 _ ?side1 A18.out).mono ?_); (case side1 => exact Kd.V_mk HC0.out (Kd.F_below (Kd.C_F (Kd.heap_slice 49 k49_heap) HR0.out) (by repeat (first | (with_reducible first | exact HB.out | apply below_alloc | apply pw_below_drewN | apply below_drew1) | exact HB.out)))); rintro e w26 ⟨v347, rfl, ho0, hb⟩; have n0_ := Aside0.mk (Kd.N_elder' (by (with_reducible repeat (first | apply Kd.N_alloc | apply Kd.N_drewN | apply Kd.N_drew)); exact HO343.out) (Kd.N_base ho0) hb); have n1_ := Aside0.mk (Kd.N_lower (Kd.N_mono (ok' := fun k_ => some k_ ≠ (.slice Ao23 t341.length co23 : Value).ownBlock) ho0 (fun k_ hk_ => Or.elim hk_ (fun hs_ => fun e_ => Nat.not_le.2 hs_ (Kd.N_base HO343.out k_ e_.symm)) (fun hn_ => (Kd.fresh' (Kd.N_lt (by (with_reducible repeat (first | apply Kd.N_alloc | apply Kd.N_drewN | apply Kd.N_drew)); exact HO343.out)) k_ hn_)))) (below_size (by repeat (first | (with_reducible first | exact HB.out | apply below_alloc | apply pw_below_drewN | apply below_drew1) | exact HB.out)))); have n2_ := Aside0.mk (below_step (by repeat (first | (with_reducible first | exact HB.out | apply below_alloc | apply pw_below_drewN | apply below_drew1) | exact HB.out)) hb); clear HO343; clear HB; have HO343 := n0_; have HO348 := n1_; have HB := n2_; clear n0_ n1_ n2_; (try clear hb); (try clear hb2); (try clear hk); (try clear hi); (try clear ho0); obtain ⟨Ao27, co27, eo27⟩ := Kd.N_slice HO348.out; subst eo27) | (go_at_call 26; (with_reducible refine (keelsonref5_Right.calls kj4 _ _ t341 t344 _ ?side1 ?side2 A15.out).mono ?_); (case side1 => repeat (first | exact (Kd.N_reads' HO343.out).2.2 | (with_reducible refine Kd.C_alloc ?_ _) | (with_reducible refine Kd.C_drewN ?_ _) | (with_reducible refine Kd.C_drew ?_))); (case side2 => exact (Kd.N_reads' HO343.out).2.1); rintro e w24 ⟨rfl, hb⟩; have n0_ := Aside0.mk (Kd.N_below (by (with_reducible repeat (first | apply Kd.N_alloc | apply Kd.N_drewN | apply Kd.N_drew)); exact HO343.out) hb); have n1_ := Aside0.mk (below_step (by repeat (first | (with_reducible first | exact HB.out | apply below_alloc | apply pw_below_drewN | apply below_drew1) | exact HB.out)) hb); clear HO343; clear HB; have HO343 := n0_; have HB := n1_; clear n0_ n1_; (try clear hb); (try clear hb2); (try clear hk); (try clear hi)) | (go_at_call 27; (with_reducible refine (stanza_Print.calls _ _ l0 t345 _ ?side1 ?side2 ?side3 A17.out).mono ?_); (case side1 => repeat (first | exact (Kd.C_below HR0.out HB.out) | (with_reducible refine Kd.C_alloc ?_ _) | (with_reducible refine Kd.C_drewN ?_ _) | (with_reducible refine Kd.C_drew ?_))); (case side2 => exact HC0.out); (case side3 => exact HG_maxLen.out.below (by repeat (first | (with_reducible first | exact HB.out | apply below_alloc | apply pw_below_drewN | apply below_drew1) | exact HB.out))); rintro e w25 ⟨rfl, hb⟩; have n0_ := Aside0.mk (Kd.N_below (by (with_reducible repeat (first | apply Kd.N_alloc | apply Kd.N_drewN | apply Kd.N_drew)); exact HO343.out) hb); have n1_ := Aside0.mk (below_step (by repeat (first | (with_reducible first | exact HB.out | apply below_alloc | apply pw_below_drewN | apply below_drew1) | exact HB.out)) hb); clear HO343; clear HB; have HO343 := n0_; have HB := n1_; clear n0_ n1_; (try clear hb); (try clear hb2); (try clear hk); (try clear hi)) | (go_at_call 13; (with_reducible refine (keelsonlaw5_as.calls kj4 (fun k_ => k_ < w.heap.size) _ _ l0 t341 _ ?side1 A14.out).mono ?_); (case side1 => exact Kd.V_mk HC0.out (Kd.F_below (Kd.C_F (Kd.heap_slice 49 k49_heap) HR0.out) (by repeat (first | (with_reducible first | exact HB.out | apply below_alloc | apply pw_below_drewN | apply below_drew1) | exact HB.out)))); rintro e w22 ⟨v342, rfl, ho0, hb⟩; have n0_ := Aside0.mk (Kd.N_lower (Kd.N_mono (ok' := fun k_ => True) ho0 (fun k_ hk_ => trivial)) (below_size (by repeat (first | (with_reducible first | exact HB.out | apply below_alloc | apply pw_below_drewN | apply below_drew1) | exact HB.out)))); have n1_ := Aside0.mk (below_step (by repeat (first | (with_reducible first | exact HB.out | apply below_alloc | apply pw_below_drewN | apply below_drew1) | exact HB.out)) hb); clear HB; have HO343 := n0_; have HB := n1_; clear n0_ n1_; (try clear hb); (try clear hb2); (try clear hk); (try clear hi); (try clear ho0); obtain ⟨Ao23, co23, eo23⟩ := Kd.N_slice HO343.out; subst eo23) | (go_at_call 28; (with_reducible refine (keelsonref5_Print.calls kj4 _ _ t346 t349 _ ?side1 ?side2 A19.out).mono ?_); (case side1 => repeat (first | exact (Kd.N_reads' HO348.out).2.2 | (with_reducible refine Kd.C_alloc ?_ _) | (with_reducible refine Kd.C_drewN ?_ _) | (with_reducible refine Kd.C_drew ?_))); (case side2 => exact (Kd.N_reads' HO348.out).2.1); rintro e w28 ⟨rfl, hb⟩; have n0_ := Aside0.mk (Kd.N_below (by (with_reducible repeat (first | apply Kd.N_alloc | apply Kd.N_drewN | apply Kd.N_drew)); exact HO343.out) hb); have n1_ := Aside0.mk (Kd.N_below (by (with_reducible repeat (first | apply Kd.N_alloc | apply Kd.N_drewN | apply Kd.N_drew)); exact HO348.out) hb); have n2_ := Aside0.mk (below_step (by repeat (first | (with_reducible first | exact HB.out | apply below_alloc | apply pw_below_drewN | apply below_drew1) | exact HB.out)) hb); clear HO343; clear HO348; clear HB; have HO343 := n0_; have HO348 := n1_; have HB := n2_; clear n0_ n1_ n2_; (try clear hb); (try clear hb2); (try clear hk); (try clear hi)))
            go_ret
            exact ⟨by first | rfl | (simp [errW_none, errW_some] <;> rfl) | (simp [*, errW_none, errW_some] <;> rfl), by repeat (first | (with_reducible first | exact HB.out | apply below_alloc | apply pw_below_drewN | apply below_drew1) | exact HB.out)⟩
          · rw [if_neg c16] at H
            exact absurd H (by simp)
        · rw [if_neg c12] at H
          exact absurd H (by simp)

end Go.Proofs.YtekplcjgmnahmaaDoor.PA
