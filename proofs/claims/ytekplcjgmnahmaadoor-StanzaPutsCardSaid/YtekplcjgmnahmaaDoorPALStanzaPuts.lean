-- Printed by gprint.py (wip/ of this repo), over the kit's print.
import Derived.Test.YtekplcjgmnahmaaDoorPA0
import Derived.Test.YtekplcjgmnahmaaDoorPAkeelsonlaw50
import Derived.Test.YtekplcjgmnahmaaDoorPAkeelsonlaw52
import Derived.Test.YtekplcjgmnahmaaDoorPAstanza1
namespace Go.Proofs.YtekplcjgmnahmaaDoor.PA
open Go.RowKit Go.Proofs.YtekplcjgmnahmaaDoorW.PrintWords Go.Proofs.YtekplcjgmnahmaaDoorW.PrintLast Go.Proofs.YtekplcjgmnahmaaDoorW.PrintMore
attribute [local go_sem] max2_int min2_int max_two min_two max_three min_three max_four min_four   -- for this text's walks alone
set_option linter.unusedVariables false
set_option linter.unusedSimpArgs false

/-! ### keelsonlaw5_StanzaPuts: function 5 -/
mutual
def keelsonlaw5_StanzaPuts.j0 : Nat → List (S49) → ByteArray → ByteArray → ByteArray → Bool → Bool → Option (Bool)
  | 0, _, _, _, _, _, _ => none
  | k + 1, x0, x1, x2, x3, x9, x26 => if x26 = true then (some x9) else ((stanza_Put.f x0 x1 x2).bind fun t215 => ((stanza_Get.f t215 x1).bind fun bt218 => ((stanza_Get.f x0 x3).bind fun bt220 => ((stanza_Get.f t215 x3).bind fun bt222 => ((stanza_Get.f x0 x1).bind fun bt224 => (if bt218.2 = true then (if bt218.1.toList = x2.toList then (if x3.toList = x1.toList then (keelsonlaw5_StanzaPuts.j1 k x0 x1 t215 bt224.1 bt224.2 (bt224.2 != ((t215.length : Int) == (x0.length : Int)))) else (if bt220.1.toList = bt222.1.toList then (if (bt220.2 != bt222.2) = true then (keelsonlaw5_StanzaPuts.j1 k x0 x1 t215 bt224.1 bt224.2 true) else (keelsonlaw5_StanzaPuts.j1 k x0 x1 t215 bt224.1 bt224.2 (bt224.2 != ((t215.length : Int) == (x0.length : Int))))) else (keelsonlaw5_StanzaPuts.j1 k x0 x1 t215 bt224.1 bt224.2 true))) else (keelsonlaw5_StanzaPuts.j1 k x0 x1 t215 bt224.1 bt224.2 true)) else (keelsonlaw5_StanzaPuts.j1 k x0 x1 t215 bt224.1 bt224.2 true)))))))
def keelsonlaw5_StanzaPuts.j1 : Nat → List (S49) → ByteArray → List (S49) → ByteArray → Bool → Bool → Option (Bool)
  | 0, _, _, _, _, _, _ => none
  | k + 1, x0, x1, x10, x17, x18, x86 => if x86 = true then (none) else (if x18 = true then ((stanza_Put.f x10 x1 x17).bind fun t226 => ((keelsonlaw5_sameFields.f k t226 x0).bind fun t229 => (some t229))) else (some true))
end
def keelsonlaw5_StanzaPuts.f (k : Nat) (l0 : List (S49)) (a1 : ByteArray) (a2 : ByteArray) (a3 : ByteArray) : Option (Bool) := (keelsonlaw5_shown.f k).bind fun t214 => (if t214 = true then (keelsonlaw5_StanzaPuts.j0 k l0 a1 a2 a3 t214 (decide ((l0.length : Int) > 100))) else (keelsonlaw5_StanzaPuts.j0 k l0 a1 a2 a3 t214 true))
theorem keelsonlaw5_StanzaPuts.mono_l : ∀ k, (∀ y0 y1 y2 y3 y4 y5, LeO (keelsonlaw5_StanzaPuts.j0 k y0 y1 y2 y3 y4 y5) (keelsonlaw5_StanzaPuts.j0 (k + 1) y0 y1 y2 y3 y4 y5)) ∧ (∀ y0 y1 y2 y3 y4 y5, LeO (keelsonlaw5_StanzaPuts.j1 k y0 y1 y2 y3 y4 y5) (keelsonlaw5_StanzaPuts.j1 (k + 1) y0 y1 y2 y3 y4 y5))
  | 0 => ⟨fun _ _ _ _ _ _ r h => by simp [keelsonlaw5_StanzaPuts.j0] at h, fun _ _ _ _ _ _ r h => by simp [keelsonlaw5_StanzaPuts.j1] at h⟩
  | k + 1 => by
    obtain ⟨ih0, ih1⟩ := keelsonlaw5_StanzaPuts.mono_l k
    refine ⟨?_, ?_⟩
    · intro y0 y1 y2 y3 y4 y5
      unfold keelsonlaw5_StanzaPuts.j0
      repeat' first
      | (with_reducible exact ih0 _ _ _ _ _ _)
      | (with_reducible exact ih1 _ _ _ _ _ _)
      | (with_reducible exact keelsonlaw5_sameFields.mono _ _ _)
      | (with_reducible exact keelsonlaw5_shown.mono _)
      | (with_reducible exact LeO.refl _)
      | (with_reducible exact LeO.none _)
      | (with_reducible refine LeO.ite ?_ ?_)
      | (with_reducible refine LeO.bind ?_ (fun _ => ?_))
      | exact ih0 _ _ _ _ _ _
      | exact ih1 _ _ _ _ _ _
      | exact keelsonlaw5_sameFields.mono _ _ _
      | exact keelsonlaw5_shown.mono _
      | exact LeO.none _
      | refine LeO.ite ?_ ?_
      | refine LeO.bind ?_ (fun _ => ?_)
    · intro y0 y1 y2 y3 y4 y5
      unfold keelsonlaw5_StanzaPuts.j1
      repeat' first
      | (with_reducible exact ih0 _ _ _ _ _ _)
      | (with_reducible exact ih1 _ _ _ _ _ _)
      | (with_reducible exact keelsonlaw5_sameFields.mono _ _ _)
      | (with_reducible exact keelsonlaw5_shown.mono _)
      | (with_reducible exact LeO.refl _)
      | (with_reducible exact LeO.none _)
      | (with_reducible refine LeO.ite ?_ ?_)
      | (with_reducible refine LeO.bind ?_ (fun _ => ?_))
      | exact ih0 _ _ _ _ _ _
      | exact ih1 _ _ _ _ _ _
      | exact keelsonlaw5_sameFields.mono _ _ _
      | exact keelsonlaw5_shown.mono _
      | exact LeO.none _
      | refine LeO.ite ?_ ?_
      | refine LeO.bind ?_ (fun _ => ?_)
theorem keelsonlaw5_StanzaPuts.mono : ∀ a0 a1 a2 a3 k, LeO (keelsonlaw5_StanzaPuts.f k a0 a1 a2 a3) (keelsonlaw5_StanzaPuts.f (k + 1) a0 a1 a2 a3) := by
  intro a0 a1 a2 a3 k
  obtain ⟨ih0, ih1⟩ := keelsonlaw5_StanzaPuts.mono_l k
  unfold keelsonlaw5_StanzaPuts.f
  repeat' first
      | (with_reducible exact ih0 _ _ _ _ _ _)
      | (with_reducible exact ih1 _ _ _ _ _ _)
      | (with_reducible exact keelsonlaw5_sameFields.mono _ _ _)
      | (with_reducible exact keelsonlaw5_shown.mono _)
      | (with_reducible exact LeO.refl _)
      | (with_reducible exact LeO.none _)
      | (with_reducible refine LeO.ite ?_ ?_)
      | (with_reducible refine LeO.bind ?_ (fun _ => ?_))
      | exact ih0 _ _ _ _ _ _
      | exact ih1 _ _ _ _ _ _
      | exact keelsonlaw5_sameFields.mono _ _ _
      | exact keelsonlaw5_shown.mono _
      | exact LeO.none _
      | refine LeO.ite ?_ ?_
      | refine LeO.bind ?_ (fun _ => ?_)
set_option maxHeartbeats 8000000 in
set_option maxRecDepth 100000 in
theorem keelsonlaw5_StanzaPuts.calls (k : Nat) (A0 : Option Addr) (c0 : Nat) (l0 : List (S49)) (a1 : ByteArray) (a2 : ByteArray) (a3 : ByteArray) (r : Bool) (w : World) (hr0 : Kd.C k49 w A0 l0.length l0) (hc0 : l0.length ≤ c0) (hG_maxLen : GlobMaxLen w) (h : keelsonlaw5_StanzaPuts.f k l0 a1 a2 a3 = some r) :
    Calls Tryd.prog 5 #[.slice A0 l0.length c0, .string a1, .string a2, .string a3] w fun e w' => e = .returned (.bool r) ∧ Below w.heap.size w w' := by
  have HG_maxLen := Aside0.mk hG_maxLen
  clear hG_maxLen
  have HR0 := Aside0.mk hr0
  have HC0 := Aside0.mk hc0
  clear hr0 hc0
  have HB := Aside0.mk (Below.refl w.heap.size w)
  have H : ((keelsonlaw5_shown.f k).bind fun t214 => (if t214 = true then (keelsonlaw5_StanzaPuts.j0 k l0 a1 a2 a3 t214 (decide ((l0.length : Int) > 100))) else (keelsonlaw5_StanzaPuts.j0 k l0 a1 a2 a3 t214 true))) = some r := h
  clear h
  replace H := Option.bind_eq_some_iff.mp H
  obtain ⟨t214, A50, H⟩ := H
  replace H : (if t214 = true then (keelsonlaw5_StanzaPuts.j0 k l0 a1 a2 a3 t214 (decide ((l0.length : Int) > 100))) else (keelsonlaw5_StanzaPuts.j0 k l0 a1 a2 a3 t214 true)) = some r := H
  have A5 := Aside0.mk A50
  clear A50
  have HC6 := Aside0.mk H
  clear H
  go_enter Tryd.func5, Tryd.ntmps5
  go_upto_region 2 with (first | ((with_reducible refine gate_callee (f := 9) rfl ?_); refine goesL_ (some 19) rfl rfl Tryd.func9 (by kernel_rfl) rfl #[] rfl (by (try simp only [List.map_toArray, List.map_cons, List.map_nil]); first | done | rfl | (simp only [List.length_drop, List.length_take]; rfl)) ?_; (with_reducible refine (keelsonlaw5_shown.calls k  t214 _ ?side1 A5.out).mono ?_); (case side1 => exact HG_maxLen.out.below (by repeat (first | (with_reducible first | exact HB.out | apply below_alloc | apply pw_below_drewN | apply below_drew1) | exact HB.out))); rintro e w7 ⟨rfl, hb⟩; refine ⟨_, rfl, ?_⟩; have n0_ := Aside0.mk (below_step (by repeat (first | (with_reducible first | exact HB.out | apply below_alloc | apply pw_below_drewN | apply below_drew1) | exact HB.out)) hb); clear HB; have HB := n0_; clear n0_; (try clear hb); (try clear hb2); (try clear hk); (try clear hi)))
  (try simp only [Act.put, List.setIfInBounds_toArray, List.set_cons_zero, List.set_cons_succ])
  go_cut [26] (fun v26 wc => ∃ (kq : Nat) (x26_5 : Bool), v26 = .bool x26_5 ∧ Aside0 (keelsonlaw5_StanzaPuts.j0 kq l0 a1 a2 a3 t214 x26_5 = some r) ∧ Aside0 (kq ≤ k) ∧ Aside0 (Below w.heap.size w wc))
  case first => as_aux_lemma =>
    have H := HC6.out
    clear HC6
    by_cases c8 : t214 = true
    · subst c8
      have H1 : (keelsonlaw5_StanzaPuts.j0 k l0 a1 a2 a3 true (decide ((l0.length : Int) > 100))) = some r := by rw [if_pos rfl] at H; exact H
      clear H
      have H := H1
      clear H1
      have H' := Aside0.mk H
      clear H
      go_wp2
      go_meet
      case rel => exact ⟨_, (decide ((l0.length : Int) > 100)), (by first | rfl | (simp; done) | (simp [*]; done)), H', ⟨by first | omega | exact Nat.le_refl _⟩, ⟨by repeat (first | (with_reducible first | exact HB.out | apply below_alloc | apply pw_below_drewN | apply below_drew1) | exact HB.out)⟩⟩
    · replace c8 := Bool.eq_false_iff.mpr c8
      subst c8
      have H1 : (keelsonlaw5_StanzaPuts.j0 k l0 a1 a2 a3 false true) = some r := by rw [if_neg (show ¬ (false = true) by decide)] at H; exact H
      clear H
      have H := H1
      clear H1
      have H' := Aside0.mk H
      clear H
      go_wp2
      go_meet
      case rel => exact ⟨_, (true), (by first | rfl | (simp; done) | (simp [*]; done)), H', ⟨by first | omega | exact Nat.le_refl _⟩, ⟨by repeat (first | (with_reducible first | exact HB.out | apply below_alloc | apply pw_below_drewN | apply below_drew1) | exact HB.out)⟩⟩
  case rest => as_aux_lemma =>
    clear HC6
    try clear p2
    try clear c5
    try clear c8
    obtain ⟨kq, x26_5, rfl, HA, HJ5, HB⟩ := hcut
    cases kq with
    | zero => exact absurd HA.out (by simp [keelsonlaw5_StanzaPuts.j0])
    | succ kj5 =>
      have H := HA.out
      clear HA
      simp only [keelsonlaw5_StanzaPuts.j0] at H
      by_cases c9 : x26_5 = true
      · subst c9
        have H1 : (some t214) = some r := by rw [if_pos rfl] at H; exact H
        clear H
        have H := H1
        clear H1
        obtain rfl := Option.some.inj H
        go_wp2
        go_ret
        exact ⟨by first | rfl | (simp [errW_none, errW_some] <;> rfl) | (simp [*, errW_none, errW_some] <;> rfl), by repeat (first | (with_reducible first | exact HB.out | apply below_alloc | apply pw_below_drewN | apply below_drew1) | exact HB.out)⟩
      · replace c9 := Bool.eq_false_iff.mpr c9
        subst c9
        have H1 : ((stanza_Put.f l0 a1 a2).bind fun t215 => ((stanza_Get.f t215 a1).bind fun bt218 => ((stanza_Get.f l0 a3).bind fun bt220 => ((stanza_Get.f t215 a3).bind fun bt222 => ((stanza_Get.f l0 a1).bind fun bt224 => (if bt218.2 = true then (if bt218.1.toList = a2.toList then (if a3.toList = a1.toList then (keelsonlaw5_StanzaPuts.j1 kj5 l0 a1 t215 bt224.1 bt224.2 (bt224.2 != ((t215.length : Int) == (l0.length : Int)))) else (if bt220.1.toList = bt222.1.toList then (if (bt220.2 != bt222.2) = true then (keelsonlaw5_StanzaPuts.j1 kj5 l0 a1 t215 bt224.1 bt224.2 true) else (keelsonlaw5_StanzaPuts.j1 kj5 l0 a1 t215 bt224.1 bt224.2 (bt224.2 != ((t215.length : Int) == (l0.length : Int))))) else (keelsonlaw5_StanzaPuts.j1 kj5 l0 a1 t215 bt224.1 bt224.2 true))) else (keelsonlaw5_StanzaPuts.j1 kj5 l0 a1 t215 bt224.1 bt224.2 true)) else (keelsonlaw5_StanzaPuts.j1 kj5 l0 a1 t215 bt224.1 bt224.2 true))))))) = some r := by rw [if_neg (show ¬ (false = true) by decide)] at H; exact H
        clear H
        have H := H1
        clear H1
        replace H := Option.bind_eq_some_iff.mp H
        obtain ⟨t215, A100, H⟩ := H
        replace H : ((stanza_Get.f t215 a1).bind fun bt218 => ((stanza_Get.f l0 a3).bind fun bt220 => ((stanza_Get.f t215 a3).bind fun bt222 => ((stanza_Get.f l0 a1).bind fun bt224 => (if bt218.2 = true then (if bt218.1.toList = a2.toList then (if a3.toList = a1.toList then (keelsonlaw5_StanzaPuts.j1 kj5 l0 a1 t215 bt224.1 bt224.2 (bt224.2 != ((t215.length : Int) == (l0.length : Int)))) else (if bt220.1.toList = bt222.1.toList then (if (bt220.2 != bt222.2) = true then (keelsonlaw5_StanzaPuts.j1 kj5 l0 a1 t215 bt224.1 bt224.2 true) else (keelsonlaw5_StanzaPuts.j1 kj5 l0 a1 t215 bt224.1 bt224.2 (bt224.2 != ((t215.length : Int) == (l0.length : Int))))) else (keelsonlaw5_StanzaPuts.j1 kj5 l0 a1 t215 bt224.1 bt224.2 true))) else (keelsonlaw5_StanzaPuts.j1 kj5 l0 a1 t215 bt224.1 bt224.2 true)) else (keelsonlaw5_StanzaPuts.j1 kj5 l0 a1 t215 bt224.1 bt224.2 true)))))) = some r := H
        have A10 := Aside0.mk A100
        clear A100
        replace H := Option.bind_eq_some_iff.mp H
        obtain ⟨⟨t218, t219⟩, A110, H⟩ := H
        replace H : ((stanza_Get.f l0 a3).bind fun bt220 => ((stanza_Get.f t215 a3).bind fun bt222 => ((stanza_Get.f l0 a1).bind fun bt224 => (if t219 = true then (if t218.toList = a2.toList then (if a3.toList = a1.toList then (keelsonlaw5_StanzaPuts.j1 kj5 l0 a1 t215 bt224.1 bt224.2 (bt224.2 != ((t215.length : Int) == (l0.length : Int)))) else (if bt220.1.toList = bt222.1.toList then (if (bt220.2 != bt222.2) = true then (keelsonlaw5_StanzaPuts.j1 kj5 l0 a1 t215 bt224.1 bt224.2 true) else (keelsonlaw5_StanzaPuts.j1 kj5 l0 a1 t215 bt224.1 bt224.2 (bt224.2 != ((t215.length : Int) == (l0.length : Int))))) else (keelsonlaw5_StanzaPuts.j1 kj5 l0 a1 t215 bt224.1 bt224.2 true))) else (keelsonlaw5_StanzaPuts.j1 kj5 l0 a1 t215 bt224.1 bt224.2 true)) else (keelsonlaw5_StanzaPuts.j1 kj5 l0 a1 t215 bt224.1 bt224.2 true))))) = some r := H
        have A11 := Aside0.mk A110
        clear A110
        replace H := Option.bind_eq_some_iff.mp H
        obtain ⟨⟨t220, t221⟩, A120, H⟩ := H
        replace H : ((stanza_Get.f t215 a3).bind fun bt222 => ((stanza_Get.f l0 a1).bind fun bt224 => (if t219 = true then (if t218.toList = a2.toList then (if a3.toList = a1.toList then (keelsonlaw5_StanzaPuts.j1 kj5 l0 a1 t215 bt224.1 bt224.2 (bt224.2 != ((t215.length : Int) == (l0.length : Int)))) else (if t220.toList = bt222.1.toList then (if (t221 != bt222.2) = true then (keelsonlaw5_StanzaPuts.j1 kj5 l0 a1 t215 bt224.1 bt224.2 true) else (keelsonlaw5_StanzaPuts.j1 kj5 l0 a1 t215 bt224.1 bt224.2 (bt224.2 != ((t215.length : Int) == (l0.length : Int))))) else (keelsonlaw5_StanzaPuts.j1 kj5 l0 a1 t215 bt224.1 bt224.2 true))) else (keelsonlaw5_StanzaPuts.j1 kj5 l0 a1 t215 bt224.1 bt224.2 true)) else (keelsonlaw5_StanzaPuts.j1 kj5 l0 a1 t215 bt224.1 bt224.2 true)))) = some r := H
        have A12 := Aside0.mk A120
        clear A120
        replace H := Option.bind_eq_some_iff.mp H
        obtain ⟨⟨t222, t223⟩, A130, H⟩ := H
        replace H : ((stanza_Get.f l0 a1).bind fun bt224 => (if t219 = true then (if t218.toList = a2.toList then (if a3.toList = a1.toList then (keelsonlaw5_StanzaPuts.j1 kj5 l0 a1 t215 bt224.1 bt224.2 (bt224.2 != ((t215.length : Int) == (l0.length : Int)))) else (if t220.toList = t222.toList then (if (t221 != t223) = true then (keelsonlaw5_StanzaPuts.j1 kj5 l0 a1 t215 bt224.1 bt224.2 true) else (keelsonlaw5_StanzaPuts.j1 kj5 l0 a1 t215 bt224.1 bt224.2 (bt224.2 != ((t215.length : Int) == (l0.length : Int))))) else (keelsonlaw5_StanzaPuts.j1 kj5 l0 a1 t215 bt224.1 bt224.2 true))) else (keelsonlaw5_StanzaPuts.j1 kj5 l0 a1 t215 bt224.1 bt224.2 true)) else (keelsonlaw5_StanzaPuts.j1 kj5 l0 a1 t215 bt224.1 bt224.2 true))) = some r := H
        have A13 := Aside0.mk A130
        clear A130
        replace H := Option.bind_eq_some_iff.mp H
        obtain ⟨⟨t224, t225⟩, A140, H⟩ := H
        replace H : (if t219 = true then (if t218.toList = a2.toList then (if a3.toList = a1.toList then (keelsonlaw5_StanzaPuts.j1 kj5 l0 a1 t215 t224 t225 (t225 != ((t215.length : Int) == (l0.length : Int)))) else (if t220.toList = t222.toList then (if (t221 != t223) = true then (keelsonlaw5_StanzaPuts.j1 kj5 l0 a1 t215 t224 t225 true) else (keelsonlaw5_StanzaPuts.j1 kj5 l0 a1 t215 t224 t225 (t225 != ((t215.length : Int) == (l0.length : Int))))) else (keelsonlaw5_StanzaPuts.j1 kj5 l0 a1 t215 t224 t225 true))) else (keelsonlaw5_StanzaPuts.j1 kj5 l0 a1 t215 t224 t225 true)) else (keelsonlaw5_StanzaPuts.j1 kj5 l0 a1 t215 t224 t225 true)) = some r := H
        have A14 := Aside0.mk A140
        clear A140
        have HC15 := Aside0.mk H
        clear H
        go_upto_region 9 with (first | ((with_reducible refine gate_callee (f := 15) rfl ?_); refine goesL_ (some 31) rfl rfl Tryd.func15 (by kernel_rfl) rfl #[.slice A0 l0.length c0, .string a1, .string a2] rfl (by (try simp only [List.map_toArray, List.map_cons, List.map_nil]); first | done | rfl | (simp only [List.length_drop, List.length_take]; rfl)) ?_; (with_reducible refine (stanza_Put.calls _ _ l0 a1 a2 t215 _ ?side1 ?side2 A10.out).mono ?_); (case side1 => repeat (first | exact (Kd.C_below HR0.out HB.out) | (with_reducible refine Kd.C_alloc ?_ _) | (with_reducible refine Kd.C_drewN ?_ _) | (with_reducible refine Kd.C_drew ?_))); (case side2 => exact HC0.out); rintro e w16 ⟨v216, rfl, ho0, hb⟩; refine ⟨_, rfl, ?_⟩; have n0_ := Aside0.mk (Kd.R_lower ho0 (below_size (by repeat (first | (with_reducible first | exact HB.out | apply below_alloc | apply pw_below_drewN | apply below_drew1) | exact HB.out)))); have n1_ := Aside0.mk (below_step (by repeat (first | (with_reducible first | exact HB.out | apply below_alloc | apply pw_below_drewN | apply below_drew1) | exact HB.out)) hb); clear HB; have HO217 := n0_; have HB := n1_; clear n0_ n1_; (try clear hb); (try clear hb2); (try clear hk); (try clear hi); (try clear ho0); obtain ⟨Ao17, co17, eo17⟩ := Kd.R_slice HO217.out; subst eo17) | ((with_reducible refine gate_callee (f := 16) rfl ?_); refine goesL_ (some 35) rfl rfl Tryd.func16 (by kernel_rfl) rfl #[.slice Ao17 t215.length co17, .string a1] rfl (by (try simp only [List.map_toArray, List.map_cons, List.map_nil]); first | done | rfl | (simp only [List.length_drop, List.length_take]; rfl)) ?_; (with_reducible refine (stanza_Get.calls _ _ t215 a1 t218 t219 _ ?side1 ?side2 A11.out).mono ?_); (case side1 => repeat (first | exact (Kd.R_reads' HO217.out).2.2 | (with_reducible refine Kd.C_alloc ?_ _) | (with_reducible refine Kd.C_drewN ?_ _) | (with_reducible refine Kd.C_drew ?_))); (case side2 => exact (Kd.R_reads' HO217.out).2.1); rintro e w18 ⟨rfl, hb⟩; refine ⟨_, rfl, ?_⟩; have n0_ := Aside0.mk (Kd.R_below (by (with_reducible repeat (first | apply Kd.R_alloc | apply Kd.R_drewN | apply Kd.R_drew)); exact HO217.out) hb); have n1_ := Aside0.mk (below_step (by repeat (first | (with_reducible first | exact HB.out | apply below_alloc | apply pw_below_drewN | apply below_drew1) | exact HB.out)) hb); clear HO217; clear HB; have HO217 := n0_; have HB := n1_; clear n0_ n1_; (try clear hb); (try clear hb2); (try clear hk); (try clear hi)) | ((with_reducible refine gate_callee (f := 16) rfl ?_); refine goesL_ (some 41) rfl rfl Tryd.func16 (by kernel_rfl) rfl #[.slice A0 l0.length c0, .string a3] rfl (by (try simp only [List.map_toArray, List.map_cons, List.map_nil]); first | done | rfl | (simp only [List.length_drop, List.length_take]; rfl)) ?_; (with_reducible refine (stanza_Get.calls _ _ l0 a3 t220 t221 _ ?side1 ?side2 A12.out).mono ?_); (case side1 => repeat (first | exact (Kd.C_below HR0.out HB.out) | (with_reducible refine Kd.C_alloc ?_ _) | (with_reducible refine Kd.C_drewN ?_ _) | (with_reducible refine Kd.C_drew ?_))); (case side2 => exact HC0.out); rintro e w19 ⟨rfl, hb⟩; refine ⟨_, rfl, ?_⟩; have n0_ := Aside0.mk (Kd.R_below (by (with_reducible repeat (first | apply Kd.R_alloc | apply Kd.R_drewN | apply Kd.R_drew)); exact HO217.out) hb); have n1_ := Aside0.mk (below_step (by repeat (first | (with_reducible first | exact HB.out | apply below_alloc | apply pw_below_drewN | apply below_drew1) | exact HB.out)) hb); clear HO217; clear HB; have HO217 := n0_; have HB := n1_; clear n0_ n1_; (try clear hb); (try clear hb2); (try clear hk); (try clear hi)) | ((with_reducible refine gate_callee (f := 16) rfl ?_); refine goesL_ (some 47) rfl rfl Tryd.func16 (by kernel_rfl) rfl #[.slice Ao17 t215.length co17, .string a3] rfl (by (try simp only [List.map_toArray, List.map_cons, List.map_nil]); first | done | rfl | (simp only [List.length_drop, List.length_take]; rfl)) ?_; (with_reducible refine (stanza_Get.calls _ _ t215 a3 t222 t223 _ ?side1 ?side2 A13.out).mono ?_); (case side1 => repeat (first | exact (Kd.R_reads' HO217.out).2.2 | (with_reducible refine Kd.C_alloc ?_ _) | (with_reducible refine Kd.C_drewN ?_ _) | (with_reducible refine Kd.C_drew ?_))); (case side2 => exact (Kd.R_reads' HO217.out).2.1); rintro e w20 ⟨rfl, hb⟩; refine ⟨_, rfl, ?_⟩; have n0_ := Aside0.mk (Kd.R_below (by (with_reducible repeat (first | apply Kd.R_alloc | apply Kd.R_drewN | apply Kd.R_drew)); exact HO217.out) hb); have n1_ := Aside0.mk (below_step (by repeat (first | (with_reducible first | exact HB.out | apply below_alloc | apply pw_below_drewN | apply below_drew1) | exact HB.out)) hb); clear HO217; clear HB; have HO217 := n0_; have HB := n1_; clear n0_ n1_; (try clear hb); (try clear hb2); (try clear hk); (try clear hi)) | ((with_reducible refine gate_callee (f := 16) rfl ?_); refine goesL_ (some 53) rfl rfl Tryd.func16 (by kernel_rfl) rfl #[.slice A0 l0.length c0, .string a1] rfl (by (try simp only [List.map_toArray, List.map_cons, List.map_nil]); first | done | rfl | (simp only [List.length_drop, List.length_take]; rfl)) ?_; (with_reducible refine (stanza_Get.calls _ _ l0 a1 t224 t225 _ ?side1 ?side2 A14.out).mono ?_); (case side1 => repeat (first | exact (Kd.C_below HR0.out HB.out) | (with_reducible refine Kd.C_alloc ?_ _) | (with_reducible refine Kd.C_drewN ?_ _) | (with_reducible refine Kd.C_drew ?_))); (case side2 => exact HC0.out); rintro e w21 ⟨rfl, hb⟩; refine ⟨_, rfl, ?_⟩; have n0_ := Aside0.mk (Kd.R_below (by (with_reducible repeat (first | apply Kd.R_alloc | apply Kd.R_drewN | apply Kd.R_drew)); exact HO217.out) hb); have n1_ := Aside0.mk (below_step (by repeat (first | (with_reducible first | exact HB.out | apply below_alloc | apply pw_below_drewN | apply below_drew1) | exact HB.out)) hb); clear HO217; clear HB; have HO217 := n0_; have HB := n1_; clear n0_ n1_; (try clear hb); (try clear hb2); (try clear hk); (try clear hi)))
        (try simp only [Act.put, List.setIfInBounds_toArray, List.set_cons_zero, List.set_cons_succ])
        go_cut [86] (fun v86 wc => ∃ (kq : Nat) (x86_14 : Bool), v86 = .bool x86_14 ∧ Aside0 (keelsonlaw5_StanzaPuts.j1 kq l0 a1 t215 t224 t225 x86_14 = some r) ∧ Aside0 (kq ≤ kj5) ∧ Aside0 (Kd.R k49 49 wc w.heap.size (fun _ => True) (.slice Ao17 t215.length co17) t215) ∧ Aside0 (Below w.heap.size w wc))
        case first => as_aux_lemma =>
          have H := HC15.out
          clear HC15
          by_cases c22 : t219 = true
          · subst c22
            have H1 : (if t218.toList = a2.toList then (if a3.toList = a1.toList then (keelsonlaw5_StanzaPuts.j1 kj5 l0 a1 t215 t224 t225 (t225 != ((t215.length : Int) == (l0.length : Int)))) else (if t220.toList = t222.toList then (if (t221 != t223) = true then (keelsonlaw5_StanzaPuts.j1 kj5 l0 a1 t215 t224 t225 true) else (keelsonlaw5_StanzaPuts.j1 kj5 l0 a1 t215 t224 t225 (t225 != ((t215.length : Int) == (l0.length : Int))))) else (keelsonlaw5_StanzaPuts.j1 kj5 l0 a1 t215 t224 t225 true))) else (keelsonlaw5_StanzaPuts.j1 kj5 l0 a1 t215 t224 t225 true)) = some r := by rw [if_pos rfl] at H; exact H
            clear H
            have H := H1
            clear H1
            by_cases c23 : t218.toList = a2.toList
            · rw [if_pos c23] at H
              have c23b0 : (t218.toList == a2.toList) = true := beq_iff_eq.mpr c23
              have c23b1 : (t218.toList != a2.toList) = false := bne_eq_false_iff_eq.mpr c23
              clear c23
              (first | rw [c23b0] | (simp only [i64_w, i32_w]; rw [c23b0]) | rw [c23b1] | skip)
              by_cases c24 : a3.toList = a1.toList
              · rw [if_pos c24] at H
                have c24b0 : (a3.toList == a1.toList) = true := beq_iff_eq.mpr c24
                have c24b1 : (a3.toList != a1.toList) = false := bne_eq_false_iff_eq.mpr c24
                clear c24
                have H' := Aside0.mk H
                clear H
                go_wp2
                go_meet
                case rel => exact ⟨_, ((t225 != ((t215.length : Int) == (l0.length : Int)))), (by first | rfl | (simp; done) | (simp [*]; done)), H', ⟨by have := HJ5.out; first | omega | exact Nat.le_refl _⟩, ⟨by (with_reducible repeat (first | apply Kd.R_alloc | apply Kd.R_drewN | apply Kd.R_drew)); exact HO217.out⟩, ⟨by repeat (first | (with_reducible first | exact HB.out | apply below_alloc | apply pw_below_drewN | apply below_drew1) | exact HB.out)⟩⟩
              · rw [if_neg c24] at H
                have c24b0 : (a3.toList == a1.toList) = false := beq_eq_false_iff_ne.mpr c24
                have c24b1 : (a3.toList != a1.toList) = true := bne_iff_ne.mpr c24
                by_cases c25 : t220.toList = t222.toList
                · rw [if_pos c25] at H
                  have c25b0 : (t220.toList == t222.toList) = true := beq_iff_eq.mpr c25
                  have c25b1 : (t220.toList != t222.toList) = false := bne_eq_false_iff_eq.mpr c25
                  clear c25
                  by_cases c26 : (t221 != t223) = true
                  · rw [if_pos c26] at H
                    have c26b0 : (t221 != t223) = true := c26
                    (try (have c26b1 : decide (t221 = t223) = false := by simpa using c26))
                    (try (have c26b2 : (t221 == t223) = false := by simpa using c26))
                    (try (have c26b3 : ¬ (t221 = t223) := by simpa using c26))
                    clear c26
                    have H' := Aside0.mk H
                    clear H
                    go_wp2
                    go_meet
                    case rel => exact ⟨_, (true), (by first | rfl | (simp; done) | (simp [*]; done)), H', ⟨by have := HJ5.out; first | omega | exact Nat.le_refl _⟩, ⟨by (with_reducible repeat (first | apply Kd.R_alloc | apply Kd.R_drewN | apply Kd.R_drew)); exact HO217.out⟩, ⟨by repeat (first | (with_reducible first | exact HB.out | apply below_alloc | apply pw_below_drewN | apply below_drew1) | exact HB.out)⟩⟩
                  · rw [if_neg c26] at H
                    have c26b0 : (t221 != t223) = false := by simpa using c26
                    (try (have c26b1 : decide (t221 = t223) = true := by simpa using c26))
                    (try (have c26b2 : (t221 == t223) = true := by simpa using c26))
                    clear c26
                    have H' := Aside0.mk H
                    clear H
                    go_wp2
                    go_meet
                    case rel => exact ⟨_, ((t225 != ((t215.length : Int) == (l0.length : Int)))), (by first | rfl | (simp; done) | (simp [*]; done)), H', ⟨by have := HJ5.out; first | omega | exact Nat.le_refl _⟩, ⟨by (with_reducible repeat (first | apply Kd.R_alloc | apply Kd.R_drewN | apply Kd.R_drew)); exact HO217.out⟩, ⟨by repeat (first | (with_reducible first | exact HB.out | apply below_alloc | apply pw_below_drewN | apply below_drew1) | exact HB.out)⟩⟩
                · rw [if_neg c25] at H
                  have c25b0 : (t220.toList == t222.toList) = false := beq_eq_false_iff_ne.mpr c25
                  have c25b1 : (t220.toList != t222.toList) = true := bne_iff_ne.mpr c25
                  have H' := Aside0.mk H
                  clear H
                  go_wp2
                  go_meet
                  case rel => exact ⟨_, (true), (by first | rfl | (simp; done) | (simp [*]; done)), H', ⟨by have := HJ5.out; first | omega | exact Nat.le_refl _⟩, ⟨by (with_reducible repeat (first | apply Kd.R_alloc | apply Kd.R_drewN | apply Kd.R_drew)); exact HO217.out⟩, ⟨by repeat (first | (with_reducible first | exact HB.out | apply below_alloc | apply pw_below_drewN | apply below_drew1) | exact HB.out)⟩⟩
            · rw [if_neg c23] at H
              have c23b0 : (t218.toList == a2.toList) = false := beq_eq_false_iff_ne.mpr c23
              have c23b1 : (t218.toList != a2.toList) = true := bne_iff_ne.mpr c23
              (first | rw [c23b0] | (simp only [i64_w, i32_w]; rw [c23b0]) | rw [c23b1] | skip)
              have H' := Aside0.mk H
              clear H
              go_wp2
              go_meet
              case rel => exact ⟨_, (true), (by first | rfl | (simp; done) | (simp [*]; done)), H', ⟨by have := HJ5.out; first | omega | exact Nat.le_refl _⟩, ⟨by (with_reducible repeat (first | apply Kd.R_alloc | apply Kd.R_drewN | apply Kd.R_drew)); exact HO217.out⟩, ⟨by repeat (first | (with_reducible first | exact HB.out | apply below_alloc | apply pw_below_drewN | apply below_drew1) | exact HB.out)⟩⟩
          · replace c22 := Bool.eq_false_iff.mpr c22
            subst c22
            have H1 : (keelsonlaw5_StanzaPuts.j1 kj5 l0 a1 t215 t224 t225 true) = some r := by rw [if_neg (show ¬ (false = true) by decide)] at H; exact H
            clear H
            have H := H1
            clear H1
            have H' := Aside0.mk H
            clear H
            go_wp2
            go_meet
            case rel => exact ⟨_, (true), (by first | rfl | (simp; done) | (simp [*]; done)), H', ⟨by have := HJ5.out; first | omega | exact Nat.le_refl _⟩, ⟨by (with_reducible repeat (first | apply Kd.R_alloc | apply Kd.R_drewN | apply Kd.R_drew)); exact HO217.out⟩, ⟨by repeat (first | (with_reducible first | exact HB.out | apply below_alloc | apply pw_below_drewN | apply below_drew1) | exact HB.out)⟩⟩
        case rest => as_aux_lemma =>
          clear HC15
          try clear c1
          try clear c2
          try clear p2
          try clear c5
          try clear c8
          try clear c9
          try clear c15
          try clear c16
          try clear c22
          try clear c23
          try clear c23b0
          try clear c23b1
          try clear c24
          try clear c24b0
          try clear c24b1
          try clear c25
          try clear c25b0
          try clear c25b1
          try clear c26
          try clear c26b0
          try clear c26b1
          try clear c26b2
          try clear p2
          obtain ⟨kq, x86_14, rfl, HA, HJ14, HO_10, HB⟩ := hcut
          cases kq with
          | zero => exact absurd HA.out (by simp [keelsonlaw5_StanzaPuts.j1])
          | succ kj14 =>
            have H := HA.out
            clear HA
            simp only [keelsonlaw5_StanzaPuts.j1] at H
            by_cases c27 : x86_14 = true
            · subst c27
              have H1 : (none) = some r := by rw [if_pos rfl] at H; exact H
              clear H
              have H := H1
              clear H1
              exact absurd H (by simp)
            · replace c27 := Bool.eq_false_iff.mpr c27
              subst c27
              have H1 : (if t225 = true then ((stanza_Put.f t215 a1 t224).bind fun t226 => ((keelsonlaw5_sameFields.f kj14 t226 l0).bind fun t229 => (some t229))) else (some true)) = some r := by rw [if_neg (show ¬ (false = true) by decide)] at H; exact H
              clear H
              have H := H1
              clear H1
              by_cases c28 : t225 = true
              · subst c28
                have H1 : ((stanza_Put.f t215 a1 t224).bind fun t226 => ((keelsonlaw5_sameFields.f kj14 t226 l0).bind fun t229 => (some t229))) = some r := by rw [if_pos rfl] at H; exact H
                clear H
                have H := H1
                clear H1
                replace H := Option.bind_eq_some_iff.mp H
                obtain ⟨t226, A290, H⟩ := H
                replace H : ((keelsonlaw5_sameFields.f kj14 t226 l0).bind fun t229 => (some t229)) = some r := H
                have A29 := Aside0.mk A290
                clear A290
                replace H := Option.bind_eq_some_iff.mp H
                obtain ⟨t229, A300, H⟩ := H
                replace H : (some t229) = some r := H
                have A30 := Aside0.mk A300
                clear A300
                obtain rfl := Option.some.inj H
                go_wp2_with (first | (go_at_call 15; (with_reducible refine (stanza_Put.calls _ _ t215 a1 t224 t226 _ ?side1 ?side2 A29.out).mono ?_); (case side1 => repeat (first | exact (Kd.R_reads' HO_10.out).2.2 | (with_reducible refine Kd.C_alloc ?_ _) | (with_reducible refine Kd.C_drewN ?_ _) | (with_reducible refine Kd.C_drew ?_))); (case side2 => exact (Kd.R_reads' HO_10.out).2.1); rintro e w31 ⟨v227, rfl, ho0, hb⟩; have n0_ := Aside0.mk (Kd.R_elder' (by (with_reducible repeat (first | apply Kd.R_alloc | apply Kd.R_drewN | apply Kd.R_drew)); exact HO_10.out) (Kd.R_base ho0) hb); have n1_ := Aside0.mk (Kd.R_lower (Kd.R_new' ho0 (Kd.R_lt (by (with_reducible repeat (first | apply Kd.R_alloc | apply Kd.R_drewN | apply Kd.R_drew)); exact HO_10.out))) (below_size (by repeat (first | (with_reducible first | exact HB.out | apply below_alloc | apply pw_below_drewN | apply below_drew1) | exact HB.out)))); have n2_ := Aside0.mk (below_step (by repeat (first | (with_reducible first | exact HB.out | apply below_alloc | apply pw_below_drewN | apply below_drew1) | exact HB.out)) hb); clear HO_10; clear HB; have HO_10 := n0_; have HO228 := n1_; have HB := n2_; clear n0_ n1_ n2_; (try clear hb); (try clear hb2); (try clear hk); (try clear hi); (try clear ho0); obtain ⟨Ao32, co32, eo32⟩ := Kd.R_slice HO228.out; subst eo32) | (go_at_call 17; (with_reducible refine (keelsonlaw5_sameFields.calls kj14 _ _ t226 _ _ l0 t229 _ ?side1 ?side2 ?side3 ?side4 A30.out).mono ?_); (case side1 => repeat (first | exact (Kd.R_reads' HO228.out).2.2 | (with_reducible refine Kd.C_alloc ?_ _) | (with_reducible refine Kd.C_drewN ?_ _) | (with_reducible refine Kd.C_drew ?_))); (case side2 => exact (Kd.R_reads' HO228.out).2.1); (case side3 => repeat (first | exact (Kd.C_below HR0.out HB.out) | (with_reducible refine Kd.C_alloc ?_ _) | (with_reducible refine Kd.C_drewN ?_ _) | (with_reducible refine Kd.C_drew ?_))); (case side4 => exact HC0.out); rintro e w' ⟨rfl, ⟨nd, rfl⟩⟩))
                go_ret
                exact ⟨by first | rfl | (simp [errW_none, errW_some] <;> rfl) | (simp [*, errW_none, errW_some] <;> rfl), by repeat (first | (with_reducible first | exact HB.out | apply below_alloc | apply pw_below_drewN | apply below_drew1) | exact HB.out)⟩
              · replace c28 := Bool.eq_false_iff.mpr c28
                subst c28
                have H1 : (some true) = some r := by rw [if_neg (show ¬ (false = true) by decide)] at H; exact H
                clear H
                have H := H1
                clear H1
                obtain rfl := Option.some.inj H
                go_wp2
                go_ret
                exact ⟨by first | rfl | (simp [errW_none, errW_some] <;> rfl) | (simp [*, errW_none, errW_some] <;> rfl), by repeat (first | (with_reducible first | exact HB.out | apply below_alloc | apply pw_below_drewN | apply below_drew1) | exact HB.out)⟩

end Go.Proofs.YtekplcjgmnahmaaDoor.PA
