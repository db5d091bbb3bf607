-- Printed by gprint.py (wip/ of this repo), over the kit's print.
import Derived.Test.YtekplcjgmnahmaaDoorPA0
import Derived.Test.YtekplcjgmnahmaaDoorPAkeelsonlaw50
import Derived.Test.YtekplcjgmnahmaaDoorPAkeelsonlaw52
import Derived.Test.YtekplcjgmnahmaaDoorGParse5
namespace Go.Proofs.YtekplcjgmnahmaaDoor.PA
open Go.RowKit Go.Proofs.YtekplcjgmnahmaaDoorW.PrintWords Go.Proofs.YtekplcjgmnahmaaDoorW.PrintLast Go.Proofs.YtekplcjgmnahmaaDoorW.PrintMore
attribute [local go_sem] max2_int min2_int max_two min_two max_three min_three max_four min_four   -- for this text's walks alone
set_option linter.unusedVariables false
set_option linter.unusedSimpArgs false

/-! ### keelsonlaw5_StanzaJoins: function 4 -/
mutual
def keelsonlaw5_StanzaJoins.j0 : Nat → ByteArray → ByteArray → Int → Bool → Bool → Option (Bool)
  | 0, _, _, _, _, _ => none
  | k + 1, x0, x1, x2, x7, x30 => if x30 = true then (some x7) else ((stanza_Parse.f x0).bind fun bt171 => ((stanza_Parse.f x1).bind fun bt176 => (if bt171.2.2 = 0 then (if bt176.2.2 = 0 then (keelsonlaw5_StanzaJoins.j1 k x0 x1 x2 bt171.1 bt176.1 (decide ((wrap64 ((bt171.1.length : Int) + (bt176.1.length : Int))) > 200))) else (keelsonlaw5_StanzaJoins.j1 k x0 x1 x2 bt171.1 bt176.1 true)) else (keelsonlaw5_StanzaJoins.j1 k x0 x1 x2 bt171.1 bt176.1 true))))
def keelsonlaw5_StanzaJoins.j1 : Nat → ByteArray → ByteArray → Int → List (List (S49)) → List (List (S49)) → Bool → Option (Bool)
  | 0, _, _, _, _, _, _ => none
  | k + 1, x0, x1, x2, x8, x11, x57 => if x57 = true then (some true) else ((keelsonlaw5_pick.f x2 9).bind fun t181 => (if 0 ≤ t181 then (if t181 ≤ 8 then (if ((⟨#[10, 10, 10, 10, 10, 10, 10, 10]⟩ : ByteArray).extract 0 (t181 : Int).toNat).size + x0.size ≤ 9223372036854775807 then (if (((⟨#[10, 10, 10, 10, 10, 10, 10, 10]⟩ : ByteArray).extract 0 (t181 : Int).toNat) ++ x0).size + 2 ≤ 9223372036854775807 then (if ((((⟨#[10, 10, 10, 10, 10, 10, 10, 10]⟩ : ByteArray).extract 0 (t181 : Int).toNat) ++ x0) ++ (⟨#[10, 10]⟩ : ByteArray)).size + ((⟨#[10, 10, 10, 10, 10, 10, 10, 10]⟩ : ByteArray).extract 0 (t181 : Int).toNat).size ≤ 9223372036854775807 then (if (((((⟨#[10, 10, 10, 10, 10, 10, 10, 10]⟩ : ByteArray).extract 0 (t181 : Int).toNat) ++ x0) ++ (⟨#[10, 10]⟩ : ByteArray)) ++ ((⟨#[10, 10, 10, 10, 10, 10, 10, 10]⟩ : ByteArray).extract 0 (t181 : Int).toNat)).size + x1.size ≤ 9223372036854775807 then (if ((((((⟨#[10, 10, 10, 10, 10, 10, 10, 10]⟩ : ByteArray).extract 0 (t181 : Int).toNat) ++ x0) ++ (⟨#[10, 10]⟩ : ByteArray)) ++ ((⟨#[10, 10, 10, 10, 10, 10, 10, 10]⟩ : ByteArray).extract 0 (t181 : Int).toNat)) ++ x1).size + ((⟨#[10, 10, 10, 10, 10, 10, 10, 10]⟩ : ByteArray).extract 0 (t181 : Int).toNat).size ≤ 9223372036854775807 then ((stanza_Parse.f (((((((⟨#[10, 10, 10, 10, 10, 10, 10, 10]⟩ : ByteArray).extract 0 (t181 : Int).toNat) ++ x0) ++ (⟨#[10, 10]⟩ : ByteArray)) ++ ((⟨#[10, 10, 10, 10, 10, 10, 10, 10]⟩ : ByteArray).extract 0 (t181 : Int).toNat)) ++ x1) ++ ((⟨#[10, 10, 10, 10, 10, 10, 10, 10]⟩ : ByteArray).extract 0 (t181 : Int).toNat))).bind fun bt182 => (if bt182.2.2 = 0 then (if bt182.2.1 = 0 then ((keelsonlaw5_as.f k bt182.1).bind fun t187 => ((some (([] : List (List (S49))) : List (List (S49)))).bind fun y190 => ((keelsonlaw5_as.f k x8).bind fun t193 => (if y190.length + t193.length < 5864062014805 then ((some (y190 ++ t193 : List (List (S49)))).bind fun y196 => ((keelsonlaw5_as.f k x11).bind fun t199 => (if y196.length + t199.length < 5864062014805 then ((keelsonlaw5_same.f k t187 (y196 ++ t199)).bind fun t205 => (some t205)) else (none)))) else (none))))) else (none)) else (none))) else (none)) else (none)) else (none)) else (none)) else (none)) else (none)) else (none)))
end
def keelsonlaw5_StanzaJoins.f (k : Nat) (a0 : ByteArray) (a1 : ByteArray) (a2 : Int) : Option (Bool) := (keelsonlaw5_shown.f k).bind fun t170 => (if t170 = true then (if (a0.size : Int) > 2000 then (keelsonlaw5_StanzaJoins.j0 k a0 a1 a2 t170 true) else (keelsonlaw5_StanzaJoins.j0 k a0 a1 a2 t170 (decide ((a1.size : Int) > 2000)))) else (keelsonlaw5_StanzaJoins.j0 k a0 a1 a2 t170 true))
theorem keelsonlaw5_StanzaJoins.mono_l : ∀ k, (∀ y0 y1 y2 y3 y4, LeO (keelsonlaw5_StanzaJoins.j0 k y0 y1 y2 y3 y4) (keelsonlaw5_StanzaJoins.j0 (k + 1) y0 y1 y2 y3 y4)) ∧ (∀ y0 y1 y2 y3 y4 y5, LeO (keelsonlaw5_StanzaJoins.j1 k y0 y1 y2 y3 y4 y5) (keelsonlaw5_StanzaJoins.j1 (k + 1) y0 y1 y2 y3 y4 y5))
  | 0 => ⟨fun _ _ _ _ _ r h => by simp [keelsonlaw5_StanzaJoins.j0] at h, fun _ _ _ _ _ _ r h => by simp [keelsonlaw5_StanzaJoins.j1] at h⟩
  | k + 1 => by
    obtain ⟨ih0, ih1⟩ := keelsonlaw5_StanzaJoins.mono_l k
    refine ⟨?_, ?_⟩
    · intro y0 y1 y2 y3 y4
      unfold keelsonlaw5_StanzaJoins.j0
      repeat' first
      | (with_reducible exact ih0 _ _ _ _ _)
      | (with_reducible exact ih1 _ _ _ _ _ _)
      | (with_reducible exact keelsonlaw5_as.mono _ _)
      | (with_reducible exact keelsonlaw5_same.mono _ _ _)
      | (with_reducible exact keelsonlaw5_shown.mono _)
      | (with_reducible exact LeO.refl _)
      | (with_reducible exact LeO.none _)
      | (with_reducible refine LeO.ite ?_ ?_)
      | (with_reducible refine LeO.bind ?_ (fun _ => ?_))
      | exact ih0 _ _ _ _ _
      | exact ih1 _ _ _ _ _ _
      | exact keelsonlaw5_as.mono _ _
      | exact keelsonlaw5_same.mono _ _ _
      | exact keelsonlaw5_shown.mono _
      | exact LeO.none _
      | refine LeO.ite ?_ ?_
      | refine LeO.bind ?_ (fun _ => ?_)
    · intro y0 y1 y2 y3 y4 y5
      unfold keelsonlaw5_StanzaJoins.j1
      repeat' first
      | (with_reducible exact ih0 _ _ _ _ _)
      | (with_reducible exact ih1 _ _ _ _ _ _)
      | (with_reducible exact keelsonlaw5_as.mono _ _)
      | (with_reducible exact keelsonlaw5_same.mono _ _ _)
      | (with_reducible exact keelsonlaw5_shown.mono _)
      | (with_reducible exact LeO.refl _)
      | (with_reducible exact LeO.none _)
      | (with_reducible refine LeO.ite ?_ ?_)
      | (with_reducible refine LeO.bind ?_ (fun _ => ?_))
      | exact ih0 _ _ _ _ _
      | exact ih1 _ _ _ _ _ _
      | exact keelsonlaw5_as.mono _ _
      | exact keelsonlaw5_same.mono _ _ _
      | exact keelsonlaw5_shown.mono _
      | exact LeO.none _
      | refine LeO.ite ?_ ?_
      | refine LeO.bind ?_ (fun _ => ?_)
theorem keelsonlaw5_StanzaJoins.mono : ∀ a0 a1 a2 k, LeO (keelsonlaw5_StanzaJoins.f k a0 a1 a2) (keelsonlaw5_StanzaJoins.f (k + 1) a0 a1 a2) := by
  intro a0 a1 a2 k
  obtain ⟨ih0, ih1⟩ := keelsonlaw5_StanzaJoins.mono_l k
  unfold keelsonlaw5_StanzaJoins.f
  repeat' first
      | (with_reducible exact ih0 _ _ _ _ _)
      | (with_reducible exact ih1 _ _ _ _ _ _)
      | (with_reducible exact keelsonlaw5_as.mono _ _)
      | (with_reducible exact keelsonlaw5_same.mono _ _ _)
      | (with_reducible exact keelsonlaw5_shown.mono _)
      | (with_reducible exact LeO.refl _)
      | (with_reducible exact LeO.none _)
      | (with_reducible refine LeO.ite ?_ ?_)
      | (with_reducible refine LeO.bind ?_ (fun _ => ?_))
      | exact ih0 _ _ _ _ _
      | exact ih1 _ _ _ _ _ _
      | exact keelsonlaw5_as.mono _ _
      | exact keelsonlaw5_same.mono _ _ _
      | exact keelsonlaw5_shown.mono _
      | exact LeO.none _
      | refine LeO.ite ?_ ?_
      | refine LeO.bind ?_ (fun _ => ?_)
set_option maxHeartbeats 8000000 in
set_option maxRecDepth 100000 in
theorem keelsonlaw5_StanzaJoins.calls (k : Nat) (a0 : ByteArray) (a1 : ByteArray) (a2 : Int) (r : Bool) (w : World) (hG_maxLen : GlobMaxLen w) (h : keelsonlaw5_StanzaJoins.f k a0 a1 a2 = some r) :
    Calls Tryd.prog 4 #[.string a0, .string a1, .int .i64 a2] w fun e w' => e = .returned (.bool r) ∧ Below w.heap.size w w' := by
  have HG_maxLen := Aside0.mk hG_maxLen
  clear hG_maxLen
  have HB := Aside0.mk (Below.refl w.heap.size w)
  have H : ((keelsonlaw5_shown.f k).bind fun t170 => (if t170 = true then (if (a0.size : Int) > 2000 then (keelsonlaw5_StanzaJoins.j0 k a0 a1 a2 t170 true) else (keelsonlaw5_StanzaJoins.j0 k a0 a1 a2 t170 (decide ((a1.size : Int) > 2000)))) else (keelsonlaw5_StanzaJoins.j0 k a0 a1 a2 t170 true))) = some r := h
  clear h
  replace H := Option.bind_eq_some_iff.mp H
  obtain ⟨t170, A40, H⟩ := H
  replace H : (if t170 = true then (if (a0.size : Int) > 2000 then (keelsonlaw5_StanzaJoins.j0 k a0 a1 a2 t170 true) else (keelsonlaw5_StanzaJoins.j0 k a0 a1 a2 t170 (decide ((a1.size : Int) > 2000)))) else (keelsonlaw5_StanzaJoins.j0 k a0 a1 a2 t170 true)) = some r := H
  have A4 := Aside0.mk A40
  clear A40
  have HC5 := Aside0.mk H
  clear H
  go_enter Tryd.func4, Tryd.ntmps4
  go_upto_region 2 with (first | ((with_reducible refine gate_callee (f := 9) rfl ?_); refine goesL_ (some 18) rfl rfl Tryd.func9 (by kernel_rfl) rfl #[] rfl (by (try simp only [List.map_toArray, List.map_cons, List.map_nil]); first | done | rfl | (simp only [List.length_drop, List.length_take]; rfl)) ?_; (with_reducible refine (keelsonlaw5_shown.calls k  t170 _ ?side1 A4.out).mono ?_); (case side1 => exact HG_maxLen.out.below (by repeat (first | (with_reducible first | exact HB.out | apply below_alloc | apply pw_below_drewN | apply below_drew1) | exact HB.out))); rintro e w6 ⟨rfl, hb⟩; refine ⟨_, rfl, ?_⟩; have n0_ := Aside0.mk (below_step (by repeat (first | (with_reducible first | exact HB.out | apply below_alloc | apply pw_below_drewN | apply below_drew1) | exact HB.out)) hb); clear HB; have HB := n0_; clear n0_; (try clear hb); (try clear hb2); (try clear hk); (try clear hi)))
  (try simp only [Act.put, List.setIfInBounds_toArray, List.set_cons_zero, List.set_cons_succ])
  go_cut [30] (fun v30 wc => ∃ (kq : Nat) (x30_4 : Bool), v30 = .bool x30_4 ∧ Aside0 (keelsonlaw5_StanzaJoins.j0 kq a0 a1 a2 t170 x30_4 = some r) ∧ Aside0 (kq ≤ k) ∧ Aside0 (Below w.heap.size w wc))
  case first => as_aux_lemma =>
    have H := HC5.out
    clear HC5
    by_cases c7 : t170 = true
    · subst c7
      have H1 : (if (a0.size : Int) > 2000 then (keelsonlaw5_StanzaJoins.j0 k a0 a1 a2 true true) else (keelsonlaw5_StanzaJoins.j0 k a0 a1 a2 true (decide ((a1.size : Int) > 2000)))) = some r := by rw [if_pos rfl] at H; exact H
      clear H
      have H := H1
      clear H1
      by_cases c8 : (a0.size : Int) > 2000
      · rw [if_pos c8] at H
        have c8b0 : decide (2000 < (a0.size : Int)) = true := decide_eq_true c8
        have c8b1 : decide (2000 < a0.size) = true := decide_eq_true (by omega)
        clear c8
        (first | rw [c8b0] | (simp only [i64_w, i32_w]; rw [c8b0]) | rw [c8b1] | skip)
        have H' := Aside0.mk H
        clear H
        go_wp2
        go_meet
        case rel => exact ⟨_, (true), (by first | rfl | (simp; done) | (simp [*]; done)), H', ⟨by first | omega | exact Nat.le_refl _⟩, ⟨by repeat (first | (with_reducible first | exact HB.out | apply below_alloc | apply pw_below_drewN | apply below_drew1) | exact HB.out)⟩⟩
      · rw [if_neg c8] at H
        have c8b0 : decide (2000 < (a0.size : Int)) = false := decide_eq_false c8
        have c8b1 : decide (2000 < a0.size) = false := decide_eq_false (by omega)
        clear c8
        (first | rw [c8b0] | (simp only [i64_w, i32_w]; rw [c8b0]) | rw [c8b1] | skip)
        have H' := Aside0.mk H
        clear H
        go_wp2
        go_meet
        case rel => exact ⟨_, (decide ((a1.size : Int) > 2000)), (by first | rfl | (simp; done) | (simp [*]; done)), H', ⟨by first | omega | exact Nat.le_refl _⟩, ⟨by repeat (first | (with_reducible first | exact HB.out | apply below_alloc | apply pw_below_drewN | apply below_drew1) | exact HB.out)⟩⟩
    · replace c7 := Bool.eq_false_iff.mpr c7
      subst c7
      have H1 : (keelsonlaw5_StanzaJoins.j0 k a0 a1 a2 false true) = some r := by rw [if_neg (show ¬ (false = true) by decide)] at H; exact H
      clear H
      have H := H1
      clear H1
      have H' := Aside0.mk H
      clear H
      go_wp2
      go_meet
      case rel => exact ⟨_, (true), (by first | rfl | (simp; done) | (simp [*]; done)), H', ⟨by first | omega | exact Nat.le_refl _⟩, ⟨by repeat (first | (with_reducible first | exact HB.out | apply below_alloc | apply pw_below_drewN | apply below_drew1) | exact HB.out)⟩⟩
  case rest => as_aux_lemma =>
    clear HC5
    try clear p2
    try clear c4
    try clear c7
    try clear c8
    try clear c8b0
    try clear c8b1
    obtain ⟨kq, x30_4, rfl, HA, HJ4, HB⟩ := hcut
    cases kq with
    | zero => exact absurd HA.out (by simp [keelsonlaw5_StanzaJoins.j0])
    | succ kj4 =>
      have H := HA.out
      clear HA
      simp only [keelsonlaw5_StanzaJoins.j0] at H
      by_cases c9 : x30_4 = true
      · subst c9
        have H1 : (some t170) = some r := by rw [if_pos rfl] at H; exact H
        clear H
        have H := H1
        clear H1
        obtain rfl := Option.some.inj H
        go_wp2
        go_ret
        exact ⟨by first | rfl | (simp [errW_none, errW_some] <;> rfl) | (simp [*, errW_none, errW_some] <;> rfl), by repeat (first | (with_reducible first | exact HB.out | apply below_alloc | apply pw_below_drewN | apply below_drew1) | exact HB.out)⟩
      · replace c9 := Bool.eq_false_iff.mpr c9
        subst c9
        have H1 : ((stanza_Parse.f a0).bind fun bt171 => ((stanza_Parse.f a1).bind fun bt176 => (if bt171.2.2 = 0 then (if bt176.2.2 = 0 then (keelsonlaw5_StanzaJoins.j1 kj4 a0 a1 a2 bt171.1 bt176.1 (decide ((wrap64 ((bt171.1.length : Int) + (bt176.1.length : Int))) > 200))) else (keelsonlaw5_StanzaJoins.j1 kj4 a0 a1 a2 bt171.1 bt176.1 true)) else (keelsonlaw5_StanzaJoins.j1 kj4 a0 a1 a2 bt171.1 bt176.1 true)))) = some r := by rw [if_neg (show ¬ (false = true) by decide)] at H; exact H
        clear H
        have H := H1
        clear H1
        replace H := Option.bind_eq_some_iff.mp H
        obtain ⟨⟨t171, t172, t173⟩, A100, H⟩ := H
        replace H : ((stanza_Parse.f a1).bind fun bt176 => (if t173 = 0 then (if bt176.2.2 = 0 then (keelsonlaw5_StanzaJoins.j1 kj4 a0 a1 a2 t171 bt176.1 (decide ((wrap64 ((t171.length : Int) + (bt176.1.length : Int))) > 200))) else (keelsonlaw5_StanzaJoins.j1 kj4 a0 a1 a2 t171 bt176.1 true)) else (keelsonlaw5_StanzaJoins.j1 kj4 a0 a1 a2 t171 bt176.1 true))) = some r := H
        have A10 := Aside0.mk A100
        clear A100
        replace H := Option.bind_eq_some_iff.mp H
        obtain ⟨⟨t176, t177, t178⟩, A110, H⟩ := H
        replace H : (if t173 = 0 then (if t178 = 0 then (keelsonlaw5_StanzaJoins.j1 kj4 a0 a1 a2 t171 t176 (decide ((wrap64 ((t171.length : Int) + (t176.length : Int))) > 200))) else (keelsonlaw5_StanzaJoins.j1 kj4 a0 a1 a2 t171 t176 true)) else (keelsonlaw5_StanzaJoins.j1 kj4 a0 a1 a2 t171 t176 true)) = some r := H
        have A11 := Aside0.mk A110
        clear A110
        have HC12 := Aside0.mk H
        clear H
        go_upto_region 6 with (first | ((with_reducible refine gate_callee (f := 10) rfl ?_); refine goesL_ (some 34) rfl rfl Tryd.func10 (by kernel_rfl) rfl #[.string a0] rfl (by (try simp only [List.map_toArray, List.map_cons, List.map_nil]); first | done | rfl | (simp only [List.length_drop, List.length_take]; rfl)) ?_; (with_reducible refine (stanza_Parse.calls a0 t171 t172 t173 _ ?side1 A10.out).mono ?_); (case side1 => exact HG_maxLen.out.below (by repeat (first | (with_reducible first | exact HB.out | apply below_alloc | apply pw_below_drewN | apply below_drew1) | exact HB.out))); rintro e w13 ⟨v174, rfl, ho0, hb⟩; refine ⟨_, rfl, ?_⟩; have n0_ := Aside0.mk (Kd.N_lower (Kd.N_mono (ok' := fun k_ => True) (Kd.S_N (Kd.S_bound ho0)) (fun k_ hk_ => trivial)) (below_size (by repeat (first | (with_reducible first | exact HB.out | apply below_alloc | apply pw_below_drewN | apply below_drew1) | exact HB.out)))); have n1_ := Aside0.mk (below_step (by repeat (first | (with_reducible first | exact HB.out | apply below_alloc | apply pw_below_drewN | apply below_drew1) | exact HB.out)) hb); clear HB; have HO175 := n0_; have HB := n1_; clear n0_ n1_; (try clear hb); (try clear hb2); (try clear hk); (try clear hi); (try clear ho0)) | ((with_reducible refine gate_callee (f := 10) rfl ?_); refine goesL_ (some 40) rfl rfl Tryd.func10 (by kernel_rfl) rfl #[.string a1] rfl (by (try simp only [List.map_toArray, List.map_cons, List.map_nil]); first | done | rfl | (simp only [List.length_drop, List.length_take]; rfl)) ?_; (with_reducible refine (stanza_Parse.calls a1 t176 t177 t178 _ ?side1 A11.out).mono ?_); (case side1 => exact HG_maxLen.out.below (by repeat (first | (with_reducible first | exact HB.out | apply below_alloc | apply pw_below_drewN | apply below_drew1) | exact HB.out))); rintro e w14 ⟨v179, rfl, ho0, hb⟩; refine ⟨_, rfl, ?_⟩; have n0_ := Aside0.mk (Kd.N_elder' (by (with_reducible repeat (first | apply Kd.N_alloc | apply Kd.N_drewN | apply Kd.N_drew)); exact HO175.out) (Kd.S_base ho0) hb); have n1_ := Aside0.mk (Kd.N_lower (Kd.N_mono (ok' := fun k_ => some k_ ≠ (v174 : Value).ownBlock) (Kd.S_N (Kd.S_bound ho0)) (fun k_ hk_ => (Kd.fresh' (Kd.N_lt (by (with_reducible repeat (first | apply Kd.N_alloc | apply Kd.N_drewN | apply Kd.N_drew)); exact HO175.out)) k_ hk_.2.1))) (below_size (by repeat (first | (with_reducible first | exact HB.out | apply below_alloc | apply pw_below_drewN | apply below_drew1) | exact HB.out)))); have n2_ := Aside0.mk (below_step (by repeat (first | (with_reducible first | exact HB.out | apply below_alloc | apply pw_below_drewN | apply below_drew1) | exact HB.out)) hb); clear HO175; clear HB; have HO175 := n0_; have HO180 := n1_; have HB := n2_; clear n0_ n1_ n2_; (try clear hb); (try clear hb2); (try clear hk); (try clear hi); (try clear ho0)))
        (try simp only [Act.put, List.setIfInBounds_toArray, List.set_cons_zero, List.set_cons_succ])
        go_cut [57] (fun v57 wc => ∃ (kq : Nat) (x57_11 : Bool), v57 = .bool x57_11 ∧ Aside0 (keelsonlaw5_StanzaJoins.j1 kq a0 a1 a2 t171 t176 x57_11 = some r) ∧ Aside0 (kq ≤ kj4) ∧ Aside0 (Kd.N (Kd.slice 49 k49) 36 wc w.heap.size (fun k_ => some k_ ≠ (v179 : Value).ownBlock) v174 t171) ∧ Aside0 (Kd.N (Kd.slice 49 k49) 36 wc w.heap.size (fun k_ => some k_ ≠ (v174 : Value).ownBlock) v179 t176) ∧ Aside0 (Below w.heap.size w wc))
        case first => as_aux_lemma =>
          have H := HC12.out
          clear HC12
          by_cases c15 : t173 = 0
          · rw [if_pos c15] at H
            have c15b0 : (t173 == 0) = true := beq_iff_eq.mpr c15
            have c15b1 : (t173 != 0) = false := bne_eq_false_iff_eq.mpr c15
            clear c15
            (first | rw [c15b0] | (simp only [i64_w, i32_w]; rw [c15b0]) | rw [c15b1] | skip)
            by_cases c16 : t178 = 0
            · rw [if_pos c16] at H
              have c16b0 : (t178 == 0) = true := beq_iff_eq.mpr c16
              have c16b1 : (t178 != 0) = false := bne_eq_false_iff_eq.mpr c16
              clear c16
              have H' := Aside0.mk H
              clear H
              obtain ⟨Ao17, co17, eo17⟩ := Kd.N_slice HO175.out
              subst eo17
              obtain ⟨Ao18, co18, eo18⟩ := Kd.N_slice HO180.out
              subst eo18
              go_wp2
              go_meet
              case rel => exact ⟨_, (decide ((wrap64 ((t171.length : Int) + (t176.length : Int))) > 200)), (by first | rfl | (simp; done) | (simp [*]; done)), H', ⟨by have := HJ4.out; first | omega | exact Nat.le_refl _⟩, ⟨by (with_reducible repeat (first | apply Kd.N_alloc | apply Kd.N_drewN | apply Kd.N_drew)); exact Kd.N_mono HO175.out (fun _ hk => hk.2)⟩, ⟨by (with_reducible repeat (first | apply Kd.N_alloc | apply Kd.N_drewN | apply Kd.N_drew)); exact HO180.out⟩, ⟨by repeat (first | (with_reducible first | exact HB.out | apply below_alloc | apply pw_below_drewN | apply below_drew1) | exact HB.out)⟩⟩
            · rw [if_neg c16] at H
              have c16b0 : (t178 == 0) = false := beq_eq_false_iff_ne.mpr c16
              have c16b1 : (t178 != 0) = true := bne_iff_ne.mpr c16
              have H' := Aside0.mk H
              clear H
              go_wp2
              go_meet
              case rel => exact ⟨_, (true), (by first | rfl | (simp; done) | (simp [*]; done)), H', ⟨by have := HJ4.out; first | omega | exact Nat.le_refl _⟩, ⟨by (with_reducible repeat (first | apply Kd.N_alloc | apply Kd.N_drewN | apply Kd.N_drew)); exact Kd.N_mono HO175.out (fun _ hk => hk.2)⟩, ⟨by (with_reducible repeat (first | apply Kd.N_alloc | apply Kd.N_drewN | apply Kd.N_drew)); exact HO180.out⟩, ⟨by repeat (first | (with_reducible first | exact HB.out | apply below_alloc | apply pw_below_drewN | apply below_drew1) | exact HB.out)⟩⟩
          · rw [if_neg c15] at H
            have c15b0 : (t173 == 0) = false := beq_eq_false_iff_ne.mpr c15
            have c15b1 : (t173 != 0) = true := bne_iff_ne.mpr c15
            (first | rw [c15b0] | (simp only [i64_w, i32_w]; rw [c15b0]) | rw [c15b1] | skip)
            have H' := Aside0.mk H
            clear H
            go_wp2
            go_meet
            case rel => exact ⟨_, (true), (by first | rfl | (simp; done) | (simp [*]; done)), H', ⟨by have := HJ4.out; first | omega | exact Nat.le_refl _⟩, ⟨by (with_reducible repeat (first | apply Kd.N_alloc | apply Kd.N_drewN | apply Kd.N_drew)); exact Kd.N_mono HO175.out (fun _ hk => hk.2)⟩, ⟨by (with_reducible repeat (first | apply Kd.N_alloc | apply Kd.N_drewN | apply Kd.N_drew)); exact HO180.out⟩, ⟨by repeat (first | (with_reducible first | exact HB.out | apply below_alloc | apply pw_below_drewN | apply below_drew1) | exact HB.out)⟩⟩
        case rest => as_aux_lemma =>
          clear HC12
          try clear c1
          try clear p2
          try clear c4
          try clear p6
          try clear c7
          try clear c8
          try clear c8b0
          try clear c8b1
          try clear c9
          try clear c10
          try clear c15
          try clear c15b0
          try clear c15b1
          try clear c16
          try clear c16b0
          try clear c16b1
          try clear p2
          obtain ⟨kq, x57_11, rfl, HA, HJ11, HO_8, HO_11, HB⟩ := hcut
          cases kq with
          | zero => exact absurd HA.out (by simp [keelsonlaw5_StanzaJoins.j1])
          | succ kj11 =>
            have H := HA.out
            clear HA
            simp only [keelsonlaw5_StanzaJoins.j1] at H
            by_cases c19 : x57_11 = true
            · subst c19
              have H1 : (some true) = some r := by rw [if_pos rfl] at H; exact H
              clear H
              have H := H1
              clear H1
              obtain rfl := Option.some.inj H
              go_wp2
              go_ret
              exact ⟨by first | rfl | (simp [errW_none, errW_some] <;> rfl) | (simp [*, errW_none, errW_some] <;> rfl), by repeat (first | (with_reducible first | exact HB.out | apply below_alloc | apply pw_below_drewN | apply below_drew1) | exact HB.out)⟩
            · replace c19 := Bool.eq_false_iff.mpr c19
              subst c19
              have H1 : ((keelsonlaw5_pick.f a2 9).bind fun t181 => (if 0 ≤ t181 then (if t181 ≤ 8 then (if ((⟨#[10, 10, 10, 10, 10, 10, 10, 10]⟩ : ByteArray).extract 0 (t181 : Int).toNat).size + a0.size ≤ 9223372036854775807 then (if (((⟨#[10, 10, 10, 10, 10, 10, 10, 10]⟩ : ByteArray).extract 0 (t181 : Int).toNat) ++ a0).size + 2 ≤ 9223372036854775807 then (if ((((⟨#[10, 10, 10, 10, 10, 10, 10, 10]⟩ : ByteArray).extract 0 (t181 : Int).toNat) ++ a0) ++ (⟨#[10, 10]⟩ : ByteArray)).size + ((⟨#[10, 10, 10, 10, 10, 10, 10, 10]⟩ : ByteArray).extract 0 (t181 : Int).toNat).size ≤ 9223372036854775807 then (if (((((⟨#[10, 10, 10, 10, 10, 10, 10, 10]⟩ : ByteArray).extract 0 (t181 : Int).toNat) ++ a0) ++ (⟨#[10, 10]⟩ : ByteArray)) ++ ((⟨#[10, 10, 10, 10, 10, 10, 10, 10]⟩ : ByteArray).extract 0 (t181 : Int).toNat)).size + a1.size ≤ 9223372036854775807 then (if ((((((⟨#[10, 10, 10, 10, 10, 10, 10, 10]⟩ : ByteArray).extract 0 (t181 : Int).toNat) ++ a0) ++ (⟨#[10, 10]⟩ : ByteArray)) ++ ((⟨#[10, 10, 10, 10, 10, 10, 10, 10]⟩ : ByteArray).extract 0 (t181 : Int).toNat)) ++ a1).size + ((⟨#[10, 10, 10, 10, 10, 10, 10, 10]⟩ : ByteArray).extract 0 (t181 : Int).toNat).size ≤ 9223372036854775807 then ((stanza_Parse.f (((((((⟨#[10, 10, 10, 10, 10, 10, 10, 10]⟩ : ByteArray).extract 0 (t181 : Int).toNat) ++ a0) ++ (⟨#[10, 10]⟩ : ByteArray)) ++ ((⟨#[10, 10, 10, 10, 10, 10, 10, 10]⟩ : ByteArray).extract 0 (t181 : Int).toNat)) ++ a1) ++ ((⟨#[10, 10, 10, 10, 10, 10, 10, 10]⟩ : ByteArray).extract 0 (t181 : Int).toNat))).bind fun bt182 => (if bt182.2.2 = 0 then (if bt182.2.1 = 0 then ((keelsonlaw5_as.f kj11 bt182.1).bind fun t187 => ((some (([] : List (List (S49))) : List (List (S49)))).bind fun y190 => ((keelsonlaw5_as.f kj11 t171).bind fun t193 => (if y190.length + t193.length < 5864062014805 then ((some (y190 ++ t193 : List (List (S49)))).bind fun y196 => ((keelsonlaw5_as.f kj11 t176).bind fun t199 => (if y196.length + t199.length < 5864062014805 then ((keelsonlaw5_same.f kj11 t187 (y196 ++ t199)).bind fun t205 => (some t205)) else (none)))) else (none))))) else (none)) else (none))) else (none)) else (none)) else (none)) else (none)) else (none)) else (none)) else (none))) = some r := by rw [if_neg (show ¬ (false = true) by decide)] at H; exact H
              clear H
              have H := H1
              clear H1
              replace H := Option.bind_eq_some_iff.mp H
              obtain ⟨t181, A200, H⟩ := H
              replace H : (if 0 ≤ t181 then (if t181 ≤ 8 then (if ((⟨#[10, 10, 10, 10, 10, 10, 10, 10]⟩ : ByteArray).extract 0 (t181 : Int).toNat).size + a0.size ≤ 9223372036854775807 then (if (((⟨#[10, 10, 10, 10, 10, 10, 10, 10]⟩ : ByteArray).extract 0 (t181 : Int).toNat) ++ a0).size + 2 ≤ 9223372036854775807 then (if ((((⟨#[10, 10, 10, 10, 10, 10, 10, 10]⟩ : ByteArray).extract 0 (t181 : Int).toNat) ++ a0) ++ (⟨#[10, 10]⟩ : ByteArray)).size + ((⟨#[10, 10, 10, 10, 10, 10, 10, 10]⟩ : ByteArray).extract 0 (t181 : Int).toNat).size ≤ 9223372036854775807 then (if (((((⟨#[10, 10, 10, 10, 10, 10, 10, 10]⟩ : ByteArray).extract 0 (t181 : Int).toNat) ++ a0) ++ (⟨#[10, 10]⟩ : ByteArray)) ++ ((⟨#[10, 10, 10, 10, 10, 10, 10, 10]⟩ : ByteArray).extract 0 (t181 : Int).toNat)).size + a1.size ≤ 9223372036854775807 then (if ((((((⟨#[10, 10, 10, 10, 10, 10, 10, 10]⟩ : ByteArray).extract 0 (t181 : Int).toNat) ++ a0) ++ (⟨#[10, 10]⟩ : ByteArray)) ++ ((⟨#[10, 10, 10, 10, 10, 10, 10, 10]⟩ : ByteArray).extract 0 (t181 : Int).toNat)) ++ a1).size + ((⟨#[10, 10, 10, 10, 10, 10, 10, 10]⟩ : ByteArray).extract 0 (t181 : Int).toNat).size ≤ 9223372036854775807 then ((stanza_Parse.f (((((((⟨#[10, 10, 10, 10, 10, 10, 10, 10]⟩ : ByteArray).extract 0 (t181 : Int).toNat) ++ a0) ++ (⟨#[10, 10]⟩ : ByteArray)) ++ ((⟨#[10, 10, 10, 10, 10, 10, 10, 10]⟩ : ByteArray).extract 0 (t181 : Int).toNat)) ++ a1) ++ ((⟨#[10, 10, 10, 10, 10, 10, 10, 10]⟩ : ByteArray).extract 0 (t181 : Int).toNat))).bind fun bt182 => (if bt182.2.2 = 0 then (if bt182.2.1 = 0 then ((keelsonlaw5_as.f kj11 bt182.1).bind fun t187 => ((some (([] : List (List (S49))) : List (List (S49)))).bind fun y190 => ((keelsonlaw5_as.f kj11 t171).bind fun t193 => (if y190.length + t193.length < 5864062014805 then ((some (y190 ++ t193 : List (List (S49)))).bind fun y196 => ((keelsonlaw5_as.f kj11 t176).bind fun t199 => (if y196.length + t199.length < 5864062014805 then ((keelsonlaw5_same.f kj11 t187 (y196 ++ t199)).bind fun t205 => (some t205)) else (none)))) else (none))))) else (none)) else (none))) else (none)) else (none)) else (none)) else (none)) else (none)) else (none)) else (none)) = some r := H
              have A20 := Aside0.mk A200
              clear A200
              by_cases c21 : 0 ≤ t181
              · rw [if_pos c21] at H
                have c21b0 := eq_true c21
                have c21b1 : decide (0 ≤ t181) = true := decide_eq_true c21
                clear c21
                by_cases c22 : t181 ≤ 8
                · rw [if_pos c22] at H
                  have c22b0 := eq_true c22
                  have c22b1 : decide (t181 ≤ 8) = true := decide_eq_true c22
                  clear c22
                  by_cases c23 : ((⟨#[10, 10, 10, 10, 10, 10, 10, 10]⟩ : ByteArray).extract 0 (t181 : Int).toNat).size + a0.size ≤ 9223372036854775807
                  · rw [if_pos c23] at H
                    have c23b0 := eq_true c23
                    have c23b1 : decide (((⟨#[10, 10, 10, 10, 10, 10, 10, 10]⟩ : ByteArray).extract 0 (t181 : Int).toNat).size + a0.size ≤ 9223372036854775807) = true := decide_eq_true c23
                    try have c23b2 : (9223372036854775807 < ((⟨#[10, 10, 10, 10, 10, 10, 10, 10]⟩ : ByteArray).extract 0 (t181 : Int).toNat).size + a0.size) = False := eq_false (Nat.not_lt.2 c23)
                    by_cases c24 : (((⟨#[10, 10, 10, 10, 10, 10, 10, 10]⟩ : ByteArray).extract 0 (t181 : Int).toNat) ++ a0).size + 2 ≤ 9223372036854775807
                    · rw [if_pos c24] at H
                      have c24b0 := eq_true c24
                      have c24b1 : decide ((((⟨#[10, 10, 10, 10, 10, 10, 10, 10]⟩ : ByteArray).extract 0 (t181 : Int).toNat) ++ a0).size + 2 ≤ 9223372036854775807) = true := decide_eq_true c24
                      try have c24b2 : (9223372036854775807 < (((⟨#[10, 10, 10, 10, 10, 10, 10, 10]⟩ : ByteArray).extract 0 (t181 : Int).toNat) ++ a0).size + 2) = False := eq_false (Nat.not_lt.2 c24)
                      by_cases c25 : ((((⟨#[10, 10, 10, 10, 10, 10, 10, 10]⟩ : ByteArray).extract 0 (t181 : Int).toNat) ++ a0) ++ (⟨#[10, 10]⟩ : ByteArray)).size + ((⟨#[10, 10, 10, 10, 10, 10, 10, 10]⟩ : ByteArray).extract 0 (t181 : Int).toNat).size ≤ 9223372036854775807
                      · rw [if_pos c25] at H
                        have c25b0 := eq_true c25
                        have c25b1 : decide (((((⟨#[10, 10, 10, 10, 10, 10, 10, 10]⟩ : ByteArray).extract 0 (t181 : Int).toNat) ++ a0) ++ (⟨#[10, 10]⟩ : ByteArray)).size + ((⟨#[10, 10, 10, 10, 10, 10, 10, 10]⟩ : ByteArray).extract 0 (t181 : Int).toNat).size ≤ 9223372036854775807) = true := decide_eq_true c25
                        try have c25b2 : (9223372036854775807 < ((((⟨#[10, 10, 10, 10, 10, 10, 10, 10]⟩ : ByteArray).extract 0 (t181 : Int).toNat) ++ a0) ++ (⟨#[10, 10]⟩ : ByteArray)).size + ((⟨#[10, 10, 10, 10, 10, 10, 10, 10]⟩ : ByteArray).extract 0 (t181 : Int).toNat).size) = False := eq_false (Nat.not_lt.2 c25)
                        by_cases c26 : (((((⟨#[10, 10, 10, 10, 10, 10, 10, 10]⟩ : ByteArray).extract 0 (t181 : Int).toNat) ++ a0) ++ (⟨#[10, 10]⟩ : ByteArray)) ++ ((⟨#[10, 10, 10, 10, 10, 10, 10, 10]⟩ : ByteArray).extract 0 (t181 : Int).toNat)).size + a1.size ≤ 9223372036854775807
                        · rw [if_pos c26] at H
                          have c26b0 := eq_true c26
                          have c26b1 : decide ((((((⟨#[10, 10, 10, 10, 10, 10, 10, 10]⟩ : ByteArray).extract 0 (t181 : Int).toNat) ++ a0) ++ (⟨#[10, 10]⟩ : ByteArray)) ++ ((⟨#[10, 10, 10, 10, 10, 10, 10, 10]⟩ : ByteArray).extract 0 (t181 : Int).toNat)).size + a1.size ≤ 9223372036854775807) = true := decide_eq_true c26
                          try have c26b2 : (9223372036854775807 < (((((⟨#[10, 10, 10, 10, 10, 10, 10, 10]⟩ : ByteArray).extract 0 (t181 : Int).toNat) ++ a0) ++ (⟨#[10, 10]⟩ : ByteArray)) ++ ((⟨#[10, 10, 10, 10, 10, 10, 10, 10]⟩ : ByteArray).extract 0 (t181 : Int).toNat)).size + a1.size) = False := eq_false (Nat.not_lt.2 c26)
                          by_cases c27 : ((((((⟨#[10, 10, 10, 10, 10, 10, 10, 10]⟩ : ByteArray).extract 0 (t181 : Int).toNat) ++ a0) ++ (⟨#[10, 10]⟩ : ByteArray)) ++ ((⟨#[10, 10, 10, 10, 10, 10, 10, 10]⟩ : ByteArray).extract 0 (t181 : Int).toNat)) ++ a1).size + ((⟨#[10, 10, 10, 10, 10, 10, 10, 10]⟩ : ByteArray).extract 0 (t181 : Int).toNat).size ≤ 9223372036854775807
                          · rw [if_pos c27] at H
                            have c27b0 := eq_true c27
                            have c27b1 : decide (((((((⟨#[10, 10, 10, 10, 10, 10, 10, 10]⟩ : ByteArray).extract 0 (t181 : Int).toNat) ++ a0) ++ (⟨#[10, 10]⟩ : ByteArray)) ++ ((⟨#[10, 10, 10, 10, 10, 10, 10, 10]⟩ : ByteArray).extract 0 (t181 : Int).toNat)) ++ a1).size + ((⟨#[10, 10, 10, 10, 10, 10, 10, 10]⟩ : ByteArray).extract 0 (t181 : Int).toNat).size ≤ 9223372036854775807) = true := decide_eq_true c27
                            try have c27b2 : (9223372036854775807 < ((((((⟨#[10, 10, 10, 10, 10, 10, 10, 10]⟩ : ByteArray).extract 0 (t181 : Int).toNat) ++ a0) ++ (⟨#[10, 10]⟩ : ByteArray)) ++ ((⟨#[10, 10, 10, 10, 10, 10, 10, 10]⟩ : ByteArray).extract 0 (t181 : Int).toNat)) ++ a1).size + ((⟨#[10, 10, 10, 10, 10, 10, 10, 10]⟩ : ByteArray).extract 0 (t181 : Int).toNat).size) = False := eq_false (Nat.not_lt.2 c27)
                            have hes_ : ((⟨#[10, 10, 10, 10, 10, 10, 10, 10]⟩ : ByteArray).extract 0 (t181 : Int).toNat).size = t181.toNat := by
                              have h8_ : (⟨#[10, 10, 10, 10, 10, 10, 10, 10]⟩ : ByteArray).size = 8 := rfl
                              rw [ByteArray.size_extract, h8_]; have := of_eq_true c22b0; omega
                            have h2_ : (⟨#[10, 10]⟩ : ByteArray).size = 2 := rfl
                            have zc23_ : (9223372036854775807 < t181.toNat + a0.size) = False := eq_false (by have h_ := c23; simp only [ByteArray.size_append, hes_, h2_] at h_; omega)
                            have zc24_ : (9223372036854775807 < t181.toNat + a0.size + 2) = False := eq_false (by have h_ := c24; simp only [ByteArray.size_append, hes_, h2_] at h_; omega)
                            have zc25_ : (9223372036854775807 < t181.toNat + a0.size + 2 + t181.toNat) = False := eq_false (by have h_ := c25; simp only [ByteArray.size_append, hes_, h2_] at h_; omega)
                            have zc26_ : (9223372036854775807 < t181.toNat + a0.size + 2 + t181.toNat + a1.size) = False := eq_false (by have h_ := c26; simp only [ByteArray.size_append, hes_, h2_] at h_; omega)
                            have zc27_ : (9223372036854775807 < t181.toNat + a0.size + 2 + t181.toNat + a1.size + t181.toNat) = False := eq_false (by have h_ := c27; simp only [ByteArray.size_append, hes_, h2_] at h_; omega)
                            clear hes_ h2_
                            replace H := Option.bind_eq_some_iff.mp H
                            obtain ⟨⟨t182, t183, t184⟩, A280, H⟩ := H
                            replace H : (if t184 = 0 then (if t183 = 0 then ((keelsonlaw5_as.f kj11 t182).bind fun t187 => ((some (([] : List (List (S49))) : List (List (S49)))).bind fun y190 => ((keelsonlaw5_as.f kj11 t171).bind fun t193 => (if y190.length + t193.length < 5864062014805 then ((some (y190 ++ t193 : List (List (S49)))).bind fun y196 => ((keelsonlaw5_as.f kj11 t176).bind fun t199 => (if y196.length + t199.length < 5864062014805 then ((keelsonlaw5_same.f kj11 t187 (y196 ++ t199)).bind fun t205 => (some t205)) else (none)))) else (none))))) else (none)) else (none)) = some r := H
                            have A28 := Aside0.mk A280
                            clear A280
                            by_cases c29 : t184 = 0
                            · rw [if_pos c29] at H
                              have c29b0 : (t184 == 0) = true := beq_iff_eq.mpr c29
                              have c29b1 : (t184 != 0) = false := bne_eq_false_iff_eq.mpr c29
                              clear c29
                              by_cases c30 : t183 = 0
                              · rw [if_pos c30] at H
                                have c30b0 : (t183 == 0) = true := beq_iff_eq.mpr c30
                                have c30b1 : (t183 != 0) = false := bne_eq_false_iff_eq.mpr c30
                                clear c30
                                replace H := Option.bind_eq_some_iff.mp H
                                obtain ⟨t187, A310, H⟩ := H
                                replace H : ((some (([] : List (List (S49))) : List (List (S49)))).bind fun y190 => ((keelsonlaw5_as.f kj11 t171).bind fun t193 => (if y190.length + t193.length < 5864062014805 then ((some (y190 ++ t193 : List (List (S49)))).bind fun y196 => ((keelsonlaw5_as.f kj11 t176).bind fun t199 => (if y196.length + t199.length < 5864062014805 then ((keelsonlaw5_same.f kj11 t187 (y196 ++ t199)).bind fun t205 => (some t205)) else (none)))) else (none)))) = some r := H
                                have A31 := Aside0.mk A310
                                clear A310
                                obtain ⟨y190, hy190⟩ : ∃ y_ : List (List (S49)), y_ = (([] : List (List (S49)))) := ⟨_, rfl⟩
                                replace H : ((keelsonlaw5_as.f kj11 t171).bind fun t193 => (if y190.length + t193.length < 5864062014805 then ((some (y190 ++ t193 : List (List (S49)))).bind fun y196 => ((keelsonlaw5_as.f kj11 t176).bind fun t199 => (if y196.length + t199.length < 5864062014805 then ((keelsonlaw5_same.f kj11 t187 (y196 ++ t199)).bind fun t205 => (some t205)) else (none)))) else (none))) = some r := by first | (rw [hy190]; with_reducible exact H) | (have H2_ := (Option.bind_some _ _).symm.trans H; rw [hy190]; with_reducible exact H2_) | (have H2_ := (Option.bind_some _ _).symm.trans H; with_reducible exact H2_) | with_reducible exact H | (rw [hy190]; exact H) | exact H
                                have Ny190 := Aside0.mk hy190
                                clear hy190
                                replace H := Option.bind_eq_some_iff.mp H
                                obtain ⟨t193, A320, H⟩ := H
                                replace H : (if y190.length + t193.length < 5864062014805 then ((some (y190 ++ t193 : List (List (S49)))).bind fun y196 => ((keelsonlaw5_as.f kj11 t176).bind fun t199 => (if y196.length + t199.length < 5864062014805 then ((keelsonlaw5_same.f kj11 t187 (y196 ++ t199)).bind fun t205 => (some t205)) else (none)))) else (none)) = some r := H
                                have A32 := Aside0.mk A320
                                clear A320
                                by_cases c33 : y190.length + t193.length < 5864062014805
                                · rw [if_pos c33] at H
                                  have LMc33 := Aside0.mk c33
                                  clear c33
                                  obtain ⟨y196, hy196⟩ : ∃ y_ : List (List (S49)), y_ = (y190 ++ t193) := ⟨_, rfl⟩
                                  replace H : ((keelsonlaw5_as.f kj11 t176).bind fun t199 => (if y196.length + t199.length < 5864062014805 then ((keelsonlaw5_same.f kj11 t187 (y196 ++ t199)).bind fun t205 => (some t205)) else (none))) = some r := by first | (rw [hy196]; with_reducible exact H) | (have H2_ := (Option.bind_some _ _).symm.trans H; rw [hy196]; with_reducible exact H2_) | (have H2_ := (Option.bind_some _ _).symm.trans H; with_reducible exact H2_) | with_reducible exact H | (rw [hy196]; exact H) | exact H
                                  have Ny196 := Aside0.mk hy196
                                  clear hy196
                                  replace H := Option.bind_eq_some_iff.mp H
                                  obtain ⟨t199, A340, H⟩ := H
                                  replace H : (if y196.length + t199.length < 5864062014805 then ((keelsonlaw5_same.f kj11 t187 (y196 ++ t199)).bind fun t205 => (some t205)) else (none)) = some r := H
                                  have A34 := Aside0.mk A340
                                  clear A340
                                  by_cases c35 : y196.length + t199.length < 5864062014805
                                  · rw [if_pos c35] at H
                                    have LMc35 := Aside0.mk c35
                                    clear c35
                                    obtain ⟨y202, hy202⟩ : ∃ y_ : List (List (S49)), y_ = (y196 ++ t199) := ⟨_, rfl⟩
                                    replace H : ((keelsonlaw5_same.f kj11 t187 y202).bind fun t205 => (some t205)) = some r := by first | (rw [hy202]; with_reducible exact H) | (have H2_ := (Option.bind_some _ _).symm.trans H; rw [hy202]; with_reducible exact H2_) | (have H2_ := (Option.bind_some _ _).symm.trans H; with_reducible exact H2_) | with_reducible exact H | (rw [hy202]; exact H) | exact H
                                    have Ny202 := Aside0.mk hy202
                                    clear hy202
                                    replace H := Option.bind_eq_some_iff.mp H
                                    obtain ⟨t205, A360, H⟩ := H
                                    replace H : (some t205) = some r := H
                                    have A36 := Aside0.mk A360
                                    clear A360
                                    obtain rfl := Option.some.inj H
                                    go_wp2_with (first | ((with_reducible refine gate_callee (f := 14) rfl ?_); refine goesL_ (some 59) rfl rfl Tryd.func14 (by kernel_rfl) rfl #[.int .i64 a2, .int .i64 9] rfl (by (try simp only [List.map_toArray, List.map_cons, List.map_nil]); first | done | rfl | (simp only [List.length_drop, List.length_take]; rfl)) ?_; (with_reducible refine (keelsonlaw5_pick.calls a2 9 t181 _ A20.out).mono ?_); rintro e w' ⟨rfl, ⟨nd, rfl⟩⟩; refine ⟨_, rfl, ?_⟩) | ((with_reducible refine gate_callee (f := 10) rfl ?_); refine goesL_ (some 72) rfl rfl Tryd.func10 (by kernel_rfl) rfl #[.string (((((((⟨#[10, 10, 10, 10, 10, 10, 10, 10]⟩ : ByteArray).extract 0 (t181 : Int).toNat) ++ a0) ++ (⟨#[10, 10]⟩ : ByteArray)) ++ ((⟨#[10, 10, 10, 10, 10, 10, 10, 10]⟩ : ByteArray).extract 0 (t181 : Int).toNat)) ++ a1) ++ ((⟨#[10, 10, 10, 10, 10, 10, 10, 10]⟩ : ByteArray).extract 0 (t181 : Int).toNat))] rfl (by (try simp only [List.map_toArray, List.map_cons, List.map_nil]); first | done | rfl | (simp only [List.length_drop, List.length_take]; rfl)) ?_; (with_reducible refine (stanza_Parse.calls (((((((⟨#[10, 10, 10, 10, 10, 10, 10, 10]⟩ : ByteArray).extract 0 (t181 : Int).toNat) ++ a0) ++ (⟨#[10, 10]⟩ : ByteArray)) ++ ((⟨#[10, 10, 10, 10, 10, 10, 10, 10]⟩ : ByteArray).extract 0 (t181 : Int).toNat)) ++ a1) ++ ((⟨#[10, 10, 10, 10, 10, 10, 10, 10]⟩ : ByteArray).extract 0 (t181 : Int).toNat)) t182 t183 t184 _ ?side1 A28.out).mono ?_); (case side1 => exact HG_maxLen.out.below (by repeat (first | (with_reducible first | exact HB.out | apply below_alloc | apply pw_below_drewN | apply below_drew1) | exact HB.out))); rintro e w37 ⟨v185, rfl, ho0, hb⟩; refine ⟨_, rfl, ?_⟩; have n0_ := Aside0.mk (Kd.N_elder' (by (with_reducible repeat (first | apply Kd.N_alloc | apply Kd.N_drewN | apply Kd.N_drew)); exact HO_8.out) (Kd.S_base ho0) hb); have n1_ := Aside0.mk (Kd.N_elder' (by (with_reducible repeat (first | apply Kd.N_alloc | apply Kd.N_drewN | apply Kd.N_drew)); exact HO_11.out) (Kd.S_base ho0) hb); have n2_ := Aside0.mk (Kd.N_lower (Kd.N_mono (ok' := fun k_ => some k_ ≠ (v174 : Value).ownBlock ∧ some k_ ≠ (v179 : Value).ownBlock) (Kd.S_N (Kd.S_bound ho0)) (fun k_ hk_ => ⟨(Kd.fresh' (Kd.N_lt (by (with_reducible repeat (first | apply Kd.N_alloc | apply Kd.N_drewN | apply Kd.N_drew)); exact HO_8.out)) k_ hk_.2.1), (Kd.fresh' (Kd.N_lt (by (with_reducible repeat (first | apply Kd.N_alloc | apply Kd.N_drewN | apply Kd.N_drew)); exact HO_11.out)) k_ hk_.2.1)⟩)) (below_size (by repeat (first | (with_reducible first | exact HB.out | apply below_alloc | apply pw_below_drewN | apply below_drew1) | exact HB.out)))); have n3_ := Aside0.mk (below_step (by repeat (first | (with_reducible first | exact HB.out | apply below_alloc | apply pw_below_drewN | apply below_drew1) | exact HB.out)) hb); clear HO_8; clear HO_11; clear HB; have HO_8 := n0_; have HO_11 := n1_; have HO186 := n2_; have HB := n3_; clear n0_ n1_ n2_ n3_; (try clear hb); (try clear hb2); (try clear hk); (try clear hi); (try clear ho0); obtain ⟨Ao38, co38, eo38⟩ := Kd.N_slice HO186.out; subst eo38) | (go_at_call 13; (with_reducible refine (keelsonlaw5_as.calls kj11 (fun k_ => (some k_ ≠ (v174 : Value).ownBlock ∧ some k_ ≠ (v179 : Value).ownBlock)) _ _ t182 t187 _ ?side1 A31.out).mono ?_); (case side1 => exact Kd.N_V (HO186.out)); rintro e w39 ⟨v188, rfl, ho0, hb⟩; have n0_ := Aside0.mk (Kd.N_elder' (by (with_reducible repeat (first | apply Kd.N_alloc | apply Kd.N_drewN | apply Kd.N_drew)); exact HO_8.out) (Kd.N_base ho0) hb); have n1_ := Aside0.mk (Kd.N_elder' (by (with_reducible repeat (first | apply Kd.N_alloc | apply Kd.N_drewN | apply Kd.N_drew)); exact HO_11.out) (Kd.N_base ho0) hb); have n2_ := Aside0.mk (Kd.N_elder' (by (with_reducible repeat (first | apply Kd.N_alloc | apply Kd.N_drewN | apply Kd.N_drew)); exact HO186.out) (Kd.N_base ho0) hb); have n3_ := Aside0.mk (Kd.N_lower (Kd.N_mono (ok' := fun k_ => some k_ ≠ (v174 : Value).ownBlock ∧ some k_ ≠ (v179 : Value).ownBlock) ho0 (fun k_ hk_ => ⟨Or.elim hk_ (fun hs_ => hs_.1) (fun hn_ => (Kd.fresh' (Kd.N_lt (by (with_reducible repeat (first | apply Kd.N_alloc | apply Kd.N_drewN | apply Kd.N_drew)); exact HO_8.out)) k_ hn_)), Or.elim hk_ (fun hs_ => hs_.2) (fun hn_ => (Kd.fresh' (Kd.N_lt (by (with_reducible repeat (first | apply Kd.N_alloc | apply Kd.N_drewN | apply Kd.N_drew)); exact HO_11.out)) k_ hn_))⟩)) (below_size (by repeat (first | (with_reducible first | exact HB.out | apply below_alloc | apply pw_below_drewN | apply below_drew1) | exact HB.out)))); have n4_ := Aside0.mk (below_step (by repeat (first | (with_reducible first | exact HB.out | apply below_alloc | apply pw_below_drewN | apply below_drew1) | exact HB.out)) hb); clear HO_8; clear HO_11; clear HO186; clear HB; have HO_8 := n0_; have HO_11 := n1_; have HO186 := n2_; have HO189 := n3_; have HB := n4_; clear n0_ n1_ n2_ n3_ n4_; (try clear hb); (try clear hb2); (try clear hk); (try clear hi); (try clear ho0)) | ((with_reducible refine gate_dst (N := 85) rfl ?_); (try (refine gate_guard (by rfl) ?_; dsimp only)); refine Kd.N_lit (Kd.slice 49 k49) _ 35 ?hg (N' := 85) ?hd (xs := ([] : List (List (S49)))) (inner := []) (ok := (fun k_ => some k_ ≠ (v174 : Value).ownBlock ∧ some k_ ≠ (v179 : Value).ownBlock ∧ some k_ ≠ (.slice Ao38 t182.length co38 : Value).ownBlock ∧ some k_ ≠ (v188 : Value).ownBlock)) (okp := (fun k_ => some k_ ≠ (v174 : Value).ownBlock ∧ some k_ ≠ (v179 : Value).ownBlock ∧ some k_ ≠ (.slice Ao38 t182.length co38 : Value).ownBlock ∧ some k_ ≠ (v188 : Value).ownBlock)) ?hr ?hp (fun _ hk => hk) ((show ∀ k_, w39.heap.size ≤ k_ → (fun k_ => some k_ ≠ (v174 : Value).ownBlock ∧ some k_ ≠ (v179 : Value).ownBlock ∧ some k_ ≠ (.slice Ao38 t182.length co38 : Value).ownBlock ∧ some k_ ≠ (v188 : Value).ownBlock) k_ from fun k_ hk => ⟨Kd.fresh' (Kd.N_lt (by (with_reducible repeat (first | apply Kd.N_alloc | apply Kd.N_drewN | apply Kd.N_drew)); exact HO_8.out)) k_ hk, Kd.fresh' (Kd.N_lt (by (with_reducible repeat (first | apply Kd.N_alloc | apply Kd.N_drewN | apply Kd.N_drew)); exact HO_11.out)) k_ hk, Kd.fresh' (Kd.N_lt (by (with_reducible repeat (first | apply Kd.N_alloc | apply Kd.N_drewN | apply Kd.N_drew)); exact HO186.out)) k_ hk, Kd.fresh' (Kd.N_lt (by (with_reducible repeat (first | apply Kd.N_alloc | apply Kd.N_drewN | apply Kd.N_drew)); exact HO189.out)) k_ hk⟩) _ (Nat.le_refl _)) (Below.refl _ _) (Nat.le_refl _) (by simp) ?_; (case hd => rfl); (case hg => rfl); (case hr => first | (go_simp; done) | (go_simp; rfl)); (case hp => exact (Reps.none _ _)); intro v191 w40 ho41 hb hg_ hnew_; clear hg_ hnew_; (first | rw [← Ny190.out] at ho41 | (simp only [Int.reduceToNat] at ho41; rw [← Ny190.out] at ho41)); have n0_ := Aside0.mk (Kd.N_elder' (by (with_reducible repeat (first | apply Kd.N_alloc | apply Kd.N_drewN | apply Kd.N_drew)); exact HO_8.out) (Kd.N_base ho41) hb); have n1_ := Aside0.mk (Kd.N_elder' (by (with_reducible repeat (first | apply Kd.N_alloc | apply Kd.N_drewN | apply Kd.N_drew)); exact HO_11.out) (Kd.N_base ho41) hb); have n2_ := Aside0.mk (Kd.N_elder' (by (with_reducible repeat (first | apply Kd.N_alloc | apply Kd.N_drewN | apply Kd.N_drew)); exact HO186.out) (Kd.N_base ho41) hb); have n3_ := Aside0.mk (Kd.N_elder' (by (with_reducible repeat (first | apply Kd.N_alloc | apply Kd.N_drewN | apply Kd.N_drew)); exact HO189.out) (Kd.N_base ho41) hb); have n4_ := Aside0.mk (Kd.N_lower ho41 (below_size (by repeat (first | (with_reducible first | exact HB.out | apply below_alloc | apply pw_below_drewN | apply below_drew1) | exact HB.out)))); have n5_ := Aside0.mk (below_step (by repeat (first | (with_reducible first | exact HB.out | apply below_alloc | apply pw_below_drewN | apply below_drew1) | exact HB.out)) hb); clear HO_8; clear HO_11; clear HO186; clear HO189; clear HB; have HO_8 := n0_; have HO_11 := n1_; have HO186 := n2_; have HO189 := n3_; have HO192 := n4_; have HB := n5_; clear n0_ n1_ n2_ n3_ n4_ n5_; clear hb ho41; obtain ⟨Ao42, co42, eo42⟩ := Kd.N_slice HO_8.out; subst eo42) | (go_at_call 13; (with_reducible refine (keelsonlaw5_as.calls kj11 (fun k_ => (((some k_ ≠ (v179 : Value).ownBlock ∧ some k_ ≠ (.slice Ao38 t182.length co38 : Value).ownBlock) ∧ some k_ ≠ (v188 : Value).ownBlock) ∧ some k_ ≠ (v191 : Value).ownBlock)) _ _ t171 t193 _ ?side1 A32.out).mono ?_); (case side1 => exact Kd.N_V (HO_8.out)); rintro e w43 ⟨v194, rfl, ho0, hb⟩; have n0_ := Aside0.mk (Kd.N_elder' (by (with_reducible repeat (first | apply Kd.N_alloc | apply Kd.N_drewN | apply Kd.N_drew)); exact HO_8.out) (Kd.N_base ho0) hb); have n1_ := Aside0.mk (Kd.N_elder' (by (with_reducible repeat (first | apply Kd.N_alloc | apply Kd.N_drewN | apply Kd.N_drew)); exact HO_11.out) (Kd.N_base ho0) hb); have n2_ := Aside0.mk (Kd.N_elder' (by (with_reducible repeat (first | apply Kd.N_alloc | apply Kd.N_drewN | apply Kd.N_drew)); exact HO186.out) (Kd.N_base ho0) hb); have n3_ := Aside0.mk (Kd.N_elder' (by (with_reducible repeat (first | apply Kd.N_alloc | apply Kd.N_drewN | apply Kd.N_drew)); exact HO189.out) (Kd.N_base ho0) hb); have n4_ := Aside0.mk (Kd.N_elder' (by (with_reducible repeat (first | apply Kd.N_alloc | apply Kd.N_drewN | apply Kd.N_drew)); exact HO192.out) (Kd.N_base ho0) hb); have n5_ := Aside0.mk (Kd.N_lower (Kd.N_mono (ok' := fun k_ => some k_ ≠ (v179 : Value).ownBlock ∧ some k_ ≠ (.slice Ao38 t182.length co38 : Value).ownBlock ∧ some k_ ≠ (v188 : Value).ownBlock ∧ some k_ ≠ (v191 : Value).ownBlock) ho0 (fun k_ hk_ => ⟨Or.elim hk_ (fun hs_ => hs_.1.1.1) (fun hn_ => (Kd.fresh' (Kd.N_lt (by (with_reducible repeat (first | apply Kd.N_alloc | apply Kd.N_drewN | apply Kd.N_drew)); exact HO_11.out)) k_ hn_)), Or.elim hk_ (fun hs_ => hs_.1.1.2) (fun hn_ => (Kd.fresh' (Kd.N_lt (by (with_reducible repeat (first | apply Kd.N_alloc | apply Kd.N_drewN | apply Kd.N_drew)); exact HO186.out)) k_ hn_)), Or.elim hk_ (fun hs_ => hs_.1.2) (fun hn_ => (Kd.fresh' (Kd.N_lt (by (with_reducible repeat (first | apply Kd.N_alloc | apply Kd.N_drewN | apply Kd.N_drew)); exact HO189.out)) k_ hn_)), Or.elim hk_ (fun hs_ => hs_.2) (fun hn_ => (Kd.fresh' (Kd.N_lt (by (with_reducible repeat (first | apply Kd.N_alloc | apply Kd.N_drewN | apply Kd.N_drew)); exact HO192.out)) k_ hn_))⟩)) (below_size (by repeat (first | (with_reducible first | exact HB.out | apply below_alloc | apply pw_below_drewN | apply below_drew1) | exact HB.out)))); have n6_ := Aside0.mk (below_step (by repeat (first | (with_reducible first | exact HB.out | apply below_alloc | apply pw_below_drewN | apply below_drew1) | exact HB.out)) hb); clear HO_8; clear HO_11; clear HO186; clear HO189; clear HO192; clear HB; have HO_8 := n0_; have HO_11 := n1_; have HO186 := n2_; have HO189 := n3_; have HO192 := n4_; have HO195 := n5_; have HB := n6_; clear n0_ n1_ n2_ n3_ n4_ n5_ n6_; (try clear hb); (try clear hb2); (try clear hk); (try clear hi); (try clear ho0); obtain ⟨Ao45, co45, eo45⟩ := Kd.N_slice HO195.out; subst eo45) | ((with_reducible refine gate_builtin (b := .append) (xs := #[.tmp 85, .tmp 87]) rfl ?_); (try (refine gate_guard (by rfl) ?_; dsimp only)); at_builtin; refine Kd.N_append_rows (Kd.slice 49 k49) (w0 := w) w.heap.size rfl (.tmp 85) (.tmp 87) 27 35 (.slice none 0 0) 24 rfl Tryd.underlying27 info35 rfl (by decide) (by omega) v191 y190 t193 _ _ _ (fun k_ => some k_ ≠ (v179 : Value).ownBlock ∧ some k_ ≠ (.slice Ao38 t182.length co38 : Value).ownBlock ∧ some k_ ≠ (v188 : Value).ownBlock) (fun k_ => ((fun k_ => some k_ ≠ (v179 : Value).ownBlock ∧ some k_ ≠ (.slice Ao38 t182.length co38 : Value).ownBlock ∧ some k_ ≠ (v188 : Value).ownBlock)) k_ ∧ some k_ ≠ (v191 : Value).ownBlock) rfl rfl ?aO ?aR (fun _ hk => hk) ?aF ?aB ?aS ?aL ?_; (case aR => exact (by skip; exact Kd.N_F (Kd.N_mono (ok' := (fun k_ => ((fun k_ => some k_ ≠ (v179 : Value).ownBlock ∧ some k_ ≠ (.slice Ao38 t182.length co38 : Value).ownBlock ∧ some k_ ≠ (v188 : Value).ownBlock)) k_ ∧ some k_ ≠ (v191 : Value).ownBlock)) (HO195.out) (fun k_ hk => ⟨⟨hk.1, ⟨hk.2.1, hk.2.2.1⟩⟩, hk.2.2.2⟩)))); (case aB => exact (by repeat (first | (with_reducible first | exact HB.out | apply below_alloc | apply pw_below_drewN | apply below_drew1) | exact HB.out))); (case aF => exact (fun k_ hk => ⟨Kd.fresh' (Kd.N_lt (by (with_reducible repeat (first | apply Kd.N_alloc | apply Kd.N_drewN | apply Kd.N_drew)); exact HO_11.out)) k_ hk, Kd.fresh' (Kd.N_lt (by (with_reducible repeat (first | apply Kd.N_alloc | apply Kd.N_drewN | apply Kd.N_drew)); exact HO186.out)) k_ hk, Kd.fresh' (Kd.N_lt (by (with_reducible repeat (first | apply Kd.N_alloc | apply Kd.N_drewN | apply Kd.N_drew)); exact HO189.out)) k_ hk⟩)); (case aO => exact (by (with_reducible repeat (first | apply Kd.N_alloc | apply Kd.N_drewN | apply Kd.N_drew)); exact Kd.N_mono HO192.out (fun _ hk => ⟨hk.1.2.1, ⟨hk.1.2.2.1, hk.1.2.2.2⟩⟩))); (case aS => exact (below_size (by repeat (first | (with_reducible first | exact HB.out | apply below_alloc | apply pw_below_drewN | apply below_drew1) | exact HB.out)))); (case aL => have := LMc33.out; omega); intro v197 w44 ho hb hg hat; rw [← Ny196.out] at ho; have n0_ := Aside0.mk (Kd.N_afterv (ok := (fun k_ => some k_ ≠ (v179 : Value).ownBlock ∧ some k_ ≠ (.slice Ao38 t182.length co38 : Value).ownBlock ∧ some k_ ≠ (v188 : Value).ownBlock ∧ some k_ ≠ (.slice Ao45 t193.length co45 : Value).ownBlock)) (by (with_reducible repeat (first | apply Kd.N_alloc | apply Kd.N_drewN | apply Kd.N_drew)); exact Kd.N_mono HO_8.out (fun _ hk => ⟨⟨hk.1.1.1.1, ⟨hk.1.1.1.2, ⟨hk.1.1.2, hk.2⟩⟩⟩, hk.1.2⟩)) hg hat); have n1_ := Aside0.mk (Kd.N_afterv (ok := (fun k_ => some k_ ≠ (.slice Ao42 t171.length co42 : Value).ownBlock ∧ some k_ ≠ (.slice Ao38 t182.length co38 : Value).ownBlock ∧ some k_ ≠ (v188 : Value).ownBlock ∧ some k_ ≠ (.slice Ao45 t193.length co45 : Value).ownBlock)) (by (with_reducible repeat (first | apply Kd.N_alloc | apply Kd.N_drewN | apply Kd.N_drew)); exact Kd.N_mono HO_11.out (fun _ hk => ⟨⟨hk.1.1.1.1, ⟨hk.1.1.1.2, ⟨hk.1.1.2, hk.2⟩⟩⟩, hk.1.2⟩)) hg hat); have n2_ := Aside0.mk (Kd.N_afterv (ok := (fun k_ => some k_ ≠ (.slice Ao42 t171.length co42 : Value).ownBlock ∧ some k_ ≠ (v179 : Value).ownBlock ∧ some k_ ≠ (v188 : Value).ownBlock ∧ some k_ ≠ (.slice Ao45 t193.length co45 : Value).ownBlock)) (by (with_reducible repeat (first | apply Kd.N_alloc | apply Kd.N_drewN | apply Kd.N_drew)); exact Kd.N_mono HO186.out (fun _ hk => ⟨⟨hk.1.1.1.1, ⟨hk.1.1.1.2, ⟨hk.1.1.2, hk.2⟩⟩⟩, hk.1.2⟩)) hg hat); have n3_ := Aside0.mk (Kd.N_afterv (ok := (fun k_ => some k_ ≠ (.slice Ao42 t171.length co42 : Value).ownBlock ∧ some k_ ≠ (v179 : Value).ownBlock ∧ some k_ ≠ (.slice Ao45 t193.length co45 : Value).ownBlock)) (by (with_reducible repeat (first | apply Kd.N_alloc | apply Kd.N_drewN | apply Kd.N_drew)); exact Kd.N_mono HO189.out (fun _ hk => ⟨⟨hk.1.1.1, ⟨hk.1.1.2, hk.2⟩⟩, hk.1.2⟩)) hg hat); have n4_ := Aside0.mk (Kd.N_afterv (ok := (fun k_ => some k_ ≠ (v179 : Value).ownBlock ∧ some k_ ≠ (.slice Ao38 t182.length co38 : Value).ownBlock ∧ some k_ ≠ (v188 : Value).ownBlock)) (by (with_reducible repeat (first | apply Kd.N_alloc | apply Kd.N_drewN | apply Kd.N_drew)); exact Kd.N_mono HO195.out (fun _ hk => ⟨⟨hk.1, ⟨hk.2.1, hk.2.2.1⟩⟩, hk.2.2.2⟩)) hg hat); have n5_ := Aside0.mk (hb); have n6_ := Aside0.mk (ho); clear HO_8; clear HO_11; clear HO186; clear HO189; clear HO195; clear HB; clear HO192; have HO_8 := n0_; have HO_11 := n1_; have HO186 := n2_; have HO189 := n3_; have HO195 := n4_; have HB := n5_; have HO198 := n6_; clear n0_ n1_ n2_ n3_ n4_ n5_ n6_; clear ho hb hg hat; obtain ⟨Ao46, co46, eo46⟩ := Kd.N_slice HO_11.out; subst eo46) | (go_at_call 13; (with_reducible refine (keelsonlaw5_as.calls kj11 (fun k_ => ((some k_ ≠ (.slice Ao42 t171.length co42 : Value).ownBlock ∧ (some k_ ≠ (.slice Ao38 t182.length co38 : Value).ownBlock ∧ (some k_ ≠ (v188 : Value).ownBlock ∧ some k_ ≠ (.slice Ao45 t193.length co45 : Value).ownBlock))) ∧ some k_ ≠ (v197 : Value).ownBlock)) _ _ t176 t199 _ ?side1 A34.out).mono ?_); (case side1 => exact Kd.N_V (HO_11.out)); rintro e w47 ⟨v200, rfl, ho0, hb⟩; have n0_ := Aside0.mk (Kd.N_elder' (by (with_reducible repeat (first | apply Kd.N_alloc | apply Kd.N_drewN | apply Kd.N_drew)); exact HO_8.out) (Kd.N_base ho0) hb); have n1_ := Aside0.mk (Kd.N_elder' (by (with_reducible repeat (first | apply Kd.N_alloc | apply Kd.N_drewN | apply Kd.N_drew)); exact HO_11.out) (Kd.N_base ho0) hb); have n2_ := Aside0.mk (Kd.N_elder' (by (with_reducible repeat (first | apply Kd.N_alloc | apply Kd.N_drewN | apply Kd.N_drew)); exact HO186.out) (Kd.N_base ho0) hb); have n3_ := Aside0.mk (Kd.N_elder' (by (with_reducible repeat (first | apply Kd.N_alloc | apply Kd.N_drewN | apply Kd.N_drew)); exact HO189.out) (Kd.N_base ho0) hb); have n4_ := Aside0.mk (Kd.N_elder' (by (with_reducible repeat (first | apply Kd.N_alloc | apply Kd.N_drewN | apply Kd.N_drew)); exact HO195.out) (Kd.N_base ho0) hb); have n5_ := Aside0.mk (Kd.N_elder' (by (with_reducible repeat (first | apply Kd.N_alloc | apply Kd.N_drewN | apply Kd.N_drew)); exact HO198.out) (Kd.N_base ho0) hb); have n6_ := Aside0.mk (Kd.N_lower (Kd.N_mono (ok' := fun k_ => some k_ ≠ (.slice Ao42 t171.length co42 : Value).ownBlock ∧ some k_ ≠ (.slice Ao38 t182.length co38 : Value).ownBlock ∧ some k_ ≠ (v188 : Value).ownBlock ∧ some k_ ≠ (.slice Ao45 t193.length co45 : Value).ownBlock ∧ some k_ ≠ (v197 : Value).ownBlock) ho0 (fun k_ hk_ => ⟨Or.elim hk_ (fun hs_ => hs_.1.1) (fun hn_ => (Kd.fresh' (Kd.N_lt (by (with_reducible repeat (first | apply Kd.N_alloc | apply Kd.N_drewN | apply Kd.N_drew)); exact HO_8.out)) k_ hn_)), Or.elim hk_ (fun hs_ => hs_.1.2.1) (fun hn_ => (Kd.fresh' (Kd.N_lt (by (with_reducible repeat (first | apply Kd.N_alloc | apply Kd.N_drewN | apply Kd.N_drew)); exact HO186.out)) k_ hn_)), Or.elim hk_ (fun hs_ => hs_.1.2.2.1) (fun hn_ => (Kd.fresh' (Kd.N_lt (by (with_reducible repeat (first | apply Kd.N_alloc | apply Kd.N_drewN | apply Kd.N_drew)); exact HO189.out)) k_ hn_)), Or.elim hk_ (fun hs_ => hs_.1.2.2.2) (fun hn_ => (Kd.fresh' (Kd.N_lt (by (with_reducible repeat (first | apply Kd.N_alloc | apply Kd.N_drewN | apply Kd.N_drew)); exact HO195.out)) k_ hn_)), Or.elim hk_ (fun hs_ => hs_.2) (fun hn_ => (Kd.fresh' (Kd.N_lt (by (with_reducible repeat (first | apply Kd.N_alloc | apply Kd.N_drewN | apply Kd.N_drew)); exact HO198.out)) k_ hn_))⟩)) (below_size (by repeat (first | (with_reducible first | exact HB.out | apply below_alloc | apply pw_below_drewN | apply below_drew1) | exact HB.out)))); have n7_ := Aside0.mk (below_step (by repeat (first | (with_reducible first | exact HB.out | apply below_alloc | apply pw_below_drewN | apply below_drew1) | exact HB.out)) hb); clear HO_8; clear HO_11; clear HO186; clear HO189; clear HO195; clear HO198; clear HB; have HO_8 := n0_; have HO_11 := n1_; have HO186 := n2_; have HO189 := n3_; have HO195 := n4_; have HO198 := n5_; have HO201 := n6_; have HB := n7_; clear n0_ n1_ n2_ n3_ n4_ n5_ n6_ n7_; (try clear hb); (try clear hb2); (try clear hk); (try clear hi); (try clear ho0); obtain ⟨Ao49, co49, eo49⟩ := Kd.N_slice HO201.out; subst eo49) | ((with_reducible refine gate_builtin (b := .append) (xs := #[.tmp 88, .tmp 90]) rfl ?_); (try (refine gate_guard (by rfl) ?_; dsimp only)); at_builtin; refine Kd.N_append_rows (Kd.slice 49 k49) (w0 := w) w.heap.size rfl (.tmp 88) (.tmp 90) 27 35 (.slice none 0 0) 24 rfl Tryd.underlying27 info35 rfl (by decide) (by omega) v197 y196 t199 _ _ _ (fun k_ => some k_ ≠ (.slice Ao38 t182.length co38 : Value).ownBlock ∧ some k_ ≠ (v188 : Value).ownBlock) (fun k_ => ((fun k_ => some k_ ≠ (.slice Ao38 t182.length co38 : Value).ownBlock ∧ some k_ ≠ (v188 : Value).ownBlock)) k_ ∧ some k_ ≠ (v197 : Value).ownBlock) rfl rfl ?aO ?aR (fun _ hk => hk) ?aF ?aB ?aS ?aL ?_; (case aR => exact (by skip; exact Kd.N_F (Kd.N_mono (ok' := (fun k_ => ((fun k_ => some k_ ≠ (.slice Ao38 t182.length co38 : Value).ownBlock ∧ some k_ ≠ (v188 : Value).ownBlock)) k_ ∧ some k_ ≠ (v197 : Value).ownBlock)) (HO201.out) (fun k_ hk => ⟨⟨hk.2.1, hk.2.2.1⟩, hk.2.2.2.2⟩)))); (case aB => exact (by repeat (first | (with_reducible first | exact HB.out | apply below_alloc | apply pw_below_drewN | apply below_drew1) | exact HB.out))); (case aF => exact (fun k_ hk => ⟨Kd.fresh' (Kd.N_lt (by (with_reducible repeat (first | apply Kd.N_alloc | apply Kd.N_drewN | apply Kd.N_drew)); exact HO186.out)) k_ hk, Kd.fresh' (Kd.N_lt (by (with_reducible repeat (first | apply Kd.N_alloc | apply Kd.N_drewN | apply Kd.N_drew)); exact HO189.out)) k_ hk⟩)); (case aO => exact (by (with_reducible repeat (first | apply Kd.N_alloc | apply Kd.N_drewN | apply Kd.N_drew)); exact Kd.N_mono HO198.out (fun _ hk => ⟨hk.1.2.1, hk.1.2.2⟩))); (case aS => exact (below_size (by repeat (first | (with_reducible first | exact HB.out | apply below_alloc | apply pw_below_drewN | apply below_drew1) | exact HB.out)))); (case aL => have := LMc35.out; omega); intro v203 w48 ho hb hg hat; rw [← Ny202.out] at ho; have n0_ := Aside0.mk (Kd.N_afterv (ok := (fun k_ => some k_ ≠ (.slice Ao46 t176.length co46 : Value).ownBlock ∧ some k_ ≠ (.slice Ao38 t182.length co38 : Value).ownBlock ∧ some k_ ≠ (v188 : Value).ownBlock ∧ some k_ ≠ (.slice Ao45 t193.length co45 : Value).ownBlock ∧ some k_ ≠ (.slice Ao49 t199.length co49 : Value).ownBlock)) (by (with_reducible repeat (first | apply Kd.N_alloc | apply Kd.N_drewN | apply Kd.N_drew)); exact Kd.N_mono HO_8.out (fun _ hk => ⟨⟨hk.1.1.1, ⟨hk.1.1.2.1, ⟨hk.1.1.2.2.1, ⟨hk.1.1.2.2.2, hk.2⟩⟩⟩⟩, hk.1.2⟩)) hg hat); have n1_ := Aside0.mk (Kd.N_afterv (ok := (fun k_ => some k_ ≠ (.slice Ao42 t171.length co42 : Value).ownBlock ∧ some k_ ≠ (.slice Ao38 t182.length co38 : Value).ownBlock ∧ some k_ ≠ (v188 : Value).ownBlock ∧ some k_ ≠ (.slice Ao45 t193.length co45 : Value).ownBlock ∧ some k_ ≠ (.slice Ao49 t199.length co49 : Value).ownBlock)) (by (with_reducible repeat (first | apply Kd.N_alloc | apply Kd.N_drewN | apply Kd.N_drew)); exact Kd.N_mono HO_11.out (fun _ hk => ⟨⟨hk.1.1.1, ⟨hk.1.1.2.1, ⟨hk.1.1.2.2.1, ⟨hk.1.1.2.2.2, hk.2⟩⟩⟩⟩, hk.1.2⟩)) hg hat); have n2_ := Aside0.mk (Kd.N_afterv (ok := (fun k_ => some k_ ≠ (.slice Ao42 t171.length co42 : Value).ownBlock ∧ some k_ ≠ (.slice Ao46 t176.length co46 : Value).ownBlock ∧ some k_ ≠ (v188 : Value).ownBlock ∧ some k_ ≠ (.slice Ao45 t193.length co45 : Value).ownBlock ∧ some k_ ≠ (.slice Ao49 t199.length co49 : Value).ownBlock)) (by (with_reducible repeat (first | apply Kd.N_alloc | apply Kd.N_drewN | apply Kd.N_drew)); exact Kd.N_mono HO186.out (fun _ hk => ⟨⟨hk.1.1.1, ⟨hk.1.1.2.1, ⟨hk.1.1.2.2.1, ⟨hk.1.1.2.2.2, hk.2⟩⟩⟩⟩, hk.1.2⟩)) hg hat); have n3_ := Aside0.mk (Kd.N_afterv (ok := (fun k_ => some k_ ≠ (.slice Ao42 t171.length co42 : Value).ownBlock ∧ some k_ ≠ (.slice Ao46 t176.length co46 : Value).ownBlock ∧ some k_ ≠ (.slice Ao45 t193.length co45 : Value).ownBlock ∧ some k_ ≠ (.slice Ao49 t199.length co49 : Value).ownBlock)) (by (with_reducible repeat (first | apply Kd.N_alloc | apply Kd.N_drewN | apply Kd.N_drew)); exact Kd.N_mono HO189.out (fun _ hk => ⟨⟨hk.1.1.1, ⟨hk.1.1.2.1, ⟨hk.1.1.2.2, hk.2⟩⟩⟩, hk.1.2⟩)) hg hat); have n4_ := Aside0.mk (Kd.N_afterv (ok := (fun k_ => some k_ ≠ (.slice Ao46 t176.length co46 : Value).ownBlock ∧ some k_ ≠ (.slice Ao38 t182.length co38 : Value).ownBlock ∧ some k_ ≠ (v188 : Value).ownBlock ∧ some k_ ≠ (.slice Ao49 t199.length co49 : Value).ownBlock)) (by (with_reducible repeat (first | apply Kd.N_alloc | apply Kd.N_drewN | apply Kd.N_drew)); exact Kd.N_mono HO195.out (fun _ hk => ⟨⟨hk.1.1.1, ⟨hk.1.1.2.1, ⟨hk.1.1.2.2, hk.2⟩⟩⟩, hk.1.2⟩)) hg hat); have n5_ := Aside0.mk (Kd.N_afterv (ok := (fun k_ => some k_ ≠ (.slice Ao42 t171.length co42 : Value).ownBlock ∧ some k_ ≠ (.slice Ao38 t182.length co38 : Value).ownBlock ∧ some k_ ≠ (v188 : Value).ownBlock ∧ some k_ ≠ (.slice Ao45 t193.length co45 : Value).ownBlock)) (by (with_reducible repeat (first | apply Kd.N_alloc | apply Kd.N_drewN | apply Kd.N_drew)); exact Kd.N_mono HO201.out (fun _ hk => ⟨⟨hk.1, ⟨hk.2.1, ⟨hk.2.2.1, hk.2.2.2.1⟩⟩⟩, hk.2.2.2.2⟩)) hg hat); have n6_ := Aside0.mk (hb); have n7_ := Aside0.mk (ho); clear HO_8; clear HO_11; clear HO186; clear HO189; clear HO195; clear HO201; clear HB; clear HO198; have HO_8 := n0_; have HO_11 := n1_; have HO186 := n2_; have HO189 := n3_; have HO195 := n4_; have HO201 := n5_; have HB := n6_; have HO204 := n7_; clear n0_ n1_ n2_ n3_ n4_ n5_ n6_ n7_; clear ho hb hg hat; obtain ⟨Ao50, co50, eo50⟩ := Kd.N_slice HO189.out; subst eo50; obtain ⟨Ao51, co51, eo51⟩ := Kd.N_slice HO204.out; subst eo51) | (go_at_call 12; (with_reducible refine (keelsonlaw5_same.calls kj11 _ _ t187 _ _ y202 t205 _ ?side1 ?side2 ?side3 ?side4 A36.out).mono ?_); (case side1 => repeat (first | exact (Kd.N_reads' HO189.out).2.2 | (with_reducible refine Kd.C_alloc ?_ _) | (with_reducible refine Kd.C_drewN ?_ _) | (with_reducible refine Kd.C_drew ?_))); (case side2 => exact (Kd.N_reads' HO189.out).2.1); (case side3 => repeat (first | exact (Kd.N_reads' HO204.out).2.2 | (with_reducible refine Kd.C_alloc ?_ _) | (with_reducible refine Kd.C_drewN ?_ _) | (with_reducible refine Kd.C_drew ?_))); (case side4 => exact (Kd.N_reads' HO204.out).2.1); rintro e w' ⟨rfl, ⟨nd, rfl⟩⟩))
                                    go_ret
                                    exact ⟨by first | rfl | (simp [errW_none, errW_some] <;> rfl) | (simp [*, errW_none, errW_some] <;> rfl), by repeat (first | (with_reducible first | exact HB.out | apply below_alloc | apply pw_below_drewN | apply below_drew1) | exact HB.out)⟩
                                  · rw [if_neg c35] at H
                                    exact absurd H (by simp)
                                · rw [if_neg c33] at H
                                  exact absurd H (by simp)
                              · rw [if_neg c30] at H
                                exact absurd H (by simp)
                            · rw [if_neg c29] at H
                              exact absurd H (by simp)
                          · rw [if_neg c27] at H
                            exact absurd H (by simp)
                        · rw [if_neg c26] at H
                          exact absurd H (by simp)
                      · rw [if_neg c25] at H
                        exact absurd H (by simp)
                    · rw [if_neg c24] at H
                      exact absurd H (by simp)
                  · rw [if_neg c23] at H
                    exact absurd H (by simp)
                · rw [if_neg c22] at H
                  exact absurd H (by simp)
              · rw [if_neg c21] at H
                exact absurd H (by simp)

end Go.Proofs.YtekplcjgmnahmaaDoor.PA
