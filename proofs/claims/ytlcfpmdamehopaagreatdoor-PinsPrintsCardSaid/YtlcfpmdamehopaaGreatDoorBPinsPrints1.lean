/- Texts of this claim, part 2 of 4: contracts of the functions that the law comes to, and what they come to as plain functions. Conditions: sizes that fit. -/
import Derived.Test.YtlcfpmdamehopaaGreatDoorBPinsPrints0
import Derived.Defers
import Derived.Recover
import Derived.Stop.Asserts
import Derived.RowKitTokens
import Derived.WalkLawsBesides
import Derived.BigRegion
-- Printed by gprint.py (wip/ of this repo), over the kit's print.
namespace Go.Proofs.YtlcfpmdamehopaaGreatDoor.PA
open Go.RowKit Go.Proofs.YtlcfpmdamehopaaGreatDoorW.PrintWords Go.Proofs.YtlcfpmdamehopaaGreatDoorW.PrintLast Go.Proofs.YtlcfpmdamehopaaGreatDoorW.PrintMore
attribute [local go_sem] max2_int min2_int max_two min_two max_three min_three max_four min_four   -- for this text's walks alone
set_option linter.unusedVariables false
set_option linter.unusedSimpArgs false

/-! ### keelsonref5_lines: function 58 -/
def keelsonref5_lines.l0 : Nat → ByteArray → List ByteArray → Int → Int → Option (List ByteArray)
  | 0, _, _, _, _ => none
  | k + 1, x0, x3, x4, x5 => if x5 < (x0.size : Int) then (if 0 ≤ x5 then (if (bt x0 x5) = 10 then (if 0 ≤ x4 then (if x4 ≤ x5 then (if x5 ≤ (x0.size : Int) then (if x3.length < 8796093022208 then (keelsonref5_lines.l0 k x0 (x3 ++ [x0.extract (x4 : Int).toNat (x5 : Int).toNat]) (wrap64 (x5 + 1)) (wrap64 (x5 + 1))) else (none)) else (none)) else (none)) else (none)) else (keelsonref5_lines.l0 k x0 x3 x4 (wrap64 (x5 + 1)))) else (none)) else (if 0 ≤ x4 then (if x4 ≤ (x0.size : Int) then (if x3.length < 8796093022208 then (some (x3 ++ [x0.extract (x4 : Int).toNat x0.size])) else (none)) else (none)) else (none))
def keelsonref5_lines.f (k : Nat) (a0 : ByteArray) : Option (List ByteArray) := keelsonref5_lines.l0 k a0 ([] : List ByteArray) 0 0
set_option maxHeartbeats 8000000 in
set_option maxRecDepth 100000 in
theorem keelsonref5_lines.calls (k : Nat) (a0 : ByteArray) (r : List ByteArray) (w : World) (h : keelsonref5_lines.f k a0 = some r) :
    Calls Tryz.prog 58 #[.string a0] w fun e w' => ∃ v0_ : Value, e = .returned (v0_) ∧ Kd.R Kd.string 9 w' w.heap.size (fun _ => True) v0_ r ∧ Below w.heap.size w w' := by
  have HB := Aside0.mk (Below.refl w.heap.size w)
  have H : (keelsonref5_lines.l0 k a0 ([] : List ByteArray) 0 0) = some r := h
  clear h
  have H' := Aside0.mk H
  clear H
  go_enter Tryz.func58, Tryz.ntmps58
  go_wp2
  go_loopg [3, 4, 5] k (fun kq v3 v4 v5 w' => ∃ (x3_1 : List ByteArray) (x4_1 : Int) (x5_1 : Int), v4 = .int .i64 x4_1 ∧ v5 = .int .i64 x5_1 ∧ Aside0 (keelsonref5_lines.l0 kq a0 x3_1 x4_1 x5_1 = some r) ∧ Aside0 (kq ≤ k) ∧ Aside0 (Kd.R Kd.string 9 w' w.heap.size (fun _ => True) v3 x3_1) ∧ Aside0 (Below w.heap.size w w'))
  case atStart => exact ⟨(([] : List ByteArray)), (0), (0), (by first | rfl | (simp; done) | (simp [*]; done)), (by first | rfl | (simp; done) | (simp [*]; done)), H', ⟨Nat.le_refl _⟩, ⟨by first | exact Kd.R_nil _ _ _ _ _ | exact Kd.N_nil _ _ _ _ _ | exact Kd.V_nil _ _ _ _ _ | exact Kd.Q_nil _ _ _ _ _ | exact Kd.S_nil _ _ _ _ _⟩, ⟨by repeat (first | (with_reducible first | exact HB.out | apply below_alloc | apply pw_below_drewN | apply below_drew1) | exact HB.out)⟩⟩
  case round =>
    clear H'
    obtain ⟨x3_1, x4_1, x5_1, rfl, rfl, HA, HK1, HO_3, HB⟩ := hrel
    cases gk with
    | zero => exact absurd HA.out (by simp [keelsonref5_lines.l0])
    | succ k1 =>
      have H := HA.out
      clear HA
      simp only [keelsonref5_lines.l0] at H
      by_cases c2 : x5_1 < (a0.size : Int)
      · rw [if_pos c2] at H
        have c2b0 : decide (x5_1 < (a0.size : Int)) = true := decide_eq_true c2
        clear c2
        by_cases c3 : 0 ≤ x5_1
        · rw [if_pos c3] at H
          have c3b0 : decide (0 ≤ x5_1) = true := decide_eq_true c3
          clear c3
          by_cases c5 : (bt a0 x5_1) = 10
          · rw [if_pos c5] at H
            have c5b0 : ((bt a0 x5_1) == 10) = true := beq_iff_eq.mpr c5
            have c5b1 : ((bt a0 x5_1) != 10) = false := bne_eq_false_iff_eq.mpr c5
            clear c5
            by_cases c6 : 0 ≤ x4_1
            · rw [if_pos c6] at H
              have c6b0 := eq_true c6
              have c6b1 : decide (0 ≤ x4_1) = true := decide_eq_true c6
              clear c6
              by_cases c7 : x4_1 ≤ x5_1
              · rw [if_pos c7] at H
                have c7b0 := eq_true c7
                have c7b1 : decide (x4_1 ≤ x5_1) = true := decide_eq_true c7
                clear c7
                by_cases c8 : x5_1 ≤ (a0.size : Int)
                · rw [if_pos c8] at H
                  have c8b0 := eq_true c8
                  have c8b1 : decide (x5_1 ≤ (a0.size : Int)) = true := decide_eq_true c8
                  clear c8
                  by_cases c9 : x3_1.length < 8796093022208
                  · rw [if_pos c9] at H
                    have LMc9 := Aside0.mk c9
                    clear c9
                    obtain ⟨y141, hy141⟩ : ∃ y_ : List ByteArray, y_ = (x3_1 ++ [a0.extract (x4_1 : Int).toNat (x5_1 : Int).toNat]) := ⟨_, rfl⟩
                    replace H : (keelsonref5_lines.l0 k1 a0 y141 (wrap64 (x5_1 + 1)) (wrap64 (x5_1 + 1))) = some r := by first | (rw [hy141]; with_reducible exact H) | (have H2_ := (Option.bind_some _ _).symm.trans H; rw [hy141]; with_reducible exact H2_) | (have H2_ := (Option.bind_some _ _).symm.trans H; with_reducible exact H2_) | with_reducible exact H | (rw [hy141]; exact H) | exact H
                    have Ny141 := Aside0.mk hy141
                    clear hy141
                    have H' := Aside0.mk H
                    clear H
                    have p4 : 0 ≤ (x5_1 : Int) := of_decide_eq_true (by first | (with_reducible assumption) | assumption)
                    have q4 : x5_1 < (a0.size : Int) := of_decide_eq_true (by first | (with_reducible assumption) | assumption)
                    have hx4 := bt_at a0 x5_1
                    replace p4 := eq_true p4
                    replace q4 := eq_true q4
                    go_wp2_with (first | ((with_reducible refine gate_builtin (b := .append) (xs := #[.tmp 16, .tmp 21]) rfl ?_); at_builtin; refine Kd.R_append Kd.string (w0 := w) w.heap.size rfl (.tmp 16) (.tmp 21) 96 9 (.string ⟨#[]⟩) 16 rfl Tryz.underlying96 info9 rfl (by decide) (by omega) u3 x3_1 (a0.extract (x4_1 : Int).toNat (x5_1 : Int).toNat) [.string (a0.extract (x4_1 : Int).toNat (x5_1 : Int).toNat)] (fun _ => True) (fun _ => False) rfl rfl ?aP (fun _ hk => hk.elim) ?aF ?aO ?aB ?aS ?aL ?_; (case aP => exact rfl); (case aB => exact (by repeat (first | (with_reducible first | exact HB.out | apply below_alloc | apply pw_below_drewN | apply below_drew1) | exact HB.out))); (case aF => exact (fun _ _ => trivial)); (case aO => exact (by (with_reducible repeat (first | apply Kd.R_alloc | apply Kd.R_drewN | apply Kd.R_drew)); exact HO_3.out)); (case aS => exact (below_size (by repeat (first | (with_reducible first | exact HB.out | apply below_alloc | apply pw_below_drewN | apply below_drew1) | exact HB.out)))); (case aL => have := LMc9.out; omega); intro v142 w10 ho hb hg hat; rw [← Ny141.out] at ho; have n0_ := Aside0.mk (hb); have n1_ := Aside0.mk (ho); clear HB; clear HO_3; have HB := n0_; have HO143 := n1_; clear n0_ n1_; clear ho hb hg hat))
                    go_roundg k1
                    case measure => have := HK1.out; omega
                    case rel => exact ⟨(y141), (wrap64 (x5_1 + 1)), (wrap64 (x5_1 + 1)), (by first | rfl | (simp; done) | (simp [*]; done)), (by first | rfl | (simp; done) | (simp [*]; done)), H', ⟨by have := HK1.out; omega⟩, ⟨by (with_reducible repeat (first | apply Kd.R_alloc | apply Kd.R_drewN | apply Kd.R_drew)); exact HO143.out⟩, ⟨by repeat (first | (with_reducible first | exact HB.out | apply below_alloc | apply pw_below_drewN | apply below_drew1) | exact HB.out)⟩⟩
                  · rw [if_neg c9] at H
                    exact absurd H (by simp)
                · rw [if_neg c8] at H
                  exact absurd H (by simp)
              · rw [if_neg c7] at H
                exact absurd H (by simp)
            · rw [if_neg c6] at H
              exact absurd H (by simp)
          · rw [if_neg c5] at H
            have c5b0 : ((bt a0 x5_1) == 10) = false := beq_eq_false_iff_ne.mpr c5
            have c5b1 : ((bt a0 x5_1) != 10) = true := bne_iff_ne.mpr c5
            have H' := Aside0.mk H
            clear H
            have p4 : 0 ≤ (x5_1 : Int) := of_decide_eq_true (by first | (with_reducible assumption) | assumption)
            have q4 : x5_1 < (a0.size : Int) := of_decide_eq_true (by first | (with_reducible assumption) | assumption)
            have hx4 := bt_at a0 x5_1
            replace p4 := eq_true p4
            replace q4 := eq_true q4
            go_wp2
            go_roundg k1
            case measure => have := HK1.out; omega
            case rel => exact ⟨(x3_1), (x4_1), (wrap64 (x5_1 + 1)), (by first | rfl | (simp; done) | (simp [*]; done)), (by first | rfl | (simp; done) | (simp [*]; done)), H', ⟨by have := HK1.out; omega⟩, ⟨by (with_reducible repeat (first | apply Kd.R_alloc | apply Kd.R_drewN | apply Kd.R_drew)); exact HO_3.out⟩, ⟨by repeat (first | (with_reducible first | exact HB.out | apply below_alloc | apply pw_below_drewN | apply below_drew1) | exact HB.out)⟩⟩
        · rw [if_neg c3] at H
          exact absurd H (by simp)
      · rw [if_neg c2] at H
        have c2b0 : decide (x5_1 < (a0.size : Int)) = false := decide_eq_false c2
        clear c2
        by_cases c11 : 0 ≤ x4_1
        · rw [if_pos c11] at H
          have c11b0 := eq_true c11
          have c11b1 : decide (0 ≤ x4_1) = true := decide_eq_true c11
          clear c11
          by_cases c12 : x4_1 ≤ (a0.size : Int)
          · rw [if_pos c12] at H
            have c12b0 := eq_true c12
            have c12b1 : decide (x4_1 ≤ (a0.size : Int)) = true := decide_eq_true c12
            clear c12
            by_cases c13 : x3_1.length < 8796093022208
            · rw [if_pos c13] at H
              have LMc13 := Aside0.mk c13
              clear c13
              obtain ⟨y144, hy144⟩ : ∃ y_ : List ByteArray, y_ = (x3_1 ++ [a0.extract (x4_1 : Int).toNat a0.size]) := ⟨_, rfl⟩
              replace H : (some y144) = some r := by first | (rw [hy144]; with_reducible exact H) | (have H2_ := (Option.bind_some _ _).symm.trans H; rw [hy144]; with_reducible exact H2_) | (have H2_ := (Option.bind_some _ _).symm.trans H; with_reducible exact H2_) | with_reducible exact H | (rw [hy144]; exact H) | exact H
              have Ny144 := Aside0.mk hy144
              clear hy144
              obtain rfl := Option.some.inj H
              go_wp2_with (first | ((with_reducible refine gate_builtin (b := .append) (xs := #[.tmp 25, .tmp 29]) rfl ?_); at_builtin; refine Kd.R_append Kd.string (w0 := w) w.heap.size rfl (.tmp 25) (.tmp 29) 96 9 (.string ⟨#[]⟩) 16 rfl Tryz.underlying96 info9 rfl (by decide) (by omega) u3 x3_1 (a0.extract (x4_1 : Int).toNat a0.size) [.string (a0.extract (x4_1 : Int).toNat a0.size)] (fun _ => True) (fun _ => False) rfl rfl ?aP (fun _ hk => hk.elim) ?aF ?aO ?aB ?aS ?aL ?_; (case aP => exact rfl); (case aB => exact (by repeat (first | (with_reducible first | exact HB.out | apply below_alloc | apply pw_below_drewN | apply below_drew1) | exact HB.out))); (case aF => exact (fun _ _ => trivial)); (case aO => exact (by (with_reducible repeat (first | apply Kd.R_alloc | apply Kd.R_drewN | apply Kd.R_drew)); exact HO_3.out)); (case aS => exact (below_size (by repeat (first | (with_reducible first | exact HB.out | apply below_alloc | apply pw_below_drewN | apply below_drew1) | exact HB.out)))); (case aL => have := LMc13.out; omega); intro v145 w14 ho hb hg hat; rw [← Ny144.out] at ho; have n0_ := Aside0.mk (hb); have n1_ := Aside0.mk (ho); clear HB; clear HO_3; have HB := n0_; have HO146 := n1_; clear n0_ n1_; clear ho hb hg hat))
              go_ret
              exact ⟨_, by first | rfl | (simp [errW_none, errW_some] <;> rfl) | (simp [*, errW_none, errW_some] <;> rfl), by (with_reducible repeat (first | apply Kd.R_alloc | apply Kd.R_drewN | apply Kd.R_drew)); exact HO146.out, by repeat (first | (with_reducible first | exact HB.out | apply below_alloc | apply pw_below_drewN | apply below_drew1) | exact HB.out)⟩
            · rw [if_neg c13] at H
              exact absurd H (by simp)
          · rw [if_neg c12] at H
            exact absurd H (by simp)
        · rw [if_neg c11] at H
          exact absurd H (by simp)

/-! ### keelsonref5_Get: function 60 -/
/-! ### keelsonref5_clean: function 102 -/
def keelsonref5_clean.l0 : Nat → ByteArray → Int → Option (Bool)
  | 0, _, _ => none
  | k + 1, x0, x3 => if x3 < (x0.size : Int) then (if 0 ≤ x3 then (if (bt x0 x3) < 32 then (some false) else (keelsonref5_clean.l0 k x0 (wrap64 (x3 + 1)))) else (none)) else (some true)
def keelsonref5_clean.f (k : Nat) (a0 : ByteArray) : Option (Bool) := keelsonref5_clean.l0 k a0 0
set_option maxHeartbeats 8000000 in
set_option maxRecDepth 100000 in
theorem keelsonref5_clean.calls (k : Nat) (a0 : ByteArray) (r : Bool) (w : World) (h : keelsonref5_clean.f k a0 = some r) :
    Calls Tryz.prog 102 #[.string a0] w fun e w' => e = .returned (.bool r) ∧ Drawn0 w w' := by
  have H : (keelsonref5_clean.l0 k a0 0) = some r := h
  clear h
  have H' := Aside0.mk H
  clear H
  go_enter Tryz.func102, Tryz.ntmps102
  go_wp2
  go_loopg [3] k (fun kq v3 w' => ∃ (x3_1 : Int), v3 = .int .i64 x3_1 ∧ Aside0 (keelsonref5_clean.l0 kq a0 x3_1 = some r) ∧ Aside0 (kq ≤ k) ∧ Drawn0 w w')
  case atStart => exact ⟨(0), (by first | rfl | (simp; done) | (simp [*]; done)), H', ⟨Nat.le_refl _⟩, by repeat (first | exact Drawn0.refl _ | apply Drawn0.step)⟩
  case round =>
    clear H'
    try clear c1
    obtain ⟨x3_1, rfl, HA, HK1, ⟨m1, rfl⟩⟩ := hrel
    cases gk with
    | zero => exact absurd HA.out (by simp [keelsonref5_clean.l0])
    | succ k1 =>
      have H := HA.out
      clear HA
      simp only [keelsonref5_clean.l0] at H
      by_cases c2 : x3_1 < (a0.size : Int)
      · rw [if_pos c2] at H
        have c2b0 : decide (x3_1 < (a0.size : Int)) = true := decide_eq_true c2
        clear c2
        by_cases c3 : 0 ≤ x3_1
        · rw [if_pos c3] at H
          have c3b0 : decide (0 ≤ x3_1) = true := decide_eq_true c3
          clear c3
          by_cases c5 : (bt a0 x3_1) < 32
          · rw [if_pos c5] at H
            have c5b0 : decide ((bt a0 x3_1) < 32) = true := decide_eq_true c5
            clear c5
            obtain rfl := Option.some.inj H
            have p4 : 0 ≤ (x3_1 : Int) := of_decide_eq_true (by first | (with_reducible assumption) | assumption)
            have q4 : x3_1 < (a0.size : Int) := of_decide_eq_true (by first | (with_reducible assumption) | assumption)
            have hx4 := bt_at a0 x3_1
            replace p4 := eq_true p4
            replace q4 := eq_true q4
            go_wp2
            go_ret
            exact ⟨by first | rfl | (simp; done) | (simp [*]; done), by repeat (first | exact Drawn0.refl _ | apply Drawn0.step)⟩
          · rw [if_neg c5] at H
            have c5b0 : decide ((bt a0 x3_1) < 32) = false := decide_eq_false c5
            clear c5
            have H' := Aside0.mk H
            clear H
            have p4 : 0 ≤ (x3_1 : Int) := of_decide_eq_true (by first | (with_reducible assumption) | assumption)
            have q4 : x3_1 < (a0.size : Int) := of_decide_eq_true (by first | (with_reducible assumption) | assumption)
            have hx4 := bt_at a0 x3_1
            replace p4 := eq_true p4
            replace q4 := eq_true q4
            go_wp2
            go_roundg k1
            case measure => have := HK1.out; omega
            case rel => exact ⟨(wrap64 (x3_1 + 1)), (by first | rfl | (simp; done) | (simp [*]; done)), H', ⟨by have := HK1.out; omega⟩, by repeat (first | exact Drawn0.refl _ | apply Drawn0.step)⟩
        · rw [if_neg c3] at H
          exact absurd H (by simp)
      · rw [if_neg c2] at H
        have c2b0 : decide (x3_1 < (a0.size : Int)) = false := decide_eq_false c2
        clear c2
        obtain rfl := Option.some.inj H
        go_wp2
        go_ret
        exact ⟨by first | rfl | (simp; done) | (simp [*]; done), by repeat (first | exact Drawn0.refl _ | apply Drawn0.step)⟩

/-! ### keelsonref5_Name: function 135 -/
def keelsonref5_Name.l0 : Nat → ByteArray → Int → Option (Bool)
  | 0, _, _ => none
  | k + 1, x0, x3 => if x3 < (x0.size : Int) then (if 0 ≤ x3 then ((keelsonref2_Letter.f (bt x0 x3)).bind fun t149 => (if t149 = true then (keelsonref5_Name.l0 k x0 (wrap64 (x3 + 1))) else (if x3 = 0 then (some false) else ((keelsonref2_Digit.f (bt x0 x3)).bind fun t150 => (if t150 = true then (keelsonref5_Name.l0 k x0 (wrap64 (x3 + 1))) else (if (bt x0 x3) = 45 then (keelsonref5_Name.l0 k x0 (wrap64 (x3 + 1))) else (some false))))))) else (none)) else (if (x0.size : Int) ≥ 1 then (some (decide ((x0.size : Int) ≤ 40))) else (some false))
def keelsonref5_Name.f (k : Nat) (a0 : ByteArray) : Option (Bool) := keelsonref5_Name.l0 k a0 0
set_option maxHeartbeats 8000000 in
set_option maxRecDepth 100000 in
theorem keelsonref5_Name.calls (k : Nat) (a0 : ByteArray) (r : Bool) (w : World) (h : keelsonref5_Name.f k a0 = some r) :
    Calls Tryz.prog 135 #[.string a0] w fun e w' => e = .returned (.bool r) ∧ Drawn0 w w' := by
  have H : (keelsonref5_Name.l0 k a0 0) = some r := h
  clear h
  have H' := Aside0.mk H
  clear H
  go_enter Tryz.func135, Tryz.ntmps135
  go_wp2
  go_loopg [3] k (fun kq v3 w' => ∃ (x3_1 : Int), v3 = .int .i64 x3_1 ∧ Aside0 (keelsonref5_Name.l0 kq a0 x3_1 = some r) ∧ Aside0 (kq ≤ k) ∧ Drawn0 w w')
  case atStart => exact ⟨(0), (by first | rfl | (simp; done) | (simp [*]; done)), H', ⟨Nat.le_refl _⟩, by repeat (first | exact Drawn0.refl _ | apply Drawn0.step)⟩
  case round =>
    clear H'
    try clear c1
    obtain ⟨x3_1, rfl, HA, HK1, ⟨m1, rfl⟩⟩ := hrel
    cases gk with
    | zero => exact absurd HA.out (by simp [keelsonref5_Name.l0])
    | succ k1 =>
      have H := HA.out
      clear HA
      simp only [keelsonref5_Name.l0] at H
      by_cases c2 : x3_1 < (a0.size : Int)
      · rw [if_pos c2] at H
        have c2b0 : decide (x3_1 < (a0.size : Int)) = true := decide_eq_true c2
        clear c2
        by_cases c3 : 0 ≤ x3_1
        · rw [if_pos c3] at H
          have c3b0 : decide (0 ≤ x3_1) = true := decide_eq_true c3
          clear c3
          replace H := Option.bind_eq_some_iff.mp H
          obtain ⟨t149, A50, H⟩ := H
          replace H : (if t149 = true then (keelsonref5_Name.l0 k1 a0 (wrap64 (x3_1 + 1))) else (if x3_1 = 0 then (some false) else ((keelsonref2_Digit.f (bt a0 x3_1)).bind fun t150 => (if t150 = true then (keelsonref5_Name.l0 k1 a0 (wrap64 (x3_1 + 1))) else (if (bt a0 x3_1) = 45 then (keelsonref5_Name.l0 k1 a0 (wrap64 (x3_1 + 1))) else (some false)))))) = some r := H
          have A5 := Aside0.mk A50
          clear A50
          by_cases c6 : t149 = true
          · subst c6
            have H1 : (keelsonref5_Name.l0 k1 a0 (wrap64 (x3_1 + 1))) = some r := by rw [if_pos rfl] at H; exact H
            clear H
            have H := H1
            clear H1
            have H' := Aside0.mk H
            clear H
            have p4 : 0 ≤ (x3_1 : Int) := of_decide_eq_true (by first | (with_reducible assumption) | assumption)
            have q4 : x3_1 < (a0.size : Int) := of_decide_eq_true (by first | (with_reducible assumption) | assumption)
            have hx4 := bt_at a0 x3_1
            replace p4 := eq_true p4
            replace q4 := eq_true q4
            go_wp2_with (first | ((with_reducible refine gate_callee (f := 169) rfl ?_); refine goesL_ (some 13) rfl rfl Tryz.func169 (by kernel_rfl) rfl #[.int .u8 (bt a0 x3_1)] rfl (by (try simp only [List.map_toArray, List.map_cons, List.map_nil]); first | done | rfl | (simp only [List.length_drop, List.length_take]; rfl)) ?_; (with_reducible refine (keelsonref2_Letter.calls (bt a0 x3_1) true _ A5.out).mono ?_); rintro e w' ⟨rfl, ⟨nd, rfl⟩⟩; refine ⟨_, rfl, ?_⟩))
            go_roundg k1
            case measure => have := HK1.out; omega
            case rel => exact ⟨(wrap64 (x3_1 + 1)), (by first | rfl | (simp; done) | (simp [*]; done)), H', ⟨by have := HK1.out; omega⟩, by repeat (first | exact Drawn0.refl _ | apply Drawn0.step)⟩
          · replace c6 := Bool.eq_false_iff.mpr c6
            subst c6
            have H1 : (if x3_1 = 0 then (some false) else ((keelsonref2_Digit.f (bt a0 x3_1)).bind fun t150 => (if t150 = true then (keelsonref5_Name.l0 k1 a0 (wrap64 (x3_1 + 1))) else (if (bt a0 x3_1) = 45 then (keelsonref5_Name.l0 k1 a0 (wrap64 (x3_1 + 1))) else (some false))))) = some r := by rw [if_neg (show ¬ (false = true) by decide)] at H; exact H
            clear H
            have H := H1
            clear H1
            by_cases c7 : x3_1 = 0
            · rw [if_pos c7] at H
              have c7b0 : (x3_1 == 0) = true := beq_iff_eq.mpr c7
              have c7b1 : (x3_1 != 0) = false := bne_eq_false_iff_eq.mpr c7
              clear c7
              obtain rfl := Option.some.inj H
              have p4 : 0 ≤ (x3_1 : Int) := of_decide_eq_true (by first | (with_reducible assumption) | assumption)
              have q4 : x3_1 < (a0.size : Int) := of_decide_eq_true (by first | (with_reducible assumption) | assumption)
              have hx4 := bt_at a0 x3_1
              replace p4 := eq_true p4
              replace q4 := eq_true q4
              go_wp2_with (first | ((with_reducible refine gate_callee (f := 169) rfl ?_); refine goesL_ (some 13) rfl rfl Tryz.func169 (by kernel_rfl) rfl #[.int .u8 (bt a0 x3_1)] rfl (by (try simp only [List.map_toArray, List.map_cons, List.map_nil]); first | done | rfl | (simp only [List.length_drop, List.length_take]; rfl)) ?_; (with_reducible refine (keelsonref2_Letter.calls (bt a0 x3_1) false _ A5.out).mono ?_); rintro e w' ⟨rfl, ⟨nd, rfl⟩⟩; refine ⟨_, rfl, ?_⟩))
              go_ret
              exact ⟨by first | rfl | (simp; done) | (simp [*]; done), by repeat (first | exact Drawn0.refl _ | apply Drawn0.step)⟩
            · rw [if_neg c7] at H
              have c7b0 : (x3_1 == 0) = false := beq_eq_false_iff_ne.mpr c7
              have c7b1 : (x3_1 != 0) = true := bne_iff_ne.mpr c7
              replace H := Option.bind_eq_some_iff.mp H
              obtain ⟨t150, A90, H⟩ := H
              replace H : (if t150 = true then (keelsonref5_Name.l0 k1 a0 (wrap64 (x3_1 + 1))) else (if (bt a0 x3_1) = 45 then (keelsonref5_Name.l0 k1 a0 (wrap64 (x3_1 + 1))) else (some false))) = some r := H
              have A9 := Aside0.mk A90
              clear A90
              by_cases c10 : t150 = true
              · subst c10
                have H1 : (keelsonref5_Name.l0 k1 a0 (wrap64 (x3_1 + 1))) = some r := by rw [if_pos rfl] at H; exact H
                clear H
                have H := H1
                clear H1
                have H' := Aside0.mk H
                clear H
                have p4 : 0 ≤ (x3_1 : Int) := of_decide_eq_true (by first | (with_reducible assumption) | assumption)
                have q4 : x3_1 < (a0.size : Int) := of_decide_eq_true (by first | (with_reducible assumption) | assumption)
                have hx4 := bt_at a0 x3_1
                replace p4 := eq_true p4
                replace q4 := eq_true q4
                go_wp2_with (first | ((with_reducible refine gate_callee (f := 169) rfl ?_); refine goesL_ (some 13) rfl rfl Tryz.func169 (by kernel_rfl) rfl #[.int .u8 (bt a0 x3_1)] rfl (by (try simp only [List.map_toArray, List.map_cons, List.map_nil]); first | done | rfl | (simp only [List.length_drop, List.length_take]; rfl)) ?_; (with_reducible refine (keelsonref2_Letter.calls (bt a0 x3_1) false _ A5.out).mono ?_); rintro e w' ⟨rfl, ⟨nd, rfl⟩⟩; refine ⟨_, rfl, ?_⟩; have p8 : 0 ≤ (x3_1 : Int) := of_decide_eq_true (by first | (with_reducible assumption) | assumption); have q8 : x3_1 < (a0.size : Int) := of_decide_eq_true (by first | (with_reducible assumption) | assumption); have hx8 := bt_at a0 x3_1; replace p8 := eq_true p8; replace q8 := eq_true q8) | (go_at_call 65; (with_reducible refine (keelsonref2_Digit.calls (bt a0 x3_1) true _ A9.out).mono ?_); rintro e w' ⟨rfl, ⟨nd, rfl⟩⟩))
                go_roundg k1
                case measure => have := HK1.out; omega
                case rel => exact ⟨(wrap64 (x3_1 + 1)), (by first | rfl | (simp; done) | (simp [*]; done)), H', ⟨by have := HK1.out; omega⟩, by repeat (first | exact Drawn0.refl _ | apply Drawn0.step)⟩
              · replace c10 := Bool.eq_false_iff.mpr c10
                subst c10
                have H1 : (if (bt a0 x3_1) = 45 then (keelsonref5_Name.l0 k1 a0 (wrap64 (x3_1 + 1))) else (some false)) = some r := by rw [if_neg (show ¬ (false = true) by decide)] at H; exact H
                clear H
                have H := H1
                clear H1
                by_cases c12 : (bt a0 x3_1) = 45
                · rw [if_pos c12] at H
                  have c12b0 : ((bt a0 x3_1) == 45) = true := beq_iff_eq.mpr c12
                  have c12b1 : ((bt a0 x3_1) != 45) = false := bne_eq_false_iff_eq.mpr c12
                  clear c12
                  have H' := Aside0.mk H
                  clear H
                  have p4 : 0 ≤ (x3_1 : Int) := of_decide_eq_true (by first | (with_reducible assumption) | assumption)
                  have q4 : x3_1 < (a0.size : Int) := of_decide_eq_true (by first | (with_reducible assumption) | assumption)
                  have hx4 := bt_at a0 x3_1
                  replace p4 := eq_true p4
                  replace q4 := eq_true q4
                  go_wp2_with (first | ((with_reducible refine gate_callee (f := 169) rfl ?_); refine goesL_ (some 13) rfl rfl Tryz.func169 (by kernel_rfl) rfl #[.int .u8 (bt a0 x3_1)] rfl (by (try simp only [List.map_toArray, List.map_cons, List.map_nil]); first | done | rfl | (simp only [List.length_drop, List.length_take]; rfl)) ?_; (with_reducible refine (keelsonref2_Letter.calls (bt a0 x3_1) false _ A5.out).mono ?_); rintro e w' ⟨rfl, ⟨nd, rfl⟩⟩; refine ⟨_, rfl, ?_⟩; have p8 : 0 ≤ (x3_1 : Int) := of_decide_eq_true (by first | (with_reducible assumption) | assumption); have q8 : x3_1 < (a0.size : Int) := of_decide_eq_true (by first | (with_reducible assumption) | assumption); have hx8 := bt_at a0 x3_1; replace p8 := eq_true p8; replace q8 := eq_true q8) | (go_at_call 65; (with_reducible refine (keelsonref2_Digit.calls (bt a0 x3_1) false _ A9.out).mono ?_); rintro e w' ⟨rfl, ⟨nd, rfl⟩⟩; have p11 : 0 ≤ (x3_1 : Int) := of_decide_eq_true (by first | (with_reducible assumption) | assumption); have q11 : x3_1 < (a0.size : Int) := of_decide_eq_true (by first | (with_reducible assumption) | assumption); have hx11 := bt_at a0 x3_1; replace p11 := eq_true p11; replace q11 := eq_true q11))
                  go_roundg k1
                  case measure => have := HK1.out; omega
                  case rel => exact ⟨(wrap64 (x3_1 + 1)), (by first | rfl | (simp; done) | (simp [*]; done)), H', ⟨by have := HK1.out; omega⟩, by repeat (first | exact Drawn0.refl _ | apply Drawn0.step)⟩
                · rw [if_neg c12] at H
                  have c12b0 : ((bt a0 x3_1) == 45) = false := beq_eq_false_iff_ne.mpr c12
                  have c12b1 : ((bt a0 x3_1) != 45) = true := bne_iff_ne.mpr c12
                  obtain rfl := Option.some.inj H
                  have p4 : 0 ≤ (x3_1 : Int) := of_decide_eq_true (by first | (with_reducible assumption) | assumption)
                  have q4 : x3_1 < (a0.size : Int) := of_decide_eq_true (by first | (with_reducible assumption) | assumption)
                  have hx4 := bt_at a0 x3_1
                  replace p4 := eq_true p4
                  replace q4 := eq_true q4
                  go_wp2_with (first | ((with_reducible refine gate_callee (f := 169) rfl ?_); refine goesL_ (some 13) rfl rfl Tryz.func169 (by kernel_rfl) rfl #[.int .u8 (bt a0 x3_1)] rfl (by (try simp only [List.map_toArray, List.map_cons, List.map_nil]); first | done | rfl | (simp only [List.length_drop, List.length_take]; rfl)) ?_; (with_reducible refine (keelsonref2_Letter.calls (bt a0 x3_1) false _ A5.out).mono ?_); rintro e w' ⟨rfl, ⟨nd, rfl⟩⟩; refine ⟨_, rfl, ?_⟩; have p8 : 0 ≤ (x3_1 : Int) := of_decide_eq_true (by first | (with_reducible assumption) | assumption); have q8 : x3_1 < (a0.size : Int) := of_decide_eq_true (by first | (with_reducible assumption) | assumption); have hx8 := bt_at a0 x3_1; replace p8 := eq_true p8; replace q8 := eq_true q8) | (go_at_call 65; (with_reducible refine (keelsonref2_Digit.calls (bt a0 x3_1) false _ A9.out).mono ?_); rintro e w' ⟨rfl, ⟨nd, rfl⟩⟩; have p11 : 0 ≤ (x3_1 : Int) := of_decide_eq_true (by first | (with_reducible assumption) | assumption); have q11 : x3_1 < (a0.size : Int) := of_decide_eq_true (by first | (with_reducible assumption) | assumption); have hx11 := bt_at a0 x3_1; replace p11 := eq_true p11; replace q11 := eq_true q11))
                  go_ret
                  exact ⟨by first | rfl | (simp; done) | (simp [*]; done), by repeat (first | exact Drawn0.refl _ | apply Drawn0.step)⟩
        · rw [if_neg c3] at H
          exact absurd H (by simp)
      · rw [if_neg c2] at H
        have c2b0 : decide (x3_1 < (a0.size : Int)) = false := decide_eq_false c2
        clear c2
        by_cases c13 : (a0.size : Int) ≥ 1
        · rw [if_pos c13] at H
          have c13b0 : decide (1 ≤ (a0.size : Int)) = true := decide_eq_true c13
          have c13b1 : decide (1 ≤ a0.size) = true := decide_eq_true (by omega)
          clear c13
          obtain rfl := Option.some.inj H
          go_wp2
          go_ret
          exact ⟨by first | rfl | (simp; done) | (simp [*]; done), by repeat (first | exact Drawn0.refl _ | apply Drawn0.step)⟩
        · rw [if_neg c13] at H
          have c13b0 : decide (1 ≤ (a0.size : Int)) = false := decide_eq_false c13
          have c13b1 : decide (1 ≤ a0.size) = false := decide_eq_false (by omega)
          clear c13
          obtain rfl := Option.some.inj H
          go_wp2
          go_ret
          exact ⟨by first | rfl | (simp; done) | (simp [*]; done), by repeat (first | exact Drawn0.refl _ | apply Drawn0.step)⟩

/-! ### keelsonref5_value: function 144 -/
def keelsonref5_value.l0 : Nat → List ByteArray → Int → Option (Bool)
  | 0, _, _ => none
  | k + 1, x3, x4 => if x4 < (x3.length : Int) then (if 0 ≤ x4 then ((keelsonref5_clean.f k (rdOf ByteArray.empty x3 x4)).bind fun t222 => (if t222 = true then (if x4 > 0 then (if (rdOf ByteArray.empty x3 x4).toList = ([] : List UInt8) then (some false) else (keelsonref5_value.l0 k x3 (wrap64 (x4 + 1)))) else (keelsonref5_value.l0 k x3 (wrap64 (x4 + 1)))) else (some false))) else (none)) else (if 0 < (x3.length : Int) then (if (rdOf ByteArray.empty x3 0).toList = ([] : List UInt8) then (some true) else (if 0 < ((rdOf ByteArray.empty x3 0).size : Int) then (some ((bt (rdOf ByteArray.empty x3 0) 0) != 32)) else (none))) else (none))
def keelsonref5_value.f (k : Nat) (a0 : ByteArray) : Option (Bool) := (keelsonref5_lines.f k a0).bind fun t218 => (keelsonref5_value.l0 k t218 0)
set_option maxHeartbeats 8000000 in
set_option maxRecDepth 100000 in
theorem keelsonref5_value.calls (k : Nat) (a0 : ByteArray) (r : Bool) (w : World) (h : keelsonref5_value.f k a0 = some r) :
    Calls Tryz.prog 144 #[.string a0] w fun e w' => e = .returned (.bool r) ∧ Below w.heap.size w w' := by
  have HB := Aside0.mk (Below.refl w.heap.size w)
  have H : ((keelsonref5_lines.f k a0).bind fun t218 => (keelsonref5_value.l0 k t218 0)) = some r := h
  clear h
  replace H := Option.bind_eq_some_iff.mp H
  obtain ⟨t218, A20, H⟩ := H
  replace H : (keelsonref5_value.l0 k t218 0) = some r := H
  have A2 := Aside0.mk A20
  clear A20
  have H' := Aside0.mk H
  clear H
  go_enter Tryz.func144, Tryz.ntmps144
  go_wp2_with (first | ((with_reducible refine gate_callee (f := 58) rfl ?_); refine goesL_ (some 7) rfl rfl Tryz.func58 (by kernel_rfl) rfl #[.string a0] rfl (by (try simp only [List.map_toArray, List.map_cons, List.map_nil]); first | done | rfl | (simp only [List.length_drop, List.length_take]; rfl)) ?_; (with_reducible refine (keelsonref5_lines.calls k a0 t218 _ A2.out).mono ?_); rintro e w3 ⟨v219, rfl, ho0, hb⟩; refine ⟨_, rfl, ?_⟩; have n0_ := Aside0.mk (Kd.R_lower ho0 (below_size (by repeat (first | (with_reducible first | exact HB.out | apply below_alloc | apply pw_below_drewN | apply below_drew1) | exact HB.out)))); have n1_ := Aside0.mk (below_step (by repeat (first | (with_reducible first | exact HB.out | apply below_alloc | apply pw_below_drewN | apply below_drew1) | exact HB.out)) hb); clear HB; have HO220 := n0_; have HB := n1_; clear n0_ n1_; (try clear hb); (try clear hb2); (try clear hk); (try clear hi); (try clear ho0)))
  go_loopg [4] k (fun kq v4 w' => ∃ (x4_1 : Int), v4 = .int .i64 x4_1 ∧ Aside0 (keelsonref5_value.l0 kq t218 x4_1 = some r) ∧ Aside0 (kq ≤ k) ∧ Aside0 (Kd.R Kd.string 9 w' w.heap.size (fun _ => True) v219 t218) ∧ Aside0 (Below w.heap.size w w'))
  case atStart => exact ⟨(0), (by first | rfl | (simp; done) | (simp [*]; done)), H', ⟨Nat.le_refl _⟩, ⟨by (with_reducible repeat (first | apply Kd.R_alloc | apply Kd.R_drewN | apply Kd.R_drew)); exact HO220.out⟩, ⟨by repeat (first | (with_reducible first | exact HB.out | apply below_alloc | apply pw_below_drewN | apply below_drew1) | exact HB.out)⟩⟩
  case round =>
    clear H'
    try clear c1
    try clear p2
    obtain ⟨x4_1, rfl, HA, HK1, HO_3, HB⟩ := hrel
    cases gk with
    | zero => exact absurd HA.out (by simp [keelsonref5_value.l0])
    | succ k1 =>
      have H := HA.out
      clear HA
      simp only [keelsonref5_value.l0] at H
      by_cases c4 : x4_1 < (t218.length : Int)
      · rw [if_pos c4] at H
        have c4b0 : decide (x4_1 < (t218.length : Int)) = true := decide_eq_true c4
        clear c4
        by_cases c5 : 0 ≤ x4_1
        · rw [if_pos c5] at H
          have c5b0 : decide (0 ≤ x4_1) = true := decide_eq_true c5
          clear c5
          replace H := Option.bind_eq_some_iff.mp H
          obtain ⟨t222, A60, H⟩ := H
          replace H : (if t222 = true then (if x4_1 > 0 then (if (rdOf ByteArray.empty t218 x4_1).toList = ([] : List UInt8) then (some false) else (keelsonref5_value.l0 k1 t218 (wrap64 (x4_1 + 1)))) else (keelsonref5_value.l0 k1 t218 (wrap64 (x4_1 + 1)))) else (some false)) = some r := H
          have A6 := Aside0.mk A60
          clear A60
          by_cases c7 : t222 = true
          · subst c7
            have H1 : (if x4_1 > 0 then (if (rdOf ByteArray.empty t218 x4_1).toList = ([] : List UInt8) then (some false) else (keelsonref5_value.l0 k1 t218 (wrap64 (x4_1 + 1)))) else (keelsonref5_value.l0 k1 t218 (wrap64 (x4_1 + 1)))) = some r := by rw [if_pos rfl] at H; exact H
            clear H
            have H := H1
            clear H1
            by_cases c8 : x4_1 > 0
            · rw [if_pos c8] at H
              have c8b0 : decide (0 < x4_1) = true := decide_eq_true c8
              clear c8
              by_cases c9 : (rdOf ByteArray.empty t218 x4_1).toList = ([] : List UInt8)
              · rw [if_pos c9] at H
                have c9b0 : ((rdOf ByteArray.empty t218 x4_1).toList == ([] : List UInt8)) = true := beq_iff_eq.mpr c9
                have c9b1 : ((rdOf ByteArray.empty t218 x4_1).toList != ([] : List UInt8)) = false := bne_eq_false_iff_eq.mpr c9
                clear c9
                obtain rfl := Option.some.inj H
                obtain ⟨Ao10, co10, eo10⟩ := Kd.R_slice HO_3.out
                subst eo10
                have p221 : 0 ≤ (x4_1 : Int) := of_decide_eq_true (by first | (with_reducible assumption) | assumption)
                have q221 : x4_1 < (t218.length : Int) := of_decide_eq_true (by first | (with_reducible assumption) | assumption)
                obtain ⟨ad221, e221, hx221_0⟩ := Kd.at_string (Kd.R_reads' HO_3.out).2.2 x4_1 p221 q221
                cases e221
                replace p221 := eq_true p221
                replace q221 := eq_true q221
                go_wp2_with (first | ((with_reducible refine gate_callee (f := 102) rfl ?_); refine goesL_ (some 18) rfl rfl Tryz.func102 (by kernel_rfl) rfl #[.string (rdOf ByteArray.empty t218 x4_1)] rfl (by (try simp only [List.map_toArray, List.map_cons, List.map_nil]); first | done | rfl | (simp only [List.length_drop, List.length_take]; rfl)) ?_; (with_reducible refine (keelsonref5_clean.calls k1 (rdOf ByteArray.empty t218 x4_1) true _ A6.out).mono ?_); rintro e w' ⟨rfl, ⟨nd, rfl⟩⟩; refine ⟨_, rfl, ?_⟩; have p223 : 0 ≤ (x4_1 : Int) := of_decide_eq_true (by first | (with_reducible assumption) | assumption); have q223 : x4_1 < (t218.length : Int) := of_decide_eq_true (by first | (with_reducible assumption) | assumption); obtain ⟨ad223, e223, hx223_0⟩ := Kd.at_string (Kd.R_reads' HO_3.out).2.2 x4_1 p223 q223; obtain rfl : ad221 = ad223 := (by injection e223); replace p223 := eq_true p223; replace q223 := eq_true q223))
                go_ret
                exact ⟨by first | rfl | (simp [errW_none, errW_some] <;> rfl) | (simp [*, errW_none, errW_some] <;> rfl), by repeat (first | (with_reducible first | exact HB.out | apply below_alloc | apply pw_below_drewN | apply below_drew1) | exact HB.out)⟩
              · rw [if_neg c9] at H
                have c9b0 : ((rdOf ByteArray.empty t218 x4_1).toList == ([] : List UInt8)) = false := beq_eq_false_iff_ne.mpr c9
                have c9b1 : ((rdOf ByteArray.empty t218 x4_1).toList != ([] : List UInt8)) = true := bne_iff_ne.mpr c9
                have H' := Aside0.mk H
                clear H
                obtain ⟨Ao11, co11, eo11⟩ := Kd.R_slice HO_3.out
                subst eo11
                have p221 : 0 ≤ (x4_1 : Int) := of_decide_eq_true (by first | (with_reducible assumption) | assumption)
                have q221 : x4_1 < (t218.length : Int) := of_decide_eq_true (by first | (with_reducible assumption) | assumption)
                obtain ⟨ad221, e221, hx221_0⟩ := Kd.at_string (Kd.R_reads' HO_3.out).2.2 x4_1 p221 q221
                cases e221
                replace p221 := eq_true p221
                replace q221 := eq_true q221
                go_wp2_with (first | ((with_reducible refine gate_callee (f := 102) rfl ?_); refine goesL_ (some 18) rfl rfl Tryz.func102 (by kernel_rfl) rfl #[.string (rdOf ByteArray.empty t218 x4_1)] rfl (by (try simp only [List.map_toArray, List.map_cons, List.map_nil]); first | done | rfl | (simp only [List.length_drop, List.length_take]; rfl)) ?_; (with_reducible refine (keelsonref5_clean.calls k1 (rdOf ByteArray.empty t218 x4_1) true _ A6.out).mono ?_); rintro e w' ⟨rfl, ⟨nd, rfl⟩⟩; refine ⟨_, rfl, ?_⟩; have p223 : 0 ≤ (x4_1 : Int) := of_decide_eq_true (by first | (with_reducible assumption) | assumption); have q223 : x4_1 < (t218.length : Int) := of_decide_eq_true (by first | (with_reducible assumption) | assumption); obtain ⟨ad223, e223, hx223_0⟩ := Kd.at_string (Kd.R_reads' HO_3.out).2.2 x4_1 p223 q223; obtain rfl : ad221 = ad223 := (by injection e223); replace p223 := eq_true p223; replace q223 := eq_true q223))
                go_roundg k1
                case measure => have := HK1.out; omega
                case rel => exact ⟨(wrap64 (x4_1 + 1)), (by first | rfl | (simp; done) | (simp [*]; done)), H', ⟨by have := HK1.out; omega⟩, ⟨by (with_reducible repeat (first | apply Kd.R_alloc | apply Kd.R_drewN | apply Kd.R_drew)); exact HO_3.out⟩, ⟨by repeat (first | (with_reducible first | exact HB.out | apply below_alloc | apply pw_below_drewN | apply below_drew1) | exact HB.out)⟩⟩
            · rw [if_neg c8] at H
              have c8b0 : decide (0 < x4_1) = false := decide_eq_false c8
              clear c8
              have H' := Aside0.mk H
              clear H
              obtain ⟨Ao12, co12, eo12⟩ := Kd.R_slice HO_3.out
              subst eo12
              have p221 : 0 ≤ (x4_1 : Int) := of_decide_eq_true (by first | (with_reducible assumption) | assumption)
              have q221 : x4_1 < (t218.length : Int) := of_decide_eq_true (by first | (with_reducible assumption) | assumption)
              obtain ⟨ad221, e221, hx221_0⟩ := Kd.at_string (Kd.R_reads' HO_3.out).2.2 x4_1 p221 q221
              cases e221
              replace p221 := eq_true p221
              replace q221 := eq_true q221
              go_wp2_with (first | ((with_reducible refine gate_callee (f := 102) rfl ?_); refine goesL_ (some 18) rfl rfl Tryz.func102 (by kernel_rfl) rfl #[.string (rdOf ByteArray.empty t218 x4_1)] rfl (by (try simp only [List.map_toArray, List.map_cons, List.map_nil]); first | done | rfl | (simp only [List.length_drop, List.length_take]; rfl)) ?_; (with_reducible refine (keelsonref5_clean.calls k1 (rdOf ByteArray.empty t218 x4_1) true _ A6.out).mono ?_); rintro e w' ⟨rfl, ⟨nd, rfl⟩⟩; refine ⟨_, rfl, ?_⟩))
              go_roundg k1
              case measure => have := HK1.out; omega
              case rel => exact ⟨(wrap64 (x4_1 + 1)), (by first | rfl | (simp; done) | (simp [*]; done)), H', ⟨by have := HK1.out; omega⟩, ⟨by (with_reducible repeat (first | apply Kd.R_alloc | apply Kd.R_drewN | apply Kd.R_drew)); exact HO_3.out⟩, ⟨by repeat (first | (with_reducible first | exact HB.out | apply below_alloc | apply pw_below_drewN | apply below_drew1) | exact HB.out)⟩⟩
          · replace c7 := Bool.eq_false_iff.mpr c7
            subst c7
            have H1 : (some false) = some r := by rw [if_neg (show ¬ (false = true) by decide)] at H; exact H
            clear H
            have H := H1
            clear H1
            obtain rfl := Option.some.inj H
            obtain ⟨Ao13, co13, eo13⟩ := Kd.R_slice HO_3.out
            subst eo13
            have p221 : 0 ≤ (x4_1 : Int) := of_decide_eq_true (by first | (with_reducible assumption) | assumption)
            have q221 : x4_1 < (t218.length : Int) := of_decide_eq_true (by first | (with_reducible assumption) | assumption)
            obtain ⟨ad221, e221, hx221_0⟩ := Kd.at_string (Kd.R_reads' HO_3.out).2.2 x4_1 p221 q221
            cases e221
            replace p221 := eq_true p221
            replace q221 := eq_true q221
            go_wp2_with (first | ((with_reducible refine gate_callee (f := 102) rfl ?_); refine goesL_ (some 18) rfl rfl Tryz.func102 (by kernel_rfl) rfl #[.string (rdOf ByteArray.empty t218 x4_1)] rfl (by (try simp only [List.map_toArray, List.map_cons, List.map_nil]); first | done | rfl | (simp only [List.length_drop, List.length_take]; rfl)) ?_; (with_reducible refine (keelsonref5_clean.calls k1 (rdOf ByteArray.empty t218 x4_1) false _ A6.out).mono ?_); rintro e w' ⟨rfl, ⟨nd, rfl⟩⟩; refine ⟨_, rfl, ?_⟩))
            go_ret
            exact ⟨by first | rfl | (simp [errW_none, errW_some] <;> rfl) | (simp [*, errW_none, errW_some] <;> rfl), by repeat (first | (with_reducible first | exact HB.out | apply below_alloc | apply pw_below_drewN | apply below_drew1) | exact HB.out)⟩
        · rw [if_neg c5] at H
          exact absurd H (by simp)
      · rw [if_neg c4] at H
        have c4b0 : decide (x4_1 < (t218.length : Int)) = false := decide_eq_false c4
        clear c4
        by_cases c14 : 0 < (t218.length : Int)
        · rw [if_pos c14] at H
          have c14b0 : decide (0 < (t218.length : Int)) = true := decide_eq_true c14
          have c14b1 : decide (0 < t218.length) = true := decide_eq_true (by omega)
          clear c14
          by_cases c15 : (rdOf ByteArray.empty t218 0).toList = ([] : List UInt8)
          · rw [if_pos c15] at H
            have c15b0 : ((rdOf ByteArray.empty t218 0).toList == ([] : List UInt8)) = true := beq_iff_eq.mpr c15
            have c15b1 : ((rdOf ByteArray.empty t218 0).toList != ([] : List UInt8)) = false := bne_eq_false_iff_eq.mpr c15
            clear c15
            obtain rfl := Option.some.inj H
            obtain ⟨Ao16, co16, eo16⟩ := Kd.R_slice HO_3.out
            subst eo16
            have p224 : 0 ≤ (0 : Int) := (by omega)
            have q224 : 0 < (t218.length : Int) := of_decide_eq_true (by first | (with_reducible assumption) | assumption)
            obtain ⟨ad224, e224, hx224_0⟩ := Kd.at_string (Kd.R_reads' HO_3.out).2.2 0 p224 q224
            cases e224
            have qi224 : (0 < t218.length) = True := eq_true (by omega)
            (try rw [show ((0 : Int)).toNat = 0 from rfl] at hx224_0)
            (try rw [Addr.add_zero'] at hx224_0)
            replace p224 := eq_true p224
            replace q224 := eq_true q224
            go_wp2
            go_ret
            exact ⟨by first | rfl | (simp [errW_none, errW_some] <;> rfl) | (simp [*, errW_none, errW_some] <;> rfl), by repeat (first | (with_reducible first | exact HB.out | apply below_alloc | apply pw_below_drewN | apply below_drew1) | exact HB.out)⟩
          · rw [if_neg c15] at H
            have c15b0 : ((rdOf ByteArray.empty t218 0).toList == ([] : List UInt8)) = false := beq_eq_false_iff_ne.mpr c15
            have c15b1 : ((rdOf ByteArray.empty t218 0).toList != ([] : List UInt8)) = true := bne_iff_ne.mpr c15
            by_cases c17 : 0 < ((rdOf ByteArray.empty t218 0).size : Int)
            · rw [if_pos c17] at H
              have c17b0 : decide (0 < ((rdOf ByteArray.empty t218 0).size : Int)) = true := decide_eq_true c17
              have c17b1 : decide (0 < (rdOf ByteArray.empty t218 0).size) = true := decide_eq_true (by omega)
              clear c17
              obtain rfl := Option.some.inj H
              obtain ⟨Ao19, co19, eo19⟩ := Kd.R_slice HO_3.out
              subst eo19
              have p224 : 0 ≤ (0 : Int) := (by omega)
              have q224 : 0 < (t218.length : Int) := of_decide_eq_true (by first | (with_reducible assumption) | assumption)
              obtain ⟨ad224, e224, hx224_0⟩ := Kd.at_string (Kd.R_reads' HO_3.out).2.2 0 p224 q224
              cases e224
              have qi224 : (0 < t218.length) = True := eq_true (by omega)
              (try rw [show ((0 : Int)).toNat = 0 from rfl] at hx224_0)
              (try rw [Addr.add_zero'] at hx224_0)
              replace p224 := eq_true p224
              replace q224 := eq_true q224
              have p225 : 0 ≤ (0 : Int) := (by omega)
              have q225 : 0 < (t218.length : Int) := of_decide_eq_true (by first | (with_reducible assumption) | assumption)
              obtain ⟨ad225, e225, hx225_0⟩ := Kd.at_string (Kd.R_reads' HO_3.out).2.2 0 p225 q225
              obtain rfl : ad224 = ad225 := (by injection e225)
              have qi225 : (0 < t218.length) = True := eq_true (by omega)
              (try rw [show ((0 : Int)).toNat = 0 from rfl] at hx225_0)
              (try rw [Addr.add_zero'] at hx225_0)
              replace p225 := eq_true p225
              replace q225 := eq_true q225
              have p18 : 0 ≤ (0 : Int) := (by omega)
              have q18 : 0 < (rdOf ByteArray.empty t218 0).size := (by have : (0 : Int) < ((rdOf ByteArray.empty t218 0).size : Int) := of_decide_eq_true (by first | (with_reducible assumption) | assumption); omega)
              have hx18 : ∀ h : 0 < (rdOf ByteArray.empty t218 0).size, (((rdOf ByteArray.empty t218 0)[0]'h).toNat : Int) = bt (rdOf ByteArray.empty t218 0) 0 := bt_at (rdOf ByteArray.empty t218 0) 0
              clear p18
              have qi18 : (0 < ((rdOf ByteArray.empty t218 0).size : Int)) = True := eq_true (of_decide_eq_true (by first | (with_reducible assumption) | assumption))
              replace q18 := eq_true q18
              go_wp2
              go_ret
              exact ⟨by first | rfl | (simp [errW_none, errW_some] <;> rfl) | (simp [*, errW_none, errW_some] <;> rfl), by repeat (first | (with_reducible first | exact HB.out | apply below_alloc | apply pw_below_drewN | apply below_drew1) | exact HB.out)⟩
            · rw [if_neg c17] at H
              exact absurd H (by simp)
        · rw [if_neg c14] at H
          exact absurd H (by simp)

/-! ### keelsonref5_stanza: function 111 -/
mutual
def keelsonref5_stanza.l0 : Nat → List (S60) → Int → Option (Bool)
  | 0, _, _ => none
  | k + 1, x0, x3 => if x3 < (x0.length : Int) then (if 0 ≤ x3 then ((keelsonref5_Name.f k ((rd_T60 x0 x3).f0)).bind fun t227 => ((keelsonref5_value.f k ((rd_T60 x0 x3).f1)).bind fun t229 => (if t227 = true then (keelsonref5_stanza.j1 k x0 x3 (!t229)) else (keelsonref5_stanza.j1 k x0 x3 true)))) else (none)) else (if (x0.length : Int) ≥ 1 then (some (decide ((x0.length : Int) ≤ 40))) else (some false))
def keelsonref5_stanza.j1 : Nat → List (S60) → Int → Bool → Option (Bool)
  | 0, _, _, _ => none
  | k + 1, x0, x3, x30 => if x30 = true then (some false) else (keelsonref5_stanza.l1 k x0 x3 0)
def keelsonref5_stanza.l1 : Nat → List (S60) → Int → Int → Option (Bool)
  | 0, _, _, _ => none
  | k + 1, x0, x3, x6 => if x6 < x3 then (if 0 ≤ x6 then (if x6 < (x0.length : Int) then (if 0 ≤ x3 then (if x3 < (x0.length : Int) then (if ((rd_T60 x0 x6).f0).toList = ((rd_T60 x0 x3).f0).toList then (some false) else (keelsonref5_stanza.l1 k x0 x3 (wrap64 (x6 + 1)))) else (none)) else (none)) else (none)) else (none)) else (keelsonref5_stanza.l0 k x0 (wrap64 (x3 + 1)))
end
def keelsonref5_stanza.f (k : Nat) (l0 : List (S60)) : Option (Bool) := keelsonref5_stanza.l0 k l0 0
set_option maxHeartbeats 8000000 in
set_option maxRecDepth 100000 in
theorem keelsonref5_stanza.calls (k : Nat) (A0 : Option Addr) (c0 : Nat) (l0 : List (S60)) (r : Bool) (w : World) (hr0 : Kd.C k60 w A0 l0.length l0) (hc0 : l0.length ≤ c0) (h : keelsonref5_stanza.f k l0 = some r) :
    Calls Tryz.prog 111 #[.slice A0 l0.length c0] w fun e w' => e = .returned (.bool r) ∧ Below w.heap.size w w' := by
  have HR0 := Aside0.mk hr0
  have HC0 := Aside0.mk hc0
  clear hr0 hc0
  have HB := Aside0.mk (Below.refl w.heap.size w)
  have H : (keelsonref5_stanza.l0 k l0 0) = some r := h
  clear h
  have H' := Aside0.mk H
  clear H
  go_enter Tryz.func111, Tryz.ntmps111
  go_wp2
  repeat (go_quiet (fail); try go_wp2)
  go_loopg [3] k (fun kq v3 w' => ∃ (x3_1 : Int), v3 = .int .i64 x3_1 ∧ Aside0 (keelsonref5_stanza.l0 kq l0 x3_1 = some r) ∧ Aside0 (kq ≤ k) ∧ Aside0 (Below w.heap.size w w'))
  case atStart => exact ⟨(0), (by first | rfl | (simp; done) | (simp [*]; done)), H', ⟨Nat.le_refl _⟩, ⟨by repeat (first | (with_reducible first | exact HB.out | apply below_alloc | apply pw_below_drewN | apply below_drew1) | exact HB.out)⟩⟩
  case round =>
    clear H'
    try clear c1
    obtain ⟨x3_1, rfl, HA, HK1, HB⟩ := hrel
    cases gk with
    | zero => exact absurd HA.out (by simp [keelsonref5_stanza.l0])
    | succ k1 =>
      have H := HA.out
      clear HA
      simp only [keelsonref5_stanza.l0] at H
      by_cases c2 : x3_1 < (l0.length : Int)
      · rw [if_pos c2] at H
        have c2b0 : decide (x3_1 < (l0.length : Int)) = true := decide_eq_true c2
        clear c2
        by_cases c3 : 0 ≤ x3_1
        · rw [if_pos c3] at H
          have c3b0 : decide (0 ≤ x3_1) = true := decide_eq_true c3
          clear c3
          replace H := Option.bind_eq_some_iff.mp H
          obtain ⟨t227, A40, H⟩ := H
          replace H : ((keelsonref5_value.f k1 ((rd_T60 l0 x3_1).f1)).bind fun t229 => (if t227 = true then (keelsonref5_stanza.j1 k1 l0 x3_1 (!t229)) else (keelsonref5_stanza.j1 k1 l0 x3_1 true))) = some r := H
          have A4 := Aside0.mk A40
          clear A40
          replace H := Option.bind_eq_some_iff.mp H
          obtain ⟨t229, A50, H⟩ := H
          replace H : (if t227 = true then (keelsonref5_stanza.j1 k1 l0 x3_1 (!t229)) else (keelsonref5_stanza.j1 k1 l0 x3_1 true)) = some r := H
          have A5 := Aside0.mk A50
          clear A50
          have HC6 := Aside0.mk H
          clear H
          have p226 : 0 ≤ (x3_1 : Int) := of_decide_eq_true (by first | (with_reducible assumption) | assumption)
          have q226 : x3_1 < (l0.length : Int) := of_decide_eq_true (by first | (with_reducible assumption) | assumption)
          obtain ⟨ad226, e226, hx226_0, hx226_1⟩ := at_T60 HR0.out x3_1 p226 q226
          cases e226
          replace hx226_0 := (HB.out.cell (World.block_lt_of_cell? w _ hx226_0)).trans hx226_0
          replace hx226_1 := (HB.out.cell (World.block_lt_of_cell? w _ hx226_1)).trans hx226_1
          replace p226 := eq_true p226
          replace q226 := eq_true q226
          go_upto_region 6 with (first | (go_at_call 135; (with_reducible refine (keelsonref5_Name.calls k1 ((rd_T60 l0 x3_1).f0) t227 _ A4.out).mono ?_); rintro e w' ⟨rfl, ⟨nd, rfl⟩⟩; (try first | exact ⟨rfl, _, World.drewN_drewN _ _ _⟩ | exact ⟨rfl, _, Eq.trans (World.drewN_drewN _ _ _) (congrArg (World.drewN _) (Nat.add_assoc _ _ _))⟩); have p228 : 0 ≤ (x3_1 : Int) := of_decide_eq_true (by first | (with_reducible assumption) | assumption); have q228 : x3_1 < (l0.length : Int) := of_decide_eq_true (by first | (with_reducible assumption) | assumption); obtain ⟨ad228, e228, hx228_0, hx228_1⟩ := at_T60 HR0.out x3_1 p228 q228; obtain rfl : ad226 = ad228 := (by injection e228); replace hx228_0 := (HB.out.cell (World.block_lt_of_cell? w _ hx228_0)).trans hx228_0; replace hx228_1 := (HB.out.cell (World.block_lt_of_cell? w _ hx228_1)).trans hx228_1; replace p228 := eq_true p228; replace q228 := eq_true q228) | (go_at_call 144; (with_reducible refine (keelsonref5_value.calls k1 ((rd_T60 l0 x3_1).f1) t229 _ A5.out).mono ?_); rintro e w7 ⟨rfl, hb⟩; have n0_ := Aside0.mk (below_step (by repeat (first | (with_reducible first | exact HB.out | apply below_alloc | apply pw_below_drewN | apply below_drew1) | exact HB.out)) hb); clear HB; have HB := n0_; clear n0_; (try clear hb); (try clear hb2); (try clear hk); (try clear hi)))
          repeat (go_quiet (first | (go_at_call 135; (with_reducible refine (keelsonref5_Name.calls k1 ((rd_T60 l0 x3_1).f0) t227 _ A4.out).mono ?_); rintro e w' ⟨rfl, ⟨nd, rfl⟩⟩; (try first | exact ⟨rfl, _, World.drewN_drewN _ _ _⟩ | exact ⟨rfl, _, Eq.trans (World.drewN_drewN _ _ _) (congrArg (World.drewN _) (Nat.add_assoc _ _ _))⟩); have p228 : 0 ≤ (x3_1 : Int) := of_decide_eq_true (by first | (with_reducible assumption) | assumption); have q228 : x3_1 < (l0.length : Int) := of_decide_eq_true (by first | (with_reducible assumption) | assumption); obtain ⟨ad228, e228, hx228_0, hx228_1⟩ := at_T60 HR0.out x3_1 p228 q228; obtain rfl : ad226 = ad228 := (by injection e228); replace hx228_0 := (HB.out.cell (World.block_lt_of_cell? w _ hx228_0)).trans hx228_0; replace hx228_1 := (HB.out.cell (World.block_lt_of_cell? w _ hx228_1)).trans hx228_1; replace p228 := eq_true p228; replace q228 := eq_true q228) | (go_at_call 144; (with_reducible refine (keelsonref5_value.calls k1 ((rd_T60 l0 x3_1).f1) t229 _ A5.out).mono ?_); rintro e w7 ⟨rfl, hb⟩; have n0_ := Aside0.mk (below_step (by repeat (first | (with_reducible first | exact HB.out | apply below_alloc | apply pw_below_drewN | apply below_drew1) | exact HB.out)) hb); clear HB; have HB := n0_; clear n0_; (try clear hb); (try clear hb2); (try clear hk); (try clear hi))); go_upto_region 6 with (first | (go_at_call 135; (with_reducible refine (keelsonref5_Name.calls k1 ((rd_T60 l0 x3_1).f0) t227 _ A4.out).mono ?_); rintro e w' ⟨rfl, ⟨nd, rfl⟩⟩; (try first | exact ⟨rfl, _, World.drewN_drewN _ _ _⟩ | exact ⟨rfl, _, Eq.trans (World.drewN_drewN _ _ _) (congrArg (World.drewN _) (Nat.add_assoc _ _ _))⟩); have p228 : 0 ≤ (x3_1 : Int) := of_decide_eq_true (by first | (with_reducible assumption) | assumption); have q228 : x3_1 < (l0.length : Int) := of_decide_eq_true (by first | (with_reducible assumption) | assumption); obtain ⟨ad228, e228, hx228_0, hx228_1⟩ := at_T60 HR0.out x3_1 p228 q228; obtain rfl : ad226 = ad228 := (by injection e228); replace hx228_0 := (HB.out.cell (World.block_lt_of_cell? w _ hx228_0)).trans hx228_0; replace hx228_1 := (HB.out.cell (World.block_lt_of_cell? w _ hx228_1)).trans hx228_1; replace p228 := eq_true p228; replace q228 := eq_true q228) | (go_at_call 144; (with_reducible refine (keelsonref5_value.calls k1 ((rd_T60 l0 x3_1).f1) t229 _ A5.out).mono ?_); rintro e w7 ⟨rfl, hb⟩; have n0_ := Aside0.mk (below_step (by repeat (first | (with_reducible first | exact HB.out | apply below_alloc | apply pw_below_drewN | apply below_drew1) | exact HB.out)) hb); clear HB; have HB := n0_; clear n0_; (try clear hb); (try clear hb2); (try clear hk); (try clear hi))))
          (try simp only [Act.put, List.setIfInBounds_toArray, List.set_cons_zero, List.set_cons_succ])
          go_cut [30] (fun v30 wc => ∃ (kq : Nat) (x30_5 : Bool), v30 = .bool x30_5 ∧ Aside0 (keelsonref5_stanza.j1 kq l0 x3_1 x30_5 = some r) ∧ Aside0 (kq ≤ k1) ∧ Aside0 (Below w.heap.size w wc))
          case first =>
            have H := HC6.out
            clear HC6
            by_cases c8 : t227 = true
            · subst c8
              have H1 : (keelsonref5_stanza.j1 k1 l0 x3_1 (!t229)) = some r := by rw [if_pos rfl] at H; exact H
              clear H
              have H := H1
              clear H1
              have H' := Aside0.mk H
              clear H
              go_wp2
              repeat (go_quiet (fail); try go_wp2)
              go_meet
              case rel => exact ⟨_, (!t229), (by first | rfl | (simp; done) | (simp [*]; done)), H', ⟨by have := HK1.out; first | omega | exact Nat.le_refl _⟩, ⟨by repeat (first | (with_reducible first | exact HB.out | apply below_alloc | apply pw_below_drewN | apply below_drew1) | exact HB.out)⟩⟩
            · replace c8 := Bool.eq_false_iff.mpr c8
              subst c8
              have H1 : (keelsonref5_stanza.j1 k1 l0 x3_1 true) = some r := by rw [if_neg (show ¬ (false = true) by decide)] at H; exact H
              clear H
              have H := H1
              clear H1
              have H' := Aside0.mk H
              clear H
              go_wp2
              repeat (go_quiet (fail); try go_wp2)
              go_meet
              case rel => exact ⟨_, (true), (by first | rfl | (simp; done) | (simp [*]; done)), H', ⟨by have := HK1.out; first | omega | exact Nat.le_refl _⟩, ⟨by repeat (first | (with_reducible first | exact HB.out | apply below_alloc | apply pw_below_drewN | apply below_drew1) | exact HB.out)⟩⟩
          case rest =>
            clear HC6
            try clear c1
            try clear c2
            try clear c2b0
            try clear p2
            try clear q2
            try clear hx2
            try clear c3
            try clear c3b0
            try clear c8
            try clear hx226_0
            try clear hx226_1
            try clear hx228_0
            try clear hx228_1
            try clear p226
            try clear p228
            try clear q226
            try clear q228
            obtain ⟨kq, x30_5, rfl, HA, HJ5, HB⟩ := hcut
            cases kq with
            | zero => exact absurd HA.out (by simp [keelsonref5_stanza.j1])
            | succ kj5 =>
              have H := HA.out
              clear HA
              simp only [keelsonref5_stanza.j1] at H
              by_cases c9 : x30_5 = true
              · subst c9
                have H1 : (some false) = some r := by rw [if_pos rfl] at H; exact H
                clear H
                have H := H1
                clear H1
                obtain rfl := Option.some.inj H
                go_wp2
                repeat (go_quiet (fail); try go_wp2)
                go_ret
                exact ⟨by first | rfl | (simp [errW_none, errW_some] <;> rfl) | (simp [*, errW_none, errW_some] <;> rfl), by repeat (first | (with_reducible first | exact HB.out | apply below_alloc | apply pw_below_drewN | apply below_drew1) | exact HB.out)⟩
              · replace c9 := Bool.eq_false_iff.mpr c9
                subst c9
                have H1 : (keelsonref5_stanza.l1 kj5 l0 x3_1 0) = some r := by rw [if_neg (show ¬ (false = true) by decide)] at H; exact H
                clear H
                have H := H1
                clear H1
                have H' := Aside0.mk H
                clear H
                go_wp2
                repeat (go_quiet (fail); try go_wp2)
                go_loopg [6] kj5 (fun kq v6 w' => ∃ (x6_3 : Int), v6 = .int .i64 x6_3 ∧ Aside0 (keelsonref5_stanza.l1 kq l0 x3_1 x6_3 = some r) ∧ Aside0 (kq ≤ kj5) ∧ Aside0 (Below w.heap.size w w'))
                case atStart => exact ⟨(0), (by first | rfl | (simp; done) | (simp [*]; done)), H', ⟨Nat.le_refl _⟩, ⟨by repeat (first | (with_reducible first | exact HB.out | apply below_alloc | apply pw_below_drewN | apply below_drew1) | exact HB.out)⟩⟩
                case round =>
                  clear H'
                  try clear c1
                  try clear c2
                  try clear c2b0
                  try clear p2
                  try clear q2
                  try clear hx2
                  try clear c3
                  try clear c3b0
                  try clear c8
                  try clear c9
                  try clear hx226_0
                  try clear hx226_1
                  try clear hx228_0
                  try clear hx228_1
                  try clear p2
                  try clear p226
                  try clear p228
                  try clear q2
                  try clear q226
                  try clear q228
                  obtain ⟨x6_3, rfl, HA, HK3, HB⟩ := hrel
                  cases gk with
                  | zero => exact absurd HA.out (by simp [keelsonref5_stanza.l1])
                  | succ k3 =>
                    have H := HA.out
                    clear HA
                    simp only [keelsonref5_stanza.l1] at H
                    by_cases c10 : x6_3 < x3_1
                    · rw [if_pos c10] at H
                      have c10b0 : decide (x6_3 < x3_1) = true := decide_eq_true c10
                      clear c10
                      by_cases c11 : 0 ≤ x6_3
                      · rw [if_pos c11] at H
                        have c11b0 : decide (0 ≤ x6_3) = true := decide_eq_true c11
                        clear c11
                        by_cases c12 : x6_3 < (l0.length : Int)
                        · rw [if_pos c12] at H
                          have c12b0 : decide (x6_3 < (l0.length : Int)) = true := decide_eq_true c12
                          clear c12
                          by_cases c13 : 0 ≤ x3_1
                          · rw [if_pos c13] at H
                            have c13b0 : decide (0 ≤ x3_1) = true := decide_eq_true c13
                            clear c13
                            by_cases c14 : x3_1 < (l0.length : Int)
                            · rw [if_pos c14] at H
                              have c14b0 : decide (x3_1 < (l0.length : Int)) = true := decide_eq_true c14
                              clear c14
                              by_cases c15 : ((rd_T60 l0 x6_3).f0).toList = ((rd_T60 l0 x3_1).f0).toList
                              · rw [if_pos c15] at H
                                have c15b0 : (((rd_T60 l0 x6_3).f0).toList == ((rd_T60 l0 x3_1).f0).toList) = true := beq_iff_eq.mpr c15
                                have c15b1 : (((rd_T60 l0 x6_3).f0).toList != ((rd_T60 l0 x3_1).f0).toList) = false := bne_eq_false_iff_eq.mpr c15
                                clear c15
                                obtain rfl := Option.some.inj H
                                have p230 : 0 ≤ (x6_3 : Int) := of_decide_eq_true (by first | (with_reducible assumption) | assumption)
                                have q230 : x6_3 < (l0.length : Int) := of_decide_eq_true (by first | (with_reducible assumption) | assumption)
                                obtain ⟨ad230, e230, hx230_0, hx230_1⟩ := at_T60 HR0.out x6_3 p230 q230
                                obtain rfl : ad226 = ad230 := (by injection e230)
                                replace hx230_0 := (HB.out.cell (World.block_lt_of_cell? w _ hx230_0)).trans hx230_0
                                replace hx230_1 := (HB.out.cell (World.block_lt_of_cell? w _ hx230_1)).trans hx230_1
                                replace p230 := eq_true p230
                                replace q230 := eq_true q230
                                have p231 : 0 ≤ (x3_1 : Int) := of_decide_eq_true (by first | (with_reducible assumption) | assumption)
                                have q231 : x3_1 < (l0.length : Int) := of_decide_eq_true (by first | (with_reducible assumption) | assumption)
                                obtain ⟨ad231, e231, hx231_0, hx231_1⟩ := at_T60 HR0.out x3_1 p231 q231
                                obtain rfl : ad226 = ad231 := (by injection e231)
                                replace hx231_0 := (HB.out.cell (World.block_lt_of_cell? w _ hx231_0)).trans hx231_0
                                replace hx231_1 := (HB.out.cell (World.block_lt_of_cell? w _ hx231_1)).trans hx231_1
                                replace p231 := eq_true p231
                                replace q231 := eq_true q231
                                go_wp2
                                repeat (go_quiet (fail); try go_wp2)
                                go_ret
                                exact ⟨by first | rfl | (simp [errW_none, errW_some] <;> rfl) | (simp [*, errW_none, errW_some] <;> rfl), by repeat (first | (with_reducible first | exact HB.out | apply below_alloc | apply pw_below_drewN | apply below_drew1) | exact HB.out)⟩
                              · rw [if_neg c15] at H
                                have c15b0 : (((rd_T60 l0 x6_3).f0).toList == ((rd_T60 l0 x3_1).f0).toList) = false := beq_eq_false_iff_ne.mpr c15
                                have c15b1 : (((rd_T60 l0 x6_3).f0).toList != ((rd_T60 l0 x3_1).f0).toList) = true := bne_iff_ne.mpr c15
                                have H' := Aside0.mk H
                                clear H
                                have p230 : 0 ≤ (x6_3 : Int) := of_decide_eq_true (by first | (with_reducible assumption) | assumption)
                                have q230 : x6_3 < (l0.length : Int) := of_decide_eq_true (by first | (with_reducible assumption) | assumption)
                                obtain ⟨ad230, e230, hx230_0, hx230_1⟩ := at_T60 HR0.out x6_3 p230 q230
                                obtain rfl : ad226 = ad230 := (by injection e230)
                                replace hx230_0 := (HB.out.cell (World.block_lt_of_cell? w _ hx230_0)).trans hx230_0
                                replace hx230_1 := (HB.out.cell (World.block_lt_of_cell? w _ hx230_1)).trans hx230_1
                                replace p230 := eq_true p230
                                replace q230 := eq_true q230
                                have p231 : 0 ≤ (x3_1 : Int) := of_decide_eq_true (by first | (with_reducible assumption) | assumption)
                                have q231 : x3_1 < (l0.length : Int) := of_decide_eq_true (by first | (with_reducible assumption) | assumption)
                                obtain ⟨ad231, e231, hx231_0, hx231_1⟩ := at_T60 HR0.out x3_1 p231 q231
                                obtain rfl : ad226 = ad231 := (by injection e231)
                                replace hx231_0 := (HB.out.cell (World.block_lt_of_cell? w _ hx231_0)).trans hx231_0
                                replace hx231_1 := (HB.out.cell (World.block_lt_of_cell? w _ hx231_1)).trans hx231_1
                                replace p231 := eq_true p231
                                replace q231 := eq_true q231
                                go_wp2
                                repeat (go_quiet (fail); try go_wp2)
                                go_roundg k3
                                case measure => have := HK1.out; have := HJ5.out; have := HK3.out; omega
                                case rel => exact ⟨(wrap64 (x6_3 + 1)), (by first | rfl | (simp; done) | (simp [*]; done)), H', ⟨by have := HK1.out; have := HJ5.out; have := HK3.out; omega⟩, ⟨by repeat (first | (with_reducible first | exact HB.out | apply below_alloc | apply pw_below_drewN | apply below_drew1) | exact HB.out)⟩⟩
                            · rw [if_neg c14] at H
                              exact absurd H (by simp)
                          · rw [if_neg c13] at H
                            exact absurd H (by simp)
                        · rw [if_neg c12] at H
                          exact absurd H (by simp)
                      · rw [if_neg c11] at H
                        exact absurd H (by simp)
                    · rw [if_neg c10] at H
                      have c10b0 : decide (x6_3 < x3_1) = false := decide_eq_false c10
                      clear c10
                      have H' := Aside0.mk H
                      clear H
                      go_wp2
                      repeat (go_quiet (fail); try go_wp2)
                      go_roundg k3
                      case measure => have := HK1.out; have := HJ5.out; have := HK3.out; omega
                      case rel => exact ⟨(wrap64 (x3_1 + 1)), (by first | rfl | (simp; done) | (simp [*]; done)), H', ⟨by have := HK1.out; have := HJ5.out; have := HK3.out; omega⟩, ⟨by repeat (first | (with_reducible first | exact HB.out | apply below_alloc | apply pw_below_drewN | apply below_drew1) | exact HB.out)⟩⟩
        · rw [if_neg c3] at H
          exact absurd H (by simp)
      · rw [if_neg c2] at H
        have c2b0 : decide (x3_1 < (l0.length : Int)) = false := decide_eq_false c2
        clear c2
        by_cases c16 : (l0.length : Int) ≥ 1
        · rw [if_pos c16] at H
          have c16b0 : decide (1 ≤ (l0.length : Int)) = true := decide_eq_true c16
          have c16b1 : decide (1 ≤ l0.length) = true := decide_eq_true (by omega)
          clear c16
          obtain rfl := Option.some.inj H
          go_wp2
          repeat (go_quiet (fail); try go_wp2)
          go_ret
          exact ⟨by first | rfl | (simp [errW_none, errW_some] <;> rfl) | (simp [*, errW_none, errW_some] <;> rfl), by repeat (first | (with_reducible first | exact HB.out | apply below_alloc | apply pw_below_drewN | apply below_drew1) | exact HB.out)⟩
        · rw [if_neg c16] at H
          have c16b0 : decide (1 ≤ (l0.length : Int)) = false := decide_eq_false c16
          have c16b1 : decide (1 ≤ l0.length) = false := decide_eq_false (by omega)
          clear c16
          obtain rfl := Option.some.inj H
          go_wp2
          repeat (go_quiet (fail); try go_wp2)
          go_ret
          exact ⟨by first | rfl | (simp [errW_none, errW_some] <;> rfl) | (simp [*, errW_none, errW_some] <;> rfl), by repeat (first | (with_reducible first | exact HB.out | apply below_alloc | apply pw_below_drewN | apply below_drew1) | exact HB.out)⟩

end Go.Proofs.YtlcfpmdamehopaaGreatDoor.PA
-- Printed by gprint.py (wip/ of this repo), over the kit's print.
namespace Go.Proofs.YtlcfpmdamehopaaGreatDoor.PA
open Go.RowKit Go.Proofs.YtlcfpmdamehopaaGreatDoorW.PrintWords Go.Proofs.YtlcfpmdamehopaaGreatDoorW.PrintLast Go.Proofs.YtlcfpmdamehopaaGreatDoorW.PrintMore
attribute [local go_sem] max2_int min2_int max_two min_two max_three min_three max_four min_four   -- for this text's walks alone
set_option linter.unusedVariables false
set_option linter.unusedSimpArgs false

/-! ### keelsonref8_Right: function 13 -/
def keelsonref8_Right.l0 : Nat → Bool → Int → ByteArray → ByteArray → Int → Option (Bool)
  | 0, _, _, _, _, _ => none
  | k + 1, x3, x4, x154000, x154001, x154002 => if x4 < (x154001.size : Int) then (if 0 ≤ x4 then (if (bt x154001 x4) ≤ 32 then (some false) else (if (bt x154001 x4) ≥ 127 then (some false) else (if (bt x154001 x4) = 42 then (some false) else (keelsonref8_Right.l0 k x3 (wrap64 (x4 + 1)) x154000 x154001 x154002)))) else (none)) else (if x3 = true then (if (x154001.size : Int) ≤ 60 then (if x154002 ≥ (-1000) then (some (decide (x154002 ≤ 1000))) else (some false)) else (some false)) else (if x154000.toList = ([42] : List UInt8) then (if (x154001.size : Int) ≤ 60 then (if x154002 ≥ (-1000) then (some (decide (x154002 ≤ 1000))) else (some false)) else (some false)) else (some false)))
def keelsonref8_Right.f (k : Nat) (a0_0 : ByteArray) (a0_1 : ByteArray) (a0_2 : Int) : Option (Bool) := (keelsonref3_Name.f k a0_0).bind fun t154 => (keelsonref8_Right.l0 k t154 0 a0_0 a0_1 a0_2)
set_option maxHeartbeats 8000000 in
set_option maxRecDepth 100000 in
theorem keelsonref8_Right.calls (k : Nat) (a0_0 : ByteArray) (a0_1 : ByteArray) (a0_2 : Int) (r : Bool) (w : World) (h : keelsonref8_Right.f k a0_0 a0_1 a0_2 = some r) :
    Calls Tryz.prog 13 #[.agg #[.string a0_0, .string a0_1, .int .i64 a0_2]] w fun e w' => e = .returned (.bool r) ∧ Below w.heap.size w w' := by
  have hu30 := Tryz.underlying30
  have HB := Aside0.mk (Below.refl w.heap.size w)
  have H : ((keelsonref3_Name.f k a0_0).bind fun t154 => (keelsonref8_Right.l0 k t154 0 a0_0 a0_1 a0_2)) = some r := h
  clear h
  replace H := Option.bind_eq_some_iff.mp H
  obtain ⟨t154, A20, H⟩ := H
  replace H : (keelsonref8_Right.l0 k t154 0 a0_0 a0_1 a0_2) = some r := H
  have A2 := Aside0.mk A20
  clear A20
  have H' := Aside0.mk H
  clear H
  go_enter Tryz.func13, Tryz.ntmps13
  go_wp2_with (first | ((with_reducible refine gate_dst (N := 1) rfl ?_); (try (refine gate_guard (by rfl) ?_; dsimp only)); refine box_event ?hg (N := 1) ?hd (cs := #[.string a0_0, .string a0_1, .int .i64 a0_2]) (t := 30) ?hr ?_; (case hd => rfl); (case hg => rfl); (case hr => first | (go_simp; done) | (go_simp; rfl)); intro gb153 hg w3 hbox hb; have n0_ := Aside0.mk (below_step (by repeat (first | (with_reducible first | exact HB.out | apply below_alloc | apply pw_below_drewN | apply below_drew1) | exact HB.out)) hb); have n1_ := Aside0.mk (hbox); have n2_ := Aside0.mk ((by rw [hg]; exact (below_size (by repeat (first | (with_reducible first | exact HB.out | apply below_alloc | apply pw_below_drewN | apply below_drew1) | exact HB.out))) : w.heap.size ≤ gb153)); have n3_ := Aside0.mk ((by rw [hg]; exact (below_size (by repeat (first | (with_reducible first | exact HB.out | apply below_alloc | apply pw_below_drewN | apply below_drew1) | exact HB.out))) : w.heap.size ≤ gb153)); clear HB; have HB := n0_; have BK153 := n1_; have GW153 := n2_; have GE153 := n3_; clear n0_ n1_ n2_ n3_; clear hb hbox hg; have hcz4_0 : w3.cell? ⟨gb153, 0, none⟩ = some (.string a0_0) := (blk_cell BK153.out 0).trans rfl; have hcz4_1 : w3.cell? ⟨gb153, 1, none⟩ = some (.string a0_1) := (blk_cell BK153.out 1).trans rfl; have hcz4_2 : w3.cell? ⟨gb153, 2, none⟩ = some (.int .i64 a0_2) := (blk_cell BK153.out 2).trans rfl; have hfz4_0 := blk_frozen BK153.out 0; have hfz4_1 := blk_frozen BK153.out 1; have hfz4_2 := blk_frozen BK153.out 2) | ((with_reducible refine gate_callee (f := 30) rfl ?_); refine goesL_ (some 7) rfl rfl Tryz.func30 (by kernel_rfl) rfl #[.string a0_0] rfl (by (try simp only [List.map_toArray, List.map_cons, List.map_nil]); first | done | rfl | (simp only [List.length_drop, List.length_take]; rfl)) ?_; (with_reducible refine (keelsonref3_Name.calls k a0_0 t154 _ A2.out).mono ?_); rintro e w' ⟨rfl, ⟨nd, rfl⟩⟩; refine ⟨_, rfl, ?_⟩))
  go_loopg [4] k (fun kq v4 w' => ∃ (x4_1 : Int), v4 = .int .i64 x4_1 ∧ Aside0 (keelsonref8_Right.l0 kq t154 x4_1 a0_0 a0_1 a0_2 = some r) ∧ Aside0 (kq ≤ k) ∧ Aside0 (w'.heap[gb153]? = some (.cells #[.string a0_0, .string a0_1, .int .i64 a0_2] 30 (0, 0))) ∧ Aside0 (Below w.heap.size w w'))
  case atStart => exact ⟨(0), (by first | rfl | (simp; done) | (simp [*]; done)), H', ⟨Nat.le_refl _⟩, ⟨by (with_reducible repeat (first | refine blk_drewN ?_ _ | refine blk_drew ?_ | refine blk_alloc ?_ _)); exact BK153.out⟩, ⟨by repeat (first | (with_reducible first | exact HB.out | apply below_alloc | apply pw_below_drewN | apply below_drew1 | refine below_set ?_ GE153.out) | exact HB.out)⟩⟩
  case round =>
    clear H'
    try clear c1
    try clear p2
    try clear c3
    try clear hcz4_0
    try clear hcz4_1
    try clear hcz4_2
    try clear hfz4_0
    try clear hfz4_1
    try clear hfz4_2
    obtain ⟨x4_1, rfl, HA, HK1, BK153, HB⟩ := hrel
    cases gk with
    | zero => exact absurd HA.out (by simp [keelsonref8_Right.l0])
    | succ k1 =>
      have H := HA.out
      clear HA
      simp only [keelsonref8_Right.l0] at H
      by_cases c5 : x4_1 < (a0_1.size : Int)
      · rw [if_pos c5] at H
        have c5b0 : decide (x4_1 < (a0_1.size : Int)) = true := decide_eq_true c5
        clear c5
        by_cases c6 : 0 ≤ x4_1
        · rw [if_pos c6] at H
          have c6b0 : decide (0 ≤ x4_1) = true := decide_eq_true c6
          clear c6
          by_cases c8 : (bt a0_1 x4_1) ≤ 32
          · rw [if_pos c8] at H
            have c8b0 : decide ((bt a0_1 x4_1) ≤ 32) = true := decide_eq_true c8
            clear c8
            obtain rfl := Option.some.inj H
            have hcz9_0 : wr.cell? ⟨gb153, 0, none⟩ = some (.string a0_0) := (blk_cell BK153.out 0).trans rfl
            have hcz9_1 : wr.cell? ⟨gb153, 1, none⟩ = some (.string a0_1) := (blk_cell BK153.out 1).trans rfl
            have hcz9_2 : wr.cell? ⟨gb153, 2, none⟩ = some (.int .i64 a0_2) := (blk_cell BK153.out 2).trans rfl
            have hfz9_0 := blk_frozen BK153.out 0
            have hfz9_1 := blk_frozen BK153.out 1
            have hfz9_2 := blk_frozen BK153.out 2
            have p7 : 0 ≤ (x4_1 : Int) := of_decide_eq_true (by first | (with_reducible assumption) | assumption)
            have q7 : x4_1 < (a0_1.size : Int) := of_decide_eq_true (by first | (with_reducible assumption) | assumption)
            have hx7 := bt_at a0_1 x4_1
            replace p7 := eq_true p7
            replace q7 := eq_true q7
            go_wp2
            go_ret
            exact ⟨by first | rfl | (simp [errW_none, errW_some] <;> rfl) | (simp [*, errW_none, errW_some] <;> rfl), by repeat (first | (with_reducible first | exact HB.out | apply below_alloc | apply pw_below_drewN | apply below_drew1 | refine below_set ?_ GE153.out) | exact HB.out)⟩
          · rw [if_neg c8] at H
            have c8b0 : decide ((bt a0_1 x4_1) ≤ 32) = false := decide_eq_false c8
            clear c8
            by_cases c11 : (bt a0_1 x4_1) ≥ 127
            · rw [if_pos c11] at H
              have c11b0 : decide (127 ≤ (bt a0_1 x4_1)) = true := decide_eq_true c11
              clear c11
              obtain rfl := Option.some.inj H
              have hcz12_0 : wr.cell? ⟨gb153, 0, none⟩ = some (.string a0_0) := (blk_cell BK153.out 0).trans rfl
              have hcz12_1 : wr.cell? ⟨gb153, 1, none⟩ = some (.string a0_1) := (blk_cell BK153.out 1).trans rfl
              have hcz12_2 : wr.cell? ⟨gb153, 2, none⟩ = some (.int .i64 a0_2) := (blk_cell BK153.out 2).trans rfl
              have hfz12_0 := blk_frozen BK153.out 0
              have hfz12_1 := blk_frozen BK153.out 1
              have hfz12_2 := blk_frozen BK153.out 2
              have p7 : 0 ≤ (x4_1 : Int) := of_decide_eq_true (by first | (with_reducible assumption) | assumption)
              have q7 : x4_1 < (a0_1.size : Int) := of_decide_eq_true (by first | (with_reducible assumption) | assumption)
              have hx7 := bt_at a0_1 x4_1
              replace p7 := eq_true p7
              replace q7 := eq_true q7
              have p10 : 0 ≤ (x4_1 : Int) := of_decide_eq_true (by first | (with_reducible assumption) | assumption)
              have q10 : x4_1 < (a0_1.size : Int) := of_decide_eq_true (by first | (with_reducible assumption) | assumption)
              have hx10 := bt_at a0_1 x4_1
              replace p10 := eq_true p10
              replace q10 := eq_true q10
              go_wp2
              go_ret
              exact ⟨by first | rfl | (simp [errW_none, errW_some] <;> rfl) | (simp [*, errW_none, errW_some] <;> rfl), by repeat (first | (with_reducible first | exact HB.out | apply below_alloc | apply pw_below_drewN | apply below_drew1 | refine below_set ?_ GE153.out) | exact HB.out)⟩
            · rw [if_neg c11] at H
              have c11b0 : decide (127 ≤ (bt a0_1 x4_1)) = false := decide_eq_false c11
              clear c11
              by_cases c14 : (bt a0_1 x4_1) = 42
              · rw [if_pos c14] at H
                have c14b0 : ((bt a0_1 x4_1) == 42) = true := beq_iff_eq.mpr c14
                have c14b1 : ((bt a0_1 x4_1) != 42) = false := bne_eq_false_iff_eq.mpr c14
                clear c14
                obtain rfl := Option.some.inj H
                have hcz15_0 : wr.cell? ⟨gb153, 0, none⟩ = some (.string a0_0) := (blk_cell BK153.out 0).trans rfl
                have hcz15_1 : wr.cell? ⟨gb153, 1, none⟩ = some (.string a0_1) := (blk_cell BK153.out 1).trans rfl
                have hcz15_2 : wr.cell? ⟨gb153, 2, none⟩ = some (.int .i64 a0_2) := (blk_cell BK153.out 2).trans rfl
                have hfz15_0 := blk_frozen BK153.out 0
                have hfz15_1 := blk_frozen BK153.out 1
                have hfz15_2 := blk_frozen BK153.out 2
                have p7 : 0 ≤ (x4_1 : Int) := of_decide_eq_true (by first | (with_reducible assumption) | assumption)
                have q7 : x4_1 < (a0_1.size : Int) := of_decide_eq_true (by first | (with_reducible assumption) | assumption)
                have hx7 := bt_at a0_1 x4_1
                replace p7 := eq_true p7
                replace q7 := eq_true q7
                have p10 : 0 ≤ (x4_1 : Int) := of_decide_eq_true (by first | (with_reducible assumption) | assumption)
                have q10 : x4_1 < (a0_1.size : Int) := of_decide_eq_true (by first | (with_reducible assumption) | assumption)
                have hx10 := bt_at a0_1 x4_1
                replace p10 := eq_true p10
                replace q10 := eq_true q10
                have p13 : 0 ≤ (x4_1 : Int) := of_decide_eq_true (by first | (with_reducible assumption) | assumption)
                have q13 : x4_1 < (a0_1.size : Int) := of_decide_eq_true (by first | (with_reducible assumption) | assumption)
                have hx13 := bt_at a0_1 x4_1
                replace p13 := eq_true p13
                replace q13 := eq_true q13
                go_wp2
                go_ret
                exact ⟨by first | rfl | (simp [errW_none, errW_some] <;> rfl) | (simp [*, errW_none, errW_some] <;> rfl), by repeat (first | (with_reducible first | exact HB.out | apply below_alloc | apply pw_below_drewN | apply below_drew1 | refine below_set ?_ GE153.out) | exact HB.out)⟩
              · rw [if_neg c14] at H
                have c14b0 : ((bt a0_1 x4_1) == 42) = false := beq_eq_false_iff_ne.mpr c14
                have c14b1 : ((bt a0_1 x4_1) != 42) = true := bne_iff_ne.mpr c14
                have H' := Aside0.mk H
                clear H
                have hcz16_0 : wr.cell? ⟨gb153, 0, none⟩ = some (.string a0_0) := (blk_cell BK153.out 0).trans rfl
                have hcz16_1 : wr.cell? ⟨gb153, 1, none⟩ = some (.string a0_1) := (blk_cell BK153.out 1).trans rfl
                have hcz16_2 : wr.cell? ⟨gb153, 2, none⟩ = some (.int .i64 a0_2) := (blk_cell BK153.out 2).trans rfl
                have hfz16_0 := blk_frozen BK153.out 0
                have hfz16_1 := blk_frozen BK153.out 1
                have hfz16_2 := blk_frozen BK153.out 2
                have p7 : 0 ≤ (x4_1 : Int) := of_decide_eq_true (by first | (with_reducible assumption) | assumption)
                have q7 : x4_1 < (a0_1.size : Int) := of_decide_eq_true (by first | (with_reducible assumption) | assumption)
                have hx7 := bt_at a0_1 x4_1
                replace p7 := eq_true p7
                replace q7 := eq_true q7
                have p10 : 0 ≤ (x4_1 : Int) := of_decide_eq_true (by first | (with_reducible assumption) | assumption)
                have q10 : x4_1 < (a0_1.size : Int) := of_decide_eq_true (by first | (with_reducible assumption) | assumption)
                have hx10 := bt_at a0_1 x4_1
                replace p10 := eq_true p10
                replace q10 := eq_true q10
                have p13 : 0 ≤ (x4_1 : Int) := of_decide_eq_true (by first | (with_reducible assumption) | assumption)
                have q13 : x4_1 < (a0_1.size : Int) := of_decide_eq_true (by first | (with_reducible assumption) | assumption)
                have hx13 := bt_at a0_1 x4_1
                replace p13 := eq_true p13
                replace q13 := eq_true q13
                go_wp2
                go_roundg k1
                case measure => have := HK1.out; omega
                case rel => exact ⟨(wrap64 (x4_1 + 1)), (by first | rfl | (simp; done) | (simp [*]; done)), H', ⟨by have := HK1.out; omega⟩, ⟨by (with_reducible repeat (first | refine blk_drewN ?_ _ | refine blk_drew ?_ | refine blk_alloc ?_ _)); exact BK153.out⟩, ⟨by repeat (first | (with_reducible first | exact HB.out | apply below_alloc | apply pw_below_drewN | apply below_drew1 | refine below_set ?_ GE153.out) | exact HB.out)⟩⟩
        · rw [if_neg c6] at H
          exact absurd H (by simp)
      · rw [if_neg c5] at H
        have c5b0 : decide (x4_1 < (a0_1.size : Int)) = false := decide_eq_false c5
        clear c5
        by_cases c17 : t154 = true
        · subst c17
          have H1 : (if (a0_1.size : Int) ≤ 60 then (if a0_2 ≥ (-1000) then (some (decide (a0_2 ≤ 1000))) else (some false)) else (some false)) = some r := by rw [if_pos rfl] at H; exact H
          clear H
          have H := H1
          clear H1
          by_cases c18 : (a0_1.size : Int) ≤ 60
          · rw [if_pos c18] at H
            have c18b0 : decide ((a0_1.size : Int) ≤ 60) = true := decide_eq_true c18
            have c18b1 : decide (a0_1.size ≤ 60) = true := decide_eq_true (by omega)
            clear c18
            by_cases c19 : a0_2 ≥ (-1000)
            · rw [if_pos c19] at H
              have c19b0 : decide ((-1000) ≤ a0_2) = true := decide_eq_true c19
              clear c19
              obtain rfl := Option.some.inj H
              have hcz20_0 : wr.cell? ⟨gb153, 0, none⟩ = some (.string a0_0) := (blk_cell BK153.out 0).trans rfl
              have hcz20_1 : wr.cell? ⟨gb153, 1, none⟩ = some (.string a0_1) := (blk_cell BK153.out 1).trans rfl
              have hcz20_2 : wr.cell? ⟨gb153, 2, none⟩ = some (.int .i64 a0_2) := (blk_cell BK153.out 2).trans rfl
              have hfz20_0 := blk_frozen BK153.out 0
              have hfz20_1 := blk_frozen BK153.out 1
              have hfz20_2 := blk_frozen BK153.out 2
              go_wp2
              go_ret
              exact ⟨by first | rfl | (simp [errW_none, errW_some] <;> rfl) | (simp [*, errW_none, errW_some] <;> rfl), by repeat (first | (with_reducible first | exact HB.out | apply below_alloc | apply pw_below_drewN | apply below_drew1 | refine below_set ?_ GE153.out) | exact HB.out)⟩
            · rw [if_neg c19] at H
              have c19b0 : decide ((-1000) ≤ a0_2) = false := decide_eq_false c19
              clear c19
              obtain rfl := Option.some.inj H
              have hcz21_0 : wr.cell? ⟨gb153, 0, none⟩ = some (.string a0_0) := (blk_cell BK153.out 0).trans rfl
              have hcz21_1 : wr.cell? ⟨gb153, 1, none⟩ = some (.string a0_1) := (blk_cell BK153.out 1).trans rfl
              have hcz21_2 : wr.cell? ⟨gb153, 2, none⟩ = some (.int .i64 a0_2) := (blk_cell BK153.out 2).trans rfl
              have hfz21_0 := blk_frozen BK153.out 0
              have hfz21_1 := blk_frozen BK153.out 1
              have hfz21_2 := blk_frozen BK153.out 2
              go_wp2
              go_ret
              exact ⟨by first | rfl | (simp [errW_none, errW_some] <;> rfl) | (simp [*, errW_none, errW_some] <;> rfl), by repeat (first | (with_reducible first | exact HB.out | apply below_alloc | apply pw_below_drewN | apply below_drew1 | refine below_set ?_ GE153.out) | exact HB.out)⟩
          · rw [if_neg c18] at H
            have c18b0 : decide ((a0_1.size : Int) ≤ 60) = false := decide_eq_false c18
            have c18b1 : decide (a0_1.size ≤ 60) = false := decide_eq_false (by omega)
            clear c18
            obtain rfl := Option.some.inj H
            have hcz22_0 : wr.cell? ⟨gb153, 0, none⟩ = some (.string a0_0) := (blk_cell BK153.out 0).trans rfl
            have hcz22_1 : wr.cell? ⟨gb153, 1, none⟩ = some (.string a0_1) := (blk_cell BK153.out 1).trans rfl
            have hcz22_2 : wr.cell? ⟨gb153, 2, none⟩ = some (.int .i64 a0_2) := (blk_cell BK153.out 2).trans rfl
            have hfz22_0 := blk_frozen BK153.out 0
            have hfz22_1 := blk_frozen BK153.out 1
            have hfz22_2 := blk_frozen BK153.out 2
            go_wp2
            go_ret
            exact ⟨by first | rfl | (simp [errW_none, errW_some] <;> rfl) | (simp [*, errW_none, errW_some] <;> rfl), by repeat (first | (with_reducible first | exact HB.out | apply below_alloc | apply pw_below_drewN | apply below_drew1 | refine below_set ?_ GE153.out) | exact HB.out)⟩
        · replace c17 := Bool.eq_false_iff.mpr c17
          subst c17
          have H1 : (if a0_0.toList = ([42] : List UInt8) then (if (a0_1.size : Int) ≤ 60 then (if a0_2 ≥ (-1000) then (some (decide (a0_2 ≤ 1000))) else (some false)) else (some false)) else (some false)) = some r := by rw [if_neg (show ¬ (false = true) by decide)] at H; exact H
          clear H
          have H := H1
          clear H1
          by_cases c23 : a0_0.toList = ([42] : List UInt8)
          · rw [if_pos c23] at H
            have c23b0 : (a0_0.toList == ([42] : List UInt8)) = true := beq_iff_eq.mpr c23
            have c23b1 : (a0_0.toList != ([42] : List UInt8)) = false := bne_eq_false_iff_eq.mpr c23
            clear c23
            by_cases c24 : (a0_1.size : Int) ≤ 60
            · rw [if_pos c24] at H
              have c24b0 : decide ((a0_1.size : Int) ≤ 60) = true := decide_eq_true c24
              have c24b1 : decide (a0_1.size ≤ 60) = true := decide_eq_true (by omega)
              clear c24
              by_cases c25 : a0_2 ≥ (-1000)
              · rw [if_pos c25] at H
                have c25b0 : decide ((-1000) ≤ a0_2) = true := decide_eq_true c25
                clear c25
                obtain rfl := Option.some.inj H
                have hcz26_0 : wr.cell? ⟨gb153, 0, none⟩ = some (.string a0_0) := (blk_cell BK153.out 0).trans rfl
                have hcz26_1 : wr.cell? ⟨gb153, 1, none⟩ = some (.string a0_1) := (blk_cell BK153.out 1).trans rfl
                have hcz26_2 : wr.cell? ⟨gb153, 2, none⟩ = some (.int .i64 a0_2) := (blk_cell BK153.out 2).trans rfl
                have hfz26_0 := blk_frozen BK153.out 0
                have hfz26_1 := blk_frozen BK153.out 1
                have hfz26_2 := blk_frozen BK153.out 2
                go_wp2
                go_ret
                exact ⟨by first | rfl | (simp [errW_none, errW_some] <;> rfl) | (simp [*, errW_none, errW_some] <;> rfl), by repeat (first | (with_reducible first | exact HB.out | apply below_alloc | apply pw_below_drewN | apply below_drew1 | refine below_set ?_ GE153.out) | exact HB.out)⟩
              · rw [if_neg c25] at H
                have c25b0 : decide ((-1000) ≤ a0_2) = false := decide_eq_false c25
                clear c25
                obtain rfl := Option.some.inj H
                have hcz27_0 : wr.cell? ⟨gb153, 0, none⟩ = some (.string a0_0) := (blk_cell BK153.out 0).trans rfl
                have hcz27_1 : wr.cell? ⟨gb153, 1, none⟩ = some (.string a0_1) := (blk_cell BK153.out 1).trans rfl
                have hcz27_2 : wr.cell? ⟨gb153, 2, none⟩ = some (.int .i64 a0_2) := (blk_cell BK153.out 2).trans rfl
                have hfz27_0 := blk_frozen BK153.out 0
                have hfz27_1 := blk_frozen BK153.out 1
                have hfz27_2 := blk_frozen BK153.out 2
                go_wp2
                go_ret
                exact ⟨by first | rfl | (simp [errW_none, errW_some] <;> rfl) | (simp [*, errW_none, errW_some] <;> rfl), by repeat (first | (with_reducible first | exact HB.out | apply below_alloc | apply pw_below_drewN | apply below_drew1 | refine below_set ?_ GE153.out) | exact HB.out)⟩
            · rw [if_neg c24] at H
              have c24b0 : decide ((a0_1.size : Int) ≤ 60) = false := decide_eq_false c24
              have c24b1 : decide (a0_1.size ≤ 60) = false := decide_eq_false (by omega)
              clear c24
              obtain rfl := Option.some.inj H
              have hcz28_0 : wr.cell? ⟨gb153, 0, none⟩ = some (.string a0_0) := (blk_cell BK153.out 0).trans rfl
              have hcz28_1 : wr.cell? ⟨gb153, 1, none⟩ = some (.string a0_1) := (blk_cell BK153.out 1).trans rfl
              have hcz28_2 : wr.cell? ⟨gb153, 2, none⟩ = some (.int .i64 a0_2) := (blk_cell BK153.out 2).trans rfl
              have hfz28_0 := blk_frozen BK153.out 0
              have hfz28_1 := blk_frozen BK153.out 1
              have hfz28_2 := blk_frozen BK153.out 2
              go_wp2
              go_ret
              exact ⟨by first | rfl | (simp [errW_none, errW_some] <;> rfl) | (simp [*, errW_none, errW_some] <;> rfl), by repeat (first | (with_reducible first | exact HB.out | apply below_alloc | apply pw_below_drewN | apply below_drew1 | refine below_set ?_ GE153.out) | exact HB.out)⟩
          · rw [if_neg c23] at H
            have c23b0 : (a0_0.toList == ([42] : List UInt8)) = false := beq_eq_false_iff_ne.mpr c23
            have c23b1 : (a0_0.toList != ([42] : List UInt8)) = true := bne_iff_ne.mpr c23
            obtain rfl := Option.some.inj H
            have hcz29_0 : wr.cell? ⟨gb153, 0, none⟩ = some (.string a0_0) := (blk_cell BK153.out 0).trans rfl
            have hcz29_1 : wr.cell? ⟨gb153, 1, none⟩ = some (.string a0_1) := (blk_cell BK153.out 1).trans rfl
            have hcz29_2 : wr.cell? ⟨gb153, 2, none⟩ = some (.int .i64 a0_2) := (blk_cell BK153.out 2).trans rfl
            have hfz29_0 := blk_frozen BK153.out 0
            have hfz29_1 := blk_frozen BK153.out 1
            have hfz29_2 := blk_frozen BK153.out 2
            go_wp2
            go_ret
            exact ⟨by first | rfl | (simp [errW_none, errW_some] <;> rfl) | (simp [*, errW_none, errW_some] <;> rfl), by repeat (first | (with_reducible first | exact HB.out | apply below_alloc | apply pw_below_drewN | apply below_drew1 | refine below_set ?_ GE153.out) | exact HB.out)⟩

/-! ### keelsonref8_decimal: function 33 -/
def keelsonref8_decimal.f (k : Nat) (a0 : Int) : Option (ByteArray) := if a0 < 0 then ((keelsonref2_Decimal.f k (wrap64 (-a0))).bind fun t155 => (if 1 + t155.size ≤ 9223372036854775807 then (some ((⟨#[45]⟩ : ByteArray) ++ t155)) else (none))) else ((keelsonref2_Decimal.f k a0).bind fun t156 => (some t156))
set_option maxHeartbeats 8000000 in
set_option maxRecDepth 100000 in
theorem keelsonref8_decimal.calls (k : Nat) (a0 : Int) (r : ByteArray) (w : World) (h : keelsonref8_decimal.f k a0 = some r) :
    Calls Tryz.prog 33 #[.int .i64 a0] w fun e w' => e = .returned (.string r) ∧ Drawn0 w w' := by
  have H : (if a0 < 0 then ((keelsonref2_Decimal.f k (wrap64 (-a0))).bind fun t155 => (if 1 + t155.size ≤ 9223372036854775807 then (some ((⟨#[45]⟩ : ByteArray) ++ t155)) else (none))) else ((keelsonref2_Decimal.f k a0).bind fun t156 => (some t156))) = some r := h
  clear h
  by_cases c2 : a0 < 0
  · rw [if_pos c2] at H
    have c2b0 : decide (a0 < 0) = true := decide_eq_true c2
    clear c2
    replace H := Option.bind_eq_some_iff.mp H
    obtain ⟨t155, A30, H⟩ := H
    replace H : (if 1 + t155.size ≤ 9223372036854775807 then (some ((⟨#[45]⟩ : ByteArray) ++ t155)) else (none)) = some r := H
    have A3 := Aside0.mk A30
    clear A30
    by_cases c4 : 1 + t155.size ≤ 9223372036854775807
    · rw [if_pos c4] at H
      have c4b0 := eq_true c4
      have c4b1 : decide (1 + t155.size ≤ 9223372036854775807) = true := decide_eq_true c4
      try have c4b2 : (9223372036854775807 < 1 + t155.size) = False := eq_false (Nat.not_lt.2 c4)
      obtain rfl := Option.some.inj H
      go_enter Tryz.func33, Tryz.ntmps33
      go_wp2_with (first | ((with_reducible refine gate_callee (f := 69) rfl ?_); refine goesL_ (some 7) rfl rfl Tryz.func69 (by kernel_rfl) rfl #[.int .i64 (wrap64 (-a0))] rfl (by (try simp only [List.map_toArray, List.map_cons, List.map_nil]); first | done | rfl | (simp only [List.length_drop, List.length_take]; rfl)) ?_; (with_reducible refine (keelsonref2_Decimal.calls k (wrap64 (-a0)) t155 _ A3.out).mono ?_); rintro e w' ⟨rfl, ⟨nd, rfl⟩⟩; refine ⟨_, rfl, ?_⟩))
      go_ret
      exact ⟨by first | rfl | (simp; done) | (simp [*]; done), by repeat (first | exact Drawn0.refl _ | apply Drawn0.step)⟩
    · rw [if_neg c4] at H
      exact absurd H (by simp)
  · rw [if_neg c2] at H
    have c2b0 : decide (a0 < 0) = false := decide_eq_false c2
    clear c2
    replace H := Option.bind_eq_some_iff.mp H
    obtain ⟨t156, A50, H⟩ := H
    replace H : (some t156) = some r := H
    have A5 := Aside0.mk A50
    clear A50
    obtain rfl := Option.some.inj H
    go_enter Tryz.func33, Tryz.ntmps33
    go_wp2_with (first | ((with_reducible refine gate_callee (f := 69) rfl ?_); refine goesL_ (some 10) rfl rfl Tryz.func69 (by kernel_rfl) rfl #[.int .i64 a0] rfl (by (try simp only [List.map_toArray, List.map_cons, List.map_nil]); first | done | rfl | (simp only [List.length_drop, List.length_take]; rfl)) ?_; (with_reducible refine (keelsonref2_Decimal.calls k a0 t156 _ A5.out).mono ?_); rintro e w' ⟨rfl, ⟨nd, rfl⟩⟩; refine ⟨_, rfl, ?_⟩))
    go_ret
    exact ⟨by first | rfl | (simp; done) | (simp [*]; done), by repeat (first | exact Drawn0.refl _ | apply Drawn0.step)⟩

/-! ### keelsonref8_priority: function 61 -/
/-! ### keelsonref8_pin: function 26 -/
end Go.Proofs.YtlcfpmdamehopaaGreatDoor.PA
/- Numbers as text in program and reference: one and the same; as plain functions. Conditions: numbers that fit. -/
namespace Go.Proofs.YtlcfpmdamehopaaGreatDoor.PA
open Go.RowKit Go.Proofs.YtlcfpmdamehopaaGreatDoorW.PrintWords Go.Proofs.YtlcfpmdamehopaaGreatDoorW.PrintLast Go.Proofs.YtlcfpmdamehopaaGreatDoorW.PrintMore

theorem digit_cut : ∀ d, d < 10 → (⟨#[48, 49, 50, 51, 52, 53, 54, 55, 56, 57]⟩ : ByteArray).extract d (d + 1) = mkB [UInt8.ofNat (48 + d)] := by decide
theorem dec_len : ∀ n : Nat, (Lib.decDigits n).length ≤ n + 1 := by
  intro n
  induction n using Nat.strongRecOn with
  | _ n ih =>
    rw [Lib.decDigits]
    split
    · simp
    · rename_i h
      have := ih (n / 10) (by omega)
      rw [List.length_append]; simp; omega
theorem mkB_app (a b : List UInt8) : mkB a ++ mkB b = mkB (a ++ b) := by
  refine bytes_injQ ?_
  rw [ByteArray.data_append, Array.toList_append]; rfl
theorem mkB_len (l : List UInt8) : (mkB l).size = l.length := by rw [← data_length]; rfl
theorem mkB_toL (l : List UInt8) : (mkB l).toList = l := by rw [ByteArray.toList_eq]; rfl
theorem decimal_step (n : Nat) (hn : n < 1000000000) (acc : List UInt8) (ha : acc.length ≤ 1000000000) (r : ByteArray) (h : Ev (fun k => keelsonref2_Decimal.l0 k ((n / 10 : Nat) : Int) (mkB (UInt8.ofNat (48 + n % 10) :: acc))) r) (hc : 0 < n ∨ acc = []) :
    Ev (fun k => keelsonref2_Decimal.l0 k (n : Int) (mkB acc)) r := by
  have e1 : Int.tmod (n : Int) 10 = ((n % 10 : Nat) : Int) := by rw [Int.tmod_eq_emod_of_nonneg (by omega)]; omega
  have e2 : wrap64 (((n % 10 : Nat) : Int) + 1) = ((n % 10 + 1 : Nat) : Int) := by unfold wrap64; omega
  have e3 : wrap64 (Int.tdiv (n : Int) 10) = ((n / 10 : Nat) : Int) := by rw [Int.tdiv_eq_ediv_of_nonneg (by omega)]; unfold wrap64; omega
  have e4 := digit_cut (n % 10) (Nat.mod_lt _ (by decide))
  have e5 : mkB [UInt8.ofNat (48 + n % 10)] ++ mkB acc = mkB (UInt8.ofNat (48 + n % 10) :: acc) := mkB_app _ _
  have e6 : (mkB [UInt8.ofNat (48 + n % 10)]).size + (mkB acc).size ≤ 9223372036854775807 := by rw [mkB_len, mkB_len]; simp; omega
  refine Ev.succ ?_
  simp only [keelsonref2_Decimal.l0]
  rw [e1, e2, e3, Int.toNat_natCast, Int.toNat_natCast, e4, e5]
  rcases Nat.eq_zero_or_pos n with h0 | h0
  · rcases hc with hc | hc
    · omega
    · refine Ev.neg (by omega) (Ev.pos (by rw [mkB_toL, hc]) (Ev.pos (by omega) (Ev.pos (by omega) (Ev.pos (by omega) (Ev.pos e6 h)))))
  · exact Ev.pos (by omega) (Ev.pos (by omega) (Ev.pos (by omega) (Ev.pos (by omega) (Ev.pos e6 h))))
theorem decimal_loop : ∀ n : Nat, n < 1000000000 → ∀ acc : List UInt8, acc.length + n < 1000000000 → (0 < n ∨ acc = []) → Ev (fun k => keelsonref2_Decimal.l0 k (n : Int) (mkB acc)) (mkB (Lib.decDigits n ++ acc)) := by
  intro n
  induction n using Nat.strongRecOn with
  | _ n ih =>
    intro hn acc ha hc
    refine decimal_step n hn acc (by omega) _ ?_ hc
    rw [Lib.decDigits]
    split
    · rename_i h
      rw [show n / 10 = 0 by omega, show n % 10 = n by omega]
      refine Ev.succ ?_
      simp only [keelsonref2_Decimal.l0]
      refine Ev.neg (by decide) (Ev.neg (by rw [mkB_toL]; simp) (Ev.some rfl))
    · rename_i h
      have := ih (n / 10) (by omega) (by omega) (UInt8.ofNat (48 + n % 10) :: acc) (by rw [List.length_cons]; omega) (.inl (by omega))
      rwa [List.append_assoc, List.singleton_append]
theorem decimal_ev (n : Nat) (hn : n < 1000000000) : Ev (fun k => keelsonref2_Decimal.f k (n : Int)) (mkB (Lib.decDigits n)) := by
  unfold keelsonref2_Decimal.f
  have := decimal_loop n hn [] (by simp; omega) (.inr rfl)
  rwa [List.append_nil] at this
theorem decimal8_ev (n : Int) (h0 : -1000000 ≤ n) (h1 : n ≤ 1000000) : Ev (fun k => keelsonref8_decimal.f k n) (itoaB n) := by
  unfold keelsonref8_decimal.f itoaB Lib.itoa
  by_cases hn : n < 0
  · rw [if_pos hn]
    refine Ev.pos hn ?_
    have e : wrap64 (-n) = ((n.natAbs : Nat) : Int) := by unfold wrap64; omega
    rw [e]
    have hl := dec_len n.natAbs
    refine Ev.bind (decimal_ev n.natAbs (by omega)) (Ev.pos (by rw [mkB_len]; omega) (Ev.some ?_))
    exact mkB_app [45] _
  · rw [if_neg hn]
    refine Ev.neg hn ?_
    have e : n = ((n.toNat : Nat) : Int) := by omega
    rw [e]
    exact Ev.bind (decimal_ev n.toNat (by omega)) (Ev.some (by rw [Int.toNat_natCast]; rfl))
theorem num_itoa (n : Int) (h0 : -1000000 ≤ n) (h1 : n ≤ 1000000) : numOf (itoaB n).data.toList = some n := by
  unfold numOf
  rw [show (itoaB n).data.toList = Lib.itoa n from rfl, atoi_itoa n (by omega) (by omega)]
/-- What a text is read as, as a priority. -/
def prioOf (s : ByteArray) : Int × Bool := match numOf s.data.toList with
  | some n => if itoaB n = s ∧ -1000 ≤ n ∧ n ≤ 1000 then (n, true) else (0, false)
  | none => (0, false)
theorem prio_hit (n : Int) (h0 : -1000 ≤ n) (h1 : n ≤ 1000) : prioOf (itoaB n) = (n, true) := by
  unfold prioOf
  rw [num_itoa n (by omega) (by omega)]
  exact if_pos ⟨rfl, h0, h1⟩
end Go.Proofs.YtlcfpmdamehopaaGreatDoor.PA
/- keelson/relation.Name, keelson/pins.Right: what they come to. No condition but that a text has a size that fits a number. -/
namespace Go.Proofs.YtlcfpmdamehopaaGreatDoor.PA
open Go.RowKit Go.Proofs.YtlcfpmdamehopaaGreatDoorW.PrintWords Go.Proofs.YtlcfpmdamehopaaGreatDoorW.PrintLast Go.Proofs.YtlcfpmdamehopaaGreatDoorW.PrintMore

theorem str_eqB (a b : ByteArray) : (a.toList == b.toList) = decide (a = b) := by
  rw [ByteArray.toList_eq, ByteArray.toList_eq]
  by_cases h : a = b
  · subst h; simp
  · rw [decide_eq_false h, beq_eq_false_iff_ne]
    intro e
    exact h (by cases a; cases b; simp at e; rw [e])
def isFirst (c : UInt8) : Bool := (decide (97 ≤ c.toNat) && decide (c.toNat ≤ 122)) || (decide (48 ≤ c.toNat) && decide (c.toNat ≤ 57))
def isOther (c : UInt8) : Bool := isFirst c || decide (c.toNat = 43) || decide (c.toNat = 45) || decide (c.toNat = 46)
def relL : List UInt8 → Bool
  | [] => false
  | c :: s => (decide (2 ≤ s.length + 1) && decide (s.length + 1 ≤ 40)) && isFirst c && (c :: s).all isOther
theorem relL_cons (c : UInt8) (s : List UInt8) : relL (c :: s) = ((decide (2 ≤ s.length + 1) && decide (s.length + 1 ≤ 40)) && isFirst c && (c :: s).all isOther) := rfl
def firstsL : List UInt8 := [97, 98, 99, 100, 101, 102, 103, 104, 105, 106, 107, 108, 109, 110, 111, 112, 113, 114, 115, 116, 117, 118, 119, 120, 121, 122, 48, 49, 50, 51, 52, 53, 54, 55, 56, 57]
def othersL : List UInt8 := firstsL ++ [43, 45, 46]
theorem firsts_are : ∀ n, n < 256 → decide (0 ≤ Lib.indexByte firstsL n.toUInt8) = isFirst n.toUInt8 := by decide +kernel
theorem others_are : ∀ n, n < 256 → decide (Lib.indexByte othersL n.toUInt8 < 0) = !isOther n.toUInt8 := by decide +kernel
theorem first_is (c : UInt8) : decide (0 ≤ Lib.indexByte firstsL c) = isFirst c := by
  have := firsts_are c.toNat c.toNat_lt
  rwa [show c.toNat.toUInt8 = c from by simp] at this
theorem other_is (c : UInt8) : decide (Lib.indexByte othersL c < 0) = !isOther c := by
  have := others_are c.toNat c.toNat_lt
  rwa [show c.toNat.toUInt8 = c from by simp] at this
theorem rname1_enters : ∀ args w, (callFunc 64 args).run Tryz.prog w = .ok (.enter 64 args) w := enters_of Tryz.func64 (by kernel_rfl) rfl
theorem rname1_any (c : Int) (W : World) : Calls Tryz.prog 64 #[.int .u8 c] W fun e w' => e = .returned (.bool (decide (Lib.indexByte othersL c.toNat.toUInt8 < 0))) ∧ w' = W := by
  have h := Tryz.strings_IndexByte ⟨othersL.toArray⟩ c W
  rw [show (⟨othersL.toArray⟩ : ByteArray).data.toList = othersL from rfl] at h
  generalize Lib.indexByte othersL c.toNat.toUInt8 = q at h ⊢
  simp only [othersL, firstsL, List.cons_append, List.nil_append] at h
  go_enter Tryz.func64, Tryz.ntmps64
  go_wp2_with (go_at_call 63; with_reducible refine h.mono ?_; rintro e w' ⟨rfl, rfl⟩)
  go_ret
  exact ⟨rfl, rfl⟩
def relation_Name.f (a0 : ByteArray) : Option Bool := some (relL a0.data.toList)
theorem rbytes_any (s : ByteArray) : ((bytesOf s).any fun c => decide (Lib.indexByte othersL c.toNat.toUInt8 < 0)) = !(s.data.toList.all isOther) := by
  unfold bytesOf
  rw [List.any_map, List.not_all_eq_any_not]
  congr 1
  funext c
  show decide (Lib.indexByte othersL ((c.toNat : Int).toNat.toUInt8) < 0) = _
  rw [Int.toNat_natCast, show c.toNat.toUInt8 = c from by simp, other_is]
set_option maxRecDepth 20000 in
set_option maxHeartbeats 1000000 in
theorem relation_Name.calls (a0 : ByteArray) (r : Bool) (w : World) (h : relation_Name.f a0 = some r) :
    Calls Tryz.prog 29 #[.string a0] w fun e w' => e = .returned (.bool r) ∧ Below w.heap.size w w' := by
  obtain rfl := Option.some.inj h
  clear h
  cases hl : a0.data.toList with
  | nil =>
    obtain rfl : a0 = ⟨#[]⟩ := by cases a0 with | mk d => cases d with | mk l => cases hl; rfl
    go_enter Tryz.func29, Tryz.ntmps29
    go_wp2
    go_ret
    exact ⟨rfl, Below.refl _ _⟩
  | cons c s =>
    have hne : ¬ a0 = ⟨#[]⟩ := by rintro rfl; cases hl
    have hsz : a0.size = s.length + 1 := by rw [← data_length, hl]; rfl
    by_cases h2 : 2 ≤ s.length + 1
    case neg =>
      have h2' : ¬ (2 : Int) ≤ (a0.size : Int) := by omega
      go_enter Tryz.func29, Tryz.ntmps29
      go_wp2
      all_goals
        go_ret
        exact ⟨by rw [show relL (c :: s) = false from by rw [relL_cons, decide_eq_false h2]; simp]; rfl, Below.refl _ _⟩
    case pos =>
    have q0 : ((2 : Int) ≤ (a0.size : Int)) = True := eq_true (by omega)
    by_cases h40 : s.length + 1 ≤ 40
    case neg =>
      have h40' : ¬ (a0.size : Int) ≤ 40 := by omega
      go_enter Tryz.func29, Tryz.ntmps29
      go_wp2
      all_goals
        go_ret
        exact ⟨by rw [show relL (c :: s) = false from by rw [relL_cons, decide_eq_false h40]; simp]; rfl, Below.refl _ _⟩
    case pos =>
      have h0 := Tryz.strings_IndexByte ⟨firstsL.toArray⟩ (c.toNat : Int)
      rw [show (⟨firstsL.toArray⟩ : ByteArray).data.toList = firstsL from rfl, Int.toNat_natCast, show c.toNat.toUInt8 = c from by simp] at h0
      have hx : ∀ h : 0 < a0.size, ((a0[0]'h).toNat : Int) = (c.toNat : Int) := by
        intro h
        congr 2
        show a0.data[0] = c
        have : a0.data.toList[0]'(by rw [hl]; exact Nat.succ_pos _) = c := by simp [hl]
        simpa using this
      have hL := first_is c
      have hne2 : (a0.toList = []) = False := by rw [ByteArray.toList_eq, hl]; simp
      have q1 : ((0 : Int) < (a0.size : Int)) = True := eq_true (by omega)
      have q2 : ((a0.size : Int) ≤ 40) = True := eq_true (by omega)
      have q3 : (0 < a0.size) = True := eq_true (by omega)
      have kb := fun W => print_bytes (P := Tryz.prog) 9 57 5 Tryz.underlying9 Tryz.underlying57 Tryz.underlying5 a0 W
      have hcon : ∀ (W : World) (n c : Nat), W.heap.size = n → Calls Tryz.prog 27 #[.slice (some ⟨n, 0, none⟩) a0.size c, .func (.func 64) #[] #[]] (Lib.bytesWorld W 5 a0) fun e w' => e = .returned (.bool (!(a0.data.toList.all isOther))) ∧ Below (Lib.bytesWorld W 5 a0).heap.size (Lib.bytesWorld W 5 a0) w' := by
        rintro W n c rfl
        rw [← rbytes_any, ← bytesOf_length a0]
        refine con27 (Kd.int .u8) rfl 64 _ rname1_enters _ c (bytesOf a0) (fun c => decide (Lib.indexByte othersL c.toNat.toUInt8 < 0)) _ (bytes_C W _ a0 (by omega)) ?_
        intro x _ cs W' hb' hK
        obtain rfl := K_int hK
        exact (rname1_any x W').mono fun e w' h => ⟨h.1, by rw [h.2]; exact Below.refl _ _⟩
      rw [hl] at hcon
      have hres : relL (c :: s) = (isFirst c && (c :: s).all isOther) := by rw [relL_cons, decide_eq_true h2, decide_eq_true h40]; simp
      rw [hres]
      generalize (c :: s).all isOther = g at hcon ⊢
      generalize Lib.indexByte firstsL c = q at h0 hL
      generalize isFirst c = g2 at hL ⊢
      simp only [firstsL] at h0
      generalize (c.toNat : Int) = ci at hx h0
      clear hres h40 h2 hne hl hsz
      subst hL
      by_cases hq : 0 ≤ q
      · have hq0 : ¬ q < 0 := by omega
        go_enter Tryz.func29, Tryz.ntmps29
        go_wp2_with (first | (go_at_call 63; with_reducible refine (h0 _).mono ?_; rintro e w' ⟨rfl, rfl⟩) | (go_at_call 27; with_reducible refine (hcon _ _ _ (by simp [go_sem])).mono ?_; rintro e w' ⟨rfl, hb⟩))
        go_ret
        exact ⟨by rw [decide_eq_true (show 0 ≤ q by omega), Bool.true_and]; first | rfl | simp [hne2], (bytes_below (Below.refl _ _) (Nat.le_refl _) _ _).trans (hb.mono (by simp [Lib.bytesWorld_size]))⟩
      · go_enter Tryz.func29, Tryz.ntmps29
        go_wp2_with (go_at_call 63; with_reducible refine (h0 _).mono ?_; rintro e w' ⟨rfl, rfl⟩)
        go_ret
        exact ⟨by rw [decide_eq_false (show ¬ 0 ≤ q by omega), Bool.false_and]; first | rfl | simp, Below.refl _ _⟩

def oddC (c : Int) : Bool := decide (c ≤ 32) || (decide (126 < c) || decide (c = 42))
theorem pright1_enters : ∀ args w, (callFunc 28 args).run Tryz.prog w = .ok (.enter 28 args) w := enters_of Tryz.func28 (by kernel_rfl) rfl
theorem pright1_any (c : Int) (W : World) : Calls Tryz.prog 28 #[.int .u8 c] W fun e w' => e = .returned (.bool (oddC c)) ∧ w' = W := by
  unfold oddC
  by_cases h1 : c ≤ 32
  · rw [decide_eq_true h1, Bool.true_or]
    go_enter Tryz.func28, Tryz.ntmps28
    go_wp2
    go_ret
    exact ⟨rfl, rfl⟩
  · rw [decide_eq_false h1, Bool.false_or]
    have h1' : 32 < c := by omega
    by_cases h2 : 126 < c
    · rw [decide_eq_true h2, Bool.true_or]
      go_enter Tryz.func28, Tryz.ntmps28
      go_wp2
      go_ret
      exact ⟨rfl, rfl⟩
    · rw [decide_eq_false h2, Bool.false_or]
      go_enter Tryz.func28, Tryz.ntmps28
      by_cases h3 : c = 42
      · subst h3
        go_wp2
        go_ret
        exact ⟨rfl, rfl⟩
      · go_wp2
        go_ret
        exact ⟨by simp; exact h3, rfl⟩
def starB : ByteArray := ⟨#[42]⟩
def oddS (s : ByteArray) : Bool := (bytesOf s).any oddC
def rightP (x y : ByteArray) (z : Int) : Bool := !(oddS y) && (decide (x = starB) || relL x.data.toList) && decide (y.size ≤ 60) && decide (-1000 ≤ z) && decide (z ≤ 1000)
def pins_Right.f (x y : ByteArray) (z : Int) : Option Bool := if y.size ≤ 9223372036854775807 then some (rightP x y z) else none
theorem row_up {W w' : World} {g : Nat} {ob : Obj} (h : Below W.heap.size W w') (hg : W.heap[g]? = some ob) : w'.heap[g]? = some ob := by
  rw [h.block g (Array.getElem?_eq_some_iff.1 hg).1]; exact hg
theorem star_eq (x : ByteArray) : (x.toList == [42]) = decide (x = starB) := by
  have := str_eqB x starB
  rw [← this]; congr 1; rw [ByteArray.toList_eq]; rfl
set_option maxRecDepth 20000 in
set_option maxHeartbeats 4000000 in
theorem pins_Right.calls (x y : ByteArray) (z : Int) (r : Bool) (w : World) (h : pins_Right.f x y z = some r) :
    Calls Tryz.prog 12 #[.agg #[.string x, .string y, .int .i64 z]] w fun e w' => e = .returned (.bool r) ∧ Below w.heap.size w w' := by
  unfold pins_Right.f at h
  split at h
  case isFalse => cases h
  case isTrue hy =>
  obtain rfl := Option.some.inj h
  clear h
  have kb := fun W => print_bytes (P := Tryz.prog) 9 57 5 Tryz.underlying9 Tryz.underlying57 Tryz.underlying5 y W
  have hcon : ∀ (W : World) (n c : Nat), W.heap.size = n → (Below w.heap.size w W ∧ W.heap[w.heap.size]? = some (.cells #[.string x, .string y, .int .i64 z] 30 (0, 0))) → Calls Tryz.prog 27 #[.slice (some ⟨n, 0, none⟩) y.size c, .func (.func 28) #[] #[]] (Lib.bytesWorld W 5 y) fun e w' => e = .returned (.bool (oddS y)) ∧ Below w.heap.size w w' ∧ w'.cell? ⟨w.heap.size, 0, none⟩ = some (.string x) ∧ w'.cell? ⟨w.heap.size, 1, none⟩ = some (.string y) ∧ w'.cell? ⟨w.heap.size, 2, none⟩ = some (.int .i64 z) := by
    rintro W n c rfl ⟨hB, hR⟩
    have hb : Below W.heap.size W (Lib.bytesWorld W 5 y) := bytes_below (Below.refl _ _) (Nat.le_refl _) _ _
    have := con27 (Kd.int .u8) rfl 28 #[] pright1_enters (some ⟨W.heap.size, 0, none⟩) c (bytesOf y) oddC (Lib.bytesWorld W 5 y) (bytes_C W _ y hy) (by
      intro x _ cs W' hb' hK
      obtain rfl := K_int hK
      exact (pright1_any x W').mono fun e w' h => ⟨h.1, by rw [h.2]; exact Below.refl _ _⟩)
    rw [bytesOf_length] at this
    refine this.mono ?_
    rintro e w' ⟨he, hb'⟩
    have hr := row_up hb' (row_up hb hR)
    refine ⟨he, hB.trans ((hb.trans (hb'.mono hb.size)).mono hB.size), ?_, ?_, ?_⟩ <;> (rw [cell_of_row _ _ _ _ _ _ hr]; rfl)
  have hB0 : Below w.heap.size w (w.alloc (.cells #[.string x, .string y, .int .i64 z] 30)) ∧ (w.alloc (.cells #[.string x, .string y, .int .i64 z] 30)).heap[w.heap.size]? = some (.cells #[.string x, .string y, .int .i64 z] 30 (0, 0)) := ⟨(Below.refl _ w).alloc (Nat.le_refl _) _, heap_alloc_new w _⟩
  have hnm := fun W => relation_Name.calls x (relL x.data.toList) W rfl
  have hst := star_eq x
  unfold rightP
  generalize oddS y = b1 at hcon ⊢
  generalize relL x.data.toList = b3 at hnm ⊢
  cases b1 with
  | true =>
    rw [Bool.not_true, Bool.false_and, Bool.false_and, Bool.false_and, Bool.false_and]
    go_enter Tryz.func12, Tryz.ntmps12
    go_wp2_with (first | (go_at_call 27; with_reducible refine (hcon _ _ _ (by simp [go_sem]) hB0).mono ?_; rintro e w1 ⟨rfl, hb1, c0, c1, c2⟩))
    go_ret
    exact ⟨rfl, hb1⟩
  | false =>
    rw [Bool.not_false, Bool.true_and]
    by_cases hs : x = starB
    · rw [decide_eq_true hs, Bool.true_or, Bool.true_and]
      rw [decide_eq_true hs] at hst
      clear hs
      by_cases q1 : (y.size : Int) ≤ 60
      · rw [decide_eq_true (show y.size ≤ 60 by omega), Bool.true_and]
        by_cases q2 : -1000 ≤ z
        · rw [decide_eq_true q2, Bool.true_and]
          by_cases q3 : z ≤ 1000
          · rw [decide_eq_true q3]
            go_enter Tryz.func12, Tryz.ntmps12
            go_wp2_with (first | (go_at_call 27; with_reducible refine (hcon _ _ _ (by simp [go_sem]) hB0).mono ?_; rintro e w1 ⟨rfl, hb1, c0, c1, c2⟩))
            go_ret
            exact ⟨by first | rfl | simp [q3], hb1⟩
          · rw [decide_eq_false q3]
            go_enter Tryz.func12, Tryz.ntmps12
            go_wp2_with (first | (go_at_call 27; with_reducible refine (hcon _ _ _ (by simp [go_sem]) hB0).mono ?_; rintro e w1 ⟨rfl, hb1, c0, c1, c2⟩))
            go_ret
            exact ⟨by first | rfl | simp [q3], hb1⟩
        · rw [decide_eq_false q2, Bool.false_and]
          go_enter Tryz.func12, Tryz.ntmps12
          go_wp2_with (first | (go_at_call 27; with_reducible refine (hcon _ _ _ (by simp [go_sem]) hB0).mono ?_; rintro e w1 ⟨rfl, hb1, c0, c1, c2⟩))
          go_ret
          exact ⟨rfl, hb1⟩
      · rw [decide_eq_false (show ¬ y.size ≤ 60 by omega), Bool.false_and, Bool.false_and]
        go_enter Tryz.func12, Tryz.ntmps12
        go_wp2_with (first | (go_at_call 27; with_reducible refine (hcon _ _ _ (by simp [go_sem]) hB0).mono ?_; rintro e w1 ⟨rfl, hb1, c0, c1, c2⟩))
        go_ret
        exact ⟨rfl, hb1⟩
    · rw [decide_eq_false hs, Bool.false_or]
      rw [decide_eq_false hs] at hst
      have hs2 : ¬ x = ⟨#[42]⟩ := hs
      clear hs
      cases b3 with
      | true =>
        rw [Bool.true_and]
        by_cases q1 : (y.size : Int) ≤ 60
        · rw [decide_eq_true (show y.size ≤ 60 by omega), Bool.true_and]
          by_cases q2 : -1000 ≤ z
          · rw [decide_eq_true q2, Bool.true_and]
            by_cases q3 : z ≤ 1000
            · rw [decide_eq_true q3]
              go_enter Tryz.func12, Tryz.ntmps12
              go_wp2_with (first | (go_at_call 27; with_reducible refine (hcon _ _ _ (by simp [go_sem]) hB0).mono ?_; rintro e w1 ⟨rfl, hb1, c0, c1, c2⟩) | (go_at_call 29; with_reducible refine (hnm _).mono ?_; rintro e w2 ⟨rfl, hb2⟩; have d1 := pw_cell_below hb2 c1; have d2 := pw_cell_below hb2 c2))
              go_ret
              exact ⟨by first | rfl | simp [q3], below_step hb1 hb2⟩
            · rw [decide_eq_false q3]
              go_enter Tryz.func12, Tryz.ntmps12
              go_wp2_with (first | (go_at_call 27; with_reducible refine (hcon _ _ _ (by simp [go_sem]) hB0).mono ?_; rintro e w1 ⟨rfl, hb1, c0, c1, c2⟩) | (go_at_call 29; with_reducible refine (hnm _).mono ?_; rintro e w2 ⟨rfl, hb2⟩; have d1 := pw_cell_below hb2 c1; have d2 := pw_cell_below hb2 c2))
              go_ret
              exact ⟨by first | rfl | simp [q3], below_step hb1 hb2⟩
          · rw [decide_eq_false q2, Bool.false_and]
            go_enter Tryz.func12, Tryz.ntmps12
            go_wp2_with (first | (go_at_call 27; with_reducible refine (hcon _ _ _ (by simp [go_sem]) hB0).mono ?_; rintro e w1 ⟨rfl, hb1, c0, c1, c2⟩) | (go_at_call 29; with_reducible refine (hnm _).mono ?_; rintro e w2 ⟨rfl, hb2⟩; have d1 := pw_cell_below hb2 c1; have d2 := pw_cell_below hb2 c2))
            go_ret
            exact ⟨rfl, below_step hb1 hb2⟩
        · rw [decide_eq_false (show ¬ y.size ≤ 60 by omega), Bool.false_and, Bool.false_and]
          go_enter Tryz.func12, Tryz.ntmps12
          go_wp2_with (first | (go_at_call 27; with_reducible refine (hcon _ _ _ (by simp [go_sem]) hB0).mono ?_; rintro e w1 ⟨rfl, hb1, c0, c1, c2⟩) | (go_at_call 29; with_reducible refine (hnm _).mono ?_; rintro e w2 ⟨rfl, hb2⟩; have d1 := pw_cell_below hb2 c1; have d2 := pw_cell_below hb2 c2))
          go_ret
          exact ⟨rfl, below_step hb1 hb2⟩
      | false =>
        rw [Bool.false_and, Bool.false_and, Bool.false_and]
        go_enter Tryz.func12, Tryz.ntmps12
        go_wp2_with (first | (go_at_call 27; with_reducible refine (hcon _ _ _ (by simp [go_sem]) hB0).mono ?_; rintro e w1 ⟨rfl, hb1, c0, c1, c2⟩) | (go_at_call 29; with_reducible refine (hnm _).mono ?_; rintro e w2 ⟨rfl, hb2⟩; have d1 := pw_cell_below hb2 c1; have d2 := pw_cell_below hb2 c2))
        go_ret
        exact ⟨rfl, below_step hb1 hb2⟩
end Go.Proofs.YtlcfpmdamehopaaGreatDoor.PA
/- keelson/pins.read: what it comes to. Conditions: sizes that fit; the library's errors and its table lie in their variables. -/
namespace Go.Proofs.YtlcfpmdamehopaaGreatDoor.PA
open Go.RowKit Go.Proofs.YtlcfpmdamehopaaGreatDoorW.PrintWords Go.Proofs.YtlcfpmdamehopaaGreatDoorW.PrintLast Go.Proofs.YtlcfpmdamehopaaGreatDoorW.PrintMore

def headB : ByteArray := ⟨#[118, 101, 114, 115, 105, 111, 110, 32]⟩
def noPin (q : Int) : ByteArray × ByteArray × Int × Int := (⟨#[]⟩, ⟨#[]⟩, 0, q)
def trimB (v : ByteArray) : ByteArray := ⟨(Lib.trimPrefix v.data.toList headB.data.toList).toArray⟩
def trimE (v : ByteArray) : ByteArray := ⟨(Lib.trimSuffix v.data.toList starB.data.toList).toArray⟩
/-- What a pin's three values are read as. -/
def readF (x v s : ByteArray) : ByteArray × ByteArray × Int × Int :=
  if Lib.hasPrefix v.data.toList headB.data.toList = false then noPin 5
  else if Lib.hasSuffix (trimB v).data.toList starB.data.toList = false then noPin 5
  else match numOf s.data.toList with
    | none => noPin 5
    | some n => if itoaB n = s then (if rightP x (trimE (trimB v)) n = true then (x, trimE (trimB v), n, 0) else noPin 5) else noPin 5
def pins_read.f (l0 : List S60) : Option (ByteArray × ByteArray × Int × Int) :=
  (stanza_Get.f l0 ⟨#[80, 97, 99, 107, 97, 103, 101]⟩).bind fun a => (stanza_Get.f l0 ⟨#[80, 105, 110]⟩).bind fun b => (stanza_Get.f l0 ⟨#[80, 105, 110, 45, 80, 114, 105, 111, 114, 105, 116, 121]⟩).bind fun c =>
    if b.1.size ≤ 140737488351232 ∧ c.1.size ≤ 140737488351232 then (if a.2 && b.2 && c.2 then some (readF a.1 b.1 c.1) else some (noPin 6)) else none
theorem trim_size (v p : List UInt8) : (Lib.trimPrefix v p).length ≤ v.length := by
  unfold Lib.trimPrefix; split
  · rw [List.length_drop]; omega
  · exact Nat.le_refl _
theorem trimS_size (v p : List UInt8) : (Lib.trimSuffix v p).length ≤ v.length := by
  unfold Lib.trimSuffix; split
  · rw [List.length_take]; omega
  · exact Nat.le_refl _
theorem row_ends {W : World} {g : Nat} {cs : Array Value} {t : TypeId} (h : W.heap[g]? = some (.cells cs t (0, 0))) : ∀ o, W.frozen? ⟨g, o, none⟩ = false := fun o => frozen_of_row W g o cs t h
set_option maxRecDepth 100000 in
set_option maxHeartbeats 4000000 in
theorem pins_read.calls (A0 : Option Addr) (c0 : Nat) (l0 : List S60) (r1 : ByteArray) (r2 : ByteArray) (r3 : Int) (r4 : Int) (w : World) (hr0 : Kd.C k60 w A0 l0.length l0) (hc0 : l0.length ≤ c0) (hG_numErr : GlobNumErr w) (hG_pow10 : GlobPow10 w) (h : pins_read.f l0 = some (r1, r2, r3, r4)) :
    Calls Tryz.prog 24 #[.slice A0 l0.length c0] w fun e w' => e = .returned (.tuple #[.agg #[.string r1, .string r2, .int .i64 r3], .int .i64 r4]) ∧ Below w.heap.size w w' := by
  obtain ⟨⟨a1, a2⟩, ha, h1⟩ := Option.bind_eq_some_iff.1 h
  obtain ⟨⟨b1, b2⟩, hb, h2⟩ := Option.bind_eq_some_iff.1 h1
  obtain ⟨⟨d1, d2⟩, hd, h3⟩ := Option.bind_eq_some_iff.1 h2
  clear h h1 h2
  dsimp only at h3
  split at h3
  case isFalse => cases h3
  rename_i hsz
  obtain ⟨hb0, hd0⟩ := hsz
  obtain ⟨W, hW⟩ : ∃ W, W = w.alloc (.cells #[.string ⟨#[]⟩, .string ⟨#[]⟩, .int .i64 0] 30) := ⟨_, rfl⟩
  have hB0 : Below w.heap.size w W := by rw [hW]; exact (Below.refl _ w).alloc (Nat.le_refl _) _
  have hR0 : W.heap[w.heap.size]? = some (.cells #[.string ⟨#[]⟩, .string ⟨#[]⟩, .int .i64 0] 30 (0, 0)) := by rw [hW]; exact heap_alloc_new w _
  have g1 := fun W' (q : Below W.heap.size W W') => (stanza_Get.calls A0 c0 l0 _ a1 a2 W' (Kd.C_below (Kd.C_below hr0 hB0) q) hc0 ha).mono fun e w' h => (⟨h.1, q.trans (h.2.mono q.size)⟩ : _ ∧ Below W.heap.size W w')
  have g2 := fun W' (q : Below W.heap.size W W') => (stanza_Get.calls A0 c0 l0 _ b1 b2 W' (Kd.C_below (Kd.C_below hr0 hB0) q) hc0 hb).mono fun e w' h => (⟨h.1, q.trans (h.2.mono q.size)⟩ : _ ∧ Below W.heap.size W w')
  have g3 := fun W' (q : Below W.heap.size W W') => (stanza_Get.calls A0 c0 l0 _ d1 d2 W' (Kd.C_below (Kd.C_below hr0 hB0) q) hc0 hd).mono fun e w' h => (⟨h.1, q.trans (h.2.mono q.size)⟩ : _ ∧ Below W.heap.size W w')
  clear hr0 ha hb hd
  subst hW
  go_enter Tryz.func24, Tryz.ntmps24
  go_wp2_with fail
  with_reducible refine (g1 _ (Below.refl _ _)).mono ?_
  rintro e w1 ⟨rfl, q1⟩
  go_wp2_with fail
  with_reducible refine (g2 _ q1).mono ?_
  rintro e w2 ⟨rfl, q2⟩
  go_wp2_with fail
  with_reducible refine (g3 _ q2).mono ?_
  rintro e w3 ⟨rfl, q3⟩
  have R3 := row_up q3 hR0
  have HG1 := Lib.hid (hG_numErr.below (hB0.trans (q3.mono hB0.size)))
  have HG2 := Lib.hid (hG_pow10.below (hB0.trans (q3.mono hB0.size)))
  have HB3 := Lib.hid (hB0.trans (q3.mono hB0.size))
  have k0 : w3.cell? ⟨w.heap.size, 0, none⟩ = some (.string ⟨#[]⟩) := by rw [cell_of_row _ _ _ _ _ _ R3]; rfl
  have k1 : w3.cell? ⟨w.heap.size, 1, none⟩ = some (.string ⟨#[]⟩) := by rw [cell_of_row _ _ _ _ _ _ R3]; rfl
  have k2 : w3.cell? ⟨w.heap.size, 2, none⟩ = some (.int .i64 0) := by rw [cell_of_row _ _ _ _ _ _ R3]; rfl
  have kf := row_ends R3
  clear g1 g2 g3 q1 q2 q3 hR0 hB0 hG_numErr hG_pow10
  cases a2 with
  | false =>
    obtain ⟨rfl, rfl, rfl, rfl⟩ : (⟨#[]⟩ : ByteArray) = r1 ∧ (⟨#[]⟩ : ByteArray) = r2 ∧ (0 : Int) = r3 ∧ (6 : Int) = r4 := by simpa [noPin] using h3
    clear h3
    go_wp2
    exact bodyPost_ret (v := .tuple #[.agg #[.string ⟨#[]⟩, .string ⟨#[]⟩, .int .i64 0], .int .i64 6]) (by simp [results, Tryz.results24, go_sem, k0, k1, k2]) rfl ⟨rfl, ((HB3.out.setCell (Nat.le_refl _) _).setCell (Nat.le_refl _) _).setCell (Nat.le_refl _) _⟩
  | true =>
  cases b2 with
  | false =>
    obtain ⟨rfl, rfl, rfl, rfl⟩ : (⟨#[]⟩ : ByteArray) = r1 ∧ (⟨#[]⟩ : ByteArray) = r2 ∧ (0 : Int) = r3 ∧ (6 : Int) = r4 := by simpa [noPin] using h3
    clear h3
    go_wp2
    exact bodyPost_ret (v := .tuple #[.agg #[.string ⟨#[]⟩, .string ⟨#[]⟩, .int .i64 0], .int .i64 6]) (by simp [results, Tryz.results24, go_sem, k0, k1, k2]) rfl ⟨rfl, ((HB3.out.setCell (Nat.le_refl _) _).setCell (Nat.le_refl _) _).setCell (Nat.le_refl _) _⟩
  | true =>
  cases d2 with
  | false =>
    obtain ⟨rfl, rfl, rfl, rfl⟩ : (⟨#[]⟩ : ByteArray) = r1 ∧ (⟨#[]⟩ : ByteArray) = r2 ∧ (0 : Int) = r3 ∧ (6 : Int) = r4 := by simpa [noPin] using h3
    clear h3
    go_wp2
    exact bodyPost_ret (v := .tuple #[.agg #[.string ⟨#[]⟩, .string ⟨#[]⟩, .int .i64 0], .int .i64 6]) (by simp [results, Tryz.results24, go_sem, k0, k1, k2]) rfl ⟨rfl, ((HB3.out.setCell (Nat.le_refl _) _).setCell (Nat.le_refl _) _).setCell (Nat.le_refl _) _⟩
  | true =>
  rw [if_pos (by rfl)] at h3
  have h3 := Option.some.inj h3
  unfold readF at h3
  have hp := Tryz.strings_CutPrefix b1 headB
  rw [show (⟨(Lib.trimPrefix b1.data.toList headB.data.toList).toArray⟩ : ByteArray) = trimB b1 from rfl] at hp
  have ht1 : (trimB b1).size ≤ 140737488351232 := by rw [← data_length] at hb0 ⊢; have := trim_size b1.data.toList headB.data.toList; show (Lib.trimPrefix b1.data.toList headB.data.toList).length ≤ _; omega
  have hq := fun W => Tryz.strings_CutSuffix (trimB b1) starB W (by omega)
  rw [show (⟨(Lib.trimSuffix (trimB b1).data.toList starB.data.toList).toArray⟩ : ByteArray) = trimE (trimB b1) from rfl] at hq
  have ht2 : (trimE (trimB b1)).size ≤ 9223372036854775807 := by rw [← data_length] at ht1 ⊢; have := trimS_size (trimB b1).data.toList starB.data.toList; show (Lib.trimSuffix (trimB b1).data.toList starB.data.toList).length ≤ _; omega
  generalize trimB b1 = v1 at *
  generalize trimE v1 = v2 at *
  generalize Lib.hasPrefix b1.data.toList headB.data.toList = g1 at *
  generalize Lib.hasSuffix v1.data.toList starB.data.toList = g2 at *
  simp only [headB, starB] at hp hq
  have R0 := Lib.hid hb0
  have R1 := Lib.hid hd0
  have R2 := Lib.hid ht2
  clear hb0 ht1 ht2
  go_wp2_with fail
  with_reducible refine (hp _).mono ?_
  rintro e w' ⟨rfl, rfl⟩
  go_wp2_with fail
  with_reducible refine (hq _).mono ?_
  rintro e w' ⟨rfl, rfl⟩
  go_wp2_with fail
  cases hn : numOf d1.data.toList with
  | none =>
    rw [hn] at h3
    with_reducible refine (atoi_bad d1 (by have := R1.out; omega) hn _ HG1.out).mono ?_
    generalize badV d1.data.toList = n
    rintro e w4 ⟨N, T, rfl, q4⟩
    have R4 := row_up q4 R3
    have HG3 := Lib.hid (HG2.out.below q4)
    have B4 := HB3.out.trans (q4.mono HB3.out.size)
    have HB4 := Lib.hid B4
    have hlt4 : w.heap.size < w4.heap.size := (Array.getElem?_eq_some_iff.1 R4).1
    have j0 : w4.cell? ⟨w.heap.size, 0, none⟩ = some (.string ⟨#[]⟩) := by rw [cell_of_row _ _ _ _ _ _ R4]; rfl
    have j1 : w4.cell? ⟨w.heap.size, 1, none⟩ = some (.string ⟨#[]⟩) := by rw [cell_of_row _ _ _ _ _ _ R4]; rfl
    have j2 : w4.cell? ⟨w.heap.size, 2, none⟩ = some (.int .i64 0) := by rw [cell_of_row _ _ _ _ _ _ R4]; rfl
    have jf := row_ends R4
    clear q4 B4 R3 k0 k1 k2 kf
    clear hn hp hq
    cases g1 with
    | false =>
      obtain ⟨rfl, rfl, rfl, rfl⟩ : (⟨#[]⟩ : ByteArray) = r1 ∧ (⟨#[]⟩ : ByteArray) = r2 ∧ (0 : Int) = r3 ∧ (5 : Int) = r4 := by simpa [noPin] using h3
      clear h3
      go_wp2
      exact bodyPost_ret (v := .tuple #[.agg #[.string ⟨#[]⟩, .string ⟨#[]⟩, .int .i64 0], .int .i64 5]) (by simp [results, Tryz.results24, go_sem, hlt4, j0, j1, j2]) rfl ⟨rfl, (((HB4.out.setCell (Nat.le_refl _) _).setCell (Nat.le_refl _) _).setCell (Nat.le_refl _) _).alloc (by simp; exact HB4.out.size) _⟩
    | true =>
    cases g2 with
    | false =>
      obtain ⟨rfl, rfl, rfl, rfl⟩ : (⟨#[]⟩ : ByteArray) = r1 ∧ (⟨#[]⟩ : ByteArray) = r2 ∧ (0 : Int) = r3 ∧ (5 : Int) = r4 := by simpa [noPin] using h3
      clear h3
      go_wp2
      exact bodyPost_ret (v := .tuple #[.agg #[.string ⟨#[]⟩, .string ⟨#[]⟩, .int .i64 0], .int .i64 5]) (by simp [results, Tryz.results24, go_sem, hlt4, j0, j1, j2]) rfl ⟨rfl, (((HB4.out.setCell (Nat.le_refl _) _).setCell (Nat.le_refl _) _).setCell (Nat.le_refl _) _).alloc (by simp; exact HB4.out.size) _⟩
    | true =>
      obtain ⟨rfl, rfl, rfl, rfl⟩ : (⟨#[]⟩ : ByteArray) = r1 ∧ (⟨#[]⟩ : ByteArray) = r2 ∧ (0 : Int) = r3 ∧ (5 : Int) = r4 := by simpa [noPin] using h3
      clear h3
      go_wp2
      exact bodyPost_ret (v := .tuple #[.agg #[.string ⟨#[]⟩, .string ⟨#[]⟩, .int .i64 0], .int .i64 5]) (by simp [results, Tryz.results24, go_sem, hlt4, j0, j1, j2]) rfl ⟨rfl, (((HB4.out.setCell (Nat.le_refl _) _).setCell (Nat.le_refl _) _).setCell (Nat.le_refl _) _).alloc (by simp; exact HB4.out.size) _⟩
  | some n =>
    have hnr := atoi_range hn
    rw [hn] at h3
    with_reducible refine (atoi_good d1 (by have := R1.out; omega) n hn _).mono ?_
    rintro e w4 ⟨rfl, q4⟩
    have R4 := row_up q4 R3
    have HG3 := Lib.hid (HG2.out.below q4)
    have B4 := HB3.out.trans (q4.mono HB3.out.size)
    have HB4 := Lib.hid B4
    have hlt4 : w.heap.size < w4.heap.size := (Array.getElem?_eq_some_iff.1 R4).1
    have j0 : w4.cell? ⟨w.heap.size, 0, none⟩ = some (.string ⟨#[]⟩) := by rw [cell_of_row _ _ _ _ _ _ R4]; rfl
    have j1 : w4.cell? ⟨w.heap.size, 1, none⟩ = some (.string ⟨#[]⟩) := by rw [cell_of_row _ _ _ _ _ _ R4]; rfl
    have j2 : w4.cell? ⟨w.heap.size, 2, none⟩ = some (.int .i64 0) := by rw [cell_of_row _ _ _ _ _ _ R4]; rfl
    have jf := row_ends R4
    clear q4 B4 R3 k0 k1 k2 kf
    clear hn hp hq
    cases g1 with
    | false =>
      obtain ⟨rfl, rfl, rfl, rfl⟩ : (⟨#[]⟩ : ByteArray) = r1 ∧ (⟨#[]⟩ : ByteArray) = r2 ∧ (0 : Int) = r3 ∧ (5 : Int) = r4 := by simpa [noPin] using h3
      clear h3
      go_wp2
      exact bodyPost_ret (v := .tuple #[.agg #[.string ⟨#[]⟩, .string ⟨#[]⟩, .int .i64 0], .int .i64 5]) (by simp [results, Tryz.results24, go_sem, hlt4, j0, j1, j2]) rfl ⟨rfl, (((HB4.out.setCell (Nat.le_refl _) _).setCell (Nat.le_refl _) _).setCell (Nat.le_refl _) _).alloc (by simp; exact HB4.out.size) _⟩
    | true =>
    cases g2 with
    | false =>
      obtain ⟨rfl, rfl, rfl, rfl⟩ : (⟨#[]⟩ : ByteArray) = r1 ∧ (⟨#[]⟩ : ByteArray) = r2 ∧ (0 : Int) = r3 ∧ (5 : Int) = r4 := by simpa [noPin] using h3
      clear h3
      go_wp2
      exact bodyPost_ret (v := .tuple #[.agg #[.string ⟨#[]⟩, .string ⟨#[]⟩, .int .i64 0], .int .i64 5]) (by simp [results, Tryz.results24, go_sem, hlt4, j0, j1, j2]) rfl ⟨rfl, (((HB4.out.setCell (Nat.le_refl _) _).setCell (Nat.le_refl _) _).setCell (Nat.le_refl _) _).alloc (by simp; exact HB4.out.size) _⟩
    | true =>
      rw [if_neg (by decide), if_neg (by decide)] at h3
      dsimp only at h3
      go_wp2_with fail
      have hal := alloc_below w4 (.cells #[.string a1, .string v2, .int .i64 n] 30)
      have hit := itoa_calls n hnr (w4.alloc (.cells #[.string a1, .string v2, .int .i64 n] 30)) (HG3.out.below hal)
      rw [show (⟨(Lib.itoa n).toArray⟩ : ByteArray) = itoaB n from rfl] at hit
      have hse := str_eqB (itoaB n) d1
      with_reducible refine hit.mono ?_
      rintro e w5 ⟨rfl, q5⟩
      have R5 := row_up q5 (row_up hal R4)
      have RP := row_up q5 (heap_alloc_new w4 _)
      have HB5 := Lib.hid (HB4.out.trans ((hal.trans (q5.mono hal.size)).mono HB4.out.size))
      have i0 : w5.cell? ⟨w.heap.size, 0, none⟩ = some (.string ⟨#[]⟩) := by rw [cell_of_row _ _ _ _ _ _ R5]; rfl
      have i1 : w5.cell? ⟨w.heap.size, 1, none⟩ = some (.string ⟨#[]⟩) := by rw [cell_of_row _ _ _ _ _ _ R5]; rfl
      have i2 : w5.cell? ⟨w.heap.size, 2, none⟩ = some (.int .i64 0) := by rw [cell_of_row _ _ _ _ _ _ R5]; rfl
      have if5 := row_ends R5
      have p0 : w5.cell? ⟨w4.heap.size, 0, none⟩ = some (.string a1) := by rw [cell_of_row _ _ _ _ _ _ RP]; rfl
      have p1 : w5.cell? ⟨w4.heap.size, 1, none⟩ = some (.string v2) := by rw [cell_of_row _ _ _ _ _ _ RP]; rfl
      have p2 : w5.cell? ⟨w4.heap.size, 2, none⟩ = some (.int .i64 n) := by rw [cell_of_row _ _ _ _ _ _ RP]; rfl
      clear q5 R4 hal hit j0 j1 j2 jf hlt4
      generalize itoaB n = ib at *
      by_cases hib : ib = d1
      case neg =>
        rw [if_neg hib] at h3
        rw [decide_eq_false hib] at hse
        clear hib R5 RP
        obtain ⟨rfl, rfl, rfl, rfl⟩ : (⟨#[]⟩ : ByteArray) = r1 ∧ (⟨#[]⟩ : ByteArray) = r2 ∧ (0 : Int) = r3 ∧ (5 : Int) = r4 := by simpa [noPin] using h3
        clear h3
        go_wp2
        exact bodyPost_ret (v := .tuple #[.agg #[.string ⟨#[]⟩, .string ⟨#[]⟩, .int .i64 0], .int .i64 5]) (by simp [results, Tryz.results24, go_sem, i0, i1, i2]) rfl ⟨rfl, ((HB5.out.setCell (Nat.le_refl _) _).setCell (Nat.le_refl _) _).setCell (Nat.le_refl _) _⟩
      case pos =>
        rw [if_pos hib] at h3
        rw [decide_eq_true hib] at hse
        clear hib
        have hri := pins_Right.calls a1 v2 n _ w5 (if_pos R2.out)
        generalize rightP a1 v2 n = rr at h3 hri
        go_wp2_with fail
        with_reducible refine hri.mono ?_
        rintro e w6 ⟨rfl, q6⟩
        have R6 := row_up q6 R5
        have RQ := row_up q6 RP
        have HB6 := Lib.hid (HB5.out.trans (q6.mono HB5.out.size))
        have l0 : w6.cell? ⟨w.heap.size, 0, none⟩ = some (.string ⟨#[]⟩) := by rw [cell_of_row _ _ _ _ _ _ R6]; rfl
        have l1 : w6.cell? ⟨w.heap.size, 1, none⟩ = some (.string ⟨#[]⟩) := by rw [cell_of_row _ _ _ _ _ _ R6]; rfl
        have l2 : w6.cell? ⟨w.heap.size, 2, none⟩ = some (.int .i64 0) := by rw [cell_of_row _ _ _ _ _ _ R6]; rfl
        have lf := row_ends R6
        have m0 : w6.cell? ⟨w4.heap.size, 0, none⟩ = some (.string a1) := by rw [cell_of_row _ _ _ _ _ _ RQ]; rfl
        have m1 : w6.cell? ⟨w4.heap.size, 1, none⟩ = some (.string v2) := by rw [cell_of_row _ _ _ _ _ _ RQ]; rfl
        have m2 : w6.cell? ⟨w4.heap.size, 2, none⟩ = some (.int .i64 n) := by rw [cell_of_row _ _ _ _ _ _ RQ]; rfl
        clear q6 R5 RP hri R6 RQ i0 i1 i2 if5 p0 p1 p2
        cases rr with
        | false =>
          obtain ⟨rfl, rfl, rfl, rfl⟩ : (⟨#[]⟩ : ByteArray) = r1 ∧ (⟨#[]⟩ : ByteArray) = r2 ∧ (0 : Int) = r3 ∧ (5 : Int) = r4 := by simpa [noPin] using h3
          clear h3
          go_wp2
          exact bodyPost_ret (v := .tuple #[.agg #[.string ⟨#[]⟩, .string ⟨#[]⟩, .int .i64 0], .int .i64 5]) (by simp [results, Tryz.results24, go_sem, l0, l1, l2]) rfl ⟨rfl, ((HB6.out.setCell (Nat.le_refl _) _).setCell (Nat.le_refl _) _).setCell (Nat.le_refl _) _⟩
        | true =>
          obtain ⟨rfl, rfl, rfl, rfl⟩ : a1 = r1 ∧ v2 = r2 ∧ n = r3 ∧ (0 : Int) = r4 := by simpa using h3
          clear h3
          go_wp2
          exact bodyPost_ret (v := .tuple #[.agg #[.string a1, .string v2, .int .i64 n], .int .i64 0]) (by simp [results, Tryz.results24, go_sem, l0, l1, l2]) rfl ⟨rfl, ((HB6.out.setCell (Nat.le_refl _) _).setCell (Nat.le_refl _) _).setCell (Nat.le_refl _) _⟩
end Go.Proofs.YtlcfpmdamehopaaGreatDoor.PA
/- keelsonref5.Get, as a plain function. No condition but a length that fits. -/
namespace Go.Proofs.YtlcfpmdamehopaaGreatDoor.PA
open Go.RowKit Go.Proofs.YtlcfpmdamehopaaGreatDoorW.PrintWords Go.Proofs.YtlcfpmdamehopaaGreatDoorW.PrintLast Go.Proofs.YtlcfpmdamehopaaGreatDoorW.PrintMore

end Go.Proofs.YtlcfpmdamehopaaGreatDoor.PA
/- Pins in program and reference: names, right pins, what is read and printed; as plain functions. Conditions: sizes that fit. -/
namespace Go.Proofs.YtlcfpmdamehopaaGreatDoor.PA
open Go.RowKit Go.Proofs.YtlcfpmdamehopaaGreatDoorW.PrintWords Go.Proofs.YtlcfpmdamehopaaGreatDoorW.PrintLast Go.Proofs.YtlcfpmdamehopaaGreatDoorW.PrintMore

theorem Ev.ite2 {α : Type} {c : Prop} [Decidable c] {g f : Nat → Option α} {r : α} (h1 : c → Ev g r) (h2 : ¬ c → Ev f r) : Ev (fun k => if c then g k else f k) r := by
  by_cases hc : c
  · exact Ev.pos hc (h1 hc)
  · exact Ev.neg hc (h2 hc)
theorem bt3_nat (s : ByteArray) (i : Nat) (h : i < s.data.toList.length) : bt s (i : Int) = ((s.data.toList[i]).toNat : Int) := by
  have h2 : i < s.size := by rw [← data_length]; exact h
  unfold bt
  rw [Int.toNat_natCast, dif_pos h2]
  rfl
theorem digit3_f (c : Int) : keelsonref2_Digit.f c = some (decide (48 ≤ c) && decide (c ≤ 57)) := by
  unfold keelsonref2_Digit.f
  by_cases h : c ≥ 48
  · rw [if_pos h, decide_eq_true (show 48 ≤ c from h), Bool.true_and]
  · rw [if_neg h, decide_eq_false (show ¬ 48 ≤ c from h), Bool.false_and]
theorem firstZ (c : UInt8) : isFirst c = ((decide (97 ≤ (c.toNat : Int)) && decide ((c.toNat : Int) ≤ 122)) || (decide (48 ≤ (c.toNat : Int)) && decide ((c.toNat : Int) ≤ 57))) := by
  unfold isFirst
  rw [Bool.eq_iff_iff]; simp only [Bool.or_eq_true, Bool.and_eq_true, decide_eq_true_iff]; omega
theorem otherZ (c : UInt8) : isOther c = (isFirst c || (decide ((c.toNat : Int) = 43) || decide ((c.toNat : Int) = 45) || decide ((c.toNat : Int) = 46))) := by
  unfold isOther
  rw [show decide (c.toNat = 43) = decide ((c.toNat : Int) = 43) from by simp only [decide_eq_decide]; omega, show decide (c.toNat = 45) = decide ((c.toNat : Int) = 45) from by simp only [decide_eq_decide]; omega, show decide (c.toNat = 46) = decide ((c.toNat : Int) = 46) from by simp only [decide_eq_decide]; omega, Bool.or_assoc, Bool.or_assoc, Bool.or_assoc]
theorem refname3_step (s : ByteArray) (i : Nat) (hi : i < s.data.toList.length) (hs : s.size ≤ 9223372036854775806) (r : Bool) (h : Ev (fun k => keelsonref3_Name.l0 k s ((i + 1 : Nat) : Int)) r) :
    Ev (fun k => keelsonref3_Name.l0 k s (i : Int)) ((if i = 0 then isFirst (s.data.toList[i]) else isOther (s.data.toList[i])) && r) := by
  have hsz : s.data.toList.length = s.size := data_length s
  refine Ev.succ ?_
  simp only [keelsonref3_Name.l0]
  rw [show wrap64 ((i : Int) + 1) = ((i + 1 : Nat) : Int) from by unfold wrap64; omega, bt3_nat s i hi]
  refine Ev.pos (by omega) (Ev.pos (by omega) ?_)
  have hF := firstZ (s.data.toList[i])
  have hO := otherZ (s.data.toList[i])
  generalize (s.data.toList[i]) = c at *
  generalize (c.toNat : Int) = z at *
  rw [hO, hF]
  clear hO hF
  have done : ∀ b : Bool, b = true → Ev (fun k => keelsonref3_Name.l0 k s ((i + 1 : Nat) : Int)) (b && r) := by rintro b rfl; rw [Bool.true_and]; exact h
  have miss : ∀ b : Bool, b = false → Ev (fun _ : Nat => some false) (b && r) := by rintro b rfl; exact Ev.some rfl
  clear h hsz hs hi
  generalize hB : (if i = 0 then ((decide (97 ≤ z) && decide (z ≤ 122)) || (decide (48 ≤ z) && decide (z ≤ 57))) else (((decide (97 ≤ z) && decide (z ≤ 122)) || (decide (48 ≤ z) && decide (z ≤ 57))) || (decide (z = 43) || decide (z = 45) || decide (z = 46)))) = B at *
  have hB1 : B = true ↔ ((97 ≤ z ∧ z ≤ 122) ∨ (48 ≤ z ∧ z ≤ 57)) ∨ (¬ i = 0 ∧ (z = 43 ∨ z = 45 ∨ z = 46)) := by
    rw [← hB]; split <;> simp only [Bool.or_eq_true, Bool.and_eq_true, decide_eq_true_iff] <;> omega
  have yes : ((97 ≤ z ∧ z ≤ 122) ∨ (48 ≤ z ∧ z ≤ 57)) ∨ (¬ i = 0 ∧ (z = 43 ∨ z = 45 ∨ z = 46)) → Ev (fun k => keelsonref3_Name.l0 k s ((i + 1 : Nat) : Int)) (B && r) := fun h => done B (hB1.2 h)
  have no : ¬ (((97 ≤ z ∧ z ≤ 122) ∨ (48 ≤ z ∧ z ≤ 57)) ∨ (¬ i = 0 ∧ (z = 43 ∨ z = 45 ∨ z = 46))) → Ev (fun _ : Nat => some false) (B && r) := fun h => miss B (Bool.eq_false_iff.2 fun e => h (hB1.1 e))
  clear hB hB1 done miss
  have hd : keelsonref2_Digit.f z = some (decide (48 ≤ z ∧ z ≤ 57)) := by rw [digit3_f, Bool.decide_and]
  generalize hq : decide (48 ≤ z ∧ z ≤ 57) = q at hd
  have hq1 : q = true ↔ (48 ≤ z ∧ z ≤ 57) := by rw [← hq, decide_eq_true_iff]
  clear hq
  refine Ev.ite2 (fun h1 => Ev.ite2 (fun h2 => ?_) (fun h2 => Ev.call hd ?_)) (fun h1 => Ev.call hd ?_)
  · refine Ev.ite2 (fun h3 => Ev.ite2 (fun h4 => yes (by omega)) (fun h4 => Ev.ite2 (fun h5 => yes (by omega)) (fun h5 => yes (by omega)))) (fun h3 => yes (by omega))
  all_goals
    refine Ev.ite2 (fun h3 => Ev.ite2 (fun h4 => Ev.ite2 (fun h5 => yes (by omega)) (fun h5 => yes (by omega))) (fun h4 => Ev.ite2 (fun h5 => Ev.ite2 (fun h6 => yes (by omega)) (fun h6 => yes (by omega))) (fun h5 => Ev.ite2 (fun h6 => yes (by have := hq1.1 h6; omega)) (fun h6 => Ev.ite2 (fun h7 => yes (by omega)) (fun h7 => no (by rw [hq1] at h6; omega)))))) (fun h3 => Ev.ite2 (fun h4 => yes (by have := hq1.1 h4; omega)) (fun h4 => no (by rw [hq1] at h4; omega)))
theorem refname3_loop (s : ByteArray) (hs : s.size ≤ 9223372036854775806) (d : Nat) : ∀ i : Nat, 0 < i → i + d = s.data.toList.length → Ev (fun k => keelsonref3_Name.l0 k s (i : Int)) ((s.data.toList.drop i).all isOther && (decide (2 ≤ s.data.toList.length) && decide (s.data.toList.length ≤ 40))) := by
  have hsz : s.data.toList.length = s.size := data_length s
  induction d with
  | zero =>
    intro i h0 hi
    rw [List.drop_eq_nil_of_le (by omega), List.all_nil, Bool.true_and]
    refine Ev.succ ?_
    simp only [keelsonref3_Name.l0]
    refine Ev.neg (by omega) (Ev.ite2 (fun h => Ev.some ?_) (fun h => Ev.some ?_))
    · rw [decide_eq_true (show 2 ≤ s.data.toList.length by omega), Bool.true_and]
      by_cases q : s.size ≤ 40
      · rw [decide_eq_true (by omega), decide_eq_true (by omega)]
      · rw [decide_eq_false (by omega), decide_eq_false (by omega)]
    · rw [decide_eq_false (show ¬ 2 ≤ s.data.toList.length by omega), Bool.false_and]
  | succ d ih =>
    intro i h0 hi
    have hil : i < s.data.toList.length := by omega
    have := refname3_step s i hil hs _ (ih (i + 1) (by omega) (by omega))
    rw [if_neg (by omega), ← Bool.and_assoc] at this
    rw [List.drop_eq_getElem_cons hil, List.all_cons]
    exact this
theorem refname3_ev (s : ByteArray) (hs : s.size ≤ 9223372036854775806) : Ev (fun k => keelsonref3_Name.f k s) (relL s.data.toList) := by
  unfold keelsonref3_Name.f
  have hsz : s.data.toList.length = s.size := data_length s
  cases hl : s.data.toList with
  | nil =>
    rw [hl] at hsz
    refine Ev.succ ?_
    simp only [keelsonref3_Name.l0]
    refine Ev.neg ?_ (Ev.neg ?_ (Ev.some rfl))
    · simp only [List.length_nil] at hsz; omega
    · simp only [List.length_nil] at hsz; omega
  | cons c r =>
    have h := refname3_step s 0 (by rw [hl]; exact Nat.succ_pos _) hs _ (refname3_loop s hs r.length 1 (by decide) (by rw [hl, List.length_cons]; omega))
    rw [if_pos rfl] at h
    rw [relL_cons]
    have e0 : s.data.toList[0]'(by rw [hl]; exact Nat.succ_pos _) = c := by simp [hl]
    rw [e0] at h
    rw [hl, List.drop_succ_cons, List.drop_zero, List.length_cons] at h
    have e : (isFirst c && (r.all isOther && (decide (2 ≤ r.length + 1) && decide (r.length + 1 ≤ 40)))) = ((decide (2 ≤ r.length + 1) && decide (r.length + 1 ≤ 40)) && isFirst c && (c :: r).all isOther) := by
      rw [List.all_cons]
      have : isOther c = (isFirst c || (decide ((c.toNat : Int) = 43) || decide ((c.toNat : Int) = 45) || decide ((c.toNat : Int) = 46))) := otherZ c
      rw [this]
      cases isFirst c <;> cases r.all isOther <;> cases decide (2 ≤ r.length + 1) <;> cases decide (r.length + 1 ≤ 40) <;> rfl
    rw [← e]
    exact h
theorem odd_list (y : ByteArray) : oddS y = y.data.toList.any fun c => oddC (c.toNat : Int) := by
  unfold oddS bytesOf; rw [List.any_map]; rfl
def okTail (nm : Bool) (x : ByteArray) (n : Nat) (z : Int) : Bool := (decide (x = starB) || nm) && decide (n ≤ 60) && decide (-1000 ≤ z) && decide (z ≤ 1000)
theorem star_list {x : ByteArray} : x.toList = [42] ↔ x = starB := by
  rw [show ([42] : List UInt8) = starB.toList from by rw [ByteArray.toList_eq]; rfl]
  exact bstr
theorem refright_end (nm : Bool) (x y : ByteArray) (z : Int) : Ev (fun _ : Nat => if nm = true then (if (y.size : Int) ≤ 60 then (if z ≥ (-1000) then (some (decide (z ≤ 1000))) else (some false)) else (some false)) else (if x.toList = ([42] : List UInt8) then (if (y.size : Int) ≤ 60 then (if z ≥ (-1000) then (some (decide (z ≤ 1000))) else (some false)) else (some false)) else (some false))) (okTail nm x y.size z) := by
  have core : Ev (fun _ : Nat => if (y.size : Int) ≤ 60 then (if z ≥ (-1000) then (some (decide (z ≤ 1000))) else (some false)) else (some false)) (decide (y.size ≤ 60) && decide (-1000 ≤ z) && decide (z ≤ 1000)) := by
    refine Ev.ite2 (fun h => Ev.ite2 (fun h2 => Ev.some ?_) (fun h2 => Ev.some ?_)) (fun h => Ev.some ?_)
    · rw [decide_eq_true (show y.size ≤ 60 by omega), decide_eq_true (show -1000 ≤ z from h2)]; rfl
    · rw [decide_eq_false (show ¬ -1000 ≤ z from h2), Bool.and_false]; rfl
    · rw [decide_eq_false (show ¬ y.size ≤ 60 by omega)]; rfl
  unfold okTail
  refine Ev.ite2 (fun h => ?_) (fun h => Ev.ite2 (fun h2 => ?_) (fun h2 => Ev.some ?_))
  · rw [h, Bool.or_true, Bool.true_and]; exact core
  · rw [decide_eq_true (star_list.1 h2), Bool.true_or, Bool.true_and]; exact core
  · rw [decide_eq_false (fun e => h2 (star_list.2 e)), Bool.eq_false_iff.2 h]; rfl
theorem refright8_loop (nm : Bool) (x y : ByteArray) (z : Int) (hs : y.size ≤ 9223372036854775806) (d : Nat) : ∀ i : Nat, i + d = y.data.toList.length → Ev (fun k => keelsonref8_Right.l0 k nm (i : Int) x y z) (!((y.data.toList.drop i).any fun c => oddC (c.toNat : Int)) && okTail nm x y.size z) := by
  have hsz : y.data.toList.length = y.size := data_length y
  induction d with
  | zero =>
    intro i hi
    rw [List.drop_eq_nil_of_le (by omega), List.any_nil, Bool.not_false, Bool.true_and]
    refine Ev.succ ?_
    simp only [keelsonref8_Right.l0]
    exact Ev.neg (by omega) (refright_end nm x y z)
  | succ d ih =>
    intro i hi
    have hil : i < y.data.toList.length := by omega
    have hn := ih (i + 1) (by omega)
    refine Ev.succ ?_
    simp only [keelsonref8_Right.l0]
    rw [show wrap64 ((i : Int) + 1) = ((i + 1 : Nat) : Int) from by unfold wrap64; omega, bt3_nat y i hil, List.drop_eq_getElem_cons hil, List.any_cons]
    generalize (y.data.toList[i]) = c
    generalize ((y.data.toList.drop (i + 1)).any fun c => oddC (c.toNat : Int)) = r at hn ⊢
    have miss : oddC (c.toNat : Int) = true → Ev (fun _ : Nat => some false) (!(oddC (c.toNat : Int) || r) && okTail nm x y.size z) := by intro e; rw [e]; exact Ev.some rfl
    refine Ev.pos (by omega) (Ev.pos (by omega) (Ev.ite2 (fun h => miss ?_) (fun h => Ev.ite2 (fun h2 => miss ?_) (fun h2 => Ev.ite2 (fun h3 => miss ?_) (fun h3 => ?_)))))
    · unfold oddC; rw [decide_eq_true h]; rfl
    · unfold oddC; rw [decide_eq_true (show 126 < (c.toNat : Int) by omega)]; simp
    · unfold oddC; rw [decide_eq_true h3]; simp
    · rw [show oddC (c.toNat : Int) = false from by unfold oddC; rw [decide_eq_false h, decide_eq_false (show ¬ 126 < (c.toNat : Int) by omega), decide_eq_false h3]; rfl, Bool.false_or]
      exact hn
theorem right_split (x y : ByteArray) (z : Int) : rightP x y z = (!(y.data.toList.any fun c => oddC (c.toNat : Int)) && okTail (relL x.data.toList) x y.size z) := by
  unfold rightP okTail
  rw [odd_list]
  simp only [Bool.and_assoc]
theorem refright8_ev (x y : ByteArray) (z : Int) (hx : x.size ≤ 9223372036854775806) (hy : y.size ≤ 9223372036854775806) : Ev (fun k => keelsonref8_Right.f k x y z) (rightP x y z) := by
  unfold keelsonref8_Right.f
  rw [right_split]
  refine Ev.bind (refname3_ev x hx) ?_
  have := refright8_loop (relL x.data.toList) x y z hy y.data.toList.length 0 (by omega)
  rwa [List.drop_zero] at this
def kPack : ByteArray := ⟨#[80, 97, 99, 107, 97, 103, 101]⟩
def kPin : ByteArray := ⟨#[80, 105, 110]⟩
def kPrio : ByteArray := ⟨#[80, 105, 110, 45, 80, 114, 105, 111, 114, 105, 116, 121]⟩
def valG (st : List Fd) (n : ByteArray) : ByteArray := (getG st n).getD ⟨#[]⟩
def pinG (st : List Fd) : ByteArray × ByteArray × Int × Int := if (getG st kPack).isSome && (getG st kPin).isSome && (getG st kPrio).isSome then readF (valG st kPack) (valG st kPin) (valG st kPrio) else noPin 6
theorem val_size {st : List Fd} {N : Nat} (h : ∀ f ∈ st, f.f1.size ≤ N) (n : ByteArray) : (valG st n).size ≤ N := by
  unfold valG getG
  cases e : st.find? fun f => decide (f.f0 = n) with
  | none => exact Nat.zero_le _
  | some f => exact h f (List.mem_of_find?_eq_some e)
theorem read_is (st : List Fd) (h : ∀ f ∈ st, f.f1.size ≤ 1000000) : pins_read.f st = some (pinG st) := by
  unfold pins_read.f
  have g := get_is st
  rw [g, Option.bind_some, g, Option.bind_some, g, Option.bind_some]
  have h1 : (valG st kPin).size ≤ 1000000 := val_size h kPin
  have h2 : (valG st kPrio).size ≤ 1000000 := val_size h kPrio
  have hc : ((getG st kPin).getD ⟨#[]⟩).size ≤ 140737488351232 ∧ ((getG st kPrio).getD ⟨#[]⟩).size ≤ 140737488351232 := ⟨by unfold valG at h1; omega, by unfold valG at h2; omega⟩
  refine (if_pos hc).trans ?_
  unfold pinG
  show (if ((getG st kPack).isSome && (getG st kPin).isSome && (getG st kPrio).isSome) = true then some (readF (valG st kPack) (valG st kPin) (valG st kPrio)) else some (noPin 6)) = some (if ((getG st kPack).isSome && (getG st kPin).isSome && (getG st kPrio).isSome) = true then readF (valG st kPack) (valG st kPin) (valG st kPrio) else noPin 6)
  split <;> rfl
/-- What the reference asks of a pin's text. -/
def fitsV (v : ByteArray) : Bool := decide (9 ≤ v.size) && decide (v.data.toList.take 8 = headB.data.toList) && decide (v.data.toList.getLast?.getD 0 = 42)
def cutV (v : ByteArray) : ByteArray := v.extract 8 (v.size - 1)
theorem cut_is (v : ByteArray) : (cutV v).data.toList = (v.data.toList.drop 8).take (v.size - 1 - 8) := by
  unfold cutV
  rw [ByteArray.data_extract, Array.toList_extract, List.extract_eq_take_drop]
theorem ends_is (v : List UInt8) (h : v ≠ []) : Lib.hasSuffix v [42] = decide (v.getLast?.getD 0 = 42) := by
  unfold Lib.hasSuffix
  rw [Bool.eq_iff_iff, List.isSuffixOf_iff_suffix, decide_eq_true_iff]
  obtain ⟨l, a, rfl⟩ : ∃ l a, v = l ++ [a] := ⟨_, _, (List.dropLast_concat_getLast h).symm⟩
  rw [List.getLast?_append]
  simp
  exact eq_comm
theorem begins_is (v : ByteArray) : Lib.hasPrefix v.data.toList headB.data.toList = decide (v.data.toList.take 8 = headB.data.toList) := by
  unfold Lib.hasPrefix
  rw [Bool.eq_iff_iff, List.isPrefixOf_iff_prefix, decide_eq_true_iff, List.prefix_iff_eq_take]
  rw [show headB.data.toList.length = 8 from rfl]
  exact eq_comm
theorem fits_is (v : ByteArray) : (Lib.hasPrefix v.data.toList headB.data.toList && Lib.hasSuffix (trimB v).data.toList starB.data.toList) = fitsV v := by
  have hsz : v.data.toList.length = v.size := data_length v
  rw [begins_is]
  unfold fitsV
  by_cases hp : v.data.toList.take 8 = headB.data.toList
  · have h8 : 8 ≤ v.data.toList.length := by
      have := congrArg List.length hp
      rw [List.length_take] at this
      have e8 : headB.data.toList.length = 8 := rfl
      omega
    rw [decide_eq_true hp, Bool.true_and, Bool.and_true]
    have ht : (trimB v).data.toList = v.data.toList.drop 8 := by
      show Lib.trimPrefix v.data.toList headB.data.toList = _
      unfold Lib.trimPrefix
      rw [begins_is, decide_eq_true hp, if_pos rfl]; rfl
    rw [ht]
    by_cases h9 : 9 ≤ v.size
    · rw [decide_eq_true h9, Bool.true_and]
      have hne : v.data.toList.drop 8 ≠ [] := by
        intro e
        have := congrArg List.length e
        rw [List.length_drop, List.length_nil] at this
        omega
      rw [show starB.data.toList = [42] from rfl, ends_is _ hne]
      rw [List.getLast?_drop, if_neg (by omega)]
    · rw [decide_eq_false h9, Bool.false_and]
      have he : v.data.toList.drop 8 = [] := List.drop_eq_nil_of_le (by omega)
      rw [he]; rfl
  · rw [decide_eq_false hp, Bool.false_and, Bool.and_false, Bool.false_and]
theorem trims_is (v : ByteArray) (h : fitsV v = true) : trimE (trimB v) = cutV v := by
  rw [← fits_is] at h
  have h' := h
  rw [Bool.and_eq_true] at h
  refine bytes_injQ ?_
  rw [cut_is]
  have ht : (trimB v).data.toList = v.data.toList.drop 8 := by
    show Lib.trimPrefix v.data.toList headB.data.toList = _
    unfold Lib.trimPrefix
    rw [h.1, if_pos rfl]; rfl
  show Lib.trimSuffix (trimB v).data.toList starB.data.toList = _
  unfold Lib.trimSuffix
  rw [h.2, if_pos rfl, ht, List.length_drop, data_length, show starB.data.toList.length = 1 from rfl]
  congr 1
/-- What is read, told as the reference tells it. -/
theorem readF_is (x v s : ByteArray) : readF x v s = if fitsV v = true ∧ (prioOf s).2 = true ∧ rightP x (cutV v) (prioOf s).1 = true then (x, cutV v, (prioOf s).1, 0) else noPin 5 := by
  unfold readF
  have hf := fits_is v
  cases h1 : Lib.hasPrefix v.data.toList headB.data.toList with
  | false =>
    rw [h1, Bool.false_and] at hf
    rw [if_pos rfl, if_neg (by rw [← hf]; simp)]
  | true =>
    rw [if_neg (by simp)]
    rw [h1, Bool.true_and] at hf
    cases h2 : Lib.hasSuffix (trimB v).data.toList starB.data.toList with
    | false =>
      rw [h2] at hf
      rw [if_pos rfl, if_neg (by rw [← hf]; simp)]
    | true =>
      rw [if_neg (by simp)]
      rw [h2] at hf
      rw [trims_is v hf.symm, ← hf]
      cases e : numOf s.data.toList with
      | none =>
        have hq : prioOf s = (0, false) := by unfold prioOf; rw [e]
        rw [hq]
        exact (if_neg (by simp)).symm
      | some n =>
        dsimp only
        by_cases h3 : itoaB n = s
        · rw [if_pos h3]
          by_cases h4 : -1000 ≤ n ∧ n ≤ 1000
          · have hq : prioOf s = (n, true) := by unfold prioOf; rw [e]; exact if_pos ⟨h3, h4⟩
            rw [hq]
            by_cases h5 : rightP x (cutV v) n = true
            · rw [if_pos h5]
              exact (if_pos ⟨rfl, rfl, h5⟩).symm
            · rw [if_neg h5]
              exact (if_neg (fun h => h5 h.2.2)).symm
          · have hq : prioOf s = (0, false) := by unfold prioOf; rw [e]; exact if_neg (fun h => h4 h.2)
            have h5 : rightP x (cutV v) n = false := by
              rw [right_split]; unfold okTail
              by_cases h6 : -1000 ≤ n
              · rw [decide_eq_false (fun h => h4 ⟨h6, h⟩), Bool.and_false, Bool.and_false]
              · rw [decide_eq_false h6, Bool.and_false, Bool.false_and, Bool.and_false]
            rw [hq, h5, if_neg (by simp)]
            exact (if_neg (by simp)).symm
        · have hq : prioOf s = (0, false) := by unfold prioOf; rw [e]; exact if_neg (fun h => h3 h.1)
          rw [hq, if_neg h3]
          exact (if_neg (by simp)).symm
end Go.Proofs.YtlcfpmdamehopaaGreatDoor.PA
/- keelson/stanza.Parse: what it comes to. The one premise on the world: the library's own number stands in its variable. -/
/- keelson/stanza's reader: line, with its recover: what it comes to. Conditions: the reader lies as GRead says. -/
namespace Go.Proofs.YtlcfpmdamehopaaGreatDoor.PA
open Go.RowKit Go.Proofs.YtlcfpmdamehopaaGreatDoorW.PrintWords Go.Proofs.YtlcfpmdamehopaaGreatDoorW.PrintLast Go.Proofs.YtlcfpmdamehopaaGreatDoorW.PrintMore Go.Extern.Stop Go.Stop Go.Extern

theorem assertE (q : Int) (xT : TypeId) (w : World) : (Instr.typeAssert (.iface 24 (.int .i64 q)) xT 24 true).run Tryz.prog w = .ok (.tuple #[.int .i64 q, .bool true]) w := by kernel_rfl
theorem assertN (xT : TypeId) (w : World) : (Instr.typeAssert .nilIface xT 24 true).run Tryz.prog w = .ok (.tuple #[.int .i64 0, .bool false]) w := by kernel_rfl

set_option maxRecDepth 100000 in
set_option maxHeartbeats 1000000 in
theorem catch_err (p : Addr) (x q : Int) (w : World) (hp : w.cell? p = some (.int .i64 x)) (fp : w.frozen? p = false) :
    CallsD Tryz.prog 94 #[.pointer (some p)] (.panicking (panE q)) w fun e u' w' =>
      e = .returned (.tuple #[]) ∧ u' = .panicking [{ v := .iface 24 (.int .i64 q), recovered := true }] ∧ w' = w.setCell p (.int .i64 q) := by
  have hta := assertE q
  refine callsD_of_wpS Tryz.func94 rfl fun c₀ cs hu => ?_
  apply wpS_seq
  apply wpS_region
  simp [wpOpsS, go_sem, recoverD, hu, Tryz.ntmps94, Exit.thenS, panE, hta]
  have hT : ∀ (E T a1 : Value) (b1 : Bool), #[Value.pointer (some p)] ++ (((((((Array.replicate 9 undef).setIfInBounds 3 E).setIfInBounds 4 T).setIfInBounds 2 T).setIfInBounds 5 a1).setIfInBounds 6 (Value.bool b1)).setIfInBounds 0 a1).setIfInBounds 1 (Value.bool b1)
      = #[.pointer (some p), a1, .bool b1, T, E, T, a1, .bool b1, undef, undef] := by
    intro E T a1 b1
    have e : Array.replicate 9 undef = #[undef, undef, undef, undef, undef, undef, undef, undef, undef] := by simp [Array.replicate, List.replicate]
    rw [e]
    simp
  rw [hT]
  clear hT
  refine wpS_of_wp ?_
  clear hta
  have HU := Lib.hid hu
  clear hu
  go_wp2_with fail
  simp [bodyPostS, results, Tryz.results94]

set_option maxRecDepth 100000 in
set_option maxHeartbeats 1000000 in
theorem catch_none (p : Addr) (w : World) :
    CallsD Tryz.prog 94 #[.pointer (some p)] .returning w fun e u' w' => e = .returned (.tuple #[]) ∧ u' = .returning ∧ w' = w := by
  have hta := assertN
  refine callsD_of_wpS Tryz.func94 rfl fun c₀ cs hu => ?_
  apply wpS_seq
  apply wpS_region
  simp [wpOpsS, go_sem, recoverD, hu, Tryz.ntmps94, Exit.thenS, hta]
  have hT : ∀ (E T a1 : Value) (b1 : Bool), #[Value.pointer (some p)] ++ (((((((Array.replicate 9 undef).setIfInBounds 3 E).setIfInBounds 4 T).setIfInBounds 2 T).setIfInBounds 5 a1).setIfInBounds 6 (Value.bool b1)).setIfInBounds 0 a1).setIfInBounds 1 (Value.bool b1)
      = #[.pointer (some p), a1, .bool b1, T, E, T, a1, .bool b1, undef, undef] := by
    intro E T a1 b1
    have e : Array.replicate 9 undef = #[undef, undef, undef, undef, undef, undef, undef, undef, undef] := by simp [Array.replicate, List.replicate]
    rw [e]
    simp
  rw [hT]
  clear hT
  refine wpS_of_wp ?_
  clear hta
  have HU := Lib.hid hu
  clear hu
  go_wp2_with fail
  cases c₀
  have hu := HU.out
  simp_all [bodyPostS, results, Tryz.results94]
theorem below_clean (s : ByteArray) : belowF s 32 = !(cleanL s.data.toList) := by
  unfold belowF bytesOf cleanL
  rw [List.any_map, List.not_all_eq_any_not]
  congr 1
  funext c
  show decide ((c.toNat : Int) < 32) = !decide (32 ≤ c.toNat)
  by_cases h : 32 ≤ c.toNat
  · rw [decide_eq_true h, decide_eq_false (by omega)]; rfl
  · rw [decide_eq_false h, decide_eq_true (by omega)]; rfl
def guestE (W : World) (gs : List Guest) : List Guest := ⟨W.heap.size, #[.int .i64 0], 24⟩ :: gs
theorem RdP.withErr {B : Nat} {w0 W : World} {rb : Nat} {gs : List Guest} {v : Value} {vs : List Value} {l : List (List Fd)} {o : Bool} (h : RdP 49 95 B w0 W rb gs v vs l o) : RdP 49 95 B w0 (W.alloc (.cells #[.int .i64 0] 24)) rb (guestE W gs) v vs l o :=
  have h1 := h.move (alloc_below W (.cells #[.int .i64 0] 24))
  ⟨h1.bel, h1.base, h1.hrb, h1.cell, h1.row, h1.rows, h1.apart, fun q hq => by
    rcases List.mem_cons.1 hq with hq | hq
    · subst hq
      exact ⟨heap_alloc_new W _, (show 49 ≠ 24 by decide), (show 95 ≠ 24 by decide), (show 60 ≠ 24 by decide)⟩
    · exact h1.guest q hq⟩
section
variable {TS TR B : Nat} {w0 W W0 : World} {rb : Nat} {gs : List Guest} {v : Value} {vs : List Value} {l : List (List Fd)} {o : Bool}
theorem RdP.err (h : RdP TS TR B w0 W rb (guestE W0 gs) v vs l o) : W.heap[W0.heap.size]? = some (.cells #[.int .i64 0] 24 (0, 0)) := (h.guest _ List.mem_cons_self).1
theorem RdP.errCell (h : RdP TS TR B w0 W rb (guestE W0 gs) v vs l o) : W.cell? ⟨W0.heap.size, 0, none⟩ = some (.int .i64 0) ∧ W.frozen? ⟨W0.heap.size, 0, none⟩ = false :=
  ⟨by rw [cell_of_row W _ 0 _ _ _ h.err]; rfl, frozen_of_row W _ 0 _ _ h.err⟩
/-- The error's cell is written: the reader is as it was. -/
theorem RdP.setErr (h : RdP TS TR B w0 W rb (guestE W0 gs) v vs l o) (hgs : ∀ q ∈ gs, q.t ≠ 24) (hB : B ≤ W0.heap.size) (q : Int) : RdP TS TR B w0 (W.setCell ⟨W0.heap.size, 0, none⟩ (.int .i64 q)) rb gs v vs l o := by
  obtain ⟨g1, g2, g3, g4⟩ := h.guest _ List.mem_cons_self
  have hne : rb ≠ W0.heap.size := fun e => guest_ne g1 h.cell g3 e.symm
  refine ⟨h.bel.setCell hB _, by simpa using h.base, h.hrb, ?_, ?_, ?_, h.apart, fun q hq => ?_⟩
  · rw [heap_set_ne _ _ _ rb hne]; exact h.cell
  · exact own_setCell h.row (own_ne h.row g1 g2) _
  · refine h.rows.move fun u hu k hk _ => heap_set_ne _ _ _ k ?_
    obtain ⟨x, hx⟩ := h.rows.mem hu
    have := own_ne hx g1 g4
    rw [hk] at this
    rintro rfl
    exact this rfl
  · obtain ⟨q1, q2⟩ := h.guest q (List.mem_cons_of_mem _ hq)
    exact ⟨by rw [heap_set_ne _ _ _ q.b (guest_ne q1 g1 (Ne.symm (hgs q hq)))]; exact q1, q2⟩
end
theorem RdP.lastField {TS TR B : Nat} {w0 W : World} {rb : Nat} {gs : List Guest} {v : Value} {vs us : List Value} {z : Value} {l : List (List Fd)} {o : Bool} {x : List Fd} {f : Fd} {g cap : Nat} (h : RdP TS TR B w0 W rb gs v vs l o) (hl : l ≠ []) (hvs : vs = us ++ [z]) (hx : lastS l = x ++ [f]) (hz : z = .slice (some ⟨g, 0, none⟩) (x.length + 1) cap) :
    W.cell? ⟨g, x.length * 2 + 1, none⟩ = some (.string f.f1) ∧ W.frozen? ⟨g, x.length * 2 + 1, none⟩ = false := by
  have hO := lastOwn h hl hvs hx
  have hl2 : (x ++ [f]).length = x.length + 1 := by simp
  unfold OwnF at hO
  rw [hz, hl2] at hO
  refine ⟨?_, World.ownsRow.frozenAt hO _⟩
  have := World.ownsRow.cells hO (g := g) rfl (x.length * 2 + 1) (.string f.f1) (by
    rw [fcells_app, List.getElem?_append_right (by rw [fcells_len]; omega), fcells_len, show x.length * 2 + 1 - x.length * 2 = 1 by omega]; rfl)
  rwa [show (⟨g, 0, none⟩ : Addr).add (x.length * 2 + 1) = ⟨g, x.length * 2 + 1, none⟩ from by unfold Addr.add; split <;> simp_all] at this
theorem bytes_inj9 {a b : ByteArray} (h : a.data.toList = b.data.toList) : a = b := by rw [← mk_toList a, ← mk_toList b, h]

set_option maxRecDepth 20000 in
set_option maxHeartbeats 4000000 in
theorem line_calls (w0 W : World) (rb : Nat) (gs : List Guest) (hgs : ∀ q ∈ gs, q.t ≠ 24) (v : Value) (vs : List Value) (l : List (List Fd)) (o : Bool) (s : ByteArray) (N : Nat) (hs : s.size < 4294967281) (hG : GlobMaxLen w0) (hF : FineR l o) (hN : ValsLe N l) (hNs : N + s.size ≤ 4611686018427387904)
    (h : RdP 49 95 w0.heap.size w0 W rb gs v vs l o) :
    Calls Tryz.prog 54 #[.pointer (some ⟨rb, 0, none⟩), .string s] W fun e w' =>
      match lineG l o s.data.toList with
      | .error q => e = .returned (.int .i64 q) ∧ Below w0.heap.size w0 w'
      | .ok p => e = .returned (.int .i64 0) ∧ ∃ v' vs', RdP 49 95 w0.heap.size w0 w' rb gs v' vs' p.1 p.2 := by
  have h1 := h.withErr
  have hB := h.base
  clear h
  obtain ⟨r, hr⟩ : ∃ r, lineG l o s.data.toList = r := ⟨_, rfl⟩
  rw [hr]
  unfold lineG at hr
  have hbl := stanza_below.calls s 32 (W.alloc (.cells #[.int .i64 0] 24)) (by omega)
  rw [below_clean] at hbl
  have my := must_yes
  have mn := must_no
  have hmf := makeFunc_run
  have hmv := fun w1 (hb : Below (W.alloc (.cells #[.int .i64 0] 24)).heap.size (W.alloc (.cells #[.int .i64 0] 24)) w1) => h1.move hb
  cases hc : cleanL s.data.toList with
  | false =>
    rw [hc] at hr hbl
    rw [if_neg (by decide)] at hr
    subst hr
    clear h1
    go_enter_defers Tryz.func54, Tryz.ntmps54
    go_wp2_with (first | (go_at_call 96; with_reducible refine hbl.mono ?_; rintro e w1 ⟨rfl, hb1⟩; have H1 := Lib.hid (hmv _ hb1)) | (go_at_call 95; with_reducible refine (mn _ _).mono ?_; rintro e w' ⟨rfl, rfl⟩))
    refine leaves_cons (f := 94) (args := #[.pointer (some ⟨W.heap.size, 0, none⟩)]) (by simp) (by simp [go_sem]) ?_
    refine (catch_err ⟨W.heap.size, 0, none⟩ 0 5 _ H1.out.errCell.1 H1.out.errCell.2).mono ?_
    rintro e u' w'' ⟨rfl, rfl, rfl⟩
    have HE := H1.out.errCell.1
    simp [Leaves, settle, results, Tryz.results54, go_sem, HE]
    exact (H1.out.setErr hgs hB 5).bel
  | true =>
    rw [hc] at hr hbl
    rw [if_pos rfl] at hr
    cases hl : s.data.toList with
    | nil =>
      rw [hl] at hr
      dsimp only at hr
      subst hr
      obtain rfl : s = ⟨#[]⟩ := by cases s with | mk d => cases d with | mk l => cases hl; rfl
      clear h1
      go_enter_defers Tryz.func54, Tryz.ntmps54
      go_wp2_with (first | (go_at_call 96; with_reducible refine hbl.mono ?_; rintro e w1 ⟨rfl, hb1⟩; have H1 := Lib.hid (hmv _ hb1); have k0 := H1.out.cell1; have k1 := H1.out.frozen 1; have H2 := Lib.hid (H1.out.flag (by decide) (by decide) false); have E2 := H2.out.errCell; have e1 := E2.1; have e2 := E2.2) | (go_at_call 95; with_reducible refine (my _ _).mono ?_; rintro e w' ⟨rfl, rfl⟩))
      refine leaves_cons (f := 94) (args := #[.pointer (some ⟨W.heap.size, 0, none⟩)]) (by simp) (by simp [go_sem]) ?_
      refine (catch_none ⟨W.heap.size, 0, none⟩ _).mono ?_
      rintro e u' w'' ⟨rfl, rfl, rfl⟩
      have HE := H2.out.errCell.1
      simp [Leaves, settle, results, Tryz.results54, go_sem, HE]
      exact ⟨_, _, H2.out.setErr hgs hB 0⟩
    | cons c t =>
      rw [hl] at hr
      dsimp only at hr
      have hsz : s.size = t.length + 1 := by rw [← data_length, hl]; rfl
      have hne2 : (s.toList = []) = False := by rw [ByteArray.toList_eq, hl]; simp
      have hne3 : s.toList.isEmpty = false := by rw [ByteArray.toList_eq, hl]; rfl
      have q1 : ((0 : Int) < (s.size : Int)) = True := eq_true (by omega)
      have q3 : (0 < s.size) = True := eq_true (by omega)
      have hx : ∀ h : 0 < s.size, ((s[0]'h).toNat : Int) = (c.toNat : Int) := by
        intro h
        congr 2
        show s.data[0] = c
        have : s.data.toList[0]'(by rw [hl]; exact Nat.succ_pos _) = c := by simp [hl]
        simpa using this
      by_cases h32 : c.toNat ≠ 32
      · rw [if_pos h32] at hr
        have hci : ¬ (c.toNat : Int) = 32 := by omega
        have hci2 : ((c.toNat : Int) != 32) = true := bne_iff_ne.2 hci
        have hci3 : ((c.toNat : Int) == 32) = false := beq_eq_false_iff_ne.2 hci
        have hfc := fun w1 H => field_calls w0 w1 rb (guestE W gs) v vs l o s hs hG hF H
        rw [hl] at hfc
        generalize (c.toNat : Int) = ci at hx hci hci2 hci3
        cases hfg : fieldG l o (c :: t) with
        | error q =>
          rw [hfg] at hr hfc
          subst hr
          dsimp only at hfc
          have HSZ := Lib.hid hsz
          clear h1 hsz hl
          go_enter_defers Tryz.func54, Tryz.ntmps54
          go_wp2_with (first | (go_at_call 96; with_reducible refine hbl.mono ?_; rintro e w1 ⟨rfl, hb1⟩; have H1 := Lib.hid (hmv _ hb1); have k0 := H1.out.cell1; have k00 := H1.out.cell0) | (go_at_call 95; with_reducible refine (my _ _).mono ?_; rintro e w' ⟨rfl, rfl⟩) | (go_at_call 97; with_reducible refine (hfc _ H1.out).mono ?_; rintro e w3 ⟨rfl, v3, vs3, l3, o3, h3⟩; have H3 := Lib.hid h3; clear h3))
          refine leaves_cons (f := 94) (args := #[.pointer (some ⟨W.heap.size, 0, none⟩)]) (by simp) (by simp [go_sem]) ?_
          refine (catch_err ⟨W.heap.size, 0, none⟩ 0 q _ H3.out.errCell.1 H3.out.errCell.2).mono ?_
          rintro e u' w'' ⟨rfl, rfl, rfl⟩
          have HE := H3.out.errCell.1
          simp [Leaves, settle, results, Tryz.results54, go_sem, HE]
          exact (H3.out.setErr hgs hB q).bel
        | ok p =>
          rw [hfg] at hr hfc
          subst hr
          dsimp only at hfc ⊢
          have HSZ := Lib.hid hsz
          clear h1 hsz hl
          go_enter_defers Tryz.func54, Tryz.ntmps54
          go_wp2_with (first | (go_at_call 96; with_reducible refine hbl.mono ?_; rintro e w1 ⟨rfl, hb1⟩; have H1 := Lib.hid (hmv _ hb1); have k0 := H1.out.cell1; have k00 := H1.out.cell0) | (go_at_call 95; with_reducible refine (my _ _).mono ?_; rintro e w' ⟨rfl, rfl⟩) | (go_at_call 97; with_reducible refine (hfc _ H1.out).mono ?_; rintro e w3 ⟨rfl, v3, vs3, h3⟩; have H3 := Lib.hid h3; have E3 := h3.errCell; have e1 := E3.1; have e2 := E3.2; clear h3 E3))
          refine leaves_cons (f := 94) (args := #[.pointer (some ⟨W.heap.size, 0, none⟩)]) (by simp) (by simp [go_sem]) ?_
          refine (catch_none ⟨W.heap.size, 0, none⟩ _).mono ?_
          rintro e u' w'' ⟨rfl, rfl, rfl⟩
          have HE := H3.out.errCell.1
          simp [Leaves, settle, results, Tryz.results54, go_sem, HE]
          exact ⟨_, _, H3.out.setErr hgs hB 0⟩
      · rw [if_neg h32] at hr
        have hci : (c.toNat : Int) = 32 := by omega
        rw [hci] at hx
        cases o with
        | false =>
          rw [Bool.false_and, if_neg (by decide)] at hr
          subst hr
          have HSZ := Lib.hid hsz
          clear h1 hsz hl
          go_enter_defers Tryz.func54, Tryz.ntmps54
          go_wp2_with (first | (go_at_call 96; with_reducible refine hbl.mono ?_; rintro e w1 ⟨rfl, hb1⟩; have H1 := Lib.hid (hmv _ hb1); have k0 := H1.out.cell1; have k00 := H1.out.cell0) | (go_at_call 95; with_reducible refine (my _ _).mono ?_; rintro e w' ⟨rfl, rfl⟩) | (go_at_call 95; with_reducible refine (mn _ _).mono ?_; rintro e w' ⟨rfl, rfl⟩))
          refine leaves_cons (f := 94) (args := #[.pointer (some ⟨W.heap.size, 0, none⟩)]) (by simp) (by simp [go_sem]) ?_
          refine (catch_err ⟨W.heap.size, 0, none⟩ 0 5 _ H1.out.errCell.1 H1.out.errCell.2).mono ?_
          rintro e u' w'' ⟨rfl, rfl, rfl⟩
          have HE := H1.out.errCell.1
          simp [Leaves, settle, results, Tryz.results54, go_sem, HE]
          exact (H1.out.setErr hgs hB 5).bel
        | true =>
        cases t with
        | nil =>
          rw [Bool.true_and, if_neg (by decide)] at hr
          subst hr
          have hsz1 : (s.size : Int) = 1 := by rw [hsz]; rfl
          clear h1 hl hsz q1
          go_enter_defers Tryz.func54, Tryz.ntmps54
          go_wp2_with (first | (go_at_call 96; with_reducible refine hbl.mono ?_; rintro e w1 ⟨rfl, hb1⟩; have H1 := Lib.hid (hmv _ hb1); have k0 := H1.out.cell1; have k00 := H1.out.cell0) | (go_at_call 95; with_reducible refine (my _ _).mono ?_; rintro e w' ⟨rfl, rfl⟩) | (go_at_call 95; with_reducible refine (mn _ _).mono ?_; rintro e w' ⟨rfl, rfl⟩))
          refine leaves_cons (f := 94) (args := #[.pointer (some ⟨W.heap.size, 0, none⟩)]) (by simp) (by simp [go_sem]) ?_
          refine (catch_err ⟨W.heap.size, 0, none⟩ 0 5 _ H1.out.errCell.1 H1.out.errCell.2).mono ?_
          rintro e u' w'' ⟨rfl, rfl, rfl⟩
          have HE := H1.out.errCell.1
          simp [Leaves, settle, results, Tryz.results54, go_sem, HE]
          exact (H1.out.setErr hgs hB 5).bel
        | cons c1 t1 =>
          rw [Bool.true_and, if_pos (by rfl)] at hr
          subst hr
          have hl0 := hF.2.2 rfl
          obtain ⟨g, cap, hv, _, _⟩ := h1.slice hl0
          obtain ⟨us, z, hvs, _, hz, hlen⟩ := h1.last hl0
          have hne := (hF.2.1 _ (lastS_mem hl0)).1
          obtain ⟨x, f, hx9⟩ : ∃ x f, lastS l = x ++ [f] := ⟨_, _, (List.dropLast_concat_getLast hne).symm⟩
          have hsz9 : f.f1.size ≤ N := hN _ (lastS_mem hl0) f (by rw [hx9]; simp)
          have hmore : moreS (c1 :: t1) (lastS l) = x ++ [⟨f.f0, mkB (f.f1.data.toList ++ 10 :: c1 :: t1)⟩] := by rw [hx9]; simp [moreS, moreF]
          obtain ⟨gz, cz, hzv⟩ : ∃ gz cz, z = .slice (some ⟨gz, 0, none⟩) (x.length + 1) cz := by
            rcases hz.2 with ⟨_, e⟩ | ⟨gz, cz, cur, e, _⟩
            · rw [hx9] at e; simp at e
            · exact ⟨gz, cz, by rw [e, hx9]; simp⟩
          have hrl := fun w1 (H : RdP 49 95 w0.heap.size w0 w1 rb (guestE W gs) v vs l true) => (H.lastAt hv hvs hlen).1
          have hrf := fun w1 (H : RdP 49 95 w0.heap.size w0 w1 rb (guestE W gs) v vs l true) => H.lastField hl0 hvs hx9 hzv
          have hrv := fun w1 (H : RdP 49 95 w0.heap.size w0 w1 rb (guestE W gs) v vs l true) => H.value hl0 (by decide) (by decide) hvs hx9 hzv (mkB (f.f1.data.toList ++ 10 :: c1 :: t1))
          rw [hmore]
          rw [← hlen] at hv
          subst hv hzv
          have hlu : us.length < 9223372036854775807 := by have := hF.1; omega
          have hxu : x.length < 9223372036854775807 := by
            have := (hF.2.1 _ (lastS_mem hl0)).2
            rw [hx9] at this; simp at this; omega
          have i1 : IntKind.i64.wrap ((us.length : Int) + 1 - 1) = (us.length : Int) := by
            rw [i64_w]; unfold wrap64; omega
          have i1b : IntKind.i64.wrap (us.length : Int) = (us.length : Int) := by
            rw [i64_w]; unfold wrap64; omega
          have i2 : (0 ≤ (us.length : Int)) = True := eq_true (by omega)
          have i3 : ((us.length : Int) < (us.length : Int) + 1) = True := eq_true (by omega)
          have x1 : IntKind.i64.wrap ((x.length : Int) + 1 - 1) = (x.length : Int) := by
            rw [i64_w]; unfold wrap64; omega
          have x1b : IntKind.i64.wrap (x.length : Int) = (x.length : Int) := by
            rw [i64_w]; unfold wrap64; omega
          have x2 : (0 ≤ (x.length : Int)) = True := eq_true (by omega)
          have x3 : ((x.length : Int) < (x.length : Int) + 1) = True := eq_true (by omega)
          have hs1 : ((1 : Int) < (s.size : Int)) = True := eq_true (by rw [hsz]; simp only [List.length_cons]; omega)
          have hs2 : ((1 : Int) ≤ (s.size : Int)) = True := eq_true (by rw [hsz]; simp only [List.length_cons]; omega)
          have hex : s.extract 1 s.size = mkB (c1 :: t1) := by
            refine bytes_inj9 ?_
            rw [Lib.extract_to_end, hl]; rfl
          have hts : (mkB (c1 :: t1)).size = s.size - 1 := by rw [mkB_size, hsz]; simp
          have e1 := fun w => run_string_add_sum (P := Tryz.prog) (w := w) ⟨#[10]⟩ (mkB (c1 :: t1)) (by rw [hts, show (⟨#[10]⟩ : ByteArray).size = 1 from rfl]; omega)
          have e2 := fun w => run_string_add_sum (P := Tryz.prog) (w := w) f.f1 (⟨#[10]⟩ ++ mkB (c1 :: t1)) (by rw [ByteArray.size_append, hts, show (⟨#[10]⟩ : ByteArray).size = 1 from rfl]; omega)
          have heq : f.f1 ++ (⟨#[10]⟩ ++ mkB (c1 :: t1)) = mkB (f.f1.data.toList ++ 10 :: c1 :: t1) := by
            refine bytes_inj9 ?_
            rw [ByteArray.data_append, ByteArray.data_append, Array.toList_append, Array.toList_append]; rfl
          have HLN := Lib.hid hlen
          generalize mkB (f.f1.data.toList ++ 10 :: c1 :: t1) = fv at heq hrv ⊢
          generalize mkB (c1 :: t1) = uv at e1 e2 heq hex
          clear h1 hl hsz hlen hz hne hx9 hmore hlu hxu hF hN hts hsz9
          go_enter_defers Tryz.func54, Tryz.ntmps54
          go_wp2_with (first | (go_at_call 96; with_reducible refine hbl.mono ?_; rintro e w1 ⟨rfl, hb1⟩; have H1 := Lib.hid (hmv _ hb1); have k0 := H1.out.cell1; have k00 := H1.out.cell0; have k2 := hrl _ H1.out; have F3 := hrf _ H1.out; have k3 := F3.1; have k4 := F3.2; clear F3) | (go_at_call 95; with_reducible refine (my _ _).mono ?_; rintro e w' ⟨rfl, rfl⟩))
          go_quiet (fail)
          have H5 := Lib.hid (hrv _ (H1.out.move (pw_below_drewN (Below.refl w1.heap.size w1) (nq + 1))))
          have E5 := H5.out.errCell
          have e51 := E5.1
          have e52 := E5.2
          clear E5 hrv hrl hrf hmv
          go_wp2
          go_region
          go_wp2
          refine leaves_cons (f := 94) (args := #[.pointer (some ⟨W.heap.size, 0, none⟩)]) (by simp) (by simp [go_sem]) ?_
          refine (catch_none ⟨W.heap.size, 0, none⟩ _).mono ?_
          rintro e u' w'' ⟨rfl, rfl, rfl⟩
          have HE := H5.out.errCell.1
          simp [Leaves, settle, results, Tryz.results54, go_sem, HE]
          exact ⟨_, _, H5.out.setErr hgs hB 0⟩
end Go.Proofs.YtlcfpmdamehopaaGreatDoor.PA
namespace Go.Proofs.YtlcfpmdamehopaaGreatDoor.PA
open Go.RowKit Go.Proofs.YtlcfpmdamehopaaGreatDoorW.PrintWords Go.Proofs.YtlcfpmdamehopaaGreatDoorW.PrintLast Go.Proofs.YtlcfpmdamehopaaGreatDoorW.PrintMore

theorem lines_len : ∀ s : List UInt8, (linesL s).length ≤ s.length + 1 := by
  intro s
  induction s with
  | nil => exact Nat.le_refl _
  | cons c s ih =>
    unfold linesL
    split
    · simp only [List.length_cons]; omega
    · split
      · rename_i e; rw [e] at ih; simp only [List.length_cons] at ih ⊢; omega
      · simp
theorem line_len1 : ∀ s : List UInt8, ∀ x ∈ linesL s, x.length ≤ s.length := by
  intro s
  induction s with
  | nil => intro x hx; simp [linesL] at hx; subst hx; exact Nat.le_refl _
  | cons c s ih =>
    intro x hx
    unfold linesL at hx
    split at hx
    · rcases List.mem_cons.1 hx with h | h
      · subst h; exact Nat.zero_le _
      · exact Nat.le_trans (ih x h) (Nat.le_succ _)
    · split at hx
      · rename_i l ls e
        rcases List.mem_cons.1 hx with h | h
        · subst h
          have := ih l (by rw [e]; exact List.mem_cons_self)
          simp only [List.length_cons]; omega
        · exact Nat.le_trans (ih x (by rw [e]; exact List.mem_cons_of_mem _ h)) (Nat.le_succ _)
      · rw [List.mem_singleton] at hx; subst hx; simp
theorem ValsLe.mono {N M : Nat} {l : List (List Fd)} (h : ValsLe N l) (hm : N ≤ M) : ValsLe M l := fun st hst f hf => Nat.le_trans (h st hst f hf) hm
theorem S_nil (w : World) (base : Nat) : Kd.S (Kd.slice 60 k60) 49 w base (fun _ => True) (.slice none 0 0) [] := ⟨fun _ => 0, Kd.R_nil _ _ _ _ _⟩
theorem read_step (ss : List (List UInt8)) (kk : Nat) (l : List (List Fd)) (o : Bool) (hk : kk < ss.length) : readG (ss.drop kk) kk l o = match lineG l o ss[kk] with
    | .error e => ([], (kk : Int) + 1, e)
    | .ok (l', o') => readG (ss.drop (kk + 1)) (kk + 1) l' o' := by
  rw [List.drop_eq_getElem_cons hk, readG]
  all_goals cases lineG l o ss[kk] <;> rfl
def lineCells (ls : List (List UInt8)) : Array Value := ((ls.map mkB).map Value.string).toArray
theorem lineCells_at (ls : List (List UInt8)) (k : Nat) (hk : k < ls.length) : (lineCells ls)[k]? = some (.string (mkB ls[k])) := by
  simp [lineCells, hk]
def stanza_Parse.f (a0 : ByteArray) : Option (List (List Fd) × Int × Int) := some (parseL a0.data.toList)

set_option maxRecDepth 20000 in
set_option maxHeartbeats 4000000 in
theorem stanza_Parse.calls (a0 : ByteArray) (r1 : List (List Fd)) (r2 r3 : Int) (w : World) (hG : GlobMaxLen w) (h : stanza_Parse.f a0 = some (r1, r2, r3)) :
    Calls Tryz.prog 23 #[.string a0] w fun e w' => ∃ v0_ : Value, e = .returned (.tuple #[v0_, .int .i64 r2, .int .i64 r3]) ∧ Kd.S (Kd.slice 60 k60) 49 w' w.heap.size (fun _ => True) v0_ r1 ∧ Below w.heap.size w w' := by
  have h := Option.some.inj h
  have hsz : a0.size = a0.data.toList.length := (data_length a0).symm
  unfold parseL at h
  split at h
  case isTrue hbig =>
    cases h
    have q1 : (60000 : Int) < (a0.size : Int) := by omega
    clear hbig hsz
    go_enter Tryz.func23, Tryz.ntmps23
    go_wp2
    go_ret3
    exact ⟨_, rfl, S_nil _ _, Below.refl _ _⟩
  case isFalse hbig =>
    have q1 : ¬ (60000 : Int) < (a0.size : Int) := by omega
    have hb1 := alloc_below w (.cells #[.slice none 0 0, .bool false] 95)
    obtain ⟨m, hm⟩ := hG.below hb1
    have hsp := Tryz.strings_Split a0 ⟨#[10]⟩ m _ (by omega) hm (by decide)
    rw [splitB_lines, splitB_len, show (w.alloc (.cells #[.slice none 0 0, .bool false] 95)).heap.size = w.heap.size + 1 by simp] at hsp
    have hll := lines_len a0.data.toList
    have hl1 := line_len1 a0.data.toList
    generalize linesL a0.data.toList = ls at h hsp hll hl1
    change Calls _ _ _ _ fun e w' => _ ∧ w' = (w.alloc (.cells #[.slice none 0 0, .bool false] 95)).alloc (.cells (lineCells ls) 9) at hsp
    have hst : RdP 49 95 w.heap.size w ((w.alloc (.cells #[.slice none 0 0, .bool false] 95)).alloc (.cells (lineCells ls) 9)) w.heap.size [⟨w.heap.size + 1, lineCells ls, 9⟩] (.slice none 0 0) [] [] false := by
      have h1 := (RdP.start (TS := 49) hb1 hb1.size (Nat.le_refl _) (heap_alloc_new w _)).move (alloc_below (w.alloc (.cells #[.slice none 0 0, .bool false] 95)) (.cells (lineCells ls) 9))
      refine ⟨h1.bel, h1.base, h1.hrb, h1.cell, h1.row, h1.rows, h1.apart, fun q hq => ?_⟩
      rw [List.mem_singleton] at hq
      subst hq
      refine ⟨?_, (show 49 ≠ 9 by decide), (show 95 ≠ 9 by decide), (show 60 ≠ 9 by decide)⟩
      have := heap_alloc_new (w.alloc (.cells #[.slice none 0 0, .bool false] 95)) (.cells (lineCells ls) 9)
      rw [show (w.alloc (.cells #[.slice none 0 0, .bool false] 95)).heap.size = w.heap.size + 1 by simp] at this
      exact this
    have HS := Lib.hid hst
    have HG := Lib.hid hG
    have HR := Lib.hid h
    have HL1 := Lib.hid hl1
    clear hst hm hb1 h hl1 hsz hG
    go_enter Tryz.func23, Tryz.ntmps23
    go_wp2_with (go_at_call 53; with_reducible refine hsp.mono ?_; rintro e w1 ⟨rfl, rfl⟩)
    have hn : ls.length < 9223372036854775807 := by omega
    clear hsp q1
    go_loopg [6, 7, 8, 15] ls.length (fun gg _ _ _ s15 wr => ∃ (kk : Nat) (l : List (List Fd)) (o : Bool) (v : Value) (vs : List Value), kk ≤ ls.length ∧ ls.length - kk ≤ gg ∧ s15 = .int .i64 kk ∧ Aside (RdP 49 95 w.heap.size w wr w.heap.size [⟨w.heap.size + 1, lineCells ls, 9⟩] v vs l o) ∧ Aside (FineR l o) ∧ Aside (ValsLe (kk * 60000) l) ∧ Aside (readG (ls.drop kk) kk l o = (r1, r2, r3)))
    case atStart => exact ⟨0, [], false, _, _, Nat.zero_le _, by omega, rfl, HS.out, fine_start, vals_start _, by rw [List.drop_zero]; exact HR.out⟩
    case round =>
      obtain ⟨kk, l, o, v, vs, hkk, hg, rfl, RP, RF, RV, RR⟩ := hrel
      by_cases hlt : kk < ls.length
      · have hltz : (kk : Int) < (ls.length : Int) := by omega
        have hcell : wr.cell? ⟨w.heap.size + 1, kk, none⟩ = some (.string (mkB ls[kk])) := by
          rw [cell_of_row wr _ kk _ _ _ (RP.out.guest _ (List.mem_singleton.2 rfl)).1, lineCells_at ls kk hlt]
        have hlk := HL1.out ls[kk] (List.getElem_mem hlt)
        have hlc := line_calls w wr w.heap.size [⟨w.heap.size + 1, lineCells ls, 9⟩] (by intro q hq; rw [List.mem_singleton] at hq; subst hq; exact (show 9 ≠ 24 by decide)) v vs l o (mkB ls[kk]) (kk * 60000) (by rw [mkB_size]; omega) HG.out RF.out RV.out (by rw [mkB_size]; omega) RP.out
        have hrs := RR.out
        rw [read_step ls kk l o hlt] at hrs
        have hfl := fun l' o' => fine_line (l' := l') (o' := o') (s := ls[kk]) RF.out
        have hvl := fun l' o' => vals_line (l' := l') (o' := o') (s := ls[kk]) RV.out RF.out.2.2
        rw [show (mkB ls[kk]).data.toList = ls[kk] from rfl] at hlc
        cases hq : lineG l o ls[kk] with
        | error q =>
          have hq0 := line_err hq
          rw [hq] at hlc hrs
          have hq1 : (q != 0) = true := bne_iff_ne.2 hq0
          cases hrs
          dsimp only at hlc
          have hwr : IntKind.i64.wrap ((kk : Int) + 1) = (kk : Int) + 1 := by rw [i64_w]; unfold wrap64; omega
          clear hfl hvl RF RV RR
          go_wp2_with (go_at_call 54; with_reducible refine hlc.mono ?_; rintro e w3 ⟨rfl, hb3⟩)
          go_ret3
          exact ⟨_, rfl, S_nil _ _, hb3⟩
        | ok p =>
          rw [hq] at hlc hrs
          dsimp only at hlc hrs
          have HF := Lib.hid (hfl p.1 p.2 hq)
          have HV := Lib.hid ((hvl p.1 p.2 hq).mono (show kk * 60000 + ls[kk].length ≤ (kk + 1) * 60000 by omega))
          have HRR := Lib.hid hrs
          clear hfl hvl RF RV RR hrs
          go_wp2_with (go_at_call 54; with_reducible refine hlc.mono ?_; rintro e w3 ⟨rfl, v3, vs3, h3⟩; have H3 := Lib.hid h3; clear h3)
          go_roundg (ls.length - (kk + 1))
          case measure => omega
          case rel => exact ⟨kk + 1, p.1, p.2, v3, vs3, by omega, by omega, by go_num, H3.out, HF.out, HV.out, HRR.out⟩
      · have hltz : ¬ (kk : Int) < (ls.length : Int) := by omega
        have hrs := RR.out
        rw [List.drop_eq_nil_of_le (by omega)] at hrs
        cases hrs
        have k0 := RP.out.cell0
        have HSS := Lib.hid (RP.out.S (by decide))
        have HBB := Lib.hid RP.out.bel
        clear RF RV RR RP
        go_wp2
        go_ret3
        exact ⟨_, rfl, HSS.out, HBB.out⟩
end Go.Proofs.YtlcfpmdamehopaaGreatDoor.PA
-- Printed by gprint.py (wip/ of this repo), over the kit's print.
namespace Go.Proofs.YtlcfpmdamehopaaGreatDoor.PA
open Go.RowKit Go.Proofs.YtlcfpmdamehopaaGreatDoorW.PrintWords Go.Proofs.YtlcfpmdamehopaaGreatDoorW.PrintLast Go.Proofs.YtlcfpmdamehopaaGreatDoorW.PrintMore
attribute [local go_sem] max2_int min2_int max_two min_two max_three min_three max_four min_four   -- for this text's walks alone
set_option linter.unusedVariables false
set_option linter.unusedSimpArgs false

/-! ### pins_Parse: function 8 -/
def pins_Parse.l0 : Nat → List (S30) → List (List (S60)) → Int → Int → Option ((List (S30)) × Int × Int)
  | 0, _, _, _, _ => none
  | k + 1, x8, x28, x29, x30 => if x30 < x29 then (if 0 ≤ x30 then (if x30 < (x28.length : Int) then ((pins_read.f (rd_L2 x28 x30)).bind fun bt109 => (if bt109.2.2.2 = 0 then (if x8.length < 3518437208883 then (pins_Parse.l0 k (x8 ++ [(⟨bt109.1, bt109.2.1, bt109.2.2.1⟩ : S30)]) x28 x29 (wrap64 (x30 + 1))) else (none)) else (some (([] : List (S30)), wrap64 (x30 + 1), bt109.2.2.2)))) else (none)) else (none)) else (some (x8, 0, 0))
def pins_Parse.f (k : Nat) (a0 : ByteArray) : Option ((List (S30)) × Int × Int) := (stanza_Parse.f a0).bind fun bt103 => (if bt103.2.2 = 0 then (if (bt103.1.length : Int) > 64 then (some (([] : List (S30)), 0, 8)) else (pins_Parse.l0 k ([] : List (S30)) bt103.1 (bt103.1.length : Int) 0)) else (some (([] : List (S30)), bt103.2.1, bt103.2.2)))
set_option maxHeartbeats 8000000 in
set_option maxRecDepth 100000 in
theorem pins_Parse.calls (k : Nat) (a0 : ByteArray) (r1 : List (S30)) (r2 : Int) (r3 : Int) (w : World) (hG_maxLen : GlobMaxLen w) (hG_numErr : GlobNumErr w) (hG_pow10 : GlobPow10 w) (h : pins_Parse.f k a0 = some (r1, r2, r3)) :
    Calls Tryz.prog 8 #[.string a0] w fun e w' => ∃ v0_ : Value, e = .returned (.tuple #[v0_, .int .i64 r2, .int .i64 r3]) ∧ Kd.R k30 30 w' w.heap.size (fun _ => True) v0_ r1 ∧ Below w.heap.size w w' := by
  have hu30 := Tryz.underlying30
  have HG_maxLen := Aside0.mk hG_maxLen
  clear hG_maxLen
  have HG_numErr := Aside0.mk hG_numErr
  clear hG_numErr
  have HG_pow10 := Aside0.mk hG_pow10
  clear hG_pow10
  have HB := Aside0.mk (Below.refl w.heap.size w)
  have H : ((stanza_Parse.f a0).bind fun bt103 => (if bt103.2.2 = 0 then (if (bt103.1.length : Int) > 64 then (some (([] : List (S30)), 0, 8)) else (pins_Parse.l0 k ([] : List (S30)) bt103.1 (bt103.1.length : Int) 0)) else (some (([] : List (S30)), bt103.2.1, bt103.2.2)))) = some (r1, r2, r3) := h
  clear h
  replace H := Option.bind_eq_some_iff.mp H
  obtain ⟨⟨t103, t104, t105⟩, A20, H⟩ := H
  replace H : (if t105 = 0 then (if (t103.length : Int) > 64 then (some (([] : List (S30)), 0, 8)) else (pins_Parse.l0 k ([] : List (S30)) t103 (t103.length : Int) 0)) else (some (([] : List (S30)), t104, t105))) = some (r1, r2, r3) := H
  have A2 := Aside0.mk A20
  clear A20
  by_cases c3 : t105 = 0
  · rw [if_pos c3] at H
    have c3b0 : (t105 == 0) = true := beq_iff_eq.mpr c3
    have c3b1 : (t105 != 0) = false := bne_eq_false_iff_eq.mpr c3
    clear c3
    by_cases c4 : (t103.length : Int) > 64
    · rw [if_pos c4] at H
      have c4b0 : decide (64 < (t103.length : Int)) = true := decide_eq_true c4
      have c4b1 : decide (64 < t103.length) = true := decide_eq_true (by omega)
      clear c4
      simp only [Option.some.injEq, Prod.mk.injEq] at H
      obtain ⟨rfl, rfl, rfl⟩ := H
      go_enter Tryz.func8, Tryz.ntmps8
      go_wp2_with (first | ((with_reducible refine gate_callee (f := 23) rfl ?_); refine goesL_ (some 15) rfl rfl Tryz.func23 (by kernel_rfl) rfl #[.string a0] rfl (by (try simp only [List.map_toArray, List.map_cons, List.map_nil]); first | done | rfl | (simp only [List.length_drop, List.length_take]; rfl)) ?_; (with_reducible refine (stanza_Parse.calls a0 t103 t104 t105 _ ?side1 A2.out).mono ?_); (case side1 => exact HG_maxLen.out.below (by repeat (first | (with_reducible first | exact HB.out | apply below_alloc | apply pw_below_drewN | apply below_drew1) | exact HB.out))); rintro e w5 ⟨v106, rfl, ho0, hb⟩; refine ⟨_, rfl, ?_⟩; have n0_ := Aside0.mk (Kd.S_lower ho0 (below_size (by repeat (first | (with_reducible first | exact HB.out | apply below_alloc | apply pw_below_drewN | apply below_drew1) | exact HB.out)))); have n1_ := Aside0.mk (below_step (by repeat (first | (with_reducible first | exact HB.out | apply below_alloc | apply pw_below_drewN | apply below_drew1) | exact HB.out)) hb); clear HB; have HO107 := n0_; have HB := n1_; clear n0_ n1_; (try clear hb); (try clear hb2); (try clear hk); (try clear hi); (try clear ho0); obtain ⟨Ao6, co6, eo6⟩ := Kd.S_slice HO107.out; subst eo6))
      go_ret3
      exact ⟨_, by first | rfl | (simp [errW_none, errW_some] <;> rfl) | (simp [*, errW_none, errW_some] <;> rfl), by first | exact Kd.R_nil _ _ _ _ _ | exact Kd.N_nil _ _ _ _ _ | exact Kd.V_nil _ _ _ _ _ | exact Kd.Q_nil _ _ _ _ _ | exact Kd.S_nil _ _ _ _ _, by repeat (first | (with_reducible first | exact HB.out | apply below_alloc | apply pw_below_drewN | apply below_drew1) | exact HB.out)⟩
    · rw [if_neg c4] at H
      have c4b0 : decide (64 < (t103.length : Int)) = false := decide_eq_false c4
      have c4b1 : decide (64 < t103.length) = false := decide_eq_false (by omega)
      clear c4
      have H' := Aside0.mk H
      clear H
      go_enter Tryz.func8, Tryz.ntmps8
      go_wp2_with (first | ((with_reducible refine gate_callee (f := 23) rfl ?_); refine goesL_ (some 15) rfl rfl Tryz.func23 (by kernel_rfl) rfl #[.string a0] rfl (by (try simp only [List.map_toArray, List.map_cons, List.map_nil]); first | done | rfl | (simp only [List.length_drop, List.length_take]; rfl)) ?_; (with_reducible refine (stanza_Parse.calls a0 t103 t104 t105 _ ?side1 A2.out).mono ?_); (case side1 => exact HG_maxLen.out.below (by repeat (first | (with_reducible first | exact HB.out | apply below_alloc | apply pw_below_drewN | apply below_drew1) | exact HB.out))); rintro e w7 ⟨v106, rfl, ho0, hb⟩; refine ⟨_, rfl, ?_⟩; have n0_ := Aside0.mk (Kd.S_lower ho0 (below_size (by repeat (first | (with_reducible first | exact HB.out | apply below_alloc | apply pw_below_drewN | apply below_drew1) | exact HB.out)))); have n1_ := Aside0.mk (below_step (by repeat (first | (with_reducible first | exact HB.out | apply below_alloc | apply pw_below_drewN | apply below_drew1) | exact HB.out)) hb); clear HB; have HO107 := n0_; have HB := n1_; clear n0_ n1_; (try clear hb); (try clear hb2); (try clear hk); (try clear hi); (try clear ho0); obtain ⟨Ao8, co8, eo8⟩ := Kd.S_slice HO107.out; subst eo8))
      go_loopg [8, 30] k (fun kq v8 v30 w' => ∃ (x8_1 : List (S30)) (x30_1 : Int), v30 = .int .i64 x30_1 ∧ Aside0 (pins_Parse.l0 kq x8_1 t103 (t103.length : Int) x30_1 = some (r1, r2, r3)) ∧ Aside0 (kq ≤ k) ∧ Aside0 (Kd.R k30 30 w' w.heap.size (fun _ => True) v8 x8_1) ∧ Aside0 (Kd.S (Kd.slice 60 k60) 49 w' w.heap.size (fun _ => True) (.slice Ao8 t103.length co8) t103) ∧ Aside0 (Below w.heap.size w w'))
      case atStart => exact ⟨(([] : List (S30))), (0), (by first | rfl | (simp; done) | (simp [*]; done)), H', ⟨Nat.le_refl _⟩, ⟨by first | exact Kd.R_nil _ _ _ _ _ | exact Kd.N_nil _ _ _ _ _ | exact Kd.V_nil _ _ _ _ _ | exact Kd.Q_nil _ _ _ _ _ | exact Kd.S_nil _ _ _ _ _⟩, ⟨by (with_reducible repeat (first | apply Kd.S_alloc | apply Kd.S_drewN | apply Kd.S_drew)); exact HO107.out⟩, ⟨by repeat (first | (with_reducible first | exact HB.out | apply below_alloc | apply pw_below_drewN | apply below_drew1) | exact HB.out)⟩⟩
      case round =>
        clear H'
        try clear c2
        try clear p2
        try clear c3
        try clear c3b0
        try clear c3b1
        try clear c4
        try clear c4b0
        try clear c4b1
        try clear c8
        obtain ⟨x8_1, x30_1, rfl, HA, HK1, HO_8, HO_28, HB⟩ := hrel
        cases gk with
        | zero => exact absurd HA.out (by simp [pins_Parse.l0])
        | succ k1 =>
          have H := HA.out
          clear HA
          simp only [pins_Parse.l0] at H
          by_cases c9 : x30_1 < (t103.length : Int)
          · rw [if_pos c9] at H
            have c9b0 : decide (x30_1 < (t103.length : Int)) = true := decide_eq_true c9
            clear c9
            by_cases c10 : 0 ≤ x30_1
            · rw [if_pos c10] at H
              have c10b0 : decide (0 ≤ x30_1) = true := decide_eq_true c10
              clear c10
              by_cases c11 : x30_1 < (t103.length : Int)
              · rw [if_pos c11] at H
                have c11b0 : decide (x30_1 < (t103.length : Int)) = true := decide_eq_true c11
                clear c11
                replace H := Option.bind_eq_some_iff.mp H
                obtain ⟨⟨t109, t110, t111, t112⟩, A120, H⟩ := H
                replace H : (if t112 = 0 then (if x8_1.length < 3518437208883 then (pins_Parse.l0 k1 (x8_1 ++ [(⟨t109, t110, t111⟩ : S30)]) t103 (t103.length : Int) (wrap64 (x30_1 + 1))) else (none)) else (some (([] : List (S30)), wrap64 (x30_1 + 1), t112))) = some (r1, r2, r3) := H
                have A12 := Aside0.mk A120
                clear A120
                by_cases c13 : t112 = 0
                · rw [if_pos c13] at H
                  have c13b0 : (t112 == 0) = true := beq_iff_eq.mpr c13
                  have c13b1 : (t112 != 0) = false := bne_eq_false_iff_eq.mpr c13
                  clear c13
                  by_cases c14 : x8_1.length < 3518437208883
                  · rw [if_pos c14] at H
                    have LMc14 := Aside0.mk c14
                    clear c14
                    obtain ⟨y114, hy114⟩ : ∃ y_ : List (S30), y_ = (x8_1 ++ [(⟨t109, t110, t111⟩ : S30)]) := ⟨_, rfl⟩
                    replace H : (pins_Parse.l0 k1 y114 t103 (t103.length : Int) (wrap64 (x30_1 + 1))) = some (r1, r2, r3) := by first | (rw [hy114]; with_reducible exact H) | (have H2_ := (Option.bind_some _ _).symm.trans H; rw [hy114]; with_reducible exact H2_) | (have H2_ := (Option.bind_some _ _).symm.trans H; with_reducible exact H2_) | with_reducible exact H | (rw [hy114]; exact H) | exact H
                    have Ny114 := Aside0.mk hy114
                    clear hy114
                    have H' := Aside0.mk H
                    clear H
                    have p108 : 0 ≤ (x30_1 : Int) := of_decide_eq_true (by first | (with_reducible assumption) | assumption)
                    have q108 : x30_1 < (t103.length : Int) := of_decide_eq_true (by first | (with_reducible assumption) | assumption)
                    obtain ⟨ad108, A108_0, c108_0, e108, hx108_0, hl108_0, hi108_0⟩ := at_L2 (Kd.S_reads' HO_28.out).2.2 x30_1 p108 q108
                    cases e108
                    obtain ⟨ce108, hce108, hMe108, hcc108⟩ := Kd.S_get HO_28.out [] x30_1 p108 (by first | exact q108 | exact of_decide_eq_true (by first | (with_reducible assumption) | assumption) | (have e_ := (Kd.S_reads' HO_28.out).1; omega))
                    obtain ⟨ve108_0, rfl, ge108_0⟩ := hMe108
                    have hv108_0 := hcc108 0 _ rfl
                    rw [Nat.add_zero, show ((Kd.slice 60 k60)).sz = 1 from rfl, Nat.mul_one] at hv108_0
                    replace hv108_0 := Option.some.inj (hv108_0.symm.trans hx108_0)
                    rw [hv108_0] at ge108_0
                    have HL108_0 := Aside0.mk (show Kd.R k60 60 _ _ _ _ (rd_L2 t103 x30_1) from ge108_0)
                    clear hv108_0 ge108_0
                    clear hcc108 hce108
                    have HR108_0 := Aside0.mk hi108_0
                    have HC108_0 := Aside0.mk hl108_0
                    clear hi108_0 hl108_0
                    replace p108 := eq_true p108
                    replace q108 := eq_true q108
                    go_wp2_with (first | ((with_reducible refine gate_callee (f := 24) rfl ?_); refine goesL_ (some 37) rfl rfl Tryz.func24 (by kernel_rfl) rfl #[.slice A108_0 (rd_L2 t103 x30_1).length c108_0] rfl (by (try simp only [List.map_toArray, List.map_cons, List.map_nil]); first | done | rfl | (simp only [List.length_drop, List.length_take]; rfl)) ?_; (with_reducible refine (pins_read.calls _ _ (rd_L2 t103 x30_1) t109 t110 t111 t112 _ ?side1 ?side2 ?side3 ?side4 A12.out).mono ?_); (case side1 => repeat (first | exact (by repeat (first | (with_reducible exact HR108_0.out) | (with_reducible refine Kd.C_alloc ?_ _) | (with_reducible refine Kd.C_drewN ?_ _) | (with_reducible refine Kd.C_drew ?_) | exact HR108_0.out)) | (with_reducible refine Kd.C_alloc ?_ _) | (with_reducible refine Kd.C_drewN ?_ _) | (with_reducible refine Kd.C_drew ?_))); (case side2 => exact HC108_0.out); (case side3 => exact HG_numErr.out.below (by repeat (first | (with_reducible first | exact HB.out | apply below_alloc | apply pw_below_drewN | apply below_drew1) | exact HB.out))); (case side4 => exact HG_pow10.out.below (by repeat (first | (with_reducible first | exact HB.out | apply below_alloc | apply pw_below_drewN | apply below_drew1) | exact HB.out))); rintro e w15 ⟨rfl, hb⟩; refine ⟨_, rfl, ?_⟩; have n0_ := Aside0.mk (Kd.R_below (by (with_reducible repeat (first | apply Kd.R_alloc | apply Kd.R_drewN | apply Kd.R_drew)); exact HO_8.out) hb); have n1_ := Aside0.mk (Kd.S_below (by (with_reducible repeat (first | apply Kd.S_alloc | apply Kd.S_drewN | apply Kd.S_drew)); exact HO_28.out) hb); have n2_ := Aside0.mk (Kd.R_below (by (with_reducible repeat (first | apply Kd.R_alloc | apply Kd.R_drewN | apply Kd.R_drew)); exact HL108_0.out) hb); have n3_ := Aside0.mk (Kd.C_below (by repeat (first | (with_reducible exact HR108_0.out) | (with_reducible refine Kd.C_alloc ?_ _) | (with_reducible refine Kd.C_drewN ?_ _) | (with_reducible refine Kd.C_drew ?_) | exact HR108_0.out)) hb); have n4_ := Aside0.mk (below_step (by repeat (first | (with_reducible first | exact HB.out | apply below_alloc | apply pw_below_drewN | apply below_drew1) | exact HB.out)) hb); clear HO_8; clear HO_28; clear HL108_0; clear HR108_0; clear HB; have HO_8 := n0_; have HO_28 := n1_; have HL108_0 := n2_; have HR108_0 := n3_; have HB := n4_; clear n0_ n1_ n2_ n3_ n4_; (try clear hb); (try clear hb2); (try clear hk); (try clear hi)) | ((with_reducible refine gate_dst (N := 11) rfl ?_); refine box_event ?hg (N := 11) ?hd (cs := #[.string (⟨#[]⟩ : ByteArray), .string (⟨#[]⟩ : ByteArray), .int .i64 0]) (t := 30) ?hr ?_; (case hd => rfl); (case hg => rfl); (case hr => first | (go_simp; done) | (go_simp; rfl)); intro gb113 hg w16 hbox hb; have n0_ := Aside0.mk (Kd.R_below (Kd.R_elderB (by (with_reducible repeat (first | apply Kd.R_alloc | apply Kd.R_drewN | apply Kd.R_drew)); exact HO_8.out) gb113 (Nat.le_of_eq hg.symm)) hb); have n1_ := Aside0.mk (Kd.S_below (by (with_reducible repeat (first | apply Kd.S_alloc | apply Kd.S_drewN | apply Kd.S_drew)); exact HO_28.out) hb); have n2_ := Aside0.mk (Kd.R_below (by (with_reducible repeat (first | apply Kd.R_alloc | apply Kd.R_drewN | apply Kd.R_drew)); exact HL108_0.out) hb); have n3_ := Aside0.mk (Kd.C_below (by repeat (first | (with_reducible exact HR108_0.out) | (with_reducible refine Kd.C_alloc ?_ _) | (with_reducible refine Kd.C_drewN ?_ _) | (with_reducible refine Kd.C_drew ?_) | exact HR108_0.out)) hb); have n4_ := Aside0.mk (below_step (by repeat (first | (with_reducible first | exact HB.out | apply below_alloc | apply pw_below_drewN | apply below_drew1) | exact HB.out)) hb); have n5_ := Aside0.mk (hbox); have n6_ := Aside0.mk ((by rw [hg]; exact (below_size (by repeat (first | (with_reducible first | exact HB.out | apply below_alloc | apply pw_below_drewN | apply below_drew1) | exact HB.out))) : w.heap.size ≤ gb113)); have n7_ := Aside0.mk ((by rw [hg]; exact (below_size (by repeat (first | (with_reducible first | exact HB.out | apply below_alloc | apply pw_below_drewN | apply below_drew1) | exact HB.out))) : w.heap.size ≤ gb113)); clear HO_8; clear HO_28; clear HL108_0; clear HR108_0; clear HB; have HO_8 := n0_; have HO_28 := n1_; have HL108_0 := n2_; have HR108_0 := n3_; have HB := n4_; have BK113 := n5_; have GW113 := n6_; have GE113 := n7_; clear n0_ n1_ n2_ n3_ n4_ n5_ n6_ n7_; clear hb hbox hg; have hcz17_0 : w16.cell? ⟨gb113, 0, none⟩ = some (.string (⟨#[]⟩ : ByteArray)) := (blk_cell BK113.out 0).trans rfl; have hcz17_1 : w16.cell? ⟨gb113, 1, none⟩ = some (.string (⟨#[]⟩ : ByteArray)) := (blk_cell BK113.out 1).trans rfl; have hcz17_2 : w16.cell? ⟨gb113, 2, none⟩ = some (.int .i64 0) := (blk_cell BK113.out 2).trans rfl; have hfz17_0 := blk_frozen BK113.out 0; have hfz17_1 := blk_frozen BK113.out 1; have hfz17_2 := blk_frozen BK113.out 2) | ((with_reducible refine gate_builtin (b := .append) (xs := #[.tmp 45, .tmp 47]) rfl ?_); at_builtin; refine Kd.R_append k30 (w0 := w) w.heap.size rfl (.tmp 45) (.tmp 47) 23 30 (.agg #[(.string ⟨#[]⟩), (.string ⟨#[]⟩), (.int .i64 0)]) 40 rfl Tryz.underlying23 info30 rfl (by decide) (by omega) u8 x8_1 (⟨t109, t110, t111⟩ : S30) [.string t109, .string t110, .int .i64 t111] (fun k_ => k_ ≠ gb113) (fun _ => False) rfl (by first | (go_simp; done) | (go_simp; rfl)) ?aP (fun _ hk => hk.elim) ?aF ?aO ?aB ?aS ?aL ?_; (case aP => exact k30_mkM _ _ _ (⟨t109, t110, t111⟩ : S30)); (case aB => exact (by repeat (first | (with_reducible first | exact HB.out | apply below_alloc | apply pw_below_drewN | apply below_drew1 | refine below_set ?_ GE113.out) | exact HB.out))); (case aF => exact (fun k_ hk => Kd.freshB (g := gb113) (o := .cells #[.string t109, .string t110, .int .i64 t111] 30 (0, 0)) (by (with_reducible repeat (first | refine blk_drewN ?_ _ | refine blk_drew ?_ | refine blk_alloc ?_ _)); refine blk_put (cs := #[.string t109, .string t110, .int .i64 0]) ?_ 2 _ rfl; (with_reducible repeat (first | refine blk_drewN ?_ _ | refine blk_drew ?_ | refine blk_alloc ?_ _)); refine blk_put (cs := #[.string t109, .string (⟨#[]⟩ : ByteArray), .int .i64 0]) ?_ 1 _ rfl; (with_reducible repeat (first | refine blk_drewN ?_ _ | refine blk_drew ?_ | refine blk_alloc ?_ _)); refine blk_put (cs := #[.string (⟨#[]⟩ : ByteArray), .string (⟨#[]⟩ : ByteArray), .int .i64 0]) ?_ 0 _ rfl; (with_reducible repeat (first | refine blk_drewN ?_ _ | refine blk_drew ?_ | refine blk_alloc ?_ _)); exact BK113.out) k_ hk)); (case aO => exact (by (with_reducible repeat (first | apply Kd.R_alloc | apply Kd.R_drewN | apply Kd.R_drew)); exact Kd.R_mono (Kd.R_far (p := ⟨gb113, 2, none⟩) (Kd.R_far (p := ⟨gb113, 1, none⟩) (Kd.R_far (p := ⟨gb113, 0, none⟩) (Kd.R_mono HO_8.out (fun k_ hk => (⟨hk, hk.2⟩ : _ ∧ k_ ≠ gb113))) (fun _ hk => hk.2) (.string t109)) (fun _ hk => hk.2) (.string t110)) (fun _ hk => hk.2) (.int .i64 t111)) (fun _ hk => hk.1.2))); (case aS => exact (below_size (by repeat (first | (with_reducible first | exact HB.out | apply below_alloc | apply pw_below_drewN | apply below_drew1 | refine below_set ?_ GE113.out) | exact HB.out)))); (case aL => have := LMc14.out; omega); intro v115 w18 ho hb hg hat; rw [← Ny114.out] at ho; have n0_ := Aside0.mk (Kd.S_over' (by (with_reducible repeat (first | apply Kd.S_alloc | apply Kd.S_drewN | apply Kd.S_drew)); exact (Kd.S_mono (Kd.S_far (p := ⟨gb113, 2, none⟩) (Kd.S_far (p := ⟨gb113, 1, none⟩) (Kd.S_far (p := ⟨gb113, 0, none⟩) (Kd.S_types HO_28.out BK113.out (by decide)) (fun _ hk => hk.2) (.string t109)) (fun _ hk => hk.2) (.string t110)) (fun _ hk => hk.2) (.int .i64 t111)) (fun _ h_ => h_.1))) (Kd.R_typed (by (with_reducible repeat (first | apply Kd.R_alloc | apply Kd.R_drewN | apply Kd.R_drew)); exact (Kd.R_mono (Kd.R_far (p := ⟨gb113, 2, none⟩) (Kd.R_far (p := ⟨gb113, 1, none⟩) (Kd.R_far (p := ⟨gb113, 0, none⟩) (Kd.R_mono HO_8.out (fun k_ hk => (⟨hk, hk.2⟩ : _ ∧ k_ ≠ gb113))) (fun _ hk => hk.2) (.string t109)) (fun _ hk => hk.2) (.string t110)) (fun _ hk => hk.2) (.int .i64 t111)) (fun _ h_ => h_.1)))) (by decide) hg); have n1_ := Aside0.mk (Kd.R_over' (by (with_reducible repeat (first | apply Kd.R_alloc | apply Kd.R_drewN | apply Kd.R_drew)); exact (Kd.R_mono (Kd.R_far (p := ⟨gb113, 2, none⟩) (Kd.R_far (p := ⟨gb113, 1, none⟩) (Kd.R_far (p := ⟨gb113, 0, none⟩) (Kd.R_types HL108_0.out BK113.out (by decide)) (fun _ hk => hk.2) (.string t109)) (fun _ hk => hk.2) (.string t110)) (fun _ hk => hk.2) (.int .i64 t111)) (fun _ h_ => h_.1))) (Kd.R_typed (by (with_reducible repeat (first | apply Kd.R_alloc | apply Kd.R_drewN | apply Kd.R_drew)); exact (Kd.R_mono (Kd.R_far (p := ⟨gb113, 2, none⟩) (Kd.R_far (p := ⟨gb113, 1, none⟩) (Kd.R_far (p := ⟨gb113, 0, none⟩) (Kd.R_mono HO_8.out (fun k_ hk => (⟨hk, hk.2⟩ : _ ∧ k_ ≠ gb113))) (fun _ hk => hk.2) (.string t109)) (fun _ hk => hk.2) (.string t110)) (fun _ hk => hk.2) (.int .i64 t111)) (fun _ h_ => h_.1)))) (by decide) hg); have n2_ := Aside0.mk (blk_grown (g := gb113) (o := .cells #[.string t109, .string t110, .int .i64 t111] 30 (0, 0)) (by (with_reducible repeat (first | refine blk_drewN ?_ _ | refine blk_drew ?_ | refine blk_alloc ?_ _)); refine blk_put (cs := #[.string t109, .string t110, .int .i64 0]) ?_ 2 _ rfl; (with_reducible repeat (first | refine blk_drewN ?_ _ | refine blk_drew ?_ | refine blk_alloc ?_ _)); refine blk_put (cs := #[.string t109, .string (⟨#[]⟩ : ByteArray), .int .i64 0]) ?_ 1 _ rfl; (with_reducible repeat (first | refine blk_drewN ?_ _ | refine blk_drew ?_ | refine blk_alloc ?_ _)); refine blk_put (cs := #[.string (⟨#[]⟩ : ByteArray), .string (⟨#[]⟩ : ByteArray), .int .i64 0]) ?_ 0 _ rfl; (with_reducible repeat (first | refine blk_drewN ?_ _ | refine blk_drew ?_ | refine blk_alloc ?_ _)); exact BK113.out) hg (Kd.R_away HO_8.out (fun _ hk => hk.2))); have n3_ := Aside0.mk (hb); have n4_ := Aside0.mk (ho); clear HO_28; clear HL108_0; clear BK113; clear HB; clear HO_8; have HO_28 := n0_; have HL108_0 := n1_; have BK113 := n2_; have HB := n3_; have HO116 := n4_; clear n0_ n1_ n2_ n3_ n4_; clear ho hb hg hat))
                    go_roundg k1
                    case measure => have := HK1.out; omega
                    case rel => exact ⟨(y114), (wrap64 (x30_1 + 1)), (by first | rfl | (simp; done) | (simp [*]; done)), H', ⟨by have := HK1.out; omega⟩, ⟨by (with_reducible repeat (first | apply Kd.R_alloc | apply Kd.R_drewN | apply Kd.R_drew)); exact Kd.R_mono HO116.out (fun _ hk => trivial)⟩, ⟨by (with_reducible repeat (first | apply Kd.S_alloc | apply Kd.S_drewN | apply Kd.S_drew)); exact HO_28.out⟩, ⟨by repeat (first | (with_reducible first | exact HB.out | apply below_alloc | apply pw_below_drewN | apply below_drew1 | refine below_set ?_ GE113.out) | exact HB.out)⟩⟩
                  · rw [if_neg c14] at H
                    exact absurd H (by simp)
                · rw [if_neg c13] at H
                  have c13b0 : (t112 == 0) = false := beq_eq_false_iff_ne.mpr c13
                  have c13b1 : (t112 != 0) = true := bne_iff_ne.mpr c13
                  simp only [Option.some.injEq, Prod.mk.injEq] at H
                  obtain ⟨rfl, rfl, rfl⟩ := H
                  have p108 : 0 ≤ (x30_1 : Int) := of_decide_eq_true (by first | (with_reducible assumption) | assumption)
                  have q108 : x30_1 < (t103.length : Int) := of_decide_eq_true (by first | (with_reducible assumption) | assumption)
                  obtain ⟨ad108, A108_0, c108_0, e108, hx108_0, hl108_0, hi108_0⟩ := at_L2 (Kd.S_reads' HO_28.out).2.2 x30_1 p108 q108
                  cases e108
                  obtain ⟨ce108, hce108, hMe108, hcc108⟩ := Kd.S_get HO_28.out [] x30_1 p108 (by first | exact q108 | exact of_decide_eq_true (by first | (with_reducible assumption) | assumption) | (have e_ := (Kd.S_reads' HO_28.out).1; omega))
                  obtain ⟨ve108_0, rfl, ge108_0⟩ := hMe108
                  have hv108_0 := hcc108 0 _ rfl
                  rw [Nat.add_zero, show ((Kd.slice 60 k60)).sz = 1 from rfl, Nat.mul_one] at hv108_0
                  replace hv108_0 := Option.some.inj (hv108_0.symm.trans hx108_0)
                  rw [hv108_0] at ge108_0
                  have HL108_0 := Aside0.mk (show Kd.R k60 60 _ _ _ _ (rd_L2 t103 x30_1) from ge108_0)
                  clear hv108_0 ge108_0
                  clear hcc108 hce108
                  have HR108_0 := Aside0.mk hi108_0
                  have HC108_0 := Aside0.mk hl108_0
                  clear hi108_0 hl108_0
                  replace p108 := eq_true p108
                  replace q108 := eq_true q108
                  go_wp2_with (first | ((with_reducible refine gate_callee (f := 24) rfl ?_); refine goesL_ (some 37) rfl rfl Tryz.func24 (by kernel_rfl) rfl #[.slice A108_0 (rd_L2 t103 x30_1).length c108_0] rfl (by (try simp only [List.map_toArray, List.map_cons, List.map_nil]); first | done | rfl | (simp only [List.length_drop, List.length_take]; rfl)) ?_; (with_reducible refine (pins_read.calls _ _ (rd_L2 t103 x30_1) t109 t110 t111 t112 _ ?side1 ?side2 ?side3 ?side4 A12.out).mono ?_); (case side1 => repeat (first | exact (by repeat (first | (with_reducible exact HR108_0.out) | (with_reducible refine Kd.C_alloc ?_ _) | (with_reducible refine Kd.C_drewN ?_ _) | (with_reducible refine Kd.C_drew ?_) | exact HR108_0.out)) | (with_reducible refine Kd.C_alloc ?_ _) | (with_reducible refine Kd.C_drewN ?_ _) | (with_reducible refine Kd.C_drew ?_))); (case side2 => exact HC108_0.out); (case side3 => exact HG_numErr.out.below (by repeat (first | (with_reducible first | exact HB.out | apply below_alloc | apply pw_below_drewN | apply below_drew1) | exact HB.out))); (case side4 => exact HG_pow10.out.below (by repeat (first | (with_reducible first | exact HB.out | apply below_alloc | apply pw_below_drewN | apply below_drew1) | exact HB.out))); rintro e w19 ⟨rfl, hb⟩; refine ⟨_, rfl, ?_⟩; have n0_ := Aside0.mk (Kd.R_below (by (with_reducible repeat (first | apply Kd.R_alloc | apply Kd.R_drewN | apply Kd.R_drew)); exact HO_8.out) hb); have n1_ := Aside0.mk (Kd.S_below (by (with_reducible repeat (first | apply Kd.S_alloc | apply Kd.S_drewN | apply Kd.S_drew)); exact HO_28.out) hb); have n2_ := Aside0.mk (Kd.R_below (by (with_reducible repeat (first | apply Kd.R_alloc | apply Kd.R_drewN | apply Kd.R_drew)); exact HL108_0.out) hb); have n3_ := Aside0.mk (Kd.C_below (by repeat (first | (with_reducible exact HR108_0.out) | (with_reducible refine Kd.C_alloc ?_ _) | (with_reducible refine Kd.C_drewN ?_ _) | (with_reducible refine Kd.C_drew ?_) | exact HR108_0.out)) hb); have n4_ := Aside0.mk (below_step (by repeat (first | (with_reducible first | exact HB.out | apply below_alloc | apply pw_below_drewN | apply below_drew1) | exact HB.out)) hb); clear HO_8; clear HO_28; clear HL108_0; clear HR108_0; clear HB; have HO_8 := n0_; have HO_28 := n1_; have HL108_0 := n2_; have HR108_0 := n3_; have HB := n4_; clear n0_ n1_ n2_ n3_ n4_; (try clear hb); (try clear hb2); (try clear hk); (try clear hi)) | ((with_reducible refine gate_dst (N := 11) rfl ?_); refine box_event ?hg (N := 11) ?hd (cs := #[.string (⟨#[]⟩ : ByteArray), .string (⟨#[]⟩ : ByteArray), .int .i64 0]) (t := 30) ?hr ?_; (case hd => rfl); (case hg => rfl); (case hr => first | (go_simp; done) | (go_simp; rfl)); intro gb113 hg w20 hbox hb; have n0_ := Aside0.mk (Kd.R_below (Kd.R_elderB (by (with_reducible repeat (first | apply Kd.R_alloc | apply Kd.R_drewN | apply Kd.R_drew)); exact HO_8.out) gb113 (Nat.le_of_eq hg.symm)) hb); have n1_ := Aside0.mk (Kd.S_below (by (with_reducible repeat (first | apply Kd.S_alloc | apply Kd.S_drewN | apply Kd.S_drew)); exact HO_28.out) hb); have n2_ := Aside0.mk (Kd.R_below (by (with_reducible repeat (first | apply Kd.R_alloc | apply Kd.R_drewN | apply Kd.R_drew)); exact HL108_0.out) hb); have n3_ := Aside0.mk (Kd.C_below (by repeat (first | (with_reducible exact HR108_0.out) | (with_reducible refine Kd.C_alloc ?_ _) | (with_reducible refine Kd.C_drewN ?_ _) | (with_reducible refine Kd.C_drew ?_) | exact HR108_0.out)) hb); have n4_ := Aside0.mk (below_step (by repeat (first | (with_reducible first | exact HB.out | apply below_alloc | apply pw_below_drewN | apply below_drew1) | exact HB.out)) hb); have n5_ := Aside0.mk (hbox); have n6_ := Aside0.mk ((by rw [hg]; exact (below_size (by repeat (first | (with_reducible first | exact HB.out | apply below_alloc | apply pw_below_drewN | apply below_drew1) | exact HB.out))) : w.heap.size ≤ gb113)); have n7_ := Aside0.mk ((by rw [hg]; exact (below_size (by repeat (first | (with_reducible first | exact HB.out | apply below_alloc | apply pw_below_drewN | apply below_drew1) | exact HB.out))) : w.heap.size ≤ gb113)); clear HO_8; clear HO_28; clear HL108_0; clear HR108_0; clear HB; have HO_8 := n0_; have HO_28 := n1_; have HL108_0 := n2_; have HR108_0 := n3_; have HB := n4_; have BK113 := n5_; have GW113 := n6_; have GE113 := n7_; clear n0_ n1_ n2_ n3_ n4_ n5_ n6_ n7_; clear hb hbox hg; have hcz21_0 : w20.cell? ⟨gb113, 0, none⟩ = some (.string (⟨#[]⟩ : ByteArray)) := (blk_cell BK113.out 0).trans rfl; have hcz21_1 : w20.cell? ⟨gb113, 1, none⟩ = some (.string (⟨#[]⟩ : ByteArray)) := (blk_cell BK113.out 1).trans rfl; have hcz21_2 : w20.cell? ⟨gb113, 2, none⟩ = some (.int .i64 0) := (blk_cell BK113.out 2).trans rfl; have hfz21_0 := blk_frozen BK113.out 0; have hfz21_1 := blk_frozen BK113.out 1; have hfz21_2 := blk_frozen BK113.out 2))
                  go_ret3
                  exact ⟨_, by first | rfl | (simp [errW_none, errW_some] <;> rfl) | (simp [*, errW_none, errW_some] <;> rfl), by first | exact Kd.R_nil _ _ _ _ _ | exact Kd.N_nil _ _ _ _ _ | exact Kd.V_nil _ _ _ _ _ | exact Kd.Q_nil _ _ _ _ _ | exact Kd.S_nil _ _ _ _ _, by repeat (first | (with_reducible first | exact HB.out | apply below_alloc | apply pw_below_drewN | apply below_drew1 | refine below_set ?_ GE113.out) | exact HB.out)⟩
              · rw [if_neg c11] at H
                exact absurd H (by simp)
            · rw [if_neg c10] at H
              exact absurd H (by simp)
          · rw [if_neg c9] at H
            have c9b0 : decide (x30_1 < (t103.length : Int)) = false := decide_eq_false c9
            clear c9
            simp only [Option.some.injEq, Prod.mk.injEq] at H
            obtain ⟨rfl, rfl, rfl⟩ := H
            go_wp2
            go_ret3
            exact ⟨_, by first | rfl | (simp [errW_none, errW_some] <;> rfl) | (simp [*, errW_none, errW_some] <;> rfl), by (with_reducible repeat (first | apply Kd.R_alloc | apply Kd.R_drewN | apply Kd.R_drew)); exact HO_8.out, by repeat (first | (with_reducible first | exact HB.out | apply below_alloc | apply pw_below_drewN | apply below_drew1) | exact HB.out)⟩
  · rw [if_neg c3] at H
    have c3b0 : (t105 == 0) = false := beq_eq_false_iff_ne.mpr c3
    have c3b1 : (t105 != 0) = true := bne_iff_ne.mpr c3
    simp only [Option.some.injEq, Prod.mk.injEq] at H
    obtain ⟨rfl, rfl, rfl⟩ := H
    go_enter Tryz.func8, Tryz.ntmps8
    go_wp2_with (first | ((with_reducible refine gate_callee (f := 23) rfl ?_); refine goesL_ (some 15) rfl rfl Tryz.func23 (by kernel_rfl) rfl #[.string a0] rfl (by (try simp only [List.map_toArray, List.map_cons, List.map_nil]); first | done | rfl | (simp only [List.length_drop, List.length_take]; rfl)) ?_; (with_reducible refine (stanza_Parse.calls a0 t103 t104 t105 _ ?side1 A2.out).mono ?_); (case side1 => exact HG_maxLen.out.below (by repeat (first | (with_reducible first | exact HB.out | apply below_alloc | apply pw_below_drewN | apply below_drew1) | exact HB.out))); rintro e w22 ⟨v106, rfl, ho0, hb⟩; refine ⟨_, rfl, ?_⟩; have n0_ := Aside0.mk (Kd.S_lower ho0 (below_size (by repeat (first | (with_reducible first | exact HB.out | apply below_alloc | apply pw_below_drewN | apply below_drew1) | exact HB.out)))); have n1_ := Aside0.mk (below_step (by repeat (first | (with_reducible first | exact HB.out | apply below_alloc | apply pw_below_drewN | apply below_drew1) | exact HB.out)) hb); clear HB; have HO107 := n0_; have HB := n1_; clear n0_ n1_; (try clear hb); (try clear hb2); (try clear hk); (try clear hi); (try clear ho0)))
    go_ret3
    exact ⟨_, by first | rfl | (simp [errW_none, errW_some] <;> rfl) | (simp [*, errW_none, errW_some] <;> rfl), by first | exact Kd.R_nil _ _ _ _ _ | exact Kd.N_nil _ _ _ _ _ | exact Kd.V_nil _ _ _ _ _ | exact Kd.Q_nil _ _ _ _ _ | exact Kd.S_nil _ _ _ _ _, by repeat (first | (with_reducible first | exact HB.out | apply below_alloc | apply pw_below_drewN | apply below_drew1) | exact HB.out)⟩

end Go.Proofs.YtlcfpmdamehopaaGreatDoor.PA
/- The reference's words on texts: clean, Name, lines come to what MStanza0 says. Conditions: sizes that fit. -/
namespace Go.Proofs.YtlcfpmdamehopaaGreatDoor.PA
open Go.RowKit Go.Proofs.YtlcfpmdamehopaaGreatDoorW.PrintWords Go.Proofs.YtlcfpmdamehopaaGreatDoorW.PrintLast Go.Proofs.YtlcfpmdamehopaaGreatDoorW.PrintMore

theorem bt_nat (s : ByteArray) (i : Nat) (h : i < s.data.toList.length) : bt s (i : Int) = ((s.data.toList[i]).toNat : Int) := by
  have h' : i < s.size := by rw [← data_length]; exact h
  unfold bt
  rw [dif_pos (by simpa using h')]
  congr 2
theorem refclean_loop (s : ByteArray) (hs : s.size ≤ 4611686018427387904) (d : Nat) : ∀ i : Nat, i + d = s.data.toList.length → Ev (fun k => keelsonref5_clean.l0 k s (i : Int)) (cleanL (s.data.toList.drop i)) := by
  have hl := data_length s
  induction d with
  | zero =>
    intro i hi
    refine Ev.succ ?_
    simp only [keelsonref5_clean.l0]
    rw [List.drop_eq_nil_of_le (by omega)]
    exact Ev.neg (by omega) (Ev.some rfl)
  | succ d ih =>
    intro i hi
    have hil : i < s.data.toList.length := by omega
    refine Ev.succ ?_
    simp only [keelsonref5_clean.l0]
    rw [wrap_step (show i < s.size by omega) (by omega), bt_nat s i hil, List.drop_eq_getElem_cons hil]
    have e : cleanL (s.data.toList[i] :: s.data.toList.drop (i + 1)) = (decide (32 ≤ (s.data.toList[i]).toNat) && cleanL (s.data.toList.drop (i + 1))) := rfl
    rw [e]
    refine Ev.pos (by omega) (Ev.pos (by omega) ?_)
    by_cases h : 32 ≤ (s.data.toList[i]).toNat
    · rw [decide_eq_true h, Bool.true_and]
      exact Ev.neg (by omega) (ih (i + 1) (by omega))
    · rw [decide_eq_false h, Bool.false_and]
      exact Ev.pos (by omega) (Ev.some rfl)
theorem refclean_ev (s : ByteArray) (hs : s.size ≤ 4611686018427387904) : Ev (fun k => keelsonref5_clean.f k s) (cleanL s.data.toList) := by
  unfold keelsonref5_clean.f
  have := refclean_loop s hs s.data.toList.length 0 (by omega)
  rwa [List.drop_zero] at this
theorem letters_f : ∀ n : Nat, n < 256 → keelsonref2_Letter.f (n : Int) = some (isLetter n.toUInt8) := by decide +kernel
theorem digits_f : ∀ n : Nat, n < 256 → keelsonref2_Digit.f (n : Int) = some (decide (48 ≤ n.toUInt8.toNat) && decide (n.toUInt8.toNat ≤ 57)) := by decide +kernel
theorem letter_f (c : UInt8) : keelsonref2_Letter.f (c.toNat : Int) = some (isLetter c) := by
  have := letters_f c.toNat c.toNat_lt
  rwa [show c.toNat.toUInt8 = c from by simp] at this
theorem digit_f (c : UInt8) : keelsonref2_Digit.f (c.toNat : Int) = some (decide (48 ≤ c.toNat) && decide (c.toNat ≤ 57)) := by
  have := digits_f c.toNat c.toNat_lt
  rwa [show c.toNat.toUInt8 = c from by simp] at this
theorem refname_loop (s : ByteArray) (hs : s.size ≤ 4611686018427387904) (h1 : 1 ≤ s.size) (d : Nat) : ∀ i : Nat, 0 < i → i + d = s.data.toList.length → Ev (fun k => keelsonref5_Name.l0 k s (i : Int)) ((s.data.toList.drop i).all isSign && decide (s.size ≤ 40)) := by
  have hl := data_length s
  induction d with
  | zero =>
    intro i _ hi
    refine Ev.succ ?_
    simp only [keelsonref5_Name.l0]
    rw [List.drop_eq_nil_of_le (by omega)]
    refine Ev.neg (by omega) (Ev.pos (by omega) (Ev.some ?_))
    rw [List.all_nil, Bool.true_and, Bool.eq_iff_iff, decide_eq_true_iff, decide_eq_true_iff]; omega
  | succ d ih =>
    intro i h0 hi
    have hil : i < s.data.toList.length := by omega
    refine Ev.succ ?_
    simp only [keelsonref5_Name.l0]
    rw [wrap_step (show i < s.size by omega) (by omega), bt_nat s i hil, List.drop_eq_getElem_cons hil, List.all_cons]
    have hn := ih (i + 1) (by omega) (by omega)
    rw [Bool.and_assoc]
    refine Ev.pos (by omega) (Ev.pos (by omega) (Ev.call (letter_f _) ?_))
    unfold isSign
    cases hL : isLetter s.data.toList[i] with
    | true => exact Ev.pos rfl hn
    | false =>
      refine Ev.neg (by decide) (Ev.neg (by omega) (Ev.call (digit_f _) ?_))
      cases hD : (decide (48 ≤ (s.data.toList[i]).toNat) && decide ((s.data.toList[i]).toNat ≤ 57)) with
      | true => exact Ev.pos rfl hn
      | false =>
        refine Ev.neg (by decide) ?_
        by_cases h45 : (s.data.toList[i]).toNat = 45
        · rw [decide_eq_true h45]
          exact Ev.pos (by omega) hn
        · rw [decide_eq_false h45]
          exact Ev.neg (by omega) (Ev.some rfl)
theorem refname_ev (s : ByteArray) (hs : s.size ≤ 4611686018427387904) : Ev (fun k => keelsonref5_Name.f k s) (nameL s.data.toList) := by
  have hl := data_length s
  unfold keelsonref5_Name.f
  refine Ev.succ ?_
  simp only [keelsonref5_Name.l0]
  cases hS : s.data.toList with
  | nil =>
    rw [hS] at hl
    have h0 : s.size = 0 := hl.symm
    exact Ev.neg (by omega) (Ev.neg (by omega) (Ev.some rfl))
  | cons c t =>
    have hlen : s.data.toList.length = t.length + 1 := by rw [hS]; rfl
    have hb := bt_nat s 0 (by omega)
    have h0 : s.data.toList[0]'(by omega) = c := by simp [hS]
    rw [h0] at hb
    rw [show ((0 : Nat) : Int) = 0 from rfl] at hb
    rw [hb]
    refine Ev.pos (by omega) (Ev.pos (by decide) (Ev.call (letter_f _) ?_))
    have hr : nameL (c :: t) = (isLetter c && (t.all isSign && decide (s.size ≤ 40))) := by
      show (decide (t.length + 1 ≤ 40) && isLetter c && (c :: t).all isSign) = _
      have e40 : decide (t.length + 1 ≤ 40) = decide (s.size ≤ 40) := by rw [Bool.eq_iff_iff, decide_eq_true_iff, decide_eq_true_iff]; omega
      rw [List.all_cons, e40]
      unfold isSign
      cases isLetter c <;> cases decide (s.size ≤ 40) <;> simp
    rw [hr]
    cases hL : isLetter c with
    | true =>
      rw [Bool.true_and]
      have := refname_loop s hs (by omega) t.length 1 (by decide) (by omega)
      rw [hS, List.drop_succ_cons, List.drop_zero] at this
      rw [show wrap64 (0 + 1) = ((1 : Nat) : Int) from by unfold wrap64; rfl]
      exact Ev.pos rfl this
    | false => exact Ev.neg (by decide) (Ev.pos (by first | rfl | trivial) (Ev.some rfl))
theorem extract_mk (s : ByteArray) (a b : Nat) : s.extract a b = mkB ((s.data.toList.drop a).take (b - a)) := by
  exact Lib.extract_eq s a b
theorem reflines_loop (s : ByteArray) (hs : s.size ≤ 4398046511104) (d : Nat) : ∀ (i from_ : Nat) (acc : List ByteArray), i + d = s.data.toList.length → from_ ≤ i → acc.length ≤ i → 10 ∉ (s.data.toList.drop from_).take (i - from_) →
    Ev (fun k => keelsonref5_lines.l0 k s acc (from_ : Int) (i : Int)) (acc ++ (linesL (s.data.toList.drop from_)).map mkB) := by
  have hl := data_length s
  induction d with
  | zero =>
    intro i from_ acc hi hf ha hno
    refine Ev.succ ?_
    simp only [keelsonref5_lines.l0]
    refine Ev.neg (by omega) (Ev.pos (by omega) (Ev.pos (by omega) (Ev.pos (by omega) (Ev.some ?_))))
    rw [Int.toNat_natCast, extract_mk, ← hl]
    rw [List.take_of_length_le (by rw [List.length_drop]; omega)] at hno ⊢
    rw [lines_one _ hno]; rfl
  | succ d ih =>
    intro i from_ acc hi hf ha hno
    have hil : i < s.data.toList.length := by omega
    refine Ev.succ ?_
    simp only [keelsonref5_lines.l0]
    rw [wrap_step (show i < s.size by omega) (by omega), bt_nat s i hil, Int.toNat_natCast, Int.toNat_natCast]
    refine Ev.pos (by omega) (Ev.pos (by omega) ?_)
    have hdec : s.data.toList.drop from_ = (s.data.toList.drop from_).take (i - from_) ++ s.data.toList[i] :: s.data.toList.drop (i + 1) := by
      rw [← List.drop_eq_getElem_cons hil]
      have h2 : s.data.toList.drop i = (s.data.toList.drop from_).drop (i - from_) := by rw [List.drop_drop]; congr 1; omega
      rw [h2, List.take_append_drop]
    by_cases h10 : (s.data.toList[i]).toNat = 10
    · refine Ev.pos (by omega) (Ev.pos (by omega) (Ev.pos (by omega) (Ev.pos (by omega) (Ev.pos (by omega) ?_))))
      have h := ih (i + 1) (i + 1) (acc ++ [s.extract from_ i]) (by omega) (Nat.le_refl _) (by simp; omega) (by simp)
      have hc : s.data.toList[i] = 10 := (byte_is _ 10 (by decide)).1 h10
      rw [hdec, hc, lines_join, lines_one _ hno, extract_mk] at *
      simpa [List.append_assoc] using h
    · refine Ev.neg (by omega) (ih (i + 1) from_ acc (by omega) (by omega) (by omega) ?_)
      have hl2 : i - from_ < (s.data.toList.drop from_).length := by rw [List.length_drop]; omega
      rw [show i + 1 - from_ = (i - from_) + 1 by omega, List.take_succ_eq_append_getElem hl2]
      intro hm
      rcases List.mem_append.1 hm with hm | hm
      · exact hno hm
      · rw [List.mem_singleton, List.getElem_drop] at hm
        refine h10 ((byte_is _ 10 (by decide)).2 ?_)
        rw [show (10 : Nat).toUInt8 = 10 from rfl]
        rw [hm]
        congr 1
        omega
theorem reflines_ev (s : ByteArray) (hs : s.size ≤ 4398046511104) : Ev (fun k => keelsonref5_lines.f k s) ((linesL s.data.toList).map mkB) := by
  unfold keelsonref5_lines.f
  have := reflines_loop s hs s.data.toList.length 0 0 [] (by omega) (Nat.le_refl _) (Nat.le_refl _) (by simp)
  rw [List.drop_zero] at this
  exact this
end Go.Proofs.YtlcfpmdamehopaaGreatDoor.PA
/- keelsonref5's reader: begins: what it comes to. Conditions: the reader lies as GRead says. -/
namespace Go.Proofs.YtlcfpmdamehopaaGreatDoor.PA
open Go.RowKit Go.Proofs.YtlcfpmdamehopaaGreatDoorW.PrintWords Go.Proofs.YtlcfpmdamehopaaGreatDoorW.PrintLast Go.Proofs.YtlcfpmdamehopaaGreatDoorW.PrintMore

/-- A new row stands for the last stanza. -/
theorem RdP.fresh {TS TR B : Nat} {w0 W w8 : World} {rb : Nat} {gs : List Guest} {v : Value} {vs us : List Value} {z z1 : Value} {l : List (List Fd)} {o : Bool} {x1 : List Fd} {g cap : Nat} (h : RdP TS TR B w0 W rb gs v vs l o) (hl : l ≠ []) (hTS : TS ≠ TR) (hTF : 60 ≠ TR) (hFS : 60 ≠ TS) (hv : v = .slice (some ⟨g, 0, none⟩) l.length cap) (hvs : vs = us ++ [z]) (hlen : us.length + 1 = l.length)
    (hg : W.grownBy w8 none) (h1 : w8.ownsRow W.heap.size 60 2 z1 x1.length (fcells x1)) (hx : x1 ≠ []) : RdP TS TR B w0 (w8.setCell ⟨g, us.length, none⟩ z1) rb gs v (us ++ [z1]) (l.dropLast ++ [x1]) o := by
  have hb : Below B w0 w8 := h.bel.grown hg h.base (fun k e => by cases e)
  have hz1 : ∃ b, z1.ownBlock = some b := by
    rcases h1.2 with ⟨_, e⟩ | ⟨g1, cap1, cur, e, _⟩
    · exact absurd (List.length_eq_zero_iff.1 e) hx
    · exact ⟨g1, by rw [e]; rfl⟩
  obtain ⟨b, hb1⟩ := hz1
  have := h.put hl hTS hTF hFS hv hvs hb ⟨hg.os, hg.tape, hg.output, hg.size, fun k hk _ => hg.block k hk (by simp)⟩ (own_weaken h1 h.base) (.inr ⟨b, hb1, own_base h1 b hb1⟩)
  rw [show l.length - 1 = us.length by omega] at this
  exact this

end Go.Proofs.YtlcfpmdamehopaaGreatDoor.PA
/- keelsonref5.Parse: what it comes to. No premise on the world. -/
/- keelsonref5's reader: line: what it comes to. Conditions: the reader lies as GRead says. -/
namespace Go.Proofs.YtlcfpmdamehopaaGreatDoor.PA
open Go.RowKit Go.Proofs.YtlcfpmdamehopaaGreatDoorW.PrintWords Go.Proofs.YtlcfpmdamehopaaGreatDoorW.PrintLast Go.Proofs.YtlcfpmdamehopaaGreatDoorW.PrintMore

end Go.Proofs.YtlcfpmdamehopaaGreatDoor.PA
namespace Go.Proofs.YtlcfpmdamehopaaGreatDoor.PA
open Go.RowKit Go.Proofs.YtlcfpmdamehopaaGreatDoorW.PrintWords Go.Proofs.YtlcfpmdamehopaaGreatDoorW.PrintLast Go.Proofs.YtlcfpmdamehopaaGreatDoorW.PrintMore

theorem reps_strings : ∀ (xs : List ByteArray) (cs : List Value) (w : World) (base : Nat) (ok : Nat → Prop), Reps (Kd.string.M w base ok) 1 xs cs → cs = xs.map Value.string := by
  intro xs cs w base ok h
  obtain ⟨h1, h2⟩ := h
  apply List.ext_getElem?
  intro j
  rw [List.getElem?_map]
  by_cases hj : j < xs.length
  · have := h2 j _ (List.getElem?_eq_getElem hj)
    have h3 : (cs.drop (j * 1)).take 1 = [.string xs[j]] := this
    have hjc : j < cs.length := by omega
    rw [Nat.mul_one, List.drop_eq_getElem_cons hjc] at h3
    rw [List.getElem?_eq_getElem hj, List.getElem?_eq_getElem hjc]
    rw [List.take_succ_cons] at h3
    injection h3 with h4 _
    rw [h4]; rfl
  · rw [List.getElem?_eq_none (by omega), List.getElem?_eq_none (by omega)]; rfl
/-- Rows of strings of the call's own: their block, as it is. -/
theorem strings_block {w : World} {base : Nat} {ok : Nat → Prop} {v : Value} {xs : List ByteArray} (h : Kd.R Kd.string 9 w base ok v xs) (hx : xs ≠ []) : ∃ g cap cur, v = .slice (some ⟨g, 0, none⟩) xs.length cap ∧ base ≤ g ∧ w.heap[g]? = some (.cells cur 9 (0, 0)) ∧ ∀ j (hj : j < xs.length), cur[j]? = some (.string xs[j]) := by
  obtain ⟨_, inner, ho, hr⟩ := h
  have hin := reps_strings _ _ _ _ _ hr
  rcases ho.2 with ⟨_, e⟩ | ⟨g, cap, cur, e, hb, hh, hn, hm, hs, ht⟩
  · exact absurd (List.length_eq_zero_iff.1 e) hx
  · refine ⟨g, cap, cur, e, hb, hh, fun j hj => ?_⟩
    have h1 : (cur.toList.take (xs.length * 1))[j]? = some (.string xs[j]) := by
      rw [show cur.toList.take (xs.length * 1) = inner from ht, hin, List.getElem?_map, List.getElem?_eq_getElem hj]; rfl
    rw [List.getElem?_take, if_pos (by omega)] at h1
    simpa using h1

end Go.Proofs.YtlcfpmdamehopaaGreatDoor.PA
