-- Printed by gprint.py (wip/ of this repo), over the kit's print.
import Derived.Test.YtooobbbpcpfddaaDoorPA0
namespace Go.Proofs.YtooobbbpcpfddaaDoor.PA
open Go.RowKit Go.Proofs.YtooobbbpcpfddaaDoorW.PrintWords Go.Proofs.YtooobbbpcpfddaaDoorW.PrintLast Go.Proofs.YtooobbbpcpfddaaDoorW.PrintMore
attribute [local go_sem] max2_int min2_int max_two min_two max_three min_three max_four min_four   -- for this text's walks alone
set_option linter.unusedVariables false
set_option linter.unusedSimpArgs false

/-! ### keelsonref12_Var: function 14 -/
def keelsonref12_Var.j0 : Nat → Int → Bool → Option (Int)
  | 0, _, _ => none
  | k + 1, x0, x8 => if x8 = true then (some (wrap64 (-x0))) else (if x0 > 0 then (if x0 < 4611686018427387904 then (some x0) else (some 0)) else (some 0))
def keelsonref12_Var.f (k : Nat) (a0 : Int) : Option (Int) := if a0 < 0 then (keelsonref12_Var.j0 k a0 (decide (a0 > (-4611686018427387904)))) else (keelsonref12_Var.j0 k a0 false)
theorem keelsonref12_Var.mono_l : ∀ k, (∀ y0 y1, LeO (keelsonref12_Var.j0 k y0 y1) (keelsonref12_Var.j0 (k + 1) y0 y1))
  | 0 => fun _ _ r h => by simp [keelsonref12_Var.j0] at h
  | k + 1 => by
    have ih0 := keelsonref12_Var.mono_l k
    · intro y0 y1
      unfold keelsonref12_Var.j0
      repeat' first
      | (with_reducible exact ih0 _ _)
      | (with_reducible exact LeO.refl _)
      | (with_reducible exact LeO.none _)
      | (with_reducible refine LeO.ite ?_ ?_)
      | (with_reducible refine LeO.bind ?_ (fun _ => ?_))
      | exact ih0 _ _
      | exact LeO.none _
      | refine LeO.ite ?_ ?_
      | refine LeO.bind ?_ (fun _ => ?_)
theorem keelsonref12_Var.mono : ∀ a0 k, LeO (keelsonref12_Var.f k a0) (keelsonref12_Var.f (k + 1) a0) := by
  intro a0 k
  have ih0 := keelsonref12_Var.mono_l k
  unfold keelsonref12_Var.f
  repeat' first
      | (with_reducible exact ih0 _ _)
      | (with_reducible exact LeO.refl _)
      | (with_reducible exact LeO.none _)
      | (with_reducible refine LeO.ite ?_ ?_)
      | (with_reducible refine LeO.bind ?_ (fun _ => ?_))
      | exact ih0 _ _
      | exact LeO.none _
      | refine LeO.ite ?_ ?_
      | refine LeO.bind ?_ (fun _ => ?_)
set_option maxHeartbeats 8000000 in
set_option maxRecDepth 100000 in
theorem keelsonref12_Var.calls (k : Nat) (a0 : Int) (r : Int) (w : World) (h : keelsonref12_Var.f k a0 = some r) :
    Calls Tryd.prog 14 #[.int .i64 a0] w fun e w' => e = .returned (.int .i64 r) ∧ Drawn0 w w' := by
  have H : (if a0 < 0 then (keelsonref12_Var.j0 k a0 (decide (a0 > (-4611686018427387904)))) else (keelsonref12_Var.j0 k a0 false)) = some r := h
  clear h
  have HC2 := Aside0.mk H
  clear H
  go_enter Tryd.func14, Tryd.ntmps14
  go_upto_region 1 with (fail)
  go_cut [8] (fun v8 wc => ∃ (kq : Nat) (x8_1 : Bool), v8 = .bool x8_1 ∧ Aside0 (keelsonref12_Var.j0 kq a0 x8_1 = some r) ∧ Aside0 (kq ≤ k) ∧ Drawn0 w wc)
  case first =>
    have H := HC2.out
    clear HC2
    by_cases c3 : a0 < 0
    · rw [if_pos c3] at H
      have c3b0 : decide (a0 < 0) = true := decide_eq_true c3
      clear c3
      (first | rw [c3b0] | (simp only [i64_w, i32_w]; rw [c3b0]) | rw [c3b1] | skip)
      have H' := Aside0.mk H
      clear H
      go_wp2
      go_meet
      case rel => exact ⟨_, (decide (a0 > (-4611686018427387904))), (by first | rfl | (simp; done) | (simp [*]; done)), H', ⟨by first | omega | exact Nat.le_refl _⟩, by repeat (first | exact Drawn0.refl _ | apply Drawn0.step)⟩
    · rw [if_neg c3] at H
      have c3b0 : decide (a0 < 0) = false := decide_eq_false c3
      clear c3
      (first | rw [c3b0] | (simp only [i64_w, i32_w]; rw [c3b0]) | rw [c3b1] | skip)
      have H' := Aside0.mk H
      clear H
      go_wp2
      go_meet
      case rel => exact ⟨_, (false), (by first | rfl | (simp; done) | (simp [*]; done)), H', ⟨by first | omega | exact Nat.le_refl _⟩, by repeat (first | exact Drawn0.refl _ | apply Drawn0.step)⟩
  case rest =>
    clear HC2
    try clear c1
    try clear p2
    try clear c3
    try clear c3b0
    try clear c3b1
    obtain ⟨kq, x8_1, rfl, HA, HJ1, ⟨mc1, rfl⟩⟩ := hcut
    cases kq with
    | zero => exact absurd HA.out (by simp [keelsonref12_Var.j0])
    | succ kj1 =>
      have H := HA.out
      clear HA
      simp only [keelsonref12_Var.j0] at H
      by_cases c4 : x8_1 = true
      · subst c4
        have H1 : (some (wrap64 (-a0))) = some r := by rw [if_pos rfl] at H; exact H
        clear H
        have H := H1
        clear H1
        obtain rfl := Option.some.inj H
        go_wp2
        go_ret
        exact ⟨by first | rfl | (simp; done) | (simp [*]; done), by repeat (first | exact Drawn0.refl _ | apply Drawn0.step)⟩
      · replace c4 := Bool.eq_false_iff.mpr c4
        subst c4
        have H1 : (if a0 > 0 then (if a0 < 4611686018427387904 then (some a0) else (some 0)) else (some 0)) = some r := by rw [if_neg (show ¬ (false = true) by decide)] at H; exact H
        clear H
        have H := H1
        clear H1
        by_cases c5 : a0 > 0
        · rw [if_pos c5] at H
          have c5b0 : decide (0 < a0) = true := decide_eq_true c5
          clear c5
          by_cases c6 : a0 < 4611686018427387904
          · rw [if_pos c6] at H
            have c6b0 : decide (a0 < 4611686018427387904) = true := decide_eq_true c6
            clear c6
            obtain rfl := Option.some.inj H
            go_wp2
            go_ret
            exact ⟨by first | rfl | (simp; done) | (simp [*]; done), by repeat (first | exact Drawn0.refl _ | apply Drawn0.step)⟩
          · rw [if_neg c6] at H
            have c6b0 : decide (a0 < 4611686018427387904) = false := decide_eq_false c6
            clear c6
            obtain rfl := Option.some.inj H
            go_wp2
            go_ret
            exact ⟨by first | rfl | (simp; done) | (simp [*]; done), by repeat (first | exact Drawn0.refl _ | apply Drawn0.step)⟩
        · rw [if_neg c5] at H
          have c5b0 : decide (0 < a0) = false := decide_eq_false c5
          clear c5
          obtain rfl := Option.some.inj H
          go_wp2
          go_ret
          exact ⟨by first | rfl | (simp; done) | (simp [*]; done), by repeat (first | exact Drawn0.refl _ | apply Drawn0.step)⟩

/-! ### keelsonref12_Holds: function 16 -/
mutual
def keelsonref12_Holds.l0 : Nat → List (List Int) → List Bool → Int → Option (Bool)
  | 0, _, _, _ => none
  | k + 1, x0, x1, x5 => if x5 < (x0.length : Int) then (keelsonref12_Holds.l1 k x0 x1 x5 false 0) else (some true)
def keelsonref12_Holds.l1 : Nat → List (List Int) → List Bool → Int → Bool → Int → Option (Bool)
  | 0, _, _, _, _, _ => none
  | k + 1, x0, x1, x5, x6, x7 => if 0 ≤ x5 then (if x5 < (x0.length : Int) then (if x7 < ((rd_L1 x0 x5).length : Int) then (if 0 ≤ x7 then ((keelsonref12_Var.f k (rd (rd_L1 x0 x5) x7)).bind fun t190 => (if x6 = true then (keelsonref12_Holds.l1 k x0 x1 x5 true (wrap64 (x7 + 1))) else (if t190 ≥ 1 then (if t190 ≤ (x1.length : Int) then (if 0 ≤ (wrap64 (t190 - 1)) then (if (wrap64 (t190 - 1)) < (x1.length : Int) then (keelsonref12_Holds.l1 k x0 x1 x5 ((rdOf false x1 (wrap64 (t190 - 1))) == (decide ((rd (rd_L1 x0 x5) x7) > 0))) (wrap64 (x7 + 1))) else (none)) else (none)) else (keelsonref12_Holds.l1 k x0 x1 x5 false (wrap64 (x7 + 1)))) else (keelsonref12_Holds.l1 k x0 x1 x5 false (wrap64 (x7 + 1)))))) else (none)) else (if x6 = true then (keelsonref12_Holds.l0 k x0 x1 (wrap64 (x5 + 1))) else (some false))) else (none)) else (none)
end
def keelsonref12_Holds.f (k : Nat) (l0 : List (List Int)) (l1 : List Bool) : Option (Bool) := keelsonref12_Holds.l0 k l0 l1 0
theorem keelsonref12_Holds.mono_l : ∀ k, (∀ y0 y1 y2, LeO (keelsonref12_Holds.l0 k y0 y1 y2) (keelsonref12_Holds.l0 (k + 1) y0 y1 y2)) ∧ (∀ y0 y1 y2 y3 y4, LeO (keelsonref12_Holds.l1 k y0 y1 y2 y3 y4) (keelsonref12_Holds.l1 (k + 1) y0 y1 y2 y3 y4))
  | 0 => ⟨fun _ _ _ r h => by simp [keelsonref12_Holds.l0] at h, fun _ _ _ _ _ r h => by simp [keelsonref12_Holds.l1] at h⟩
  | k + 1 => by
    obtain ⟨ih0, ih1⟩ := keelsonref12_Holds.mono_l k
    refine ⟨?_, ?_⟩
    · intro y0 y1 y2
      unfold keelsonref12_Holds.l0
      repeat' first
      | (with_reducible exact ih0 _ _ _)
      | (with_reducible exact ih1 _ _ _ _ _)
      | (with_reducible exact keelsonref12_Var.mono _ _)
      | (with_reducible exact LeO.refl _)
      | (with_reducible exact LeO.none _)
      | (with_reducible refine LeO.ite ?_ ?_)
      | (with_reducible refine LeO.bind ?_ (fun _ => ?_))
      | exact ih0 _ _ _
      | exact ih1 _ _ _ _ _
      | exact keelsonref12_Var.mono _ _
      | exact LeO.none _
      | refine LeO.ite ?_ ?_
      | refine LeO.bind ?_ (fun _ => ?_)
    · intro y0 y1 y2 y3 y4
      unfold keelsonref12_Holds.l1
      repeat' first
      | (with_reducible exact ih0 _ _ _)
      | (with_reducible exact ih1 _ _ _ _ _)
      | (with_reducible exact keelsonref12_Var.mono _ _)
      | (with_reducible exact LeO.refl _)
      | (with_reducible exact LeO.none _)
      | (with_reducible refine LeO.ite ?_ ?_)
      | (with_reducible refine LeO.bind ?_ (fun _ => ?_))
      | exact ih0 _ _ _
      | exact ih1 _ _ _ _ _
      | exact keelsonref12_Var.mono _ _
      | exact LeO.none _
      | refine LeO.ite ?_ ?_
      | refine LeO.bind ?_ (fun _ => ?_)
theorem keelsonref12_Holds.mono : ∀ a0 a1 k, LeO (keelsonref12_Holds.f k a0 a1) (keelsonref12_Holds.f (k + 1) a0 a1) := by
  intro a0 a1 k
  obtain ⟨ih0, ih1⟩ := keelsonref12_Holds.mono_l k
  unfold keelsonref12_Holds.f
  repeat' first
      | (with_reducible exact ih0 _ _ _)
      | (with_reducible exact ih1 _ _ _ _ _)
      | (with_reducible exact keelsonref12_Var.mono _ _)
      | (with_reducible exact LeO.refl _)
      | (with_reducible exact LeO.none _)
      | (with_reducible refine LeO.ite ?_ ?_)
      | (with_reducible refine LeO.bind ?_ (fun _ => ?_))
      | exact ih0 _ _ _
      | exact ih1 _ _ _ _ _
      | exact keelsonref12_Var.mono _ _
      | exact LeO.none _
      | refine LeO.ite ?_ ?_
      | refine LeO.bind ?_ (fun _ => ?_)
set_option maxHeartbeats 8000000 in
set_option maxRecDepth 100000 in
theorem keelsonref12_Holds.calls (k : Nat) (A0 : Option Addr) (c0 : Nat) (l0 : List (List Int)) (A1 : Option Addr) (c1 : Nat) (l1 : List Bool) (r : Bool) (w : World) (hr0 : Kd.C (Kd.slice 3 (Kd.int .i64)) w A0 l0.length l0) (hc0 : l0.length ≤ c0) (hr1 : Kd.C Kd.bool w A1 l1.length l1) (hc1 : l1.length ≤ c1) (h : keelsonref12_Holds.f k l0 l1 = some r) :
    Calls Tryd.prog 16 #[.slice A0 l0.length c0, .slice A1 l1.length c1] w fun e w' => e = .returned (.bool r) ∧ Drawn0 w w' := by
  have HR0 := Aside0.mk hr0
  have HC0 := Aside0.mk hc0
  clear hr0 hc0
  have HR1 := Aside0.mk hr1
  have HC1 := Aside0.mk hc1
  clear hr1 hc1
  have H : (keelsonref12_Holds.l0 k l0 l1 0) = some r := h
  clear h
  have H' := Aside0.mk H
  clear H
  go_enter Tryd.func16, Tryd.ntmps16
  go_wp2
  repeat (go_quiet (fail); try go_wp2)
  go_loopg [5] k (fun kq v5 w' => ∃ (x5_1 : Int), v5 = .int .i64 x5_1 ∧ Aside0 (keelsonref12_Holds.l0 kq l0 l1 x5_1 = some r) ∧ Aside0 (kq ≤ k) ∧ Drawn0 w w')
  case atStart => exact ⟨(0), (by first | rfl | (simp; done) | (simp [*]; done)), H', ⟨Nat.le_refl _⟩, by repeat (first | exact Drawn0.refl _ | apply Drawn0.step)⟩
  case round =>
    clear H'
    try clear c1
    try clear p2
    obtain ⟨x5_1, rfl, HA, HK1, ⟨m1, rfl⟩⟩ := hrel
    cases gk with
    | zero => exact absurd HA.out (by simp [keelsonref12_Holds.l0])
    | succ k1 =>
      have H := HA.out
      clear HA
      simp only [keelsonref12_Holds.l0] at H
      by_cases c3 : x5_1 < (l0.length : Int)
      · rw [if_pos c3] at H
        have c3b0 : decide (x5_1 < (l0.length : Int)) = true := decide_eq_true c3
        clear c3
        have H' := Aside0.mk H
        clear H
        go_wp2
        repeat (go_quiet (fail); try go_wp2)
        go_loopg [6, 7] k1 (fun kq v6 v7 w' => ∃ (x6_2 : Bool) (x7_2 : Int), v6 = .bool x6_2 ∧ v7 = .int .i64 x7_2 ∧ Aside0 (keelsonref12_Holds.l1 kq l0 l1 x5_1 x6_2 x7_2 = some r) ∧ Aside0 (kq ≤ k1) ∧ Drawn0 w w')
        case atStart => exact ⟨(false), (0), (by first | rfl | (simp; done) | (simp [*]; done)), (by first | rfl | (simp; done) | (simp [*]; done)), H', ⟨Nat.le_refl _⟩, by repeat (first | exact Drawn0.refl _ | apply Drawn0.step)⟩
        case round =>
          clear H'
          try clear c1
          try clear p2
          try clear c3
          try clear c3b0
          try clear p2
          obtain ⟨x6_2, x7_2, rfl, rfl, HA, HK2, ⟨m2, rfl⟩⟩ := hrel
          cases gk with
          | zero => exact absurd HA.out (by simp [keelsonref12_Holds.l1])
          | succ k2 =>
            have H := HA.out
            clear HA
            simp only [keelsonref12_Holds.l1] at H
            by_cases c4 : 0 ≤ x5_1
            · rw [if_pos c4] at H
              have c4b0 : decide (0 ≤ x5_1) = true := decide_eq_true c4
              clear c4
              by_cases c5 : x5_1 < (l0.length : Int)
              · rw [if_pos c5] at H
                have c5b0 : decide (x5_1 < (l0.length : Int)) = true := decide_eq_true c5
                clear c5
                by_cases c6 : x7_2 < ((rd_L1 l0 x5_1).length : Int)
                · rw [if_pos c6] at H
                  have c6b0 : decide (x7_2 < ((rd_L1 l0 x5_1).length : Int)) = true := decide_eq_true c6
                  clear c6
                  by_cases c7 : 0 ≤ x7_2
                  · rw [if_pos c7] at H
                    have c7b0 : decide (0 ≤ x7_2) = true := decide_eq_true c7
                    clear c7
                    replace H := Option.bind_eq_some_iff.mp H
                    obtain ⟨t190, A80, H⟩ := H
                    replace H : (if x6_2 = true then (keelsonref12_Holds.l1 k2 l0 l1 x5_1 true (wrap64 (x7_2 + 1))) else (if t190 ≥ 1 then (if t190 ≤ (l1.length : Int) then (if 0 ≤ (wrap64 (t190 - 1)) then (if (wrap64 (t190 - 1)) < (l1.length : Int) then (keelsonref12_Holds.l1 k2 l0 l1 x5_1 ((rdOf false l1 (wrap64 (t190 - 1))) == (decide ((rd (rd_L1 l0 x5_1) x7_2) > 0))) (wrap64 (x7_2 + 1))) else (none)) else (none)) else (keelsonref12_Holds.l1 k2 l0 l1 x5_1 false (wrap64 (x7_2 + 1)))) else (keelsonref12_Holds.l1 k2 l0 l1 x5_1 false (wrap64 (x7_2 + 1))))) = some r := H
                    have A8 := Aside0.mk A80
                    clear A80
                    by_cases c9 : x6_2 = true
                    · subst c9
                      have H1 : (keelsonref12_Holds.l1 k2 l0 l1 x5_1 true (wrap64 (x7_2 + 1))) = some r := by rw [if_pos rfl] at H; exact H
                      clear H
                      have H := H1
                      clear H1
                      have H' := Aside0.mk H
                      clear H
                      have p187 : 0 ≤ (x5_1 : Int) := of_decide_eq_true (by first | (with_reducible assumption) | assumption)
                      have q187 : x5_1 < (l0.length : Int) := of_decide_eq_true (by first | (with_reducible assumption) | assumption)
                      obtain ⟨ad187, A187_0, c187_0, e187, hx187_0, hl187_0, hi187_0⟩ := at_L1 HR0.out x5_1 p187 q187
                      cases e187
                      have HR187_0 := Aside0.mk hi187_0
                      have HC187_0 := Aside0.mk hl187_0
                      clear hi187_0 hl187_0
                      replace p187 := eq_true p187
                      replace q187 := eq_true q187
                      have p188 : 0 ≤ (x5_1 : Int) := of_decide_eq_true (by first | (with_reducible assumption) | assumption)
                      have q188 : x5_1 < (l0.length : Int) := of_decide_eq_true (by first | (with_reducible assumption) | assumption)
                      obtain ⟨ad188, A188_0, c188_0, e188, hx188_0, hl188_0, hi188_0⟩ := at_L1 HR0.out x5_1 p188 q188
                      obtain rfl : ad187 = ad188 := (by injection e188)
                      have HR188_0 := Aside0.mk hi188_0
                      have HC188_0 := Aside0.mk hl188_0
                      clear hi188_0 hl188_0
                      replace p188 := eq_true p188
                      replace q188 := eq_true q188
                      have ea_ := Option.some.inj (hx187_0.symm.trans hx188_0)
                      injection ea_ with ea_ en_ ec_
                      subst ea_
                      subst ec_
                      clear en_
                      have p189 : 0 ≤ (x7_2 : Int) := of_decide_eq_true (by first | (with_reducible assumption) | assumption)
                      have q189 : x7_2 < ((rd_L1 l0 x5_1).length : Int) := of_decide_eq_true (by first | (with_reducible assumption) | assumption)
                      obtain ⟨ad189, e189, hx189_0⟩ := Kd.at_int HR188_0.out x7_2 p189 q189
                      cases e189
                      replace p189 := eq_true p189
                      replace q189 := eq_true q189
                      go_wp2_with (first | (go_at_call 14; (with_reducible refine (keelsonref12_Var.calls k2 (rd (rd_L1 l0 x5_1) x7_2) t190 _ A8.out).mono ?_); rintro e w' ⟨rfl, ⟨nd, rfl⟩⟩; (try first | exact ⟨rfl, _, World.drewN_drewN _ _ _⟩ | exact ⟨rfl, _, Eq.trans (World.drewN_drewN _ _ _) (congrArg (World.drewN _) (Nat.add_assoc _ _ _))⟩)))
                      repeat (go_quiet (first | (go_at_call 14; (with_reducible refine (keelsonref12_Var.calls k2 (rd (rd_L1 l0 x5_1) x7_2) t190 _ A8.out).mono ?_); rintro e w' ⟨rfl, ⟨nd, rfl⟩⟩; (try first | exact ⟨rfl, _, World.drewN_drewN _ _ _⟩ | exact ⟨rfl, _, Eq.trans (World.drewN_drewN _ _ _) (congrArg (World.drewN _) (Nat.add_assoc _ _ _))⟩))); try go_wp2_with (first | (go_at_call 14; (with_reducible refine (keelsonref12_Var.calls k2 (rd (rd_L1 l0 x5_1) x7_2) t190 _ A8.out).mono ?_); rintro e w' ⟨rfl, ⟨nd, rfl⟩⟩; (try first | exact ⟨rfl, _, World.drewN_drewN _ _ _⟩ | exact ⟨rfl, _, Eq.trans (World.drewN_drewN _ _ _) (congrArg (World.drewN _) (Nat.add_assoc _ _ _))⟩))))
                      go_roundg k2
                      case measure => have := HK1.out; have := HK2.out; omega
                      case rel => exact ⟨(true), (wrap64 (x7_2 + 1)), (by first | rfl | (simp; done) | (simp [*]; done)), (by first | rfl | (simp; done) | (simp [*]; done)), H', ⟨by have := HK1.out; have := HK2.out; omega⟩, by repeat (first | exact Drawn0.refl _ | apply Drawn0.step)⟩
                    · replace c9 := Bool.eq_false_iff.mpr c9
                      subst c9
                      have H1 : (if t190 ≥ 1 then (if t190 ≤ (l1.length : Int) then (if 0 ≤ (wrap64 (t190 - 1)) then (if (wrap64 (t190 - 1)) < (l1.length : Int) then (keelsonref12_Holds.l1 k2 l0 l1 x5_1 ((rdOf false l1 (wrap64 (t190 - 1))) == (decide ((rd (rd_L1 l0 x5_1) x7_2) > 0))) (wrap64 (x7_2 + 1))) else (none)) else (none)) else (keelsonref12_Holds.l1 k2 l0 l1 x5_1 false (wrap64 (x7_2 + 1)))) else (keelsonref12_Holds.l1 k2 l0 l1 x5_1 false (wrap64 (x7_2 + 1)))) = some r := by rw [if_neg (show ¬ (false = true) by decide)] at H; exact H
                      clear H
                      have H := H1
                      clear H1
                      by_cases c10 : t190 ≥ 1
                      · rw [if_pos c10] at H
                        have c10b0 : decide (1 ≤ t190) = true := decide_eq_true c10
                        clear c10
                        by_cases c11 : t190 ≤ (l1.length : Int)
                        · rw [if_pos c11] at H
                          have c11b0 : decide (t190 ≤ (l1.length : Int)) = true := decide_eq_true c11
                          clear c11
                          obtain ⟨ji12, hji12⟩ : ∃ j_ : Int, (wrap64 (t190 - 1)) = j_ := ⟨_, rfl⟩
                          replace H : (if 0 ≤ (ji12) then (if (ji12) < (l1.length : Int) then (keelsonref12_Holds.l1 k2 l0 l1 x5_1 ((rdOf false l1 (ji12)) == (decide ((rd (rd_L1 l0 x5_1) x7_2) > 0))) (wrap64 (x7_2 + 1))) else (none)) else (none)) = some r := by first | (rw [hji12] at H; exact H) | (simp only [hji12] at H ⊢; exact H)
                          (try rw [hji12] at A8)
                          have hji12w : (IntKind.i64.wrap (t190 - 1)) = ji12 := (i64_w _).trans hji12
                          by_cases c13 : 0 ≤ (ji12)
                          · rw [if_pos c13] at H
                            have c13b0 : decide (0 ≤ (ji12)) = true := decide_eq_true c13
                            clear c13
                            by_cases c14 : (ji12) < (l1.length : Int)
                            · rw [if_pos c14] at H
                              have c14b0 : decide ((ji12) < (l1.length : Int)) = true := decide_eq_true c14
                              clear c14
                              have H' := Aside0.mk H
                              clear H
                              have p187 : 0 ≤ (x5_1 : Int) := of_decide_eq_true (by first | (with_reducible assumption) | assumption)
                              have q187 : x5_1 < (l0.length : Int) := of_decide_eq_true (by first | (with_reducible assumption) | assumption)
                              obtain ⟨ad187, A187_0, c187_0, e187, hx187_0, hl187_0, hi187_0⟩ := at_L1 HR0.out x5_1 p187 q187
                              cases e187
                              have HR187_0 := Aside0.mk hi187_0
                              have HC187_0 := Aside0.mk hl187_0
                              clear hi187_0 hl187_0
                              replace p187 := eq_true p187
                              replace q187 := eq_true q187
                              have p188 : 0 ≤ (x5_1 : Int) := of_decide_eq_true (by first | (with_reducible assumption) | assumption)
                              have q188 : x5_1 < (l0.length : Int) := of_decide_eq_true (by first | (with_reducible assumption) | assumption)
                              obtain ⟨ad188, A188_0, c188_0, e188, hx188_0, hl188_0, hi188_0⟩ := at_L1 HR0.out x5_1 p188 q188
                              obtain rfl : ad187 = ad188 := (by injection e188)
                              have HR188_0 := Aside0.mk hi188_0
                              have HC188_0 := Aside0.mk hl188_0
                              clear hi188_0 hl188_0
                              replace p188 := eq_true p188
                              replace q188 := eq_true q188
                              have ea_ := Option.some.inj (hx187_0.symm.trans hx188_0)
                              injection ea_ with ea_ en_ ec_
                              subst ea_
                              subst ec_
                              clear en_
                              have p189 : 0 ≤ (x7_2 : Int) := of_decide_eq_true (by first | (with_reducible assumption) | assumption)
                              have q189 : x7_2 < ((rd_L1 l0 x5_1).length : Int) := of_decide_eq_true (by first | (with_reducible assumption) | assumption)
                              obtain ⟨ad189, e189, hx189_0⟩ := Kd.at_int HR188_0.out x7_2 p189 q189
                              cases e189
                              replace p189 := eq_true p189
                              replace q189 := eq_true q189
                              go_wp2_with (first | (go_at_call 14; (with_reducible refine (keelsonref12_Var.calls k2 (rd (rd_L1 l0 x5_1) x7_2) t190 _ A8.out).mono ?_); rintro e w' ⟨rfl, ⟨nd, rfl⟩⟩; (try first | exact ⟨rfl, _, World.drewN_drewN _ _ _⟩ | exact ⟨rfl, _, Eq.trans (World.drewN_drewN _ _ _) (congrArg (World.drewN _) (Nat.add_assoc _ _ _))⟩); have p191 : 0 ≤ ((ji12) : Int) := of_decide_eq_true (by first | (with_reducible assumption) | assumption); have q191 : (ji12) < (l1.length : Int) := of_decide_eq_true (by first | (with_reducible assumption) | assumption); obtain ⟨ad191, e191, hx191_0⟩ := Kd.at_bool HR1.out (ji12) p191 q191; cases e191; replace p191 := eq_true p191; replace q191 := eq_true q191; have p192 : 0 ≤ (x5_1 : Int) := of_decide_eq_true (by first | (with_reducible assumption) | assumption); have q192 : x5_1 < (l0.length : Int) := of_decide_eq_true (by first | (with_reducible assumption) | assumption); obtain ⟨ad192, A192_0, c192_0, e192, hx192_0, hl192_0, hi192_0⟩ := at_L1 HR0.out x5_1 p192 q192; obtain rfl : ad187 = ad192 := (by injection e192); have HR192_0 := Aside0.mk hi192_0; have HC192_0 := Aside0.mk hl192_0; clear hi192_0 hl192_0; replace p192 := eq_true p192; replace q192 := eq_true q192; have ea_ := Option.some.inj (hx187_0.symm.trans hx192_0); injection ea_ with ea_ en_ ec_; subst ea_; subst ec_; clear en_; have p193 : 0 ≤ (x7_2 : Int) := of_decide_eq_true (by first | (with_reducible assumption) | assumption); have q193 : x7_2 < ((rd_L1 l0 x5_1).length : Int) := of_decide_eq_true (by first | (with_reducible assumption) | assumption); obtain ⟨ad193, e193, hx193_0⟩ := Kd.at_int HR192_0.out x7_2 p193 q193; cases e193; replace p193 := eq_true p193; replace q193 := eq_true q193))
                              repeat (go_quiet (first | (go_at_call 14; (with_reducible refine (keelsonref12_Var.calls k2 (rd (rd_L1 l0 x5_1) x7_2) t190 _ A8.out).mono ?_); rintro e w' ⟨rfl, ⟨nd, rfl⟩⟩; (try first | exact ⟨rfl, _, World.drewN_drewN _ _ _⟩ | exact ⟨rfl, _, Eq.trans (World.drewN_drewN _ _ _) (congrArg (World.drewN _) (Nat.add_assoc _ _ _))⟩); have p191 : 0 ≤ ((ji12) : Int) := of_decide_eq_true (by first | (with_reducible assumption) | assumption); have q191 : (ji12) < (l1.length : Int) := of_decide_eq_true (by first | (with_reducible assumption) | assumption); obtain ⟨ad191, e191, hx191_0⟩ := Kd.at_bool HR1.out (ji12) p191 q191; cases e191; replace p191 := eq_true p191; replace q191 := eq_true q191; have p192 : 0 ≤ (x5_1 : Int) := of_decide_eq_true (by first | (with_reducible assumption) | assumption); have q192 : x5_1 < (l0.length : Int) := of_decide_eq_true (by first | (with_reducible assumption) | assumption); obtain ⟨ad192, A192_0, c192_0, e192, hx192_0, hl192_0, hi192_0⟩ := at_L1 HR0.out x5_1 p192 q192; obtain rfl : ad187 = ad192 := (by injection e192); have HR192_0 := Aside0.mk hi192_0; have HC192_0 := Aside0.mk hl192_0; clear hi192_0 hl192_0; replace p192 := eq_true p192; replace q192 := eq_true q192; have ea_ := Option.some.inj (hx187_0.symm.trans hx192_0); injection ea_ with ea_ en_ ec_; subst ea_; subst ec_; clear en_; have p193 : 0 ≤ (x7_2 : Int) := of_decide_eq_true (by first | (with_reducible assumption) | assumption); have q193 : x7_2 < ((rd_L1 l0 x5_1).length : Int) := of_decide_eq_true (by first | (with_reducible assumption) | assumption); obtain ⟨ad193, e193, hx193_0⟩ := Kd.at_int HR192_0.out x7_2 p193 q193; cases e193; replace p193 := eq_true p193; replace q193 := eq_true q193)); try go_wp2_with (first | (go_at_call 14; (with_reducible refine (keelsonref12_Var.calls k2 (rd (rd_L1 l0 x5_1) x7_2) t190 _ A8.out).mono ?_); rintro e w' ⟨rfl, ⟨nd, rfl⟩⟩; (try first | exact ⟨rfl, _, World.drewN_drewN _ _ _⟩ | exact ⟨rfl, _, Eq.trans (World.drewN_drewN _ _ _) (congrArg (World.drewN _) (Nat.add_assoc _ _ _))⟩); have p191 : 0 ≤ ((ji12) : Int) := of_decide_eq_true (by first | (with_reducible assumption) | assumption); have q191 : (ji12) < (l1.length : Int) := of_decide_eq_true (by first | (with_reducible assumption) | assumption); obtain ⟨ad191, e191, hx191_0⟩ := Kd.at_bool HR1.out (ji12) p191 q191; cases e191; replace p191 := eq_true p191; replace q191 := eq_true q191; have p192 : 0 ≤ (x5_1 : Int) := of_decide_eq_true (by first | (with_reducible assumption) | assumption); have q192 : x5_1 < (l0.length : Int) := of_decide_eq_true (by first | (with_reducible assumption) | assumption); obtain ⟨ad192, A192_0, c192_0, e192, hx192_0, hl192_0, hi192_0⟩ := at_L1 HR0.out x5_1 p192 q192; obtain rfl : ad187 = ad192 := (by injection e192); have HR192_0 := Aside0.mk hi192_0; have HC192_0 := Aside0.mk hl192_0; clear hi192_0 hl192_0; replace p192 := eq_true p192; replace q192 := eq_true q192; have ea_ := Option.some.inj (hx187_0.symm.trans hx192_0); injection ea_ with ea_ en_ ec_; subst ea_; subst ec_; clear en_; have p193 : 0 ≤ (x7_2 : Int) := of_decide_eq_true (by first | (with_reducible assumption) | assumption); have q193 : x7_2 < ((rd_L1 l0 x5_1).length : Int) := of_decide_eq_true (by first | (with_reducible assumption) | assumption); obtain ⟨ad193, e193, hx193_0⟩ := Kd.at_int HR192_0.out x7_2 p193 q193; cases e193; replace p193 := eq_true p193; replace q193 := eq_true q193)))
                              go_roundg k2
                              case measure => have := HK1.out; have := HK2.out; omega
                              case rel => exact ⟨(((rdOf false l1 (ji12)) == (decide ((rd (rd_L1 l0 x5_1) x7_2) > 0)))), (wrap64 (x7_2 + 1)), (by first | rfl | (simp; done) | (simp only [← hji12] <;> (first | rfl | simp)) | (simp [*]; done)), (by first | rfl | (simp; done) | (simp [*]; done)), H', ⟨by have := HK1.out; have := HK2.out; omega⟩, by repeat (first | exact Drawn0.refl _ | apply Drawn0.step)⟩
                            · rw [if_neg c14] at H
                              exact absurd H (by simp)
                          · rw [if_neg c13] at H
                            exact absurd H (by simp)
                        · rw [if_neg c11] at H
                          have c11b0 : decide (t190 ≤ (l1.length : Int)) = false := decide_eq_false c11
                          clear c11
                          have H' := Aside0.mk H
                          clear H
                          have p187 : 0 ≤ (x5_1 : Int) := of_decide_eq_true (by first | (with_reducible assumption) | assumption)
                          have q187 : x5_1 < (l0.length : Int) := of_decide_eq_true (by first | (with_reducible assumption) | assumption)
                          obtain ⟨ad187, A187_0, c187_0, e187, hx187_0, hl187_0, hi187_0⟩ := at_L1 HR0.out x5_1 p187 q187
                          cases e187
                          have HR187_0 := Aside0.mk hi187_0
                          have HC187_0 := Aside0.mk hl187_0
                          clear hi187_0 hl187_0
                          replace p187 := eq_true p187
                          replace q187 := eq_true q187
                          have p188 : 0 ≤ (x5_1 : Int) := of_decide_eq_true (by first | (with_reducible assumption) | assumption)
                          have q188 : x5_1 < (l0.length : Int) := of_decide_eq_true (by first | (with_reducible assumption) | assumption)
                          obtain ⟨ad188, A188_0, c188_0, e188, hx188_0, hl188_0, hi188_0⟩ := at_L1 HR0.out x5_1 p188 q188
                          obtain rfl : ad187 = ad188 := (by injection e188)
                          have HR188_0 := Aside0.mk hi188_0
                          have HC188_0 := Aside0.mk hl188_0
                          clear hi188_0 hl188_0
                          replace p188 := eq_true p188
                          replace q188 := eq_true q188
                          have ea_ := Option.some.inj (hx187_0.symm.trans hx188_0)
                          injection ea_ with ea_ en_ ec_
                          subst ea_
                          subst ec_
                          clear en_
                          have p189 : 0 ≤ (x7_2 : Int) := of_decide_eq_true (by first | (with_reducible assumption) | assumption)
                          have q189 : x7_2 < ((rd_L1 l0 x5_1).length : Int) := of_decide_eq_true (by first | (with_reducible assumption) | assumption)
                          obtain ⟨ad189, e189, hx189_0⟩ := Kd.at_int HR188_0.out x7_2 p189 q189
                          cases e189
                          replace p189 := eq_true p189
                          replace q189 := eq_true q189
                          go_wp2_with (first | (go_at_call 14; (with_reducible refine (keelsonref12_Var.calls k2 (rd (rd_L1 l0 x5_1) x7_2) t190 _ A8.out).mono ?_); rintro e w' ⟨rfl, ⟨nd, rfl⟩⟩; (try first | exact ⟨rfl, _, World.drewN_drewN _ _ _⟩ | exact ⟨rfl, _, Eq.trans (World.drewN_drewN _ _ _) (congrArg (World.drewN _) (Nat.add_assoc _ _ _))⟩)))
                          repeat (go_quiet (first | (go_at_call 14; (with_reducible refine (keelsonref12_Var.calls k2 (rd (rd_L1 l0 x5_1) x7_2) t190 _ A8.out).mono ?_); rintro e w' ⟨rfl, ⟨nd, rfl⟩⟩; (try first | exact ⟨rfl, _, World.drewN_drewN _ _ _⟩ | exact ⟨rfl, _, Eq.trans (World.drewN_drewN _ _ _) (congrArg (World.drewN _) (Nat.add_assoc _ _ _))⟩))); try go_wp2_with (first | (go_at_call 14; (with_reducible refine (keelsonref12_Var.calls k2 (rd (rd_L1 l0 x5_1) x7_2) t190 _ A8.out).mono ?_); rintro e w' ⟨rfl, ⟨nd, rfl⟩⟩; (try first | exact ⟨rfl, _, World.drewN_drewN _ _ _⟩ | exact ⟨rfl, _, Eq.trans (World.drewN_drewN _ _ _) (congrArg (World.drewN _) (Nat.add_assoc _ _ _))⟩))))
                          go_roundg k2
                          case measure => have := HK1.out; have := HK2.out; omega
                          case rel => exact ⟨(false), (wrap64 (x7_2 + 1)), (by first | rfl | (simp; done) | (simp [*]; done)), (by first | rfl | (simp; done) | (simp [*]; done)), H', ⟨by have := HK1.out; have := HK2.out; omega⟩, by repeat (first | exact Drawn0.refl _ | apply Drawn0.step)⟩
                      · rw [if_neg c10] at H
                        have c10b0 : decide (1 ≤ t190) = false := decide_eq_false c10
                        clear c10
                        have H' := Aside0.mk H
                        clear H
                        have p187 : 0 ≤ (x5_1 : Int) := of_decide_eq_true (by first | (with_reducible assumption) | assumption)
                        have q187 : x5_1 < (l0.length : Int) := of_decide_eq_true (by first | (with_reducible assumption) | assumption)
                        obtain ⟨ad187, A187_0, c187_0, e187, hx187_0, hl187_0, hi187_0⟩ := at_L1 HR0.out x5_1 p187 q187
                        cases e187
                        have HR187_0 := Aside0.mk hi187_0
                        have HC187_0 := Aside0.mk hl187_0
                        clear hi187_0 hl187_0
                        replace p187 := eq_true p187
                        replace q187 := eq_true q187
                        have p188 : 0 ≤ (x5_1 : Int) := of_decide_eq_true (by first | (with_reducible assumption) | assumption)
                        have q188 : x5_1 < (l0.length : Int) := of_decide_eq_true (by first | (with_reducible assumption) | assumption)
                        obtain ⟨ad188, A188_0, c188_0, e188, hx188_0, hl188_0, hi188_0⟩ := at_L1 HR0.out x5_1 p188 q188
                        obtain rfl : ad187 = ad188 := (by injection e188)
                        have HR188_0 := Aside0.mk hi188_0
                        have HC188_0 := Aside0.mk hl188_0
                        clear hi188_0 hl188_0
                        replace p188 := eq_true p188
                        replace q188 := eq_true q188
                        have ea_ := Option.some.inj (hx187_0.symm.trans hx188_0)
                        injection ea_ with ea_ en_ ec_
                        subst ea_
                        subst ec_
                        clear en_
                        have p189 : 0 ≤ (x7_2 : Int) := of_decide_eq_true (by first | (with_reducible assumption) | assumption)
                        have q189 : x7_2 < ((rd_L1 l0 x5_1).length : Int) := of_decide_eq_true (by first | (with_reducible assumption) | assumption)
                        obtain ⟨ad189, e189, hx189_0⟩ := Kd.at_int HR188_0.out x7_2 p189 q189
                        cases e189
                        replace p189 := eq_true p189
                        replace q189 := eq_true q189
                        go_wp2_with (first | (go_at_call 14; (with_reducible refine (keelsonref12_Var.calls k2 (rd (rd_L1 l0 x5_1) x7_2) t190 _ A8.out).mono ?_); rintro e w' ⟨rfl, ⟨nd, rfl⟩⟩; (try first | exact ⟨rfl, _, World.drewN_drewN _ _ _⟩ | exact ⟨rfl, _, Eq.trans (World.drewN_drewN _ _ _) (congrArg (World.drewN _) (Nat.add_assoc _ _ _))⟩)))
                        repeat (go_quiet (first | (go_at_call 14; (with_reducible refine (keelsonref12_Var.calls k2 (rd (rd_L1 l0 x5_1) x7_2) t190 _ A8.out).mono ?_); rintro e w' ⟨rfl, ⟨nd, rfl⟩⟩; (try first | exact ⟨rfl, _, World.drewN_drewN _ _ _⟩ | exact ⟨rfl, _, Eq.trans (World.drewN_drewN _ _ _) (congrArg (World.drewN _) (Nat.add_assoc _ _ _))⟩))); try go_wp2_with (first | (go_at_call 14; (with_reducible refine (keelsonref12_Var.calls k2 (rd (rd_L1 l0 x5_1) x7_2) t190 _ A8.out).mono ?_); rintro e w' ⟨rfl, ⟨nd, rfl⟩⟩; (try first | exact ⟨rfl, _, World.drewN_drewN _ _ _⟩ | exact ⟨rfl, _, Eq.trans (World.drewN_drewN _ _ _) (congrArg (World.drewN _) (Nat.add_assoc _ _ _))⟩))))
                        go_roundg k2
                        case measure => have := HK1.out; have := HK2.out; omega
                        case rel => exact ⟨(false), (wrap64 (x7_2 + 1)), (by first | rfl | (simp; done) | (simp [*]; done)), (by first | rfl | (simp; done) | (simp [*]; done)), H', ⟨by have := HK1.out; have := HK2.out; omega⟩, by repeat (first | exact Drawn0.refl _ | apply Drawn0.step)⟩
                  · rw [if_neg c7] at H
                    exact absurd H (by simp)
                · rw [if_neg c6] at H
                  have c6b0 : decide (x7_2 < ((rd_L1 l0 x5_1).length : Int)) = false := decide_eq_false c6
                  clear c6
                  by_cases c15 : x6_2 = true
                  · subst c15
                    have H1 : (keelsonref12_Holds.l0 k2 l0 l1 (wrap64 (x5_1 + 1))) = some r := by rw [if_pos rfl] at H; exact H
                    clear H
                    have H := H1
                    clear H1
                    have H' := Aside0.mk H
                    clear H
                    have p187 : 0 ≤ (x5_1 : Int) := of_decide_eq_true (by first | (with_reducible assumption) | assumption)
                    have q187 : x5_1 < (l0.length : Int) := of_decide_eq_true (by first | (with_reducible assumption) | assumption)
                    obtain ⟨ad187, A187_0, c187_0, e187, hx187_0, hl187_0, hi187_0⟩ := at_L1 HR0.out x5_1 p187 q187
                    cases e187
                    have HR187_0 := Aside0.mk hi187_0
                    have HC187_0 := Aside0.mk hl187_0
                    clear hi187_0 hl187_0
                    replace p187 := eq_true p187
                    replace q187 := eq_true q187
                    go_wp2
                    repeat (go_quiet (fail); try go_wp2)
                    go_roundg k2
                    case measure => have := HK1.out; have := HK2.out; omega
                    case rel => exact ⟨(wrap64 (x5_1 + 1)), (by first | rfl | (simp; done) | (simp [*]; done)), H', ⟨by have := HK1.out; have := HK2.out; omega⟩, by repeat (first | exact Drawn0.refl _ | apply Drawn0.step)⟩
                  · replace c15 := Bool.eq_false_iff.mpr c15
                    subst c15
                    have H1 : (some false) = some r := by rw [if_neg (show ¬ (false = true) by decide)] at H; exact H
                    clear H
                    have H := H1
                    clear H1
                    obtain rfl := Option.some.inj H
                    have p187 : 0 ≤ (x5_1 : Int) := of_decide_eq_true (by first | (with_reducible assumption) | assumption)
                    have q187 : x5_1 < (l0.length : Int) := of_decide_eq_true (by first | (with_reducible assumption) | assumption)
                    obtain ⟨ad187, A187_0, c187_0, e187, hx187_0, hl187_0, hi187_0⟩ := at_L1 HR0.out x5_1 p187 q187
                    cases e187
                    have HR187_0 := Aside0.mk hi187_0
                    have HC187_0 := Aside0.mk hl187_0
                    clear hi187_0 hl187_0
                    replace p187 := eq_true p187
                    replace q187 := eq_true q187
                    go_wp2
                    repeat (go_quiet (fail); try go_wp2)
                    go_ret
                    exact ⟨by first | rfl | (simp; done) | (simp [*]; done), by repeat (first | exact Drawn0.refl _ | apply Drawn0.step)⟩
              · rw [if_neg c5] at H
                exact absurd H (by simp)
            · rw [if_neg c4] at H
              exact absurd H (by simp)
      · rw [if_neg c3] at H
        have c3b0 : decide (x5_1 < (l0.length : Int)) = false := decide_eq_false c3
        clear c3
        obtain rfl := Option.some.inj H
        go_wp2
        repeat (go_quiet (fail); try go_wp2)
        go_ret
        exact ⟨by first | rfl | (simp; done) | (simp [*]; done), by repeat (first | exact Drawn0.refl _ | apply Drawn0.step)⟩

end Go.Proofs.YtooobbbpcpfddaaDoor.PA
