/- PinsPrints returns true, whatever it is given, and leaves it as it was: whether a pin is right, and the text of some. Conditions: those of the given row alone. -/
import Derived.Test.YtlcfpmdamehopaaGreatDoorBPinsPrints2
import Derived.Test.YtlcfpmdamehopaaGreatDoorTie
import Derived.Test.YtlcfpmdamehopaaGreatDoorCards
import Derived.SevenTiedAt
import Derived.OpenShut
import Derived.ShutString
import Derived.WideWitness
-- Printed by gprint.py (wip/ of this repo), over the kit's print.
namespace Go.Proofs.YtlcfpmdamehopaaGreatDoor.PA
open Go.RowKit Go.Proofs.YtlcfpmdamehopaaGreatDoorW.PrintWords Go.Proofs.YtlcfpmdamehopaaGreatDoorW.PrintLast Go.Proofs.YtlcfpmdamehopaaGreatDoorW.PrintMore
attribute [local go_sem] max2_int min2_int max_two min_two max_three min_three max_four min_four   -- for this text's walks alone
set_option linter.unusedVariables false
set_option linter.unusedSimpArgs false

/-! ### pins_Print: function 14 -/
def pins_Print.l0 : Nat → List (S30) → List (List (S60)) → List (S30) → Int → Int → Option (ByteArray)
  | 0, _, _, _, _, _ => none
  | k + 1, x0, x3, x6, x7, x8 => if x8 < x7 then (if 0 ≤ x8 then (if x8 < (x6.length : Int) then ((pins_Right.f ((rd_T30 x6 x8).f0) ((rd_T30 x6 x8).f1) ((rd_T30 x6 x8).f2)).bind fun t200 => (if t200 = true then (if 8 + ((rd_T30 x6 x8).f1).size ≤ 9223372036854775807 then (if ((⟨#[118, 101, 114, 115, 105, 111, 110, 32]⟩ : ByteArray) ++ ((rd_T30 x6 x8).f1)).size + 1 ≤ 9223372036854775807 then ((strconv_Itoa.f ((rd_T30 x6 x8).f2)).bind fun t201 => (if x3.length < 5864062014805 then (pins_Print.l0 k x0 (x3 ++ [(([(⟨(⟨#[80, 97, 99, 107, 97, 103, 101]⟩ : ByteArray), (rd_T30 x6 x8).f0⟩ : S60), (⟨(⟨#[80, 105, 110]⟩ : ByteArray), ((⟨#[118, 101, 114, 115, 105, 111, 110, 32]⟩ : ByteArray) ++ ((rd_T30 x6 x8).f1)) ++ (⟨#[42]⟩ : ByteArray)⟩ : S60), (⟨(⟨#[80, 105, 110, 45, 80, 114, 105, 111, 114, 105, 116, 121]⟩ : ByteArray), t201⟩ : S60)] : List (S60)))]) x6 x7 (wrap64 (x8 + 1))) else (none))) else (none)) else (none)) else (some (⟨#[]⟩ : ByteArray)))) else (none)) else (none)) else (if (x0.length : Int) > 64 then (some (⟨#[]⟩ : ByteArray)) else ((stanza_Print.f x3).bind fun t197 => (some t197)))
def pins_Print.f (k : Nat) (l0 : List (S30)) : Option (ByteArray) := pins_Print.l0 k l0 ([] : List (List (S60))) l0 (l0.length : Int) 0
def pins_Print.T7 : Bool × List (List Nat × List Nat) := (true, [([], []), ([], []), ([1], [1]), ([2], [2]), ([], []), ([4], [4]), ([5], [5]), ([6], [6]), ([7], [7]), ([], []), ([9], [9]), ([10], [10]), ([11], [11]), ([3, 8, 12], [3, 8, 12]), ([13], [13]), ([0, 14, 11], [0, 14]), ([15, 15, 0, 1, 2, 3, 4, 5, 6, 7, 8, 9, 10, 11, 12, 13, 14, 15], [0, 15])])
def pins_Print.B7 : List Nat := [0, 0, 2, 6, 0, 16, 48, 112, 240, 0, 512, 1536, 3584, 8190, 16382, 32767, 65535]
theorem pins_Print.tab7 : rtab .any (opsOf Tryz.f14 7) = pins_Print.T7 := by kernel_rfl
theorem pins_Print.bits7 : waitsOk pins_Print.T7.2 pins_Print.B7 = true := by kernel_rfl
set_option maxHeartbeats 8000000 in
set_option maxRecDepth 100000 in
theorem pins_Print.calls (k : Nat) (A0 : Option Addr) (c0 : Nat) (l0 : List (S30)) (r : ByteArray) (w : World) (hr0 : Kd.C k30 w A0 l0.length l0) (hc0 : l0.length ≤ c0) (hG_maxLen : GlobMaxLen w) (hG_pow10 : GlobPow10 w) (h : pins_Print.f k l0 = some r) :
    Calls Tryz.prog 14 #[.slice A0 l0.length c0] w fun e w' => e = .returned (.string r) ∧ Below w.heap.size w w' := by
  have hu30 := Tryz.underlying30
  have hu60 := Tryz.underlying60
  have HG_maxLen := Aside0.mk hG_maxLen
  clear hG_maxLen
  have HG_pow10 := Aside0.mk hG_pow10
  clear hG_pow10
  have HR0 := Aside0.mk hr0
  have HC0 := Aside0.mk hc0
  clear hr0 hc0
  have HB := Aside0.mk (Below.refl w.heap.size w)
  have H : (pins_Print.l0 k l0 ([] : List (List (S60))) l0 (l0.length : Int) 0) = some r := h
  clear h
  have H' := Aside0.mk H
  clear H
  go_enter Tryz.func14, Tryz.ntmps14
  go_wp2
  go_loopg [3, 8] k (fun kq v3 v8 w' => ∃ (x3_1 : List (List (S60))) (x8_1 : Int), v8 = .int .i64 x8_1 ∧ Aside0 (pins_Print.l0 kq l0 x3_1 l0 (l0.length : Int) x8_1 = some r) ∧ Aside0 (kq ≤ k) ∧ Aside0 (Kd.S (Kd.slice 60 k60) 49 w' w.heap.size (fun _ => True) v3 x3_1) ∧ Aside0 (Below w.heap.size w w'))
  case atStart => exact ⟨(([] : List (List (S60)))), (0), (by first | rfl | (simp; done) | (simp [*]; done)), H', ⟨Nat.le_refl _⟩, ⟨by first | exact Kd.S_nil _ _ _ _ _ | exact Kd.N_nil _ _ _ _ _ | exact Kd.V_nil _ _ _ _ _ | exact Kd.Q_nil _ _ _ _ _ | exact Kd.R_nil _ _ _ _ _⟩, ⟨by repeat (first | (with_reducible first | exact HB.out | apply below_alloc | apply pw_below_drewN | apply below_drew1) | exact HB.out)⟩⟩
  case round =>
    clear H'
    try clear c1
    obtain ⟨x3_1, x8_1, rfl, HA, HK1, HO_3, HB⟩ := hrel
    cases gk with
    | zero => exact absurd HA.out (by simp [pins_Print.l0])
    | succ k1 =>
      have H := HA.out
      clear HA
      simp only [pins_Print.l0] at H
      by_cases c2 : x8_1 < (l0.length : Int)
      · rw [if_pos c2] at H
        have c2b0 : decide (x8_1 < (l0.length : Int)) = true := decide_eq_true c2
        clear c2
        by_cases c3 : 0 ≤ x8_1
        · rw [if_pos c3] at H
          have c3b0 : decide (0 ≤ x8_1) = true := decide_eq_true c3
          clear c3
          by_cases c4 : x8_1 < (l0.length : Int)
          · rw [if_pos c4] at H
            have c4b0 : decide (x8_1 < (l0.length : Int)) = true := decide_eq_true c4
            clear c4
            replace H := Option.bind_eq_some_iff.mp H
            obtain ⟨t200, A50, H⟩ := H
            replace H : (if t200 = true then (if 8 + ((rd_T30 l0 x8_1).f1).size ≤ 9223372036854775807 then (if ((⟨#[118, 101, 114, 115, 105, 111, 110, 32]⟩ : ByteArray) ++ ((rd_T30 l0 x8_1).f1)).size + 1 ≤ 9223372036854775807 then ((strconv_Itoa.f ((rd_T30 l0 x8_1).f2)).bind fun t201 => (if x3_1.length < 5864062014805 then (pins_Print.l0 k1 l0 (x3_1 ++ [(([(⟨(⟨#[80, 97, 99, 107, 97, 103, 101]⟩ : ByteArray), (rd_T30 l0 x8_1).f0⟩ : S60), (⟨(⟨#[80, 105, 110]⟩ : ByteArray), ((⟨#[118, 101, 114, 115, 105, 111, 110, 32]⟩ : ByteArray) ++ ((rd_T30 l0 x8_1).f1)) ++ (⟨#[42]⟩ : ByteArray)⟩ : S60), (⟨(⟨#[80, 105, 110, 45, 80, 114, 105, 111, 114, 105, 116, 121]⟩ : ByteArray), t201⟩ : S60)] : List (S60)))]) l0 (l0.length : Int) (wrap64 (x8_1 + 1))) else (none))) else (none)) else (none)) else (some (⟨#[]⟩ : ByteArray))) = some r := H
            have A5 := Aside0.mk A50
            clear A50
            by_cases c6 : t200 = true
            · subst c6
              have H1 : (if 8 + ((rd_T30 l0 x8_1).f1).size ≤ 9223372036854775807 then (if ((⟨#[118, 101, 114, 115, 105, 111, 110, 32]⟩ : ByteArray) ++ ((rd_T30 l0 x8_1).f1)).size + 1 ≤ 9223372036854775807 then ((strconv_Itoa.f ((rd_T30 l0 x8_1).f2)).bind fun t201 => (if x3_1.length < 5864062014805 then (pins_Print.l0 k1 l0 (x3_1 ++ [(([(⟨(⟨#[80, 97, 99, 107, 97, 103, 101]⟩ : ByteArray), (rd_T30 l0 x8_1).f0⟩ : S60), (⟨(⟨#[80, 105, 110]⟩ : ByteArray), ((⟨#[118, 101, 114, 115, 105, 111, 110, 32]⟩ : ByteArray) ++ ((rd_T30 l0 x8_1).f1)) ++ (⟨#[42]⟩ : ByteArray)⟩ : S60), (⟨(⟨#[80, 105, 110, 45, 80, 114, 105, 111, 114, 105, 116, 121]⟩ : ByteArray), t201⟩ : S60)] : List (S60)))]) l0 (l0.length : Int) (wrap64 (x8_1 + 1))) else (none))) else (none)) else (none)) = some r := by rw [if_pos rfl] at H; exact H
              clear H
              have H := H1
              clear H1
              by_cases c7 : 8 + ((rd_T30 l0 x8_1).f1).size ≤ 9223372036854775807
              · rw [if_pos c7] at H
                have c7b0 := eq_true c7
                have c7b1 : decide (8 + ((rd_T30 l0 x8_1).f1).size ≤ 9223372036854775807) = true := decide_eq_true c7
                try have c7b2 : (9223372036854775807 < 8 + ((rd_T30 l0 x8_1).f1).size) = False := eq_false (Nat.not_lt.2 c7)
                by_cases c8 : ((⟨#[118, 101, 114, 115, 105, 111, 110, 32]⟩ : ByteArray) ++ ((rd_T30 l0 x8_1).f1)).size + 1 ≤ 9223372036854775807
                · rw [if_pos c8] at H
                  have c8b0 := eq_true c8
                  have c8b1 : decide (((⟨#[118, 101, 114, 115, 105, 111, 110, 32]⟩ : ByteArray) ++ ((rd_T30 l0 x8_1).f1)).size + 1 ≤ 9223372036854775807) = true := decide_eq_true c8
                  try have c8b2 : (9223372036854775807 < ((⟨#[118, 101, 114, 115, 105, 111, 110, 32]⟩ : ByteArray) ++ ((rd_T30 l0 x8_1).f1)).size + 1) = False := eq_false (Nat.not_lt.2 c8)
                  try (have c8b3 := c8b2; simp only [ByteArray.size_append, show (⟨#[118, 101, 114, 115, 105, 111, 110, 32]⟩ : ByteArray).size = 8 from rfl] at c8b3)
                  replace H := Option.bind_eq_some_iff.mp H
                  obtain ⟨t201, A90, H⟩ := H
                  replace H : (if x3_1.length < 5864062014805 then (pins_Print.l0 k1 l0 (x3_1 ++ [(([(⟨(⟨#[80, 97, 99, 107, 97, 103, 101]⟩ : ByteArray), (rd_T30 l0 x8_1).f0⟩ : S60), (⟨(⟨#[80, 105, 110]⟩ : ByteArray), ((⟨#[118, 101, 114, 115, 105, 111, 110, 32]⟩ : ByteArray) ++ ((rd_T30 l0 x8_1).f1)) ++ (⟨#[42]⟩ : ByteArray)⟩ : S60), (⟨(⟨#[80, 105, 110, 45, 80, 114, 105, 111, 114, 105, 116, 121]⟩ : ByteArray), t201⟩ : S60)] : List (S60)))]) l0 (l0.length : Int) (wrap64 (x8_1 + 1))) else (none)) = some r := H
                  have A9 := Aside0.mk A90
                  clear A90
                  obtain ⟨y202, hy202⟩ : ∃ y_ : List (S60), y_ = (([(⟨(⟨#[80, 97, 99, 107, 97, 103, 101]⟩ : ByteArray), (rd_T30 l0 x8_1).f0⟩ : S60), (⟨(⟨#[80, 105, 110]⟩ : ByteArray), ((⟨#[118, 101, 114, 115, 105, 111, 110, 32]⟩ : ByteArray) ++ ((rd_T30 l0 x8_1).f1)) ++ (⟨#[42]⟩ : ByteArray)⟩ : S60), (⟨(⟨#[80, 105, 110, 45, 80, 114, 105, 111, 114, 105, 116, 121]⟩ : ByteArray), t201⟩ : S60)] : List (S60))) := ⟨_, rfl⟩
                  replace H : (if x3_1.length < 5864062014805 then (pins_Print.l0 k1 l0 (x3_1 ++ [y202]) l0 (l0.length : Int) (wrap64 (x8_1 + 1))) else (none)) = some r := by first | (rw [hy202]; with_reducible exact H) | (have H2_ := (Option.bind_some _ _).symm.trans H; rw [hy202]; with_reducible exact H2_) | (have H2_ := (Option.bind_some _ _).symm.trans H; with_reducible exact H2_) | with_reducible exact H | (rw [hy202]; exact H) | exact H
                  have Ny202 := Aside0.mk hy202
                  clear hy202
                  by_cases c10 : x3_1.length < 5864062014805
                  · rw [if_pos c10] at H
                    have LMc10 := Aside0.mk c10
                    clear c10
                    obtain ⟨y205, hy205⟩ : ∃ y_ : List (List (S60)), y_ = (x3_1 ++ [y202]) := ⟨_, rfl⟩
                    replace H : (pins_Print.l0 k1 l0 y205 l0 (l0.length : Int) (wrap64 (x8_1 + 1))) = some r := by first | (rw [hy205]; with_reducible exact H) | (have H2_ := (Option.bind_some _ _).symm.trans H; rw [hy205]; with_reducible exact H2_) | (have H2_ := (Option.bind_some _ _).symm.trans H; with_reducible exact H2_) | with_reducible exact H | (rw [hy205]; exact H) | exact H
                    have Ny205 := Aside0.mk hy205
                    clear hy205
                    have H' := Aside0.mk H
                    clear H
                    have p198 : 0 ≤ (x8_1 : Int) := of_decide_eq_true (by first | (with_reducible assumption) | assumption)
                    have q198 : x8_1 < (l0.length : Int) := of_decide_eq_true (by first | (with_reducible assumption) | assumption)
                    obtain ⟨ad198, e198, hx198_0, hx198_1, hx198_2⟩ := at_T30 HR0.out x8_1 p198 q198
                    cases e198
                    replace hx198_0 := (HB.out.cell (World.block_lt_of_cell? w _ hx198_0)).trans hx198_0
                    replace hx198_1 := (HB.out.cell (World.block_lt_of_cell? w _ hx198_1)).trans hx198_1
                    replace hx198_2 := (HB.out.cell (World.block_lt_of_cell? w _ hx198_2)).trans hx198_2
                    replace p198 := eq_true p198
                    replace q198 := eq_true q198
                    try go_wp2_with (first | ((with_reducible refine gate_dst (N := 5) rfl ?_); refine box_event ?hg (N := 5) ?hd (cs := #[.string (⟨#[]⟩ : ByteArray), .string (⟨#[]⟩ : ByteArray), .int .i64 0]) (t := 30) ?hr ?_; (case hd => rfl); (case hg => rfl); (case hr => first | (go_simp; done) | (go_simp; rfl)); intro gb199 hg w11 hbox hb; have n0_ := Aside0.mk (Kd.S_below (by (with_reducible repeat (first | apply Kd.S_alloc | apply Kd.S_drewN | apply Kd.S_drew)); exact HO_3.out) hb); have n1_ := Aside0.mk (below_step (by repeat (first | (with_reducible first | exact HB.out | apply below_alloc | apply pw_below_drewN | apply below_drew1) | exact HB.out)) hb); have n2_ := Aside0.mk (hbox); have n3_ := Aside0.mk ((by rw [hg]; exact (below_size (by repeat (first | (with_reducible first | exact HB.out | apply below_alloc | apply pw_below_drewN | apply below_drew1) | exact HB.out))) : w.heap.size ≤ gb199)); have n4_ := Aside0.mk ((by rw [hg]; exact (below_size (by repeat (first | (with_reducible first | exact HB.out | apply below_alloc | apply pw_below_drewN | apply below_drew1) | exact HB.out))) : w.heap.size ≤ gb199)); clear HO_3; clear HB; have HO_3 := n0_; have HB := n1_; have BK199 := n2_; have GW199 := n3_; have GE199 := n4_; clear n0_ n1_ n2_ n3_ n4_; clear hb hbox hg; have hcz12_0 : w11.cell? ⟨gb199, 0, none⟩ = some (.string (⟨#[]⟩ : ByteArray)) := (blk_cell BK199.out 0).trans rfl; have hcz12_1 : w11.cell? ⟨gb199, 1, none⟩ = some (.string (⟨#[]⟩ : ByteArray)) := (blk_cell BK199.out 1).trans rfl; have hcz12_2 : w11.cell? ⟨gb199, 2, none⟩ = some (.int .i64 0) := (blk_cell BK199.out 2).trans rfl; have hfz12_0 := blk_frozen BK199.out 0; have hfz12_1 := blk_frozen BK199.out 1; have hfz12_2 := blk_frozen BK199.out 2) | ((with_reducible refine gate_callee (f := 12) rfl ?_); refine goesL_ (some 13) rfl rfl Tryz.func12 (by kernel_rfl) rfl #[.agg #[.string ((rd_T30 l0 x8_1).f0), .string ((rd_T30 l0 x8_1).f1), .int .i64 ((rd_T30 l0 x8_1).f2)]] rfl (by (try simp only [List.map_toArray, List.map_cons, List.map_nil]); first | done | rfl | (simp only [List.length_drop, List.length_take]; rfl)) ?_; (with_reducible refine (pins_Right.calls ((rd_T30 l0 x8_1).f0) ((rd_T30 l0 x8_1).f1) ((rd_T30 l0 x8_1).f2) true _ A5.out).mono ?_); rintro e w13 ⟨rfl, hb⟩; refine ⟨_, rfl, ?_⟩; have n0_ := Aside0.mk (Kd.S_below (by (with_reducible repeat (first | apply Kd.S_alloc | apply Kd.S_drewN | apply Kd.S_drew)); exact (Kd.S_mono (Kd.S_far (p := ⟨gb199, 2, none⟩) (Kd.S_far (p := ⟨gb199, 1, none⟩) (Kd.S_far (p := ⟨gb199, 0, none⟩) (Kd.S_types HO_3.out BK199.out (by decide)) (fun _ hk => hk.2) (.string ((rd_T30 l0 x8_1).f0))) (fun _ hk => hk.2) (.string ((rd_T30 l0 x8_1).f1))) (fun _ hk => hk.2) (.int .i64 ((rd_T30 l0 x8_1).f2))) (fun _ h_ => h_.1))) hb); have n1_ := Aside0.mk (blk_below (g := gb199) (o := .cells #[.string ((rd_T30 l0 x8_1).f0), .string ((rd_T30 l0 x8_1).f1), .int .i64 ((rd_T30 l0 x8_1).f2)] 30 (0, 0)) (by (with_reducible repeat (first | refine blk_drewN ?_ _ | refine blk_drew ?_ | refine blk_alloc ?_ _)); refine blk_put (cs := #[.string ((rd_T30 l0 x8_1).f0), .string ((rd_T30 l0 x8_1).f1), .int .i64 0]) ?_ 2 _ rfl; (with_reducible repeat (first | refine blk_drewN ?_ _ | refine blk_drew ?_ | refine blk_alloc ?_ _)); refine blk_put (cs := #[.string ((rd_T30 l0 x8_1).f0), .string (⟨#[]⟩ : ByteArray), .int .i64 0]) ?_ 1 _ rfl; (with_reducible repeat (first | refine blk_drewN ?_ _ | refine blk_drew ?_ | refine blk_alloc ?_ _)); refine blk_put (cs := #[.string (⟨#[]⟩ : ByteArray), .string (⟨#[]⟩ : ByteArray), .int .i64 0]) ?_ 0 _ rfl; (with_reducible repeat (first | refine blk_drewN ?_ _ | refine blk_drew ?_ | refine blk_alloc ?_ _)); exact BK199.out) hb); have n2_ := Aside0.mk (below_step (by repeat (first | (with_reducible first | exact HB.out | apply below_alloc | apply pw_below_drewN | apply below_drew1 | refine below_set ?_ GE199.out) | exact HB.out)) hb); clear HO_3; clear BK199; clear HB; have HO_3 := n0_; have BK199 := n1_; have HB := n2_; clear n0_ n1_ n2_; (try clear hb); (try clear hb2); (try clear hk); (try clear hi)))
                    have n0_ := Aside0.mk (Kd.S_drew HO_3.out)
                    have n1_ := Aside0.mk (blk_drew BK199.out)
                    have n2_ := Aside0.mk (below_drew1 HB.out)
                    clear HO_3
                    clear BK199
                    clear HB
                    have HO_3 := n0_
                    have BK199 := n1_
                    have HB := n2_
                    clear n0_ n1_ n2_
                    refine start_ (n := 17) (S := fun w' => w'.cell? ⟨gb199, 0, none⟩ = some (.string ((rd_T30 l0 x8_1).f0)) ∧ w'.cell? ⟨gb199, 1, none⟩ = some (.string ((rd_T30 l0 x8_1).f1)) ∧ w'.cell? ⟨gb199, 2, none⟩ = some (.int .i64 ((rd_T30 l0 x8_1).f2))) (ds := []) #[false, false, false, false, false, false, false, false, false, false, false, false, false, false, false, false, false] (by kernel_rfl) rfl rfl ⟨(blk_cell BK199.out 0).trans rfl, (blk_cell BK199.out 1).trans rfl, (blk_cell BK199.out 2).trans rfl⟩ (fun hHeld => ?_); refine with_tabW pins_Print.tab7 pins_Print.bits7 (fun HT_ HW_ => ?_)
                    generalize w13.drew = w14 at HO_3 BK199 HB hHeld ⊢
                    refine pure_ (i := 0) (N := some 15) (v := ?_) (a' := ?_) #[true, false, false, false, false, false, false, false, false, false, false, false, false, false, false, false, false] rfl rfl (any_of HT_.out (by kernel_rfl)) (fun _ _ _ h => h) (Or.inl ⟨by rfl, ?_⟩) ?_ ?_
                    rotate_left
                    · intro w'
                      go_simp
                      with_reducible rfl
                    rotate_left
                    · simp only [Act.put, List.setIfInBounds_toArray, List.set_cons_zero, List.set_cons_succ, i64_w, i32_w]
                      rfl
                    refine pure_ (i := 1) (N := some 16) (v := ?_) (a' := ?_) #[true, true, false, false, false, false, false, false, false, false, false, false, false, false, false, false, false] rfl rfl (any_of HT_.out (by kernel_rfl)) (fun _ _ _ h => h) (Or.inl ⟨by rfl, ?_⟩) ?_ ?_
                    rotate_left
                    · intro w'
                      go_simp
                      with_reducible rfl
                    rotate_left
                    · simp only [Act.put, List.setIfInBounds_toArray, List.set_cons_zero, List.set_cons_succ, i64_w, i32_w]
                      rfl
                    refine pure_ (i := 4) (N := some 19) (v := ?_) (a' := ?_) #[true, true, false, false, true, false, false, false, false, false, false, false, false, false, false, false, false] rfl rfl (any_of HT_.out (by kernel_rfl)) (fun _ _ _ h => h) (Or.inl ⟨by rfl, ?_⟩) ?_ ?_
                    rotate_left
                    · intro w'
                      go_simp
                      with_reducible rfl
                    rotate_left
                    · simp only [Act.put, List.setIfInBounds_toArray, List.set_cons_zero, List.set_cons_succ, i64_w, i32_w]
                      rfl
                    refine pure_ (i := 9) (N := some 24) (v := ?_) (a' := ?_) #[true, true, false, false, true, false, false, false, false, true, false, false, false, false, false, false, false] rfl rfl (any_of HT_.out (by kernel_rfl)) (fun _ _ _ h => h) (Or.inl ⟨by rfl, ?_⟩) ?_ ?_
                    rotate_left
                    · intro w'
                      go_simp
                      with_reducible rfl
                    rotate_left
                    · simp only [Act.put, List.setIfInBounds_toArray, List.set_cons_zero, List.set_cons_succ, i64_w, i32_w]
                      rfl
                    refine take_ (i := 2) (N := some 17) (v := ?_) (a' := ?_) #[true, true, true, false, true, false, false, false, false, true, false, false, false, false, false, false, false] rfl rfl (take_ofW HT_.out HW_.out (by kernel_rfl)) (fun _ _ _ h => h) (Or.inl ⟨by rfl, ?_⟩) hHeld ?_ ?_
                    rotate_left
                    · rintro w' ⟨s0, s1, s2⟩
                      go_simp
                      with_reducible rfl
                    rotate_left
                    · simp only [Act.put, List.setIfInBounds_toArray, List.set_cons_zero, List.set_cons_succ, i64_w, i32_w]
                      rfl
                    refine pure_ (i := 3) (N := some 18) (v := ?_) (a' := ?_) #[true, true, true, true, true, false, false, false, false, true, false, false, false, false, false, false, false] rfl rfl (any_of HT_.out (by kernel_rfl)) (fun _ _ _ h => h) (Or.inl ⟨by rfl, ?_⟩) ?_ ?_
                    rotate_left
                    · intro w'
                      go_simp
                      with_reducible rfl
                    rotate_left
                    · simp only [Act.put, List.setIfInBounds_toArray, List.set_cons_zero, List.set_cons_succ, i64_w, i32_w]
                      rfl
                    refine take_ (i := 5) (N := some 20) (v := ?_) (a' := ?_) #[true, true, true, true, true, true, false, false, false, true, false, false, false, false, false, false, false] rfl rfl (take_ofW HT_.out HW_.out (by kernel_rfl)) (fun _ _ _ h => h) (Or.inl ⟨by rfl, ?_⟩) hHeld ?_ ?_
                    rotate_left
                    · rintro w' ⟨s0, s1, s2⟩
                      go_simp
                      with_reducible rfl
                    rotate_left
                    · simp only [Act.put, List.setIfInBounds_toArray, List.set_cons_zero, List.set_cons_succ, i64_w, i32_w]
                      rfl
                    refine pure_ (i := 6) (N := some 21) (v := ?_) (a' := ?_) #[true, true, true, true, true, true, true, false, false, true, false, false, false, false, false, false, false] rfl rfl (any_of HT_.out (by kernel_rfl)) (fun _ _ _ h => h) (Or.inl ⟨by rfl, ?_⟩) ?_ ?_
                    rotate_left
                    · intro w'
                      go_simp
                      with_reducible rfl
                    rotate_left
                    · simp only [Act.put, List.setIfInBounds_toArray, List.set_cons_zero, List.set_cons_succ, i64_w, i32_w]
                      rfl
                    refine pure_ (i := 7) (N := some 22) (v := ?_) (a' := ?_) #[true, true, true, true, true, true, true, true, false, true, false, false, false, false, false, false, false] rfl rfl (any_of HT_.out (by kernel_rfl)) (fun _ _ _ h => h) (Or.inl ⟨by rfl, ?_⟩) ?_ ?_
                    rotate_left
                    · intro w'
                      go_simp
                      with_reducible rfl
                    rotate_left
                    · simp only [Act.put, List.setIfInBounds_toArray, List.set_cons_zero, List.set_cons_succ, i64_w, i32_w]
                      rfl
                    refine pure_ (i := 8) (N := some 23) (v := ?_) (a' := ?_) #[true, true, true, true, true, true, true, true, true, true, false, false, false, false, false, false, false] rfl rfl (any_of HT_.out (by kernel_rfl)) (fun _ _ _ h => h) (Or.inl ⟨by rfl, ?_⟩) ?_ ?_
                    rotate_left
                    · intro w'
                      go_simp
                      with_reducible rfl
                    rotate_left
                    · simp only [Act.put, List.setIfInBounds_toArray, List.set_cons_zero, List.set_cons_succ, i64_w, i32_w]
                      rfl
                    refine take_ (i := 10) (N := some 25) (v := ?_) (a' := ?_) #[true, true, true, true, true, true, true, true, true, true, true, false, false, false, false, false, false] rfl rfl (take_ofW HT_.out HW_.out (by kernel_rfl)) (fun _ _ _ h => h) (Or.inl ⟨by rfl, ?_⟩) hHeld ?_ ?_
                    rotate_left
                    · rintro w' ⟨s0, s1, s2⟩
                      go_simp
                      with_reducible rfl
                    rotate_left
                    · simp only [Act.put, List.setIfInBounds_toArray, List.set_cons_zero, List.set_cons_succ, i64_w, i32_w]
                      rfl
                    refine one_ (i := 11) (N := some 26) #[true, true, true, true, true, true, true, true, true, true, true, true, false, false, false, false, false] rfl rfl (one_of HT_.out (by kernel_rfl)) (by decide) (fun K hK => ?_)
                    refine goes_ Tryz.func31 (by kernel_rfl) rfl #[.int .i64 ((rd_T30 l0 x8_1).f2)] (by rfl) rfl rfl (by (try simp only [List.map_toArray, List.map_cons, List.map_nil]); first | done | rfl | (simp only [List.length_drop, List.length_take]; rfl)) ?_
                    with_reducible refine (strconv_Itoa.calls ((rd_T30 l0 x8_1).f2) t201 _ ?side1 A9.out).mono ?_
                    (case side1 => exact HG_pow10.out.below (by repeat (first | (with_reducible first | exact HB.out | apply below_alloc | apply pw_below_drewN | apply below_drew1 | refine below_set ?_ GE199.out) | exact HB.out)))
                    rintro e w15 ⟨rfl, hb⟩
                    refine ⟨_, rfl, ?_⟩
                    have n0_ := Aside0.mk (Kd.S_below (by (with_reducible repeat (first | apply Kd.S_alloc | apply Kd.S_drewN | apply Kd.S_drew)); exact HO_3.out) hb)
                    have n1_ := Aside0.mk (blk_below (g := gb199) (o := .cells #[.string ((rd_T30 l0 x8_1).f0), .string ((rd_T30 l0 x8_1).f1), .int .i64 ((rd_T30 l0 x8_1).f2)] 30 (0, 0)) (by (with_reducible repeat (first | refine blk_drewN ?_ _ | refine blk_drew ?_ | refine blk_alloc ?_ _)); exact BK199.out) hb)
                    have n2_ := Aside0.mk (below_step (by repeat (first | (with_reducible first | exact HB.out | apply below_alloc | apply pw_below_drewN | apply below_drew1 | refine below_set ?_ GE199.out) | exact HB.out)) hb)
                    clear HO_3
                    clear BK199
                    clear HB
                    have HO_3 := n0_
                    have BK199 := n1_
                    have HB := n2_
                    clear n0_ n1_ n2_
                    (try clear hb)
                    (try clear hb2)
                    (try clear hk)
                    (try clear hi)
                    refine hK.out _ _ ⟨(blk_cell BK199.out 0).trans rfl, (blk_cell BK199.out 1).trans rfl, (blk_cell BK199.out 2).trans rfl⟩ (fun hHeld => ?_)
                    clear hK K
                    refine norm_ (a' := ?_) ?_ ?_
                    rotate_left
                    · show Act.put _ (some 26) _ = _
                      simp only [Act.put, List.setIfInBounds_toArray, List.set_cons_zero, List.set_cons_succ, i64_w, i32_w]
                      rfl
                    refine pure_ (i := 12) (N := some 27) (v := ?_) (a' := ?_) #[true, true, true, true, true, true, true, true, true, true, true, true, true, false, false, false, false] rfl rfl (any_of HT_.out (by kernel_rfl)) (fun _ _ _ h => h) (Or.inl ⟨by rfl, ?_⟩) ?_ ?_
                    rotate_left
                    · intro w'
                      go_simp
                      with_reducible rfl
                    rotate_left
                    · simp only [Act.put, List.setIfInBounds_toArray, List.set_cons_zero, List.set_cons_succ, i64_w, i32_w]
                      rfl
                    refine one_ (i := 13) (N := some 28) #[true, true, true, true, true, true, true, true, true, true, true, true, true, true, false, false, false] rfl rfl (one_of HT_.out (by kernel_rfl)) (by decide) (fun K hK => ?_)
                    refine Kd.R_lit_step k60 _ 60 ?hg (N := 28) ?hd (xs := ([(⟨(⟨#[80, 97, 99, 107, 97, 103, 101]⟩ : ByteArray), (rd_T30 l0 x8_1).f0⟩ : S60), (⟨(⟨#[80, 105, 110]⟩ : ByteArray), ((⟨#[118, 101, 114, 115, 105, 111, 110, 32]⟩ : ByteArray) ++ ((rd_T30 l0 x8_1).f1)) ++ (⟨#[42]⟩ : ByteArray)⟩ : S60), (⟨(⟨#[80, 105, 110, 45, 80, 114, 105, 111, 114, 105, 116, 121]⟩ : ByteArray), t201⟩ : S60)] : List (S60))) (inner := [.string (⟨#[80, 97, 99, 107, 97, 103, 101]⟩ : ByteArray), .string ((rd_T30 l0 x8_1).f0), .string (⟨#[80, 105, 110]⟩ : ByteArray), .string (((⟨#[118, 101, 114, 115, 105, 111, 110, 32]⟩ : ByteArray) ++ ((rd_T30 l0 x8_1).f1)) ++ (⟨#[42]⟩ : ByteArray)), .string (⟨#[80, 105, 110, 45, 80, 114, 105, 111, 114, 105, 116, 121]⟩ : ByteArray), .string t201]) (ok := fun _ => True) (okp := fun _ => True) ?hr ?hp (fun _ hk => hk) trivial (Below.refl _ _) (Nat.le_refl _) (by simp) ?_; (case hd => rfl); (case hg => rfl); (case hr => first | (go_simp; done) | (go_simp; rfl)); (case hp => exact (Reps.c2 (show Kd.M k60 _ _ _ (⟨(⟨#[80, 97, 99, 107, 97, 103, 101]⟩ : ByteArray), (rd_T30 l0 x8_1).f0⟩ : S60) [.string (⟨#[80, 97, 99, 107, 97, 103, 101]⟩ : ByteArray), .string ((rd_T30 l0 x8_1).f0)] from (k60_mkM _ _ _ (⟨(⟨#[80, 97, 99, 107, 97, 103, 101]⟩ : ByteArray), (rd_T30 l0 x8_1).f0⟩ : S60) )) (Reps.c2 (show Kd.M k60 _ _ _ (⟨(⟨#[80, 105, 110]⟩ : ByteArray), ((⟨#[118, 101, 114, 115, 105, 111, 110, 32]⟩ : ByteArray) ++ ((rd_T30 l0 x8_1).f1)) ++ (⟨#[42]⟩ : ByteArray)⟩ : S60) [.string (⟨#[80, 105, 110]⟩ : ByteArray), .string (((⟨#[118, 101, 114, 115, 105, 111, 110, 32]⟩ : ByteArray) ++ ((rd_T30 l0 x8_1).f1)) ++ (⟨#[42]⟩ : ByteArray))] from (k60_mkM _ _ _ (⟨(⟨#[80, 105, 110]⟩ : ByteArray), ((⟨#[118, 101, 114, 115, 105, 111, 110, 32]⟩ : ByteArray) ++ ((rd_T30 l0 x8_1).f1)) ++ (⟨#[42]⟩ : ByteArray)⟩ : S60) )) (Reps.c2 (show Kd.M k60 _ _ _ (⟨(⟨#[80, 105, 110, 45, 80, 114, 105, 111, 114, 105, 116, 121]⟩ : ByteArray), t201⟩ : S60) [.string (⟨#[80, 105, 110, 45, 80, 114, 105, 111, 114, 105, 116, 121]⟩ : ByteArray), .string t201] from (k60_mkM _ _ _ (⟨(⟨#[80, 105, 110, 45, 80, 114, 105, 111, 114, 105, 116, 121]⟩ : ByteArray), t201⟩ : S60) )) (Reps.none _ _)))))
                    intro v203 w16 ho17 hb hg_ hnew_
                    clear hg_ hnew_
                    (first | rw [← Ny202.out] at ho17 | (simp only [Int.reduceToNat] at ho17; rw [← Ny202.out] at ho17))
                    have n0_ := Aside0.mk (Kd.S_elder' (by (with_reducible repeat (first | apply Kd.S_alloc | apply Kd.S_drewN | apply Kd.S_drew)); exact HO_3.out) (Kd.R_base ho17) hb)
                    have n1_ := Aside0.mk (Kd.R_lower ho17 (below_size (by repeat (first | (with_reducible first | exact HB.out | apply below_alloc | apply pw_below_drewN | apply below_drew1 | refine below_set ?_ GE199.out) | exact HB.out))))
                    have n2_ := Aside0.mk (blk_below (g := gb199) (o := .cells #[.string ((rd_T30 l0 x8_1).f0), .string ((rd_T30 l0 x8_1).f1), .int .i64 ((rd_T30 l0 x8_1).f2)] 30 (0, 0)) (by (with_reducible repeat (first | refine blk_drewN ?_ _ | refine blk_drew ?_ | refine blk_alloc ?_ _)); exact BK199.out) hb)
                    have n3_ := Aside0.mk (below_step (by repeat (first | (with_reducible first | exact HB.out | apply below_alloc | apply pw_below_drewN | apply below_drew1 | refine below_set ?_ GE199.out) | exact HB.out)) hb)
                    clear HO_3
                    clear BK199
                    clear HB
                    have HO_3 := n0_
                    have HO204 := n1_
                    have BK199 := n2_
                    have HB := n3_
                    clear n0_ n1_ n2_ n3_
                    clear hb ho17
                    obtain ⟨Ao19, co19, eo19⟩ := Kd.R_slice HO204.out
                    (first | subst eo19 | (injection eo19 with f1_ f2_ f3_; have f4_ := f1_.symm; have f5_ := f3_.symm; clear f1_ f2_ f3_; subst f4_; subst f5_))
                    refine hK.out _ _ ⟨(blk_cell BK199.out 0).trans rfl, (blk_cell BK199.out 1).trans rfl, (blk_cell BK199.out 2).trans rfl⟩ (fun hHeld => ?_)
                    clear hK K
                    refine norm_ (a' := ?_) ?_ ?_
                    rotate_left
                    · show Act.put _ (some 28) _ = _
                      simp only [Act.put, List.setIfInBounds_toArray, List.set_cons_zero, List.set_cons_succ, i64_w, i32_w]
                      rfl
                    refine one_ (i := 14) (N := some 29) #[true, true, true, true, true, true, true, true, true, true, true, true, true, true, true, false, false] rfl rfl (one_of HT_.out (by kernel_rfl)) (by decide) (fun K hK => ?_)
                    refine value_ (w1 := ?_) (v := ?_) (by rfl) rfl ?_ ?_
                    rotate_left 2
                    · go_simp
                      constructor
                      · rfl
                      · rfl
                    refine hK.out _ _ ⟨(blk_cell (blk_alloc BK199.out _) 0).trans rfl, (blk_cell (blk_alloc BK199.out _) 1).trans rfl, (blk_cell (blk_alloc BK199.out _) 2).trans rfl⟩ (fun hHeld => ?_)
                    clear hK K
                    refine norm_ (a' := ?_) ?_ ?_
                    rotate_left
                    · show Act.put _ (some 29) _ = _
                      simp only [Act.put, List.setIfInBounds_toArray, List.set_cons_zero, List.set_cons_succ, i64_w, i32_w]
                      rfl
                    refine one_ (i := 15) (N := some 30) #[true, true, true, true, true, true, true, true, true, true, true, true, true, true, true, true, false] rfl rfl (one_of HT_.out (by kernel_rfl)) (by decide) (fun K hK => ?_)
                    refine Kd.S_append_step (Kd.slice 60 k60) (w0 := w) w.heap.size (by rfl) (.tmp 15) (.tmp 29) 45 49 (.slice none 0 0) 24 rfl Tryz.underlying45 info49 rfl (by decide) (by omega) u3 x3_1 y202 [.slice Ao19 y202.length co19] (fun _ => True) (fun k_ => some k_ = (.slice Ao19 y202.length co19 : Value).ownBlock) rfl rfl ?aP (fun k_ hk_ => ((Kd.R_mono (ok' := fun k_ => ((fun _ => True)) k_ ∧ some k_ ≠ (u3 : Value).ownBlock) (Kd.R_apart' (HO204.out) (Kd.S_typed HO_3.out) (by decide)) (fun k_ hk => ⟨trivial, hk.2⟩))).1 k_ hk_.symm) ?aF ?aO ?aB ?aS ?aL ?_
                    (case aP => exact Kd.M_row (Kd.R_mono (Kd.R_tight rfl (Kd.R_mono (ok' := fun k_ => ((fun _ => True)) k_ ∧ some k_ ≠ (u3 : Value).ownBlock) (Kd.R_apart' (HO204.out) (Kd.S_typed HO_3.out) (by decide)) (fun k_ hk => ⟨trivial, hk.2⟩))) (fun _ h_ => h_)))
                    (case aB => exact (by repeat (first | (with_reducible first | exact HB.out | apply below_alloc | apply pw_below_drewN | apply below_drew1 | refine below_set ?_ GE199.out) | exact HB.out)))
                    (case aF => exact (fun _ _ => trivial))
                    (case aO => exact (by (with_reducible repeat (first | apply Kd.S_alloc | apply Kd.S_drewN | apply Kd.S_drew)); exact Kd.S_mono HO_3.out (fun k_ hk => ⟨trivial, fun e_ => hk.2 e_⟩)))
                    (case aS => exact (below_size (by repeat (first | (with_reducible first | exact HB.out | apply below_alloc | apply pw_below_drewN | apply below_drew1 | refine below_set ?_ GE199.out) | exact HB.out))))
                    (case aL => have := LMc10.out; omega)
                    intro v206 w18 ho hb hg hat
                    rw [← Ny205.out] at ho
                    have n0_ := Aside0.mk (blk_grown (g := gb199) (o := .cells #[.string ((rd_T30 l0 x8_1).f0), .string ((rd_T30 l0 x8_1).f1), .int .i64 ((rd_T30 l0 x8_1).f2)] 30 (0, 0)) (by (with_reducible repeat (first | refine blk_drewN ?_ _ | refine blk_drew ?_ | refine blk_alloc ?_ _)); exact BK199.out) hg (Kd.S_ne HO_3.out BK199.out (by decide)))
                    have n1_ := Aside0.mk (hb)
                    have n2_ := Aside0.mk (ho)
                    clear BK199
                    clear HB
                    clear HO_3
                    clear HO204
                    have BK199 := n0_
                    have HB := n1_
                    have HO207 := n2_
                    clear n0_ n1_ n2_
                    clear ho hb hg hat
                    refine hK.out _ _ ⟨(blk_cell BK199.out 0).trans rfl, (blk_cell BK199.out 1).trans rfl, (blk_cell BK199.out 2).trans rfl⟩ (fun hHeld => ?_)
                    clear hK K
                    refine norm_ (a' := ?_) ?_ ?_
                    rotate_left
                    · show Act.put _ (some 30) _ = _
                      simp only [Act.put, List.setIfInBounds_toArray, List.set_cons_zero, List.set_cons_succ, i64_w, i32_w]
                      rfl
                    refine pure_ (i := 16) (N := some 3) (v := ?_) (a' := ?_) #[true, true, true, true, true, true, true, true, true, true, true, true, true, true, true, true, true] rfl rfl (any_of HT_.out (by kernel_rfl)) (fun _ _ _ h => h) (Or.inl ⟨by rfl, ?_⟩) ?_ ?_
                    rotate_left
                    · intro w'
                      go_simp
                      with_reducible rfl
                    rotate_left
                    · simp only [Act.put, List.setIfInBounds_toArray, List.set_cons_zero, List.set_cons_succ, i64_w, i32_w]
                      rfl
                    refine done_ (done_of HT_.out (by kernel_rfl)) ?_
                    try go_wp2
                    go_roundg k1
                    case measure => have := HK1.out; omega
                    case rel => exact ⟨(y205), (wrap64 (x8_1 + 1)), (by first | rfl | (simp; done) | (simp [*]; done)), H', ⟨by have := HK1.out; omega⟩, ⟨by (with_reducible repeat (first | apply Kd.S_alloc | apply Kd.S_drewN | apply Kd.S_drew)); exact HO207.out⟩, ⟨by repeat (first | (with_reducible first | exact HB.out | apply below_alloc | apply pw_below_drewN | apply below_drew1 | refine below_set ?_ GE199.out) | exact HB.out)⟩⟩
                  · rw [if_neg c10] at H
                    exact absurd H (by simp)
                · rw [if_neg c8] at H
                  exact absurd H (by simp)
              · rw [if_neg c7] at H
                exact absurd H (by simp)
            · replace c6 := Bool.eq_false_iff.mpr c6
              subst c6
              have H1 : (some (⟨#[]⟩ : ByteArray)) = some r := by rw [if_neg (show ¬ (false = true) by decide)] at H; exact H
              clear H
              have H := H1
              clear H1
              obtain rfl := Option.some.inj H
              have p198 : 0 ≤ (x8_1 : Int) := of_decide_eq_true (by first | (with_reducible assumption) | assumption)
              have q198 : x8_1 < (l0.length : Int) := of_decide_eq_true (by first | (with_reducible assumption) | assumption)
              obtain ⟨ad198, e198, hx198_0, hx198_1, hx198_2⟩ := at_T30 HR0.out x8_1 p198 q198
              cases e198
              replace hx198_0 := (HB.out.cell (World.block_lt_of_cell? w _ hx198_0)).trans hx198_0
              replace hx198_1 := (HB.out.cell (World.block_lt_of_cell? w _ hx198_1)).trans hx198_1
              replace hx198_2 := (HB.out.cell (World.block_lt_of_cell? w _ hx198_2)).trans hx198_2
              replace p198 := eq_true p198
              replace q198 := eq_true q198
              go_wp2_with (first | ((with_reducible refine gate_dst (N := 5) rfl ?_); refine box_event ?hg (N := 5) ?hd (cs := #[.string (⟨#[]⟩ : ByteArray), .string (⟨#[]⟩ : ByteArray), .int .i64 0]) (t := 30) ?hr ?_; (case hd => rfl); (case hg => rfl); (case hr => first | (go_simp; done) | (go_simp; rfl)); intro gb199 hg w20 hbox hb; have n0_ := Aside0.mk (Kd.S_below (by (with_reducible repeat (first | apply Kd.S_alloc | apply Kd.S_drewN | apply Kd.S_drew)); exact HO_3.out) hb); have n1_ := Aside0.mk (below_step (by repeat (first | (with_reducible first | exact HB.out | apply below_alloc | apply pw_below_drewN | apply below_drew1) | exact HB.out)) hb); have n2_ := Aside0.mk (hbox); have n3_ := Aside0.mk ((by rw [hg]; exact (below_size (by repeat (first | (with_reducible first | exact HB.out | apply below_alloc | apply pw_below_drewN | apply below_drew1) | exact HB.out))) : w.heap.size ≤ gb199)); have n4_ := Aside0.mk ((by rw [hg]; exact (below_size (by repeat (first | (with_reducible first | exact HB.out | apply below_alloc | apply pw_below_drewN | apply below_drew1) | exact HB.out))) : w.heap.size ≤ gb199)); clear HO_3; clear HB; have HO_3 := n0_; have HB := n1_; have BK199 := n2_; have GW199 := n3_; have GE199 := n4_; clear n0_ n1_ n2_ n3_ n4_; clear hb hbox hg; have hcz21_0 : w20.cell? ⟨gb199, 0, none⟩ = some (.string (⟨#[]⟩ : ByteArray)) := (blk_cell BK199.out 0).trans rfl; have hcz21_1 : w20.cell? ⟨gb199, 1, none⟩ = some (.string (⟨#[]⟩ : ByteArray)) := (blk_cell BK199.out 1).trans rfl; have hcz21_2 : w20.cell? ⟨gb199, 2, none⟩ = some (.int .i64 0) := (blk_cell BK199.out 2).trans rfl; have hfz21_0 := blk_frozen BK199.out 0; have hfz21_1 := blk_frozen BK199.out 1; have hfz21_2 := blk_frozen BK199.out 2) | ((with_reducible refine gate_callee (f := 12) rfl ?_); refine goesL_ (some 13) rfl rfl Tryz.func12 (by kernel_rfl) rfl #[.agg #[.string ((rd_T30 l0 x8_1).f0), .string ((rd_T30 l0 x8_1).f1), .int .i64 ((rd_T30 l0 x8_1).f2)]] rfl (by (try simp only [List.map_toArray, List.map_cons, List.map_nil]); first | done | rfl | (simp only [List.length_drop, List.length_take]; rfl)) ?_; (with_reducible refine (pins_Right.calls ((rd_T30 l0 x8_1).f0) ((rd_T30 l0 x8_1).f1) ((rd_T30 l0 x8_1).f2) false _ A5.out).mono ?_); rintro e w22 ⟨rfl, hb⟩; refine ⟨_, rfl, ?_⟩; have n0_ := Aside0.mk (Kd.S_below (by (with_reducible repeat (first | apply Kd.S_alloc | apply Kd.S_drewN | apply Kd.S_drew)); exact (Kd.S_mono (Kd.S_far (p := ⟨gb199, 2, none⟩) (Kd.S_far (p := ⟨gb199, 1, none⟩) (Kd.S_far (p := ⟨gb199, 0, none⟩) (Kd.S_types HO_3.out BK199.out (by decide)) (fun _ hk => hk.2) (.string ((rd_T30 l0 x8_1).f0))) (fun _ hk => hk.2) (.string ((rd_T30 l0 x8_1).f1))) (fun _ hk => hk.2) (.int .i64 ((rd_T30 l0 x8_1).f2))) (fun _ h_ => h_.1))) hb); have n1_ := Aside0.mk (blk_below (g := gb199) (o := .cells #[.string ((rd_T30 l0 x8_1).f0), .string ((rd_T30 l0 x8_1).f1), .int .i64 ((rd_T30 l0 x8_1).f2)] 30 (0, 0)) (by (with_reducible repeat (first | refine blk_drewN ?_ _ | refine blk_drew ?_ | refine blk_alloc ?_ _)); refine blk_put (cs := #[.string ((rd_T30 l0 x8_1).f0), .string ((rd_T30 l0 x8_1).f1), .int .i64 0]) ?_ 2 _ rfl; (with_reducible repeat (first | refine blk_drewN ?_ _ | refine blk_drew ?_ | refine blk_alloc ?_ _)); refine blk_put (cs := #[.string ((rd_T30 l0 x8_1).f0), .string (⟨#[]⟩ : ByteArray), .int .i64 0]) ?_ 1 _ rfl; (with_reducible repeat (first | refine blk_drewN ?_ _ | refine blk_drew ?_ | refine blk_alloc ?_ _)); refine blk_put (cs := #[.string (⟨#[]⟩ : ByteArray), .string (⟨#[]⟩ : ByteArray), .int .i64 0]) ?_ 0 _ rfl; (with_reducible repeat (first | refine blk_drewN ?_ _ | refine blk_drew ?_ | refine blk_alloc ?_ _)); exact BK199.out) hb); have n2_ := Aside0.mk (below_step (by repeat (first | (with_reducible first | exact HB.out | apply below_alloc | apply pw_below_drewN | apply below_drew1 | refine below_set ?_ GE199.out) | exact HB.out)) hb); clear HO_3; clear BK199; clear HB; have HO_3 := n0_; have BK199 := n1_; have HB := n2_; clear n0_ n1_ n2_; (try clear hb); (try clear hb2); (try clear hk); (try clear hi)))
              go_ret
              exact ⟨by first | rfl | (simp [errW_none, errW_some] <;> rfl) | (simp [*, errW_none, errW_some] <;> rfl), by repeat (first | (with_reducible first | exact HB.out | apply below_alloc | apply pw_below_drewN | apply below_drew1 | refine below_set ?_ GE199.out) | exact HB.out)⟩
          · rw [if_neg c4] at H
            exact absurd H (by simp)
        · rw [if_neg c3] at H
          exact absurd H (by simp)
      · rw [if_neg c2] at H
        have c2b0 : decide (x8_1 < (l0.length : Int)) = false := decide_eq_false c2
        clear c2
        by_cases c23 : (l0.length : Int) > 64
        · rw [if_pos c23] at H
          have c23b0 : decide (64 < (l0.length : Int)) = true := decide_eq_true c23
          have c23b1 : decide (64 < l0.length) = true := decide_eq_true (by omega)
          clear c23
          obtain rfl := Option.some.inj H
          go_wp2
          go_ret
          exact ⟨by first | rfl | (simp [errW_none, errW_some] <;> rfl) | (simp [*, errW_none, errW_some] <;> rfl), by repeat (first | (with_reducible first | exact HB.out | apply below_alloc | apply pw_below_drewN | apply below_drew1) | exact HB.out)⟩
        · rw [if_neg c23] at H
          have c23b0 : decide (64 < (l0.length : Int)) = false := decide_eq_false c23
          have c23b1 : decide (64 < l0.length) = false := decide_eq_false (by omega)
          clear c23
          replace H := Option.bind_eq_some_iff.mp H
          obtain ⟨t197, A240, H⟩ := H
          replace H : (some t197) = some r := H
          have A24 := Aside0.mk A240
          clear A240
          obtain rfl := Option.some.inj H
          obtain ⟨Ao25, co25, eo25⟩ := Kd.S_slice HO_3.out
          subst eo25
          go_wp2_with (first | ((with_reducible refine gate_callee (f := 32) rfl ?_); refine goesL_ (some 36) rfl rfl Tryz.func32 (by kernel_rfl) rfl #[.slice Ao25 x3_1.length co25] rfl (by (try simp only [List.map_toArray, List.map_cons, List.map_nil]); first | done | rfl | (simp only [List.length_drop, List.length_take]; rfl)) ?_; (with_reducible refine (stanza_Print.calls _ _ x3_1 t197 _ ?side1 ?side2 ?side3 A24.out).mono ?_); (case side1 => repeat (first | exact (Kd.S_reads' HO_3.out).2.2 | (with_reducible refine Kd.C_alloc ?_ _) | (with_reducible refine Kd.C_drewN ?_ _) | (with_reducible refine Kd.C_drew ?_))); (case side2 => exact (Kd.S_reads' HO_3.out).2.1); (case side3 => exact HG_maxLen.out.below (by repeat (first | (with_reducible first | exact HB.out | apply below_alloc | apply pw_below_drewN | apply below_drew1) | exact HB.out))); rintro e w26 ⟨rfl, hb⟩; refine ⟨_, rfl, ?_⟩; have n0_ := Aside0.mk (Kd.S_below (by (with_reducible repeat (first | apply Kd.S_alloc | apply Kd.S_drewN | apply Kd.S_drew)); exact HO_3.out) hb); have n1_ := Aside0.mk (below_step (by repeat (first | (with_reducible first | exact HB.out | apply below_alloc | apply pw_below_drewN | apply below_drew1) | exact HB.out)) hb); clear HO_3; clear HB; have HO_3 := n0_; have HB := n1_; clear n0_ n1_; (try clear hb); (try clear hb2); (try clear hk); (try clear hi)))
          go_ret
          exact ⟨by first | rfl | (simp [errW_none, errW_some] <;> rfl) | (simp [*, errW_none, errW_some] <;> rfl), by repeat (first | (with_reducible first | exact HB.out | apply below_alloc | apply pw_below_drewN | apply below_drew1) | exact HB.out)⟩

end Go.Proofs.YtlcfpmdamehopaaGreatDoor.PA
/- Pins that have a text are parsed of it as they were; as plain functions. Conditions: sizes that fit. -/
namespace Go.Proofs.YtlcfpmdamehopaaGreatDoor.PA
open Go.RowKit Go.Proofs.YtlcfpmdamehopaaGreatDoorW.PrintWords Go.Proofs.YtlcfpmdamehopaaGreatDoorW.PrintLast Go.Proofs.YtlcfpmdamehopaaGreatDoorW.PrintMore

def printP (l : List Pn) : ByteArray := if l.all rightQ = true then (if l.length > 64 then ⟨#[]⟩ else printL (l.map stPin)) else ⟨#[]⟩
theorem name_size {x : ByteArray} (h : x = starB ∨ relL x.data.toList = true) : x.size ≤ 40 := by
  rcases h with rfl | h
  · decide
  · rw [← data_length]
    generalize x.data.toList = l at *
    cases l with
    | nil => exact Nat.zero_le _
    | cons c s =>
      rw [relL_cons] at h
      simp only [Bool.and_eq_true, decide_eq_true_iff] at h
      rw [List.length_cons]; omega
theorem dec_short : ∀ n : Nat, (Lib.decDigits n).length ≤ n / 10 + 1 := by
  intro n
  induction n using Nat.strongRecOn with
  | _ n ih =>
    rw [Lib.decDigits]
    split
    · simp
    · rename_i h
      have := ih (n / 10) (by omega)
      rw [List.length_append]; simp; omega
theorem itoa_size {z : Int} (h : -1000 ≤ z ∧ z ≤ 1000) : (itoaB z).size ≤ 102 := by
  rw [← data_length]
  show (Lib.itoa z).length ≤ 102
  unfold Lib.itoa
  split
  · have := dec_short z.natAbs
    rw [List.length_cons]; omega
  · have := dec_short z.toNat
    omega
theorem small_pins (l : List Pn) (hn : l.length ≤ 200) (h : ∀ p ∈ l, rightQ p = true) : SmallL (l.map stPin) := by
  refine ⟨by rw [List.length_map]; omega, ?_⟩
  intro st hst
  obtain ⟨p, hp, rfl⟩ := List.mem_map.1 hst
  obtain ⟨_, h2, h3, h4⟩ := right_parts (h p hp)
  have hx := name_size h2
  have hz := itoa_size h4
  refine ⟨show 3 ≤ 45 by decide, fun f hf => ?_⟩
  unfold stPin at hf
  simp only [List.mem_cons, List.not_mem_nil, or_false] at hf
  rcases hf with rfl | rfl | rfl
  · exact ⟨show kPack.size ≤ 100 by decide, by dsimp only; omega⟩
  · exact ⟨show kPin.size ≤ 100 by decide, by dsimp only; rw [pinV_size]; omega⟩
  · exact ⟨show kPrio.size ≤ 100 by decide, by dsimp only; omega⟩
theorem print8_loop (l : List Pn) (hn : l.length ≤ 200) (hs : ∀ p ∈ l, p.f1.size ≤ 1000000) (d : Nat) : ∀ i : Nat, i + d = l.length → (∀ p ∈ l.take i, rightQ p = true) →
    Ev (fun k => pins_Print.l0 k l ((l.take i).map stPin) l (l.length : Int) (i : Int)) (printP l) := by
  induction d with
  | zero =>
    intro i hi hb
    rw [List.take_of_length_le (by omega)] at hb ⊢
    have hall : l.all rightQ = true := List.all_eq_true.2 hb
    refine Ev.succ ?_
    simp only [pins_Print.l0]
    unfold printP
    rw [if_pos hall]
    refine Ev.neg (by omega) ?_
    by_cases h64 : l.length > 64
    · rw [if_pos h64]; exact Ev.pos (by omega) (Ev.some rfl)
    · rw [if_neg h64]
      have hf := small_fits (small_pins l (by omega) hb)
      refine Ev.neg (by omega) (Ev.call (show stanza_Print.f (l.map stPin) = some (printL (l.map stPin)) from ?_) (Ev.some rfl))
      unfold stanza_Print.f
      rw [if_pos hf]; rfl
  | succ d ih =>
    intro i hi hb
    have hil : i < l.length := by omega
    refine Ev.succ ?_
    simp only [pins_Print.l0]
    rw [wrap_step hil (by omega), rdP_nat l i hil]
    have hy := hs _ (List.getElem_mem hil)
    refine Ev.pos (by omega) (Ev.pos (by omega) (Ev.pos (by omega) (Ev.call (show pins_Right.f l[i].f0 l[i].f1 l[i].f2 = some (rightQ l[i]) from if_pos (by omega)) ?_)))
    by_cases hr : rightQ l[i] = true
    · obtain ⟨_, _, _, h4⟩ := right_parts hr
      refine Ev.pos hr (Ev.pos (by omega) (Ev.pos (by rw [ByteArray.size_append, show (⟨#[118, 101, 114, 115, 105, 111, 110, 32]⟩ : ByteArray).size = 8 from rfl]; omega) (Ev.call (show strconv_Itoa.f l[i].f2 = some (itoaB l[i].f2) from if_pos (by omega)) (Ev.pos (by rw [List.length_map, List.length_take]; omega) ?_))))
      have hnext := ih (i + 1) (by omega) (fun p hp => by
        rw [List.take_succ_eq_append_getElem hil] at hp
        rcases List.mem_append.1 hp with hp | hp
        · exact hb p hp
        · rw [List.mem_singleton.1 hp]; exact hr)
      rw [List.take_succ_eq_append_getElem hil, List.map_append] at hnext
      exact hnext
    · refine Ev.neg hr (Ev.some ?_)
      unfold printP
      rw [if_neg (fun h => hr (List.all_eq_true.1 h _ (List.getElem_mem hil)))]
theorem print8_ev (l : List Pn) (hn : l.length ≤ 200) (hs : ∀ p ∈ l, p.f1.size ≤ 1000000) : Ev (fun k => pins_Print.f k l) (printP l) := by
  unfold pins_Print.f
  exact print8_loop l hn hs l.length 0 (by omega) (fun p hp => by simp at hp)
theorem refprint8_loop (l : List Pn) (hn : l.length ≤ 200) (hs : ∀ p ∈ l, p.f0.size ≤ 1000000 ∧ p.f1.size ≤ 1000000) (d : Nat) : ∀ i : Nat, i + d = l.length → (∀ p ∈ l.take i, rightQ p = true) →
    Ev (fun k => keelsonref8_Print.l0 k l ((l.take i).map stPin) (i : Int)) (printP l) := by
  induction d with
  | zero =>
    intro i hi hb
    rw [List.take_of_length_le (by omega)] at hb ⊢
    have hall : l.all rightQ = true := List.all_eq_true.2 hb
    refine Ev.succ ?_
    simp only [keelsonref8_Print.l0]
    unfold printP
    rw [if_pos hall]
    refine Ev.neg (by omega) ?_
    by_cases h64 : l.length > 64
    · rw [if_pos h64]; exact Ev.pos (by omega) (Ev.some rfl)
    · rw [if_neg h64]
      exact Ev.neg (by omega) (Ev.bind (refprint_ev _ (small_pins l (by omega) hb)) (Ev.some rfl))
  | succ d ih =>
    intro i hi hb
    have hil : i < l.length := by omega
    refine Ev.succ ?_
    simp only [keelsonref8_Print.l0]
    rw [wrap_step hil (by omega), rdP_nat l i hil]
    have hy := hs _ (List.getElem_mem hil)
    refine Ev.pos (by omega) (Ev.pos (by omega) (Ev.bind (refright8_ev l[i].f0 l[i].f1 l[i].f2 (by omega) (by omega)) ?_))
    by_cases hr : rightQ l[i] = true
    · obtain ⟨_, _, _, h4⟩ := right_parts hr
      refine Ev.pos hr (Ev.pos (by omega) (Ev.pos (by rw [ByteArray.size_append, show (⟨#[118, 101, 114, 115, 105, 111, 110, 32]⟩ : ByteArray).size = 8 from rfl]; omega) (Ev.bind (decimal8_ev l[i].f2 (by omega) (by omega)) (Ev.pos (by rw [List.length_map, List.length_take]; omega) ?_))))
      have hnext := ih (i + 1) (by omega) (fun p hp => by
        rw [List.take_succ_eq_append_getElem hil] at hp
        rcases List.mem_append.1 hp with hp | hp
        · exact hb p hp
        · rw [List.mem_singleton.1 hp]; exact hr)
      rw [List.take_succ_eq_append_getElem hil, List.map_append] at hnext
      exact hnext
    · refine Ev.neg hr (Ev.some ?_)
      unfold printP
      rw [if_neg (fun h => hr (List.all_eq_true.1 h _ (List.getElem_mem hil)))]
theorem refprint8_ev (l : List Pn) (hn : l.length ≤ 200) (hs : ∀ p ∈ l, p.f0.size ≤ 1000000 ∧ p.f1.size ≤ 1000000) : Ev (fun k => keelsonref8_Print.f k l) (printP l) := by
  unfold keelsonref8_Print.f
  exact refprint8_loop l hn hs l.length 0 (by omega) (fun p hp => by simp at hp)
/-! ### What was printed is parsed as it was -/
end Go.Proofs.YtlcfpmdamehopaaGreatDoor.PA
-- Printed by gprint.py (wip/ of this repo), over the kit's print.
namespace Go.Proofs.YtlcfpmdamehopaaGreatDoor.PA
open Go.RowKit Go.Proofs.YtlcfpmdamehopaaGreatDoorW.PrintWords Go.Proofs.YtlcfpmdamehopaaGreatDoorW.PrintLast Go.Proofs.YtlcfpmdamehopaaGreatDoorW.PrintMore
attribute [local go_sem] max2_int min2_int max_two min_two max_three min_three max_four min_four   -- for this text's walks alone
set_option linter.unusedVariables false
set_option linter.unusedSimpArgs false

/-! ### keelsonlaw8_PinsPrints: function 4 -/
def keelsonlaw8_PinsPrints.j0 : Nat → List (S30) → Bool → Bool → ByteArray → ByteArray → Int → Option (Bool)
  | 0, _, _, _, _, _, _ => none
  | k + 1, x1, x5, x20, x251000, x251001, x251002 => if x20 = true then (some x5) else ((pins_Right.f x251000 x251001 x251002).bind fun t265 => ((keelsonref8_Right.f k x251000 x251001 x251002).bind fun t266 => (if (t265 == t266) = true then ((pins_Print.f k x1).bind fun t267 => ((keelsonref8_Print.f k x1).bind fun t268 => (some (t267.toList == t268.toList)))) else (none))))
def keelsonlaw8_PinsPrints.f (k : Nat) (a0_0 : ByteArray) (a0_1 : ByteArray) (a0_2 : Int) (l1 : List (S30)) : Option (Bool) := (keelsonlaw8_shown.f k).bind fun t251 => ((some (([] : List (S30)) : List (S30))).bind fun y252 => (if y252.length + l1.length < 3518437208883 then ((some (y252 ++ l1 : List (S30))).bind fun y255 => ((some (([(⟨a0_0, a0_1, a0_2⟩ : S30)] : List (S30)) : List (S30))).bind fun y258 => (if y255.length + y258.length < 3518437208883 then ((keelsonlaw8_small.f k (y255 ++ y258)).bind fun t264 => (if t251 = true then (keelsonlaw8_PinsPrints.j0 k l1 t251 (!t264) a0_0 a0_1 a0_2) else (keelsonlaw8_PinsPrints.j0 k l1 t251 true a0_0 a0_1 a0_2))) else (none)))) else (none)))
def keelsonlaw8_PinsPrints.T2 : Bool × List (List Nat × List Nat) := (true, [([], []), ([], []), ([0, 1], [0, 1]), ([], []), ([3], [3]), ([2, 4, 2], [2, 4]), ([5, 5], [5]), ([6, 6, 0, 1, 2, 3, 4, 5, 6], [6])])
def keelsonlaw8_PinsPrints.B2 : List Nat := [0, 0, 3, 0, 8, 31, 63, 127]
theorem keelsonlaw8_PinsPrints.tab2 : rtab .any (opsOf Tryz.f4 2) = keelsonlaw8_PinsPrints.T2 := by kernel_rfl
theorem keelsonlaw8_PinsPrints.bits2 : waitsOk keelsonlaw8_PinsPrints.T2.2 keelsonlaw8_PinsPrints.B2 = true := by kernel_rfl
def keelsonlaw8_PinsPrints.T5 : Bool × List (List Nat × List Nat) := (true, [([], []), ([0], [0]), ([], []), ([2, 1], [2]), ([1, 3], [1, 3]), ([4, 3], [4]), ([5], [5]), ([6, 5, 5], [5, 6]), ([5], [5]), ([8, 7, 5], [5, 8]), ([7, 9, 5], [5, 7, 9]), ([5, 10], [5, 10]), ([11, 9, 0, 1, 2, 3, 4, 5, 6, 7, 8, 9, 10, 11], [11])])
def keelsonlaw8_PinsPrints.B5 : List Nat := [0, 1, 0, 7, 15, 31, 63, 127, 63, 511, 1023, 2047, 4095]
theorem keelsonlaw8_PinsPrints.tab5 : rtab .any (opsOf Tryz.f4 5) = keelsonlaw8_PinsPrints.T5 := by kernel_rfl
theorem keelsonlaw8_PinsPrints.bits5 : waitsOk keelsonlaw8_PinsPrints.T5.2 keelsonlaw8_PinsPrints.B5 = true := by kernel_rfl
set_option maxHeartbeats 8000000 in
set_option maxRecDepth 100000 in
theorem keelsonlaw8_PinsPrints.calls (k : Nat) (a0_0 : ByteArray) (a0_1 : ByteArray) (a0_2 : Int) (A1 : Option Addr) (c1 : Nat) (l1 : List (S30)) (r : Bool) (w : World) (hr1 : Kd.C k30 w A1 l1.length l1) (hc1 : l1.length ≤ c1) (hG_maxLen : GlobMaxLen w) (hG_numErr : GlobNumErr w) (hG_pow10 : GlobPow10 w) (h : keelsonlaw8_PinsPrints.f k a0_0 a0_1 a0_2 l1 = some r) :
    Calls Tryz.prog 4 #[.agg #[.string a0_0, .string a0_1, .int .i64 a0_2], .slice A1 l1.length c1] w fun e w' => e = .returned (.bool r) ∧ Below w.heap.size w w' := by
  have hu30 := Tryz.underlying30
  have HG_maxLen := Aside0.mk hG_maxLen
  clear hG_maxLen
  have HG_numErr := Aside0.mk hG_numErr
  clear hG_numErr
  have HG_pow10 := Aside0.mk hG_pow10
  clear hG_pow10
  have HR1 := Aside0.mk hr1
  have HC1 := Aside0.mk hc1
  clear hr1 hc1
  have HB := Aside0.mk (Below.refl w.heap.size w)
  have H : ((keelsonlaw8_shown.f k).bind fun t251 => ((some (([] : List (S30)) : List (S30))).bind fun y252 => (if y252.length + l1.length < 3518437208883 then ((some (y252 ++ l1 : List (S30))).bind fun y255 => ((some (([(⟨a0_0, a0_1, a0_2⟩ : S30)] : List (S30)) : List (S30))).bind fun y258 => (if y255.length + y258.length < 3518437208883 then ((keelsonlaw8_small.f k (y255 ++ y258)).bind fun t264 => (if t251 = true then (keelsonlaw8_PinsPrints.j0 k l1 t251 (!t264) a0_0 a0_1 a0_2) else (keelsonlaw8_PinsPrints.j0 k l1 t251 true a0_0 a0_1 a0_2))) else (none)))) else (none)))) = some r := h
  clear h
  replace H := Option.bind_eq_some_iff.mp H
  obtain ⟨t251, A30, H⟩ := H
  replace H : ((some (([] : List (S30)) : List (S30))).bind fun y252 => (if y252.length + l1.length < 3518437208883 then ((some (y252 ++ l1 : List (S30))).bind fun y255 => ((some (([(⟨a0_0, a0_1, a0_2⟩ : S30)] : List (S30)) : List (S30))).bind fun y258 => (if y255.length + y258.length < 3518437208883 then ((keelsonlaw8_small.f k (y255 ++ y258)).bind fun t264 => (if t251 = true then (keelsonlaw8_PinsPrints.j0 k l1 t251 (!t264) a0_0 a0_1 a0_2) else (keelsonlaw8_PinsPrints.j0 k l1 t251 true a0_0 a0_1 a0_2))) else (none)))) else (none))) = some r := H
  have A3 := Aside0.mk A30
  clear A30
  obtain ⟨y252, hy252⟩ : ∃ y_ : List (S30), y_ = (([] : List (S30))) := ⟨_, rfl⟩
  replace H : (if y252.length + l1.length < 3518437208883 then ((some (y252 ++ l1 : List (S30))).bind fun y255 => ((some (([(⟨a0_0, a0_1, a0_2⟩ : S30)] : List (S30)) : List (S30))).bind fun y258 => (if y255.length + y258.length < 3518437208883 then ((keelsonlaw8_small.f k (y255 ++ y258)).bind fun t264 => (if t251 = true then (keelsonlaw8_PinsPrints.j0 k l1 t251 (!t264) a0_0 a0_1 a0_2) else (keelsonlaw8_PinsPrints.j0 k l1 t251 true a0_0 a0_1 a0_2))) else (none)))) else (none)) = some r := by first | (rw [hy252]; with_reducible exact H) | (have H2_ := (Option.bind_some _ _).symm.trans H; rw [hy252]; with_reducible exact H2_) | (have H2_ := (Option.bind_some _ _).symm.trans H; with_reducible exact H2_) | with_reducible exact H | (rw [hy252]; exact H) | exact H
  have Ny252 := Aside0.mk hy252
  clear hy252
  by_cases c4 : y252.length + l1.length < 3518437208883
  · rw [if_pos c4] at H
    have LMc4 := Aside0.mk c4
    clear c4
    obtain ⟨y255, hy255⟩ : ∃ y_ : List (S30), y_ = (y252 ++ l1) := ⟨_, rfl⟩
    replace H : ((some (([(⟨a0_0, a0_1, a0_2⟩ : S30)] : List (S30)) : List (S30))).bind fun y258 => (if y255.length + y258.length < 3518437208883 then ((keelsonlaw8_small.f k (y255 ++ y258)).bind fun t264 => (if t251 = true then (keelsonlaw8_PinsPrints.j0 k l1 t251 (!t264) a0_0 a0_1 a0_2) else (keelsonlaw8_PinsPrints.j0 k l1 t251 true a0_0 a0_1 a0_2))) else (none))) = some r := by first | (rw [hy255]; with_reducible exact H) | (have H2_ := (Option.bind_some _ _).symm.trans H; rw [hy255]; with_reducible exact H2_) | (have H2_ := (Option.bind_some _ _).symm.trans H; with_reducible exact H2_) | with_reducible exact H | (rw [hy255]; exact H) | exact H
    have Ny255 := Aside0.mk hy255
    clear hy255
    obtain ⟨y258, hy258⟩ : ∃ y_ : List (S30), y_ = (([(⟨a0_0, a0_1, a0_2⟩ : S30)] : List (S30))) := ⟨_, rfl⟩
    replace H : (if y255.length + y258.length < 3518437208883 then ((keelsonlaw8_small.f k (y255 ++ y258)).bind fun t264 => (if t251 = true then (keelsonlaw8_PinsPrints.j0 k l1 t251 (!t264) a0_0 a0_1 a0_2) else (keelsonlaw8_PinsPrints.j0 k l1 t251 true a0_0 a0_1 a0_2))) else (none)) = some r := by first | (rw [hy258]; with_reducible exact H) | (have H2_ := (Option.bind_some _ _).symm.trans H; rw [hy258]; with_reducible exact H2_) | (have H2_ := (Option.bind_some _ _).symm.trans H; with_reducible exact H2_) | with_reducible exact H | (rw [hy258]; exact H) | exact H
    have Ny258 := Aside0.mk hy258
    clear hy258
    by_cases c5 : y255.length + y258.length < 3518437208883
    · rw [if_pos c5] at H
      have LMc5 := Aside0.mk c5
      clear c5
      obtain ⟨y261, hy261⟩ : ∃ y_ : List (S30), y_ = (y255 ++ y258) := ⟨_, rfl⟩
      replace H : ((keelsonlaw8_small.f k y261).bind fun t264 => (if t251 = true then (keelsonlaw8_PinsPrints.j0 k l1 t251 (!t264) a0_0 a0_1 a0_2) else (keelsonlaw8_PinsPrints.j0 k l1 t251 true a0_0 a0_1 a0_2))) = some r := by first | (rw [hy261]; with_reducible exact H) | (have H2_ := (Option.bind_some _ _).symm.trans H; rw [hy261]; with_reducible exact H2_) | (have H2_ := (Option.bind_some _ _).symm.trans H; with_reducible exact H2_) | with_reducible exact H | (rw [hy261]; exact H) | exact H
      have Ny261 := Aside0.mk hy261
      clear hy261
      replace H := Option.bind_eq_some_iff.mp H
      obtain ⟨t264, A60, H⟩ := H
      replace H : (if t251 = true then (keelsonlaw8_PinsPrints.j0 k l1 t251 (!t264) a0_0 a0_1 a0_2) else (keelsonlaw8_PinsPrints.j0 k l1 t251 true a0_0 a0_1 a0_2)) = some r := H
      have A6 := Aside0.mk A60
      clear A60
      have HC7 := Aside0.mk H
      clear H
      go_enter Tryz.func4, Tryz.ntmps4
      try go_wp2_with (first | ((with_reducible refine gate_dst (N := 2) rfl ?_); refine box_event ?hg (N := 2) ?hd (cs := #[.string a0_0, .string a0_1, .int .i64 a0_2]) (t := 30) ?hr ?_; (case hd => rfl); (case hg => rfl); (case hr => first | (go_simp; done) | (go_simp; rfl)); intro gb250 hg w8 hbox hb; have n0_ := Aside0.mk (below_step (by repeat (first | (with_reducible first | exact HB.out | apply below_alloc | apply pw_below_drewN | apply below_drew1) | exact HB.out)) hb); have n1_ := Aside0.mk (hbox); have n2_ := Aside0.mk ((by rw [hg]; exact (below_size (by repeat (first | (with_reducible first | exact HB.out | apply below_alloc | apply pw_below_drewN | apply below_drew1) | exact HB.out))) : w.heap.size ≤ gb250)); have n3_ := Aside0.mk ((by rw [hg]; exact (below_size (by repeat (first | (with_reducible first | exact HB.out | apply below_alloc | apply pw_below_drewN | apply below_drew1) | exact HB.out))) : w.heap.size ≤ gb250)); clear HB; have HB := n0_; have BK250 := n1_; have GW250 := n2_; have GE250 := n3_; clear n0_ n1_ n2_ n3_; clear hb hbox hg) | ((with_reducible refine gate_callee (f := 7) rfl ?_); refine goesL_ (some 7) rfl rfl Tryz.func7 (by kernel_rfl) rfl #[] rfl (by (try simp only [List.map_toArray, List.map_cons, List.map_nil]); first | done | rfl | (simp only [List.length_drop, List.length_take]; rfl)) ?_; (with_reducible refine (keelsonlaw8_shown.calls k  t251 _ ?side1 ?side2 ?side3 A3.out).mono ?_); (case side1 => exact HG_maxLen.out.below (by repeat (first | (with_reducible first | exact HB.out | apply below_alloc | apply pw_below_drewN | apply below_drew1 | refine below_set ?_ GE250.out) | exact HB.out))); (case side2 => exact HG_numErr.out.below (by repeat (first | (with_reducible first | exact HB.out | apply below_alloc | apply pw_below_drewN | apply below_drew1 | refine below_set ?_ GE250.out) | exact HB.out))); (case side3 => exact HG_pow10.out.below (by repeat (first | (with_reducible first | exact HB.out | apply below_alloc | apply pw_below_drewN | apply below_drew1 | refine below_set ?_ GE250.out) | exact HB.out))); rintro e w9 ⟨rfl, hb⟩; refine ⟨_, rfl, ?_⟩; have n0_ := Aside0.mk (blk_below (g := gb250) (o := .cells #[.string a0_0, .string a0_1, .int .i64 a0_2] 30 (0, 0)) (by (with_reducible repeat (first | refine blk_drewN ?_ _ | refine blk_drew ?_ | refine blk_alloc ?_ _)); exact BK250.out) hb); have n1_ := Aside0.mk (below_step (by repeat (first | (with_reducible first | exact HB.out | apply below_alloc | apply pw_below_drewN | apply below_drew1 | refine below_set ?_ GE250.out) | exact HB.out)) hb); clear BK250; clear HB; have BK250 := n0_; have HB := n1_; clear n0_ n1_; (try clear hb); (try clear hb2); (try clear hk); (try clear hi)))
      have n0_ := Aside0.mk (blk_drew BK250.out)
      have n1_ := Aside0.mk (below_drew1 HB.out)
      clear BK250
      clear HB
      have BK250 := n0_
      have HB := n1_
      clear n0_ n1_
      refine start_ (n := 8) (S := fun w' => w'.cell? ⟨gb250, 0, none⟩ = some (.string a0_0) ∧ w'.cell? ⟨gb250, 1, none⟩ = some (.string a0_1) ∧ w'.cell? ⟨gb250, 2, none⟩ = some (.int .i64 a0_2)) (ds := []) #[false, false, false, false, false, false, false, false] (by kernel_rfl) rfl rfl ⟨(blk_cell BK250.out 0).trans rfl, (blk_cell BK250.out 1).trans rfl, (blk_cell BK250.out 2).trans rfl⟩ (fun hHeld => ?_); refine with_tabW keelsonlaw8_PinsPrints.tab2 keelsonlaw8_PinsPrints.bits2 (fun HT_ HW_ => ?_)
      generalize w9.drew = w10 at BK250 HB hHeld ⊢
      refine pure_ (i := 1) (N := some 9) (v := ?_) (a' := ?_) #[false, true, false, false, false, false, false, false] rfl rfl (any_of HT_.out (by kernel_rfl)) (fun _ _ _ h => h) (Or.inl ⟨by rfl, ?_⟩) ?_ ?_
      rotate_left
      · intro w'
        go_simp
        with_reducible rfl
      rotate_left
      · simp only [Act.put, List.setIfInBounds_toArray, List.set_cons_zero, List.set_cons_succ, i64_w, i32_w]
        rfl
      refine take_ (i := 3) (N := some 11) (v := ?_) (a' := ?_) #[false, true, false, true, false, false, false, false] rfl rfl (take_ofW HT_.out HW_.out (by kernel_rfl)) (fun _ _ _ h => h) (Or.inl ⟨by rfl, ?_⟩) hHeld ?_ ?_
      rotate_left
      · rintro w' ⟨s0, s1, s2⟩
        go_simp
        with_reducible rfl
      rotate_left
      · simp only [Act.put, List.setIfInBounds_toArray, List.set_cons_zero, List.set_cons_succ, i64_w, i32_w]
        rfl
      refine join_ (σ := Value × Value × Value) 3 #[true, true, true, true, true, false, false, false] (fun s_ => [(8, s_.1), (10, s_.2.1), (12, s_.2.2)]) (fun s_ w' => (w'.cell? ⟨gb250, 0, none⟩ = some (.string a0_0) ∧ w'.cell? ⟨gb250, 1, none⟩ = some (.string a0_1) ∧ w'.cell? ⟨gb250, 2, none⟩ = some (.int .i64 a0_2)) ∧ (Kd.R k30 30 w' w.heap.size (fun k_ => some k_ ≠ (s_.2.2 : Value).ownBlock ∧ k_ ≠ gb250) s_.2.1 y255) ∧ (Kd.R k30 30 w' w.heap.size (fun k_ => some k_ ≠ (s_.2.1 : Value).ownBlock ∧ k_ ≠ gb250) s_.2.2 y258) ∧ (w'.heap[gb250]? = some (.cells #[.string a0_0, .string a0_1, .int .i64 a0_2] 30 (0, 0))) ∧ (Below w.heap.size w w')) ?_ ?_
      rotate_left
      · intro hCont
        refine two_ (i := 0) (j := 4) (Ni := some 8) (Nj := some 12) #[true, true, false, true, false, false, false, false] #[false, true, false, true, true, false, false, false] rfl rfl rfl rfl (two_of HT_.out (by kernel_rfl)) (by decide) (by decide) (fun K hK => ?_) (fun K hK => ?_)
        · skip
          refine Kd.R_lit_step k30 _ 30 ?hg (N := 8) ?hd (xs := ([] : List (S30))) (inner := []) (ok := fun _ => True) (okp := fun _ => True) ?hr ?hp (fun _ hk => hk) trivial (Below.refl _ _) (Nat.le_refl _) (by simp) ?_; (case hd => rfl); (case hg => rfl); (case hr => first | (go_simp; done) | (go_simp; rfl)); (case hp => exact (Reps.none _ _))
          intro v253 w11 ho12 hb hg_ hnew_
          clear hg_ hnew_
          (first | rw [← Ny252.out] at ho12 | (simp only [Int.reduceToNat] at ho12; rw [← Ny252.out] at ho12))
          have n0_ := Aside0.mk (Kd.R_lower (Kd.R_newB ho12 (g := gb250) (o := .cells #[.string a0_0, .string a0_1, .int .i64 a0_2] 30 (0, 0)) (by (with_reducible repeat (first | refine blk_drewN ?_ _ | refine blk_drew ?_ | refine blk_alloc ?_ _)); exact BK250.out)) (below_size (by repeat (first | (with_reducible first | exact HB.out | apply below_alloc | apply pw_below_drewN | apply below_drew1 | refine below_set ?_ GE250.out) | exact HB.out))))
          have n1_ := Aside0.mk (blk_below (g := gb250) (o := .cells #[.string a0_0, .string a0_1, .int .i64 a0_2] 30 (0, 0)) (by (with_reducible repeat (first | refine blk_drewN ?_ _ | refine blk_drew ?_ | refine blk_alloc ?_ _)); exact BK250.out) hb)
          have n2_ := Aside0.mk (below_step (by repeat (first | (with_reducible first | exact HB.out | apply below_alloc | apply pw_below_drewN | apply below_drew1 | refine below_set ?_ GE250.out) | exact HB.out)) hb)
          clear BK250
          clear HB
          have HO254 := n0_
          have BK250 := n1_
          have HB := n2_
          clear n0_ n1_ n2_
          clear hb ho12
          refine hK.out _ _ ⟨(blk_cell BK250.out 0).trans rfl, (blk_cell BK250.out 1).trans rfl, (blk_cell BK250.out 2).trans rfl⟩ (fun hHeld => ?_)
          clear hK K
          refine norm_ (a' := ?_) ?_ ?_
          rotate_left
          · show Act.put _ (some 8) _ = _
            simp only [Act.put, List.setIfInBounds_toArray, List.set_cons_zero, List.set_cons_succ, i64_w, i32_w]
            rfl
          refine two_ (i := 2) (j := 4) (Ni := some 10) (Nj := some 12) #[true, true, true, true, false, false, false, false] #[true, true, false, true, true, false, false, false] rfl rfl rfl rfl (two_of HT_.out (by kernel_rfl)) (by decide) (by decide) (fun K hK => ?_) (fun K hK => ?_)
          · skip
            refine Kd.R_append_rows_step k30 (w0 := w) w.heap.size (by rfl) (.tmp 8) (.tmp 9) 23 30 (.agg #[(.string ⟨#[]⟩), (.string ⟨#[]⟩), (.int .i64 0)]) 40 rfl Tryz.underlying23 info30 rfl (by decide) (by omega) v253 y252 l1 _ _ _ (fun k_ => k_ ≠ gb250) (fun _ => False) rfl rfl ?aO ?aR (fun _ _ h => h) (fun _ h => h.elim) ?aF ?aB ?aS ?aL ?_
            (case aR => repeat (first | exact (Kd.C_below HR1.out HB.out) | (with_reducible refine Kd.C_alloc ?_ _) | (with_reducible refine Kd.C_drewN ?_ _) | (with_reducible refine Kd.C_drew ?_)))
            (case aB => exact (by repeat (first | (with_reducible first | exact HB.out | apply below_alloc | apply pw_below_drewN | apply below_drew1 | refine below_set ?_ GE250.out) | exact HB.out)))
            (case aF => exact (fun k_ hk => Kd.freshB (g := gb250) (o := .cells #[.string a0_0, .string a0_1, .int .i64 a0_2] 30 (0, 0)) (by (with_reducible repeat (first | refine blk_drewN ?_ _ | refine blk_drew ?_ | refine blk_alloc ?_ _)); exact BK250.out) k_ hk))
            (case aO => exact (by (with_reducible repeat (first | apply Kd.R_alloc | apply Kd.R_drewN | apply Kd.R_drew)); exact Kd.R_mono HO254.out (fun _ hk => hk.2)))
            (case aS => exact (below_size (by repeat (first | (with_reducible first | exact HB.out | apply below_alloc | apply pw_below_drewN | apply below_drew1 | refine below_set ?_ GE250.out) | exact HB.out))))
            (case aL => have := LMc4.out; omega)
            intro v256 w13 ho hb hg hat
            rw [← Ny255.out] at ho
            have n0_ := Aside0.mk (blk_grown (g := gb250) (o := .cells #[.string a0_0, .string a0_1, .int .i64 a0_2] 30 (0, 0)) (by (with_reducible repeat (first | refine blk_drewN ?_ _ | refine blk_drew ?_ | refine blk_alloc ?_ _)); exact BK250.out) hg (Kd.R_away HO254.out (fun _ hk => hk.2)))
            have n1_ := Aside0.mk (hb)
            have n2_ := Aside0.mk (ho)
            clear BK250
            clear HB
            clear HO254
            have BK250 := n0_
            have HB := n1_
            have HO257 := n2_
            clear n0_ n1_ n2_
            clear ho hb hg hat
            refine hK.out _ _ ⟨(blk_cell BK250.out 0).trans rfl, (blk_cell BK250.out 1).trans rfl, (blk_cell BK250.out 2).trans rfl⟩ (fun hHeld => ?_)
            clear hK K
            refine norm_ (a' := ?_) ?_ ?_
            rotate_left
            · show Act.put _ (some 10) _ = _
              simp only [Act.put, List.setIfInBounds_toArray, List.set_cons_zero, List.set_cons_succ, i64_w, i32_w]
              rfl
            refine one_ (i := 4) (N := some 12) #[true, true, true, true, true, false, false, false] rfl rfl (one_of HT_.out (by kernel_rfl)) (by decide) (fun K hK => ?_)
            refine Kd.R_lit_step k30 _ 30 ?hg (N := 12) ?hd (xs := ([(⟨a0_0, a0_1, a0_2⟩ : S30)] : List (S30))) (inner := [.string a0_0, .string a0_1, .int .i64 a0_2]) (ok := fun _ => True) (okp := fun _ => True) ?hr ?hp (fun _ hk => hk) trivial (Below.refl _ _) (Nat.le_refl _) (by simp) ?_; (case hd => rfl); (case hg => rfl); (case hr => first | (go_simp; done) | (go_simp; rfl)); (case hp => exact (Reps.c3 (show Kd.M k30 _ _ _ (⟨a0_0, a0_1, a0_2⟩ : S30) [.string a0_0, .string a0_1, .int .i64 a0_2] from (k30_mkM _ _ _ (⟨a0_0, a0_1, a0_2⟩ : S30) )) (Reps.none _ _)))
            intro v259 w14 ho15 hb hg_ hnew_
            clear hg_ hnew_
            (first | rw [← Ny258.out] at ho15 | (simp only [Int.reduceToNat] at ho15; rw [← Ny258.out] at ho15))
            have n0_ := Aside0.mk (Kd.R_elder' (by (with_reducible repeat (first | apply Kd.R_alloc | apply Kd.R_drewN | apply Kd.R_drew)); exact HO257.out) (Kd.R_base ho15) hb)
            have n1_ := Aside0.mk (Kd.R_lower (Kd.R_newB (Kd.R_new' ho15 (Kd.R_lt (by (with_reducible repeat (first | apply Kd.R_alloc | apply Kd.R_drewN | apply Kd.R_drew)); exact HO257.out))) (g := gb250) (o := .cells #[.string a0_0, .string a0_1, .int .i64 a0_2] 30 (0, 0)) (by (with_reducible repeat (first | refine blk_drewN ?_ _ | refine blk_drew ?_ | refine blk_alloc ?_ _)); exact BK250.out)) (below_size (by repeat (first | (with_reducible first | exact HB.out | apply below_alloc | apply pw_below_drewN | apply below_drew1 | refine below_set ?_ GE250.out) | exact HB.out))))
            have n2_ := Aside0.mk (blk_below (g := gb250) (o := .cells #[.string a0_0, .string a0_1, .int .i64 a0_2] 30 (0, 0)) (by (with_reducible repeat (first | refine blk_drewN ?_ _ | refine blk_drew ?_ | refine blk_alloc ?_ _)); exact BK250.out) hb)
            have n3_ := Aside0.mk (below_step (by repeat (first | (with_reducible first | exact HB.out | apply below_alloc | apply pw_below_drewN | apply below_drew1 | refine below_set ?_ GE250.out) | exact HB.out)) hb)
            clear HO257
            clear BK250
            clear HB
            have HO257 := n0_
            have HO260 := n1_
            have BK250 := n2_
            have HB := n3_
            clear n0_ n1_ n2_ n3_
            clear hb ho15
            refine hK.out _ _ ⟨(blk_cell BK250.out 0).trans rfl, (blk_cell BK250.out 1).trans rfl, (blk_cell BK250.out 2).trans rfl⟩ (fun hHeld => ?_)
            clear hK K
            refine norm_ (a' := ?_) ?_ ?_
            rotate_left
            · show Act.put _ (some 12) _ = _
              simp only [Act.put, List.setIfInBounds_toArray, List.set_cons_zero, List.set_cons_succ, i64_w, i32_w]
              rfl
            exact norm_ (by simp only [putAll, Act.put, List.setIfInBounds_toArray, List.set_cons_zero, List.set_cons_succ]) (hCont (v253, v256, v259) _ ⟨hHeld, (by (with_reducible repeat (first | apply Kd.R_alloc | apply Kd.R_drewN | apply Kd.R_drew)); exact Kd.R_mono HO257.out (fun _ hk => ⟨hk.2, hk.1⟩)), (by (with_reducible repeat (first | apply Kd.R_alloc | apply Kd.R_drewN | apply Kd.R_drew)); exact Kd.R_mono HO260.out (fun _ hk => ⟨hk.1.2, hk.2⟩)), (by (with_reducible repeat (first | refine blk_drewN ?_ _ | refine blk_drew ?_ | refine blk_alloc ?_ _)); exact BK250.out), (by repeat (first | (with_reducible first | exact HB.out | apply below_alloc | apply pw_below_drewN | apply below_drew1 | refine below_set ?_ GE250.out) | exact HB.out))⟩)
          · skip
            refine Kd.R_lit_step k30 _ 30 ?hg (N := 12) ?hd (xs := ([(⟨a0_0, a0_1, a0_2⟩ : S30)] : List (S30))) (inner := [.string a0_0, .string a0_1, .int .i64 a0_2]) (ok := fun _ => True) (okp := fun _ => True) ?hr ?hp (fun _ hk => hk) trivial (Below.refl _ _) (Nat.le_refl _) (by simp) ?_; (case hd => rfl); (case hg => rfl); (case hr => first | (go_simp; done) | (go_simp; rfl)); (case hp => exact (Reps.c3 (show Kd.M k30 _ _ _ (⟨a0_0, a0_1, a0_2⟩ : S30) [.string a0_0, .string a0_1, .int .i64 a0_2] from (k30_mkM _ _ _ (⟨a0_0, a0_1, a0_2⟩ : S30) )) (Reps.none _ _)))
            intro v259 w13 ho14 hb hg_ hnew_
            clear hg_ hnew_
            (first | rw [← Ny258.out] at ho14 | (simp only [Int.reduceToNat] at ho14; rw [← Ny258.out] at ho14))
            have n0_ := Aside0.mk (Kd.R_elder' (by (with_reducible repeat (first | apply Kd.R_alloc | apply Kd.R_drewN | apply Kd.R_drew)); exact HO254.out) (Kd.R_base ho14) hb)
            have n1_ := Aside0.mk (Kd.R_lower (Kd.R_newB (Kd.R_new' ho14 (Kd.R_lt (by (with_reducible repeat (first | apply Kd.R_alloc | apply Kd.R_drewN | apply Kd.R_drew)); exact HO254.out))) (g := gb250) (o := .cells #[.string a0_0, .string a0_1, .int .i64 a0_2] 30 (0, 0)) (by (with_reducible repeat (first | refine blk_drewN ?_ _ | refine blk_drew ?_ | refine blk_alloc ?_ _)); exact BK250.out)) (below_size (by repeat (first | (with_reducible first | exact HB.out | apply below_alloc | apply pw_below_drewN | apply below_drew1 | refine below_set ?_ GE250.out) | exact HB.out))))
            have n2_ := Aside0.mk (blk_below (g := gb250) (o := .cells #[.string a0_0, .string a0_1, .int .i64 a0_2] 30 (0, 0)) (by (with_reducible repeat (first | refine blk_drewN ?_ _ | refine blk_drew ?_ | refine blk_alloc ?_ _)); exact BK250.out) hb)
            have n3_ := Aside0.mk (below_step (by repeat (first | (with_reducible first | exact HB.out | apply below_alloc | apply pw_below_drewN | apply below_drew1 | refine below_set ?_ GE250.out) | exact HB.out)) hb)
            clear HO254
            clear BK250
            clear HB
            have HO254 := n0_
            have HO260 := n1_
            have BK250 := n2_
            have HB := n3_
            clear n0_ n1_ n2_ n3_
            clear hb ho14
            refine hK.out _ _ ⟨(blk_cell BK250.out 0).trans rfl, (blk_cell BK250.out 1).trans rfl, (blk_cell BK250.out 2).trans rfl⟩ (fun hHeld => ?_)
            clear hK K
            refine norm_ (a' := ?_) ?_ ?_
            rotate_left
            · show Act.put _ (some 12) _ = _
              simp only [Act.put, List.setIfInBounds_toArray, List.set_cons_zero, List.set_cons_succ, i64_w, i32_w]
              rfl
            refine one_ (i := 2) (N := some 10) #[true, true, true, true, true, false, false, false] rfl rfl (one_of HT_.out (by kernel_rfl)) (by decide) (fun K hK => ?_)
            refine Kd.R_append_rows_step k30 (w0 := w) w.heap.size (by rfl) (.tmp 8) (.tmp 9) 23 30 (.agg #[(.string ⟨#[]⟩), (.string ⟨#[]⟩), (.int .i64 0)]) 40 rfl Tryz.underlying23 info30 rfl (by decide) (by omega) v253 y252 l1 _ _ _ (fun k_ => some k_ ≠ (v259 : Value).ownBlock ∧ k_ ≠ gb250) (fun _ => False) rfl rfl ?aO ?aR (fun _ _ h => h) (fun _ h => h.elim) ?aF ?aB ?aS ?aL ?_
            (case aR => repeat (first | exact (Kd.C_below HR1.out HB.out) | (with_reducible refine Kd.C_alloc ?_ _) | (with_reducible refine Kd.C_drewN ?_ _) | (with_reducible refine Kd.C_drew ?_)))
            (case aB => exact (by repeat (first | (with_reducible first | exact HB.out | apply below_alloc | apply pw_below_drewN | apply below_drew1 | refine below_set ?_ GE250.out) | exact HB.out)))
            (case aF => exact (fun k_ hk => ⟨Kd.fresh' (Kd.R_lt (by (with_reducible repeat (first | apply Kd.R_alloc | apply Kd.R_drewN | apply Kd.R_drew)); exact HO260.out)) k_ hk, Kd.freshB (g := gb250) (o := .cells #[.string a0_0, .string a0_1, .int .i64 a0_2] 30 (0, 0)) (by (with_reducible repeat (first | refine blk_drewN ?_ _ | refine blk_drew ?_ | refine blk_alloc ?_ _)); exact BK250.out) k_ hk⟩))
            (case aO => exact (by (with_reducible repeat (first | apply Kd.R_alloc | apply Kd.R_drewN | apply Kd.R_drew)); exact Kd.R_mono HO254.out (fun _ hk => ⟨hk.2, hk.1.2⟩)))
            (case aS => exact (below_size (by repeat (first | (with_reducible first | exact HB.out | apply below_alloc | apply pw_below_drewN | apply below_drew1 | refine below_set ?_ GE250.out) | exact HB.out))))
            (case aL => have := LMc4.out; omega)
            intro v256 w15 ho hb hg hat
            rw [← Ny255.out] at ho
            have n0_ := Aside0.mk (blk_grown (g := gb250) (o := .cells #[.string a0_0, .string a0_1, .int .i64 a0_2] 30 (0, 0)) (by (with_reducible repeat (first | refine blk_drewN ?_ _ | refine blk_drew ?_ | refine blk_alloc ?_ _)); exact BK250.out) hg (Kd.R_away HO254.out (fun _ hk => hk.1.2)))
            have n1_ := Aside0.mk (Kd.R_after (ok := (fun k_ => k_ ≠ gb250)) (by (with_reducible repeat (first | apply Kd.R_alloc | apply Kd.R_drewN | apply Kd.R_drew)); exact Kd.R_mono HO260.out (fun _ hk => ⟨hk.2, hk.1.2⟩)) hg hat)
            have n2_ := Aside0.mk (hb)
            have n3_ := Aside0.mk (ho)
            clear BK250
            clear HO260
            clear HB
            clear HO254
            have BK250 := n0_
            have HO260 := n1_
            have HB := n2_
            have HO257 := n3_
            clear n0_ n1_ n2_ n3_
            clear ho hb hg hat
            refine hK.out _ _ ⟨(blk_cell BK250.out 0).trans rfl, (blk_cell BK250.out 1).trans rfl, (blk_cell BK250.out 2).trans rfl⟩ (fun hHeld => ?_)
            clear hK K
            refine norm_ (a' := ?_) ?_ ?_
            rotate_left
            · show Act.put _ (some 10) _ = _
              simp only [Act.put, List.setIfInBounds_toArray, List.set_cons_zero, List.set_cons_succ, i64_w, i32_w]
              rfl
            exact norm_ (by simp only [putAll, Act.put, List.setIfInBounds_toArray, List.set_cons_zero, List.set_cons_succ]) (hCont (v253, v256, v259) _ ⟨hHeld, (by (with_reducible repeat (first | apply Kd.R_alloc | apply Kd.R_drewN | apply Kd.R_drew)); exact HO257.out), (by (with_reducible repeat (first | apply Kd.R_alloc | apply Kd.R_drewN | apply Kd.R_drew)); exact Kd.R_mono HO260.out (fun _ hk => ⟨hk.2, hk.1⟩)), (by (with_reducible repeat (first | refine blk_drewN ?_ _ | refine blk_drew ?_ | refine blk_alloc ?_ _)); exact BK250.out), (by repeat (first | (with_reducible first | exact HB.out | apply below_alloc | apply pw_below_drewN | apply below_drew1 | refine below_set ?_ GE250.out) | exact HB.out))⟩)
        · skip
          refine Kd.R_lit_step k30 _ 30 ?hg (N := 12) ?hd (xs := ([(⟨a0_0, a0_1, a0_2⟩ : S30)] : List (S30))) (inner := [.string a0_0, .string a0_1, .int .i64 a0_2]) (ok := fun _ => True) (okp := fun _ => True) ?hr ?hp (fun _ hk => hk) trivial (Below.refl _ _) (Nat.le_refl _) (by simp) ?_; (case hd => rfl); (case hg => rfl); (case hr => first | (go_simp; done) | (go_simp; rfl)); (case hp => exact (Reps.c3 (show Kd.M k30 _ _ _ (⟨a0_0, a0_1, a0_2⟩ : S30) [.string a0_0, .string a0_1, .int .i64 a0_2] from (k30_mkM _ _ _ (⟨a0_0, a0_1, a0_2⟩ : S30) )) (Reps.none _ _)))
          intro v259 w11 ho12 hb hg_ hnew_
          clear hg_ hnew_
          (first | rw [← Ny258.out] at ho12 | (simp only [Int.reduceToNat] at ho12; rw [← Ny258.out] at ho12))
          have n0_ := Aside0.mk (Kd.R_lower (Kd.R_newB ho12 (g := gb250) (o := .cells #[.string a0_0, .string a0_1, .int .i64 a0_2] 30 (0, 0)) (by (with_reducible repeat (first | refine blk_drewN ?_ _ | refine blk_drew ?_ | refine blk_alloc ?_ _)); exact BK250.out)) (below_size (by repeat (first | (with_reducible first | exact HB.out | apply below_alloc | apply pw_below_drewN | apply below_drew1 | refine below_set ?_ GE250.out) | exact HB.out))))
          have n1_ := Aside0.mk (blk_below (g := gb250) (o := .cells #[.string a0_0, .string a0_1, .int .i64 a0_2] 30 (0, 0)) (by (with_reducible repeat (first | refine blk_drewN ?_ _ | refine blk_drew ?_ | refine blk_alloc ?_ _)); exact BK250.out) hb)
          have n2_ := Aside0.mk (below_step (by repeat (first | (with_reducible first | exact HB.out | apply below_alloc | apply pw_below_drewN | apply below_drew1 | refine below_set ?_ GE250.out) | exact HB.out)) hb)
          clear BK250
          clear HB
          have HO260 := n0_
          have BK250 := n1_
          have HB := n2_
          clear n0_ n1_ n2_
          clear hb ho12
          refine hK.out _ _ ⟨(blk_cell BK250.out 0).trans rfl, (blk_cell BK250.out 1).trans rfl, (blk_cell BK250.out 2).trans rfl⟩ (fun hHeld => ?_)
          clear hK K
          refine norm_ (a' := ?_) ?_ ?_
          rotate_left
          · show Act.put _ (some 12) _ = _
            simp only [Act.put, List.setIfInBounds_toArray, List.set_cons_zero, List.set_cons_succ, i64_w, i32_w]
            rfl
          refine one_ (i := 0) (N := some 8) #[true, true, false, true, true, false, false, false] rfl rfl (one_of HT_.out (by kernel_rfl)) (by decide) (fun K hK => ?_)
          refine Kd.R_lit_step k30 _ 30 ?hg (N := 8) ?hd (xs := ([] : List (S30))) (inner := []) (ok := fun _ => True) (okp := fun _ => True) ?hr ?hp (fun _ hk => hk) trivial (Below.refl _ _) (Nat.le_refl _) (by simp) ?_; (case hd => rfl); (case hg => rfl); (case hr => first | (go_simp; done) | (go_simp; rfl)); (case hp => exact (Reps.none _ _))
          intro v253 w13 ho14 hb hg_ hnew_
          clear hg_ hnew_
          (first | rw [← Ny252.out] at ho14 | (simp only [Int.reduceToNat] at ho14; rw [← Ny252.out] at ho14))
          have n0_ := Aside0.mk (Kd.R_elder' (by (with_reducible repeat (first | apply Kd.R_alloc | apply Kd.R_drewN | apply Kd.R_drew)); exact HO260.out) (Kd.R_base ho14) hb)
          have n1_ := Aside0.mk (Kd.R_lower (Kd.R_newB (Kd.R_new' ho14 (Kd.R_lt (by (with_reducible repeat (first | apply Kd.R_alloc | apply Kd.R_drewN | apply Kd.R_drew)); exact HO260.out))) (g := gb250) (o := .cells #[.string a0_0, .string a0_1, .int .i64 a0_2] 30 (0, 0)) (by (with_reducible repeat (first | refine blk_drewN ?_ _ | refine blk_drew ?_ | refine blk_alloc ?_ _)); exact BK250.out)) (below_size (by repeat (first | (with_reducible first | exact HB.out | apply below_alloc | apply pw_below_drewN | apply below_drew1 | refine below_set ?_ GE250.out) | exact HB.out))))
          have n2_ := Aside0.mk (blk_below (g := gb250) (o := .cells #[.string a0_0, .string a0_1, .int .i64 a0_2] 30 (0, 0)) (by (with_reducible repeat (first | refine blk_drewN ?_ _ | refine blk_drew ?_ | refine blk_alloc ?_ _)); exact BK250.out) hb)
          have n3_ := Aside0.mk (below_step (by repeat (first | (with_reducible first | exact HB.out | apply below_alloc | apply pw_below_drewN | apply below_drew1 | refine below_set ?_ GE250.out) | exact HB.out)) hb)
          clear HO260
          clear BK250
          clear HB
          have HO260 := n0_
          have HO254 := n1_
          have BK250 := n2_
          have HB := n3_
          clear n0_ n1_ n2_ n3_
          clear hb ho14
          refine hK.out _ _ ⟨(blk_cell BK250.out 0).trans rfl, (blk_cell BK250.out 1).trans rfl, (blk_cell BK250.out 2).trans rfl⟩ (fun hHeld => ?_)
          clear hK K
          refine norm_ (a' := ?_) ?_ ?_
          rotate_left
          · show Act.put _ (some 8) _ = _
            simp only [Act.put, List.setIfInBounds_toArray, List.set_cons_zero, List.set_cons_succ, i64_w, i32_w]
            rfl
          refine one_ (i := 2) (N := some 10) #[true, true, true, true, true, false, false, false] rfl rfl (one_of HT_.out (by kernel_rfl)) (by decide) (fun K hK => ?_)
          refine Kd.R_append_rows_step k30 (w0 := w) w.heap.size (by rfl) (.tmp 8) (.tmp 9) 23 30 (.agg #[(.string ⟨#[]⟩), (.string ⟨#[]⟩), (.int .i64 0)]) 40 rfl Tryz.underlying23 info30 rfl (by decide) (by omega) v253 y252 l1 _ _ _ (fun k_ => some k_ ≠ (v259 : Value).ownBlock ∧ k_ ≠ gb250) (fun _ => False) rfl rfl ?aO ?aR (fun _ _ h => h) (fun _ h => h.elim) ?aF ?aB ?aS ?aL ?_
          (case aR => repeat (first | exact (Kd.C_below HR1.out HB.out) | (with_reducible refine Kd.C_alloc ?_ _) | (with_reducible refine Kd.C_drewN ?_ _) | (with_reducible refine Kd.C_drew ?_)))
          (case aB => exact (by repeat (first | (with_reducible first | exact HB.out | apply below_alloc | apply pw_below_drewN | apply below_drew1 | refine below_set ?_ GE250.out) | exact HB.out)))
          (case aF => exact (fun k_ hk => ⟨Kd.fresh' (Kd.R_lt (by (with_reducible repeat (first | apply Kd.R_alloc | apply Kd.R_drewN | apply Kd.R_drew)); exact HO260.out)) k_ hk, Kd.freshB (g := gb250) (o := .cells #[.string a0_0, .string a0_1, .int .i64 a0_2] 30 (0, 0)) (by (with_reducible repeat (first | refine blk_drewN ?_ _ | refine blk_drew ?_ | refine blk_alloc ?_ _)); exact BK250.out) k_ hk⟩))
          (case aO => exact (by (with_reducible repeat (first | apply Kd.R_alloc | apply Kd.R_drewN | apply Kd.R_drew)); exact Kd.R_mono HO254.out (fun _ hk => ⟨hk.1.2, hk.2⟩)))
          (case aS => exact (below_size (by repeat (first | (with_reducible first | exact HB.out | apply below_alloc | apply pw_below_drewN | apply below_drew1 | refine below_set ?_ GE250.out) | exact HB.out))))
          (case aL => have := LMc4.out; omega)
          intro v256 w15 ho hb hg hat
          rw [← Ny255.out] at ho
          have n0_ := Aside0.mk (blk_grown (g := gb250) (o := .cells #[.string a0_0, .string a0_1, .int .i64 a0_2] 30 (0, 0)) (by (with_reducible repeat (first | refine blk_drewN ?_ _ | refine blk_drew ?_ | refine blk_alloc ?_ _)); exact BK250.out) hg (Kd.R_away HO254.out (fun _ hk => hk.2)))
          have n1_ := Aside0.mk (Kd.R_after (ok := (fun k_ => k_ ≠ gb250)) (by (with_reducible repeat (first | apply Kd.R_alloc | apply Kd.R_drewN | apply Kd.R_drew)); exact Kd.R_mono HO260.out (fun _ hk => ⟨hk.1.2, hk.2⟩)) hg hat)
          have n2_ := Aside0.mk (hb)
          have n3_ := Aside0.mk (ho)
          clear BK250
          clear HO260
          clear HB
          clear HO254
          have BK250 := n0_
          have HO260 := n1_
          have HB := n2_
          have HO257 := n3_
          clear n0_ n1_ n2_ n3_
          clear ho hb hg hat
          refine hK.out _ _ ⟨(blk_cell BK250.out 0).trans rfl, (blk_cell BK250.out 1).trans rfl, (blk_cell BK250.out 2).trans rfl⟩ (fun hHeld => ?_)
          clear hK K
          refine norm_ (a' := ?_) ?_ ?_
          rotate_left
          · show Act.put _ (some 10) _ = _
            simp only [Act.put, List.setIfInBounds_toArray, List.set_cons_zero, List.set_cons_succ, i64_w, i32_w]
            rfl
          exact norm_ (by simp only [putAll, Act.put, List.setIfInBounds_toArray, List.set_cons_zero, List.set_cons_succ]) (hCont (v253, v256, v259) _ ⟨hHeld, (by (with_reducible repeat (first | apply Kd.R_alloc | apply Kd.R_drewN | apply Kd.R_drew)); exact HO257.out), (by (with_reducible repeat (first | apply Kd.R_alloc | apply Kd.R_drewN | apply Kd.R_drew)); exact Kd.R_mono HO260.out (fun _ hk => ⟨hk.2, hk.1⟩)), (by (with_reducible repeat (first | refine blk_drewN ?_ _ | refine blk_drew ?_ | refine blk_alloc ?_ _)); exact BK250.out), (by repeat (first | (with_reducible first | exact HB.out | apply below_alloc | apply pw_below_drewN | apply below_drew1 | refine below_set ?_ GE250.out) | exact HB.out))⟩)
      rintro ⟨v253, v256, v259⟩ w16 ⟨hS_, h0_, h1_, h2_, h3_⟩
      have n0_ : Aside0 (Kd.R k30 30 w16 w.heap.size (fun k_ => some k_ ≠ (v259 : Value).ownBlock ∧ k_ ≠ gb250) v256 y255) := ⟨h0_⟩
      have n1_ : Aside0 (Kd.R k30 30 w16 w.heap.size (fun k_ => some k_ ≠ (v256 : Value).ownBlock ∧ k_ ≠ gb250) v259 y258) := ⟨h1_⟩
      have n2_ : Aside0 (w16.heap[gb250]? = some (.cells #[.string a0_0, .string a0_1, .int .i64 a0_2] 30 (0, 0))) := ⟨h2_⟩
      have n3_ : Aside0 (Below w.heap.size w w16) := ⟨h3_⟩
      clear BK250
      clear HB
      clear h0_ h1_ h2_ h3_
      have HO257 := n0_
      have HO260 := n1_
      have BK250 := n2_
      have HB := n3_
      clear n0_ n1_ n2_ n3_
      have hHeld : w16.cell? ⟨gb250, 0, none⟩ = some (.string a0_0) ∧ w16.cell? ⟨gb250, 1, none⟩ = some (.string a0_1) ∧ w16.cell? ⟨gb250, 2, none⟩ = some (.int .i64 a0_2) := hS_
      obtain ⟨Ao18, co18, eo18⟩ := Kd.R_slice HO260.out
      (first | subst eo18 | (injection eo18 with f1_ f2_ f3_; have f4_ := f1_.symm; have f5_ := f3_.symm; clear f1_ f2_ f3_; subst f4_; subst f5_))
      refine norm_ (a' := ?_) ?_ ?_
      rotate_left
      · simp only [putAll, Act.put, List.setIfInBounds_toArray, List.set_cons_zero, List.set_cons_succ]
        rfl
      refine one_ (i := 5) (N := some 13) #[true, true, true, true, true, true, false, false] rfl rfl (one_of HT_.out (by kernel_rfl)) (by decide) (fun K hK => ?_)
      refine Kd.R_append_rows_step k30 (w0 := w) w.heap.size (by rfl) (.tmp 10) (.tmp 12) 23 30 (.agg #[(.string ⟨#[]⟩), (.string ⟨#[]⟩), (.int .i64 0)]) 40 rfl Tryz.underlying23 info30 rfl (by decide) (by omega) v256 y255 y258 _ _ _ (fun k_ => some k_ ≠ (.slice Ao18 y258.length co18 : Value).ownBlock ∧ k_ ≠ gb250) (fun _ => False) rfl rfl ?aO ?aR (fun _ _ h => h) (fun _ h => h.elim) ?aF ?aB ?aS ?aL ?_
      (case aR => repeat (first | exact (Kd.R_reads' HO260.out).2.2 | (with_reducible refine Kd.C_alloc ?_ _) | (with_reducible refine Kd.C_drewN ?_ _) | (with_reducible refine Kd.C_drew ?_)))
      (case aB => exact (by repeat (first | (with_reducible first | exact HB.out | apply below_alloc | apply pw_below_drewN | apply below_drew1 | refine below_set ?_ GE250.out) | exact HB.out)))
      (case aF => exact (fun k_ hk => ⟨Kd.fresh' (Kd.R_lt (by (with_reducible repeat (first | apply Kd.R_alloc | apply Kd.R_drewN | apply Kd.R_drew)); exact HO260.out)) k_ hk, Kd.freshB (g := gb250) (o := .cells #[.string a0_0, .string a0_1, .int .i64 a0_2] 30 (0, 0)) (by (with_reducible repeat (first | refine blk_drewN ?_ _ | refine blk_drew ?_ | refine blk_alloc ?_ _)); exact BK250.out) k_ hk⟩))
      (case aO => exact (by (with_reducible repeat (first | apply Kd.R_alloc | apply Kd.R_drewN | apply Kd.R_drew)); exact HO257.out))
      (case aS => exact (below_size (by repeat (first | (with_reducible first | exact HB.out | apply below_alloc | apply pw_below_drewN | apply below_drew1 | refine below_set ?_ GE250.out) | exact HB.out))))
      (case aL => have := LMc5.out; omega)
      intro v262 w17 ho hb hg hat
      rw [← Ny261.out] at ho
      have n0_ := Aside0.mk (blk_grown (g := gb250) (o := .cells #[.string a0_0, .string a0_1, .int .i64 a0_2] 30 (0, 0)) (by (with_reducible repeat (first | refine blk_drewN ?_ _ | refine blk_drew ?_ | refine blk_alloc ?_ _)); exact BK250.out) hg (Kd.R_away HO257.out (fun _ hk => hk.2)))
      have n1_ := Aside0.mk (Kd.R_after (ok := (fun k_ => k_ ≠ gb250)) (by (with_reducible repeat (first | apply Kd.R_alloc | apply Kd.R_drewN | apply Kd.R_drew)); exact Kd.R_mono HO260.out (fun _ hk => ⟨hk.2, hk.1⟩)) hg hat)
      have n2_ := Aside0.mk (hb)
      have n3_ := Aside0.mk (ho)
      clear BK250
      clear HO260
      clear HB
      clear HO257
      have BK250 := n0_
      have HO260 := n1_
      have HB := n2_
      have HO263 := n3_
      clear n0_ n1_ n2_ n3_
      clear ho hb hg hat
      obtain ⟨Ao19, co19, eo19⟩ := Kd.R_slice HO263.out
      (first | subst eo19 | (injection eo19 with f1_ f2_ f3_; have f4_ := f1_.symm; have f5_ := f3_.symm; clear f1_ f2_ f3_; subst f4_; subst f5_))
      refine hK.out _ _ ⟨(blk_cell BK250.out 0).trans rfl, (blk_cell BK250.out 1).trans rfl, (blk_cell BK250.out 2).trans rfl⟩ (fun hHeld => ?_)
      clear hK K
      refine norm_ (a' := ?_) ?_ ?_
      rotate_left
      · show Act.put _ (some 13) _ = _
        simp only [Act.put, List.setIfInBounds_toArray, List.set_cons_zero, List.set_cons_succ, i64_w, i32_w]
        rfl
      refine one_ (i := 6) (N := some 14) #[true, true, true, true, true, true, true, false] rfl rfl (one_of HT_.out (by kernel_rfl)) (by decide) (fun K hK => ?_)
      refine goes_ Tryz.func11 (by kernel_rfl) rfl #[.slice Ao19 y261.length co19] (by rfl) rfl rfl (by (try simp only [List.map_toArray, List.map_cons, List.map_nil]); first | done | rfl | (simp only [List.length_drop, List.length_take]; rfl)) ?_
      with_reducible refine (keelsonlaw8_small.calls k _ _ y261 t264 _ ?side1 ?side2 A6.out).mono ?_
      (case side1 => repeat (first | exact (Kd.R_reads' HO263.out).2.2 | (with_reducible refine Kd.C_alloc ?_ _) | (with_reducible refine Kd.C_drewN ?_ _) | (with_reducible refine Kd.C_drew ?_)))
      (case side2 => exact (Kd.R_reads' HO263.out).2.1)
      rintro e w' ⟨rfl, ⟨nd, rfl⟩⟩
      refine ⟨_, rfl, ?_⟩
      refine hK.out _ _ ⟨(blk_cell BK250.out 0).trans rfl, (blk_cell BK250.out 1).trans rfl, (blk_cell BK250.out 2).trans rfl⟩ (fun hHeld => ?_)
      clear hK K
      refine norm_ (a' := ?_) ?_ ?_
      rotate_left
      · show Act.put _ (some 14) _ = _
        simp only [Act.put, List.setIfInBounds_toArray, List.set_cons_zero, List.set_cons_succ, i64_w, i32_w]
        rfl
      refine pure_ (i := 7) (N := some 6) (v := ?_) (a' := ?_) #[true, true, true, true, true, true, true, true] rfl rfl (any_of HT_.out (by kernel_rfl)) (fun _ _ _ h => h) (Or.inl ⟨by rfl, ?_⟩) ?_ ?_
      rotate_left
      · intro w'
        go_simp
        with_reducible rfl
      rotate_left
      · simp only [Act.put, List.setIfInBounds_toArray, List.set_cons_zero, List.set_cons_succ, i64_w, i32_w]
        rfl
      refine done_ (done_of HT_.out (by kernel_rfl)) ?_
      go_upto_region 3 with (fail)
      go_cut [20] (fun v20 wc => ∃ (kq : Nat) (x20_6 : Bool), v20 = .bool x20_6 ∧ Aside0 (keelsonlaw8_PinsPrints.j0 kq l1 t251 x20_6 a0_0 a0_1 a0_2 = some r) ∧ Aside0 (kq ≤ k) ∧ Aside0 (wc.heap[gb250]? = some (.cells #[.string a0_0, .string a0_1, .int .i64 a0_2] 30 (0, 0))) ∧ Aside0 (Below w.heap.size w wc))
      case first => as_aux_lemma =>
        have H := HC7.out
        clear HC7
        by_cases c20 : t251 = true
        · subst c20
          have H1 : (keelsonlaw8_PinsPrints.j0 k l1 true (!t264) a0_0 a0_1 a0_2) = some r := by rw [if_pos rfl] at H; exact H
          clear H
          have H := H1
          clear H1
          have H' := Aside0.mk H
          clear H
          go_wp2
          go_meet
          case rel => exact ⟨_, (!t264), (by first | rfl | (simp; done) | (simp [*]; done)), H', ⟨by first | omega | exact Nat.le_refl _⟩, ⟨by (with_reducible repeat (first | refine blk_drewN ?_ _ | refine blk_drew ?_ | refine blk_alloc ?_ _)); exact BK250.out⟩, ⟨by repeat (first | (with_reducible first | exact HB.out | apply below_alloc | apply pw_below_drewN | apply below_drew1 | refine below_set ?_ GE250.out) | exact HB.out)⟩⟩
        · replace c20 := Bool.eq_false_iff.mpr c20
          subst c20
          have H1 : (keelsonlaw8_PinsPrints.j0 k l1 false true a0_0 a0_1 a0_2) = some r := by rw [if_neg (show ¬ (false = true) by decide)] at H; exact H
          clear H
          have H := H1
          clear H1
          have H' := Aside0.mk H
          clear H
          go_wp2
          go_meet
          case rel => exact ⟨_, (true), (by first | rfl | (simp; done) | (simp [*]; done)), H', ⟨by first | omega | exact Nat.le_refl _⟩, ⟨by (with_reducible repeat (first | refine blk_drewN ?_ _ | refine blk_drew ?_ | refine blk_alloc ?_ _)); exact BK250.out⟩, ⟨by repeat (first | (with_reducible first | exact HB.out | apply below_alloc | apply pw_below_drewN | apply below_drew1 | refine below_set ?_ GE250.out) | exact HB.out)⟩⟩
      case rest => as_aux_lemma =>
        clear HC7
        try clear c1
        try clear c2
        try clear p2
        try clear c3
        try clear c4
        try clear c5
        try clear c7
        try clear c11
        try clear c20
        obtain ⟨kq, x20_6, rfl, HA, HJ6, BK250, HB⟩ := hcut
        cases kq with
        | zero => exact absurd HA.out (by simp [keelsonlaw8_PinsPrints.j0])
        | succ kj6 =>
          have H := HA.out
          clear HA
          simp only [keelsonlaw8_PinsPrints.j0] at H
          by_cases c21 : x20_6 = true
          · subst c21
            have H1 : (some t251) = some r := by rw [if_pos rfl] at H; exact H
            clear H
            have H := H1
            clear H1
            obtain rfl := Option.some.inj H
            go_wp2
            go_ret
            exact ⟨by first | rfl | (simp [errW_none, errW_some] <;> rfl) | (simp [*, errW_none, errW_some] <;> rfl), by repeat (first | (with_reducible first | exact HB.out | apply below_alloc | apply pw_below_drewN | apply below_drew1 | refine below_set ?_ GE250.out) | exact HB.out)⟩
          · replace c21 := Bool.eq_false_iff.mpr c21
            subst c21
            have H1 : ((pins_Right.f a0_0 a0_1 a0_2).bind fun t265 => ((keelsonref8_Right.f kj6 a0_0 a0_1 a0_2).bind fun t266 => (if (t265 == t266) = true then ((pins_Print.f kj6 l1).bind fun t267 => ((keelsonref8_Print.f kj6 l1).bind fun t268 => (some (t267.toList == t268.toList)))) else (none)))) = some r := by rw [if_neg (show ¬ (false = true) by decide)] at H; exact H
            clear H
            have H := H1
            clear H1
            replace H := Option.bind_eq_some_iff.mp H
            obtain ⟨t265, A220, H⟩ := H
            replace H : ((keelsonref8_Right.f kj6 a0_0 a0_1 a0_2).bind fun t266 => (if (t265 == t266) = true then ((pins_Print.f kj6 l1).bind fun t267 => ((keelsonref8_Print.f kj6 l1).bind fun t268 => (some (t267.toList == t268.toList)))) else (none))) = some r := H
            have A22 := Aside0.mk A220
            clear A220
            replace H := Option.bind_eq_some_iff.mp H
            obtain ⟨t266, A230, H⟩ := H
            replace H : (if (t265 == t266) = true then ((pins_Print.f kj6 l1).bind fun t267 => ((keelsonref8_Print.f kj6 l1).bind fun t268 => (some (t267.toList == t268.toList)))) else (none)) = some r := H
            have A23 := Aside0.mk A230
            clear A230
            by_cases c24 : (t265 == t266) = true
            · rw [if_pos c24] at H
              have c24b0 : (t265 == t266) = true := c24
              (try (have c24b1 : decide (t265 = t266) = true := by simpa using c24))
              (try (have c24b2 : (t265 == t266) = true := by simpa using c24))
              clear c24
              replace H := Option.bind_eq_some_iff.mp H
              obtain ⟨t267, A250, H⟩ := H
              replace H : ((keelsonref8_Print.f kj6 l1).bind fun t268 => (some (t267.toList == t268.toList))) = some r := H
              have A25 := Aside0.mk A250
              clear A250
              replace H := Option.bind_eq_some_iff.mp H
              obtain ⟨t268, A260, H⟩ := H
              replace H : (some (t267.toList == t268.toList)) = some r := H
              have A26 := Aside0.mk A260
              clear A260
              obtain rfl := Option.some.inj H
              try go_wp2
              have n0_ := Aside0.mk (blk_drew BK250.out)
              have n1_ := Aside0.mk (below_drew1 HB.out)
              clear BK250
              clear HB
              have BK250 := n0_
              have HB := n1_
              clear n0_ n1_
              refine start_ (n := 13) (S := fun w' => w'.cell? ⟨gb250, 0, none⟩ = some (.string a0_0) ∧ w'.cell? ⟨gb250, 1, none⟩ = some (.string a0_1) ∧ w'.cell? ⟨gb250, 2, none⟩ = some (.int .i64 a0_2)) (ds := []) #[false, false, false, false, false, false, false, false, false, false, false, false, false] (by kernel_rfl) rfl rfl ⟨(blk_cell BK250.out 0).trans rfl, (blk_cell BK250.out 1).trans rfl, (blk_cell BK250.out 2).trans rfl⟩ (fun hHeld => ?_); refine with_tabW keelsonlaw8_PinsPrints.tab5 keelsonlaw8_PinsPrints.bits5 (fun HT_ HW_ => ?_)
              generalize wc.drew = w27 at BK250 HB hHeld ⊢
              refine take_ (i := 0) (N := some 22) (v := ?_) (a' := ?_) #[true, false, false, false, false, false, false, false, false, false, false, false, false] rfl rfl (take_ofW HT_.out HW_.out (by kernel_rfl)) (fun _ _ _ h => h) (Or.inl ⟨by rfl, ?_⟩) hHeld ?_ ?_
              rotate_left
              · rintro w' ⟨s0, s1, s2⟩
                go_simp
                with_reducible rfl
              rotate_left
              · simp only [Act.put, List.setIfInBounds_toArray, List.set_cons_zero, List.set_cons_succ, i64_w, i32_w]
                rfl
              refine take_ (i := 2) (N := some 24) (v := ?_) (a' := ?_) #[true, false, true, false, false, false, false, false, false, false, false, false, false] rfl rfl (take_ofW HT_.out HW_.out (by kernel_rfl)) (fun _ _ _ h => h) (Or.inl ⟨by rfl, ?_⟩) hHeld ?_ ?_
              rotate_left
              · rintro w' ⟨s0, s1, s2⟩
                go_simp
                with_reducible rfl
              rotate_left
              · simp only [Act.put, List.setIfInBounds_toArray, List.set_cons_zero, List.set_cons_succ, i64_w, i32_w]
                rfl
              refine one_ (i := 1) (N := some 23) #[true, true, true, false, false, false, false, false, false, false, false, false, false] rfl rfl (one_of HT_.out (by kernel_rfl)) (by decide) (fun K hK => ?_)
              refine goes_ Tryz.func12 (by kernel_rfl) rfl #[.agg #[.string a0_0, .string a0_1, .int .i64 a0_2]] (by rfl) rfl rfl (by (try simp only [List.map_toArray, List.map_cons, List.map_nil]); first | done | rfl | (simp only [List.length_drop, List.length_take]; rfl)) ?_
              with_reducible refine (pins_Right.calls a0_0 a0_1 a0_2 t265 _ A22.out).mono ?_
              rintro e w28 ⟨rfl, hb⟩
              refine ⟨_, rfl, ?_⟩
              have n0_ := Aside0.mk (blk_below (g := gb250) (o := .cells #[.string a0_0, .string a0_1, .int .i64 a0_2] 30 (0, 0)) (by (with_reducible repeat (first | refine blk_drewN ?_ _ | refine blk_drew ?_ | refine blk_alloc ?_ _)); exact BK250.out) hb)
              have n1_ := Aside0.mk (below_step (by repeat (first | (with_reducible first | exact HB.out | apply below_alloc | apply pw_below_drewN | apply below_drew1 | refine below_set ?_ GE250.out) | exact HB.out)) hb)
              clear BK250
              clear HB
              have BK250 := n0_
              have HB := n1_
              clear n0_ n1_
              (try clear hb)
              (try clear hb2)
              (try clear hk)
              (try clear hi)
              refine hK.out _ _ ⟨(blk_cell BK250.out 0).trans rfl, (blk_cell BK250.out 1).trans rfl, (blk_cell BK250.out 2).trans rfl⟩ (fun hHeld => ?_)
              clear hK K
              refine norm_ (a' := ?_) ?_ ?_
              rotate_left
              · show Act.put _ (some 23) _ = _
                simp only [Act.put, List.setIfInBounds_toArray, List.set_cons_zero, List.set_cons_succ, i64_w, i32_w]
                rfl
              refine one_ (i := 3) (N := some 25) #[true, true, true, true, false, false, false, false, false, false, false, false, false] rfl rfl (one_of HT_.out (by kernel_rfl)) (by decide) (fun K hK => ?_)
              refine goes_ Tryz.func13 (by kernel_rfl) rfl #[.agg #[.string a0_0, .string a0_1, .int .i64 a0_2]] (by rfl) rfl rfl (by (try simp only [List.map_toArray, List.map_cons, List.map_nil]); first | done | rfl | (simp only [List.length_drop, List.length_take]; rfl)) ?_
              with_reducible refine (keelsonref8_Right.calls kj6 a0_0 a0_1 a0_2 t266 _ A23.out).mono ?_
              rintro e w29 ⟨rfl, hb⟩
              refine ⟨_, rfl, ?_⟩
              have n0_ := Aside0.mk (blk_below (g := gb250) (o := .cells #[.string a0_0, .string a0_1, .int .i64 a0_2] 30 (0, 0)) (by (with_reducible repeat (first | refine blk_drewN ?_ _ | refine blk_drew ?_ | refine blk_alloc ?_ _)); exact BK250.out) hb)
              have n1_ := Aside0.mk (below_step (by repeat (first | (with_reducible first | exact HB.out | apply below_alloc | apply pw_below_drewN | apply below_drew1 | refine below_set ?_ GE250.out) | exact HB.out)) hb)
              clear BK250
              clear HB
              have BK250 := n0_
              have HB := n1_
              clear n0_ n1_
              (try clear hb)
              (try clear hb2)
              (try clear hk)
              (try clear hi)
              refine hK.out _ _ ⟨(blk_cell BK250.out 0).trans rfl, (blk_cell BK250.out 1).trans rfl, (blk_cell BK250.out 2).trans rfl⟩ (fun hHeld => ?_)
              clear hK K
              refine norm_ (a' := ?_) ?_ ?_
              rotate_left
              · show Act.put _ (some 25) _ = _
                simp only [Act.put, List.setIfInBounds_toArray, List.set_cons_zero, List.set_cons_succ, i64_w, i32_w]
                rfl
              refine pure_ (i := 4) (N := some 26) (v := ?_) (a' := ?_) #[true, true, true, true, true, false, false, false, false, false, false, false, false] rfl rfl (any_of HT_.out (by kernel_rfl)) (fun _ _ _ h => h) (Or.inl ⟨by rfl, ?_⟩) ?_ ?_
              rotate_left
              · intro w'
                go_simp
                with_reducible rfl
              rotate_left
              · simp only [Act.put, List.setIfInBounds_toArray, List.set_cons_zero, List.set_cons_succ, i64_w, i32_w]
                rfl
              refine pure_ (i := 5) (N := some 27) (v := ?_) (a' := ?_) #[true, true, true, true, true, true, false, false, false, false, false, false, false] rfl rfl (any_of HT_.out (by kernel_rfl)) (fun _ _ _ h => h) (Or.inl ⟨by rfl, ?_⟩) ?_ ?_
              rotate_left
              · intro w'
                go_simp
                with_reducible rfl
              rotate_left
              · simp only [Act.put, List.setIfInBounds_toArray, List.set_cons_zero, List.set_cons_succ, i64_w, i32_w]
                rfl
              refine pure_ (i := 6) (N := some 28) (v := ?_) (a' := ?_) #[true, true, true, true, true, true, true, false, false, false, false, false, false] rfl rfl (any_of HT_.out (by kernel_rfl)) (fun _ _ _ h => h) (Or.inl ⟨by rfl, ?_⟩) ?_ ?_
              rotate_left
              · intro w'
                go_simp
                with_reducible rfl
              rotate_left
              · simp only [Act.put, List.setIfInBounds_toArray, List.set_cons_zero, List.set_cons_succ, i64_w, i32_w]
                rfl
              refine pure_ (i := 8) (N := some 30) (v := ?_) (a' := ?_) #[true, true, true, true, true, true, true, false, true, false, false, false, false] rfl rfl (any_of HT_.out (by kernel_rfl)) (fun _ _ _ h => h) (Or.inl ⟨by rfl, ?_⟩) ?_ ?_
              rotate_left
              · intro w'
                go_simp
                with_reducible rfl
              rotate_left
              · simp only [Act.put, List.setIfInBounds_toArray, List.set_cons_zero, List.set_cons_succ, i64_w, i32_w]
                rfl
              refine one_ (i := 7) (N := some 29) #[true, true, true, true, true, true, true, true, true, false, false, false, false] rfl rfl (one_of HT_.out (by kernel_rfl)) (by decide) (fun K hK => ?_)
              refine goes_ Tryz.func14 (by kernel_rfl) rfl #[.slice A1 l1.length c1] (by rfl) rfl rfl (by (try simp only [List.map_toArray, List.map_cons, List.map_nil]); first | done | rfl | (simp only [List.length_drop, List.length_take]; rfl)) ?_
              with_reducible refine (pins_Print.calls kj6 _ _ l1 t267 _ ?side1 ?side2 ?side3 ?side4 A25.out).mono ?_
              (case side1 => repeat (first | exact (Kd.C_below HR1.out HB.out) | (with_reducible refine Kd.C_alloc ?_ _) | (with_reducible refine Kd.C_drewN ?_ _) | (with_reducible refine Kd.C_drew ?_)))
              (case side2 => exact HC1.out)
              (case side3 => exact HG_maxLen.out.below (by repeat (first | (with_reducible first | exact HB.out | apply below_alloc | apply pw_below_drewN | apply below_drew1 | refine below_set ?_ GE250.out) | exact HB.out)))
              (case side4 => exact HG_pow10.out.below (by repeat (first | (with_reducible first | exact HB.out | apply below_alloc | apply pw_below_drewN | apply below_drew1 | refine below_set ?_ GE250.out) | exact HB.out)))
              rintro e w30 ⟨rfl, hb⟩
              refine ⟨_, rfl, ?_⟩
              have n0_ := Aside0.mk (blk_below (g := gb250) (o := .cells #[.string a0_0, .string a0_1, .int .i64 a0_2] 30 (0, 0)) (by (with_reducible repeat (first | refine blk_drewN ?_ _ | refine blk_drew ?_ | refine blk_alloc ?_ _)); exact BK250.out) hb)
              have n1_ := Aside0.mk (below_step (by repeat (first | (with_reducible first | exact HB.out | apply below_alloc | apply pw_below_drewN | apply below_drew1 | refine below_set ?_ GE250.out) | exact HB.out)) hb)
              clear BK250
              clear HB
              have BK250 := n0_
              have HB := n1_
              clear n0_ n1_
              (try clear hb)
              (try clear hb2)
              (try clear hk)
              (try clear hi)
              refine hK.out _ _ ⟨(blk_cell BK250.out 0).trans rfl, (blk_cell BK250.out 1).trans rfl, (blk_cell BK250.out 2).trans rfl⟩ (fun hHeld => ?_)
              clear hK K
              refine norm_ (a' := ?_) ?_ ?_
              rotate_left
              · show Act.put _ (some 29) _ = _
                simp only [Act.put, List.setIfInBounds_toArray, List.set_cons_zero, List.set_cons_succ, i64_w, i32_w]
                rfl
              refine one_ (i := 9) (N := some 31) #[true, true, true, true, true, true, true, true, true, true, false, false, false] rfl rfl (one_of HT_.out (by kernel_rfl)) (by decide) (fun K hK => ?_)
              refine goes_ Tryz.func15 (by kernel_rfl) rfl #[.slice A1 l1.length c1] (by rfl) rfl rfl (by (try simp only [List.map_toArray, List.map_cons, List.map_nil]); first | done | rfl | (simp only [List.length_drop, List.length_take]; rfl)) ?_
              with_reducible refine (keelsonref8_Print.calls kj6 _ _ l1 t268 _ ?side1 ?side2 A26.out).mono ?_
              (case side1 => repeat (first | exact (Kd.C_below HR1.out HB.out) | (with_reducible refine Kd.C_alloc ?_ _) | (with_reducible refine Kd.C_drewN ?_ _) | (with_reducible refine Kd.C_drew ?_)))
              (case side2 => exact HC1.out)
              rintro e w31 ⟨rfl, hb⟩
              refine ⟨_, rfl, ?_⟩
              have n0_ := Aside0.mk (blk_below (g := gb250) (o := .cells #[.string a0_0, .string a0_1, .int .i64 a0_2] 30 (0, 0)) (by (with_reducible repeat (first | refine blk_drewN ?_ _ | refine blk_drew ?_ | refine blk_alloc ?_ _)); exact BK250.out) hb)
              have n1_ := Aside0.mk (below_step (by repeat (first | (with_reducible first | exact HB.out | apply below_alloc | apply pw_below_drewN | apply below_drew1 | refine below_set ?_ GE250.out) | exact HB.out)) hb)
              clear BK250
              clear HB
              have BK250 := n0_
              have HB := n1_
              clear n0_ n1_
              (try clear hb)
              (try clear hb2)
              (try clear hk)
              (try clear hi)
              refine hK.out _ _ ⟨(blk_cell BK250.out 0).trans rfl, (blk_cell BK250.out 1).trans rfl, (blk_cell BK250.out 2).trans rfl⟩ (fun hHeld => ?_)
              clear hK K
              refine norm_ (a' := ?_) ?_ ?_
              rotate_left
              · show Act.put _ (some 31) _ = _
                simp only [Act.put, List.setIfInBounds_toArray, List.set_cons_zero, List.set_cons_succ, i64_w, i32_w]
                rfl
              refine pure_ (i := 10) (N := some 32) (v := ?_) (a' := ?_) #[true, true, true, true, true, true, true, true, true, true, true, false, false] rfl rfl (any_of HT_.out (by kernel_rfl)) (fun _ _ _ h => h) (Or.inl ⟨by rfl, ?_⟩) ?_ ?_
              rotate_left
              · intro w'
                go_simp
                with_reducible rfl
              rotate_left
              · simp only [Act.put, List.setIfInBounds_toArray, List.set_cons_zero, List.set_cons_succ, i64_w, i32_w]
                rfl
              refine pure_ (i := 11) (N := some 33) (v := ?_) (a' := ?_) #[true, true, true, true, true, true, true, true, true, true, true, true, false] rfl rfl (any_of HT_.out (by kernel_rfl)) (fun _ _ _ h => h) (Or.inl ⟨by rfl, ?_⟩) ?_ ?_
              rotate_left
              · intro w'
                go_simp
                with_reducible rfl
              rotate_left
              · simp only [Act.put, List.setIfInBounds_toArray, List.set_cons_zero, List.set_cons_succ, i64_w, i32_w]
                rfl
              refine pure_ (i := 12) (N := some 4) (v := ?_) (a' := ?_) #[true, true, true, true, true, true, true, true, true, true, true, true, true] rfl rfl (any_of HT_.out (by kernel_rfl)) (fun _ _ _ h => h) (Or.inl ⟨by rfl, ?_⟩) ?_ ?_
              rotate_left
              · intro w'
                go_simp
                with_reducible rfl
              rotate_left
              · simp only [Act.put, List.setIfInBounds_toArray, List.set_cons_zero, List.set_cons_succ, i64_w, i32_w]
                rfl
              refine done_ (done_of HT_.out (by kernel_rfl)) ?_
              try go_wp2
              go_ret
              exact ⟨by first | rfl | (simp [errW_none, errW_some] <;> rfl) | (simp [*, errW_none, errW_some] <;> rfl), by repeat (first | (with_reducible first | exact HB.out | apply below_alloc | apply pw_below_drewN | apply below_drew1 | refine below_set ?_ GE250.out) | exact HB.out)⟩
            · rw [if_neg c24] at H
              have c24b0 : (t265 == t266) = false := by simpa using c24
              (try (have c24b1 : decide (t265 = t266) = false := by simpa using c24))
              (try (have c24b2 : (t265 == t266) = false := by simpa using c24))
              (try (have c24b3 : ¬ (t265 = t266) := by simpa using c24))
              clear c24
              exact absurd H (by simp)
    · rw [if_neg c5] at H
      exact absurd H (by simp)
  · rw [if_neg c4] at H
    exact absurd H (by simp)

end Go.Proofs.YtlcfpmdamehopaaGreatDoor.PA
/- PinsPrints' plain law: program and reference tell alike whether a pin is right, and print pins alike. -/
namespace Go.Proofs.YtlcfpmdamehopaaGreatDoor.PA
open Go.RowKit Go.Proofs.YtlcfpmdamehopaaGreatDoorW.PrintWords Go.Proofs.YtlcfpmdamehopaaGreatDoorW.PrintLast Go.Proofs.YtlcfpmdamehopaaGreatDoorW.PrintMore

theorem PinsPrints_pure {P0 : Prop} {Q : Pn → Prop} (x y : ByteArray) (z : Int) (_ : P0) (l : List Pn) (hl : okL (Tryz.prog.bytesOf 30) Q l) : ∃ k, keelsonlaw8_PinsPrints.f k x y z l = some true := by
  have hl := hl.1
  rw [show Tryz.prog.bytesOf 30 = 40 by kernel_rfl] at hl
  refine Ev.rounds (g := fun k => keelsonlaw8_PinsPrints.f k x y z l) ?_
  unfold keelsonlaw8_PinsPrints.f
  refine Ev.bind shown8_ev (Ev.let (Ev.pos (by simp; omega) (Ev.let (Ev.let (Ev.pos (by simp; omega) (Ev.bind (small8_ev _ (by simp; omega)) (Ev.pos rfl (Ev.succ ?_))))))))
  simp only [keelsonlaw8_PinsPrints.j0]
  cases hs : smallP ([] ++ l ++ [(⟨x, y, z⟩ : Pn)]) with
  | false => exact Ev.pos rfl (Ev.some rfl)
  | true =>
    obtain ⟨h1, h2⟩ := smallP_sizes hs
    have hp := h2 ⟨x, y, z⟩ (by simp)
    dsimp only at hp
    rw [List.nil_append, List.length_append, List.length_singleton] at h1
    have h3 : ∀ p ∈ l, p.f0.size ≤ 1000000 ∧ p.f1.size ≤ 1000000 := fun p hp => by have := h2 p (by simp [hp]); omega
    refine Ev.neg (by decide) (Ev.call (show pins_Right.f x y z = some (rightP x y z) from if_pos (by omega)) (Ev.bind (refright8_ev x y z (by omega) (by omega)) (Ev.pos (by simp) (Ev.bind (print8_ev l (by omega) (fun p hp => (h3 p hp).2)) (Ev.bind (refprint8_ev l (by omega) h3) (Ev.some (by simp)))))))
end Go.Proofs.YtlcfpmdamehopaaGreatDoor.PA
namespace Go.Proofs.YtlcfpmdamehopaaGreatDoor.pinsPrints
open Go.ChangeShapes Go.WideShapes Go.ChangeAt Go.RowKit Go.Proofs.YtlcfpmdamehopaaGreatDoor.PA Go.Proofs.YtlcfpmdamehopaaGreatDoorW.PrintWords
open Go.ChangeMaps (open_string shut_string)
theorem own : ownKnob Tryz.prog.godebug = none := by kernel_rfl
theorem laidOut : laidOutB Tryz.prog = true := by kernel_rfl
set_option maxRecDepth 100000 in
theorem lifted (os : Os) (started : os.Started) (H : Type) (enc : TypeId × Value → H) :
    ReturnsInHanded {} Tryz.checked os 4 .any (fun w args => (Rows.pinsPrintsSpec.pre enc Tryz.prog Tryz.f4 [] false w args ∧ laidMet Tryz.prog Rows.pinsPrintsRow.laid w) ∧ sizedMet enc Tryz.prog Tryz.f4 (OpenSpec.ofChange Rows.pinsPrintsSpec) false w args) (Rows.pinsPrintsSpec.post enc Tryz.prog Tryz.f4 false true false false) := by
  refine returns_laid_shaped (C := Tryz.checked) (X := fun w _ => laidMet Tryz.prog Rows.pinsPrintsRow.laid w) (fun _ _ _ hh h => h.of_heap hh) own started (by kernel_rfl) Tryz.func4
    (ChangeSpec.witness_at (enc := enc) (C := Tryz.checked) (os := os) (X := fun w _ => laidMet Tryz.prog Rows.pinsPrintsRow.laid w) false (laidWorld os) #[.agg #[.string ByteArray.empty, .string ByteArray.empty, .int .i64 0], .slice none 0 0] 8 rfl (by kernel_rfl) (by kernel_rfl) (by kernel_rfl) (by kernel_rfl) (by kernel_rfl) (laid_met_deBruijn32tab_deBruijn64tab_uint64pow10_acceptRanges_ErrRange_ErrSyntax_first os _)) ?_
  intro W base args ds gs before hval0 hW hcnd hsz0 hL hSh _
  have hsz : (DataW.weightsEach Tryz.prog (Tryz.f4.params.toList ++ Rows.pinsPrintsSpec.plain.varTypes Tryz.prog) (ds ++ gs)).all (· ≤ reachBytes) = true := hsz0
  have hval : ∀ (j : Nat) t v, Tryz.f4.params[j]? = some t → args[j]? = some v → Value.okWide Tryz.prog W .any base t v := hval0
  have hW' := hW
  obtain ⟨p, q, hA0, hV, rfl, hfz, hnd⟩ := hW
  have hA : DataW.TrodAll enc Tryz.prog W 0 (fun _ => true) true Tryz.f4.params.toList args.toList ds p := hA0
  rw [Tryz.params4] at hA hval hsz
  obtain ⟨v0, vs0, d0, ds0, p0, q0, hargs, rfl, rfl, h0, r0⟩ := trodAll_cons hA
  obtain ⟨v1, vs1, d1, ds1, p1, q1, rfl, rfl, rfl, h1, r1⟩ := trodAll_cons r0
  obtain ⟨rfl, rfl, rfl⟩ := trodAll_nil r1
  obtain rfl : args = #[v0, v1] := by cases args; simp_all
  obtain ⟨rfl, rfl⟩ := trodVars_none hV
  have hwt : ∀ n ∈ DataW.weightsEach Tryz.prog (([30, 23] : List TypeId) ++ []) (([d0, d1] : List (DataW H)) ++ []), n ≤ reachBytes := fun n hn => of_decide_eq_true (List.all_eq_true.1 hsz n hn)
  obtain ⟨cs0, rfl, hsz0⟩ := okWide_struct Tryz.underlying30 (hval 0 30 v0 rfl rfl)
  have k0 := h0
  have lt0 : ∀ x ∈ p0, x.block < W.heap.size := by obtain ⟨m, hm⟩ := k0; exact DataW.trod_lt m _ _ _ hm
  obtain ⟨x0, hK0, ok0⟩ : ∃ x, (k30).K W x cs0.toList ∧ (fun x : S30 => (okP okS (okP okS (okI .i64))) (x.f0, x.f1, x.f2)) x := by
    obtain ⟨fuel, hf⟩ := h0
    exact (opens_iso (fun x : S30 => (x.f0, x.f1, x.f2)) (fun p => ⟨p.1, p.2.1, p.2.2⟩) (fun _ => rfl) (opens_struct (ts := [9, 9, 3]) Tryz.underlying30 (by kernel_rfl) (by kernel_rfl) (by kernel_rfl) (opensF_cons (opens_string Tryz.underlying9 (by kernel_rfl)) (opensF_cons (opens_string Tryz.underlying9 (by kernel_rfl)) (opensF_one (opens_int Tryz.underlying3 (by kernel_rfl))))))).2 enc W _ _ fuel _ _ hf (fun n hn => hwt n (DataW.weights_mem_each (j := 0) rfl rfl n hn))
  have e0 := k30_open hK0
  obtain rfl : cs0 = #[.string x0.f0, .string x0.f1, .int .i64 x0.f2] := by cases cs0; simpa using e0
  obtain ⟨a1, len1, cap1, rfl⟩ := okWide_slice Tryz.underlying23 (hval 1 23 v1 rfl rfl)
  have k1 := h1
  have lt1 : ∀ x ∈ p1, x.block < W.heap.size := by obtain ⟨m, hm⟩ := k1; exact DataW.trod_lt m _ _ _ hm
  obtain ⟨l1, hK1, ok1⟩ : ∃ l, ((Kd.slice 30 k30)).K W l [.slice a1 len1 cap1] ∧ (okL (Tryz.prog.bytesOf 30) (fun x : S30 => (okP okS (okP okS (okI .i64))) (x.f0, x.f1, x.f2))) l := by
    obtain ⟨fuel, hf⟩ := h1
    exact (opens_slice (d := k30) (ok := (fun x : S30 => (okP okS (okP okS (okI .i64))) (x.f0, x.f1, x.f2))) Tryz.underlying23 (by kernel_rfl) (opens_iso (fun x : S30 => (x.f0, x.f1, x.f2)) (fun p => ⟨p.1, p.2.1, p.2.2⟩) (fun _ => rfl) (opens_struct (ts := [9, 9, 3]) Tryz.underlying30 (by kernel_rfl) (by kernel_rfl) (by kernel_rfl) (opensF_cons (opens_string Tryz.underlying9 (by kernel_rfl)) (opensF_cons (opens_string Tryz.underlying9 (by kernel_rfl)) (opensF_one (opens_int Tryz.underlying3 (by kernel_rfl)))))))).2 enc W _ _ fuel _ _ hf (fun n hn => hwt n (DataW.weights_mem_each (j := 1) rfl rfl n hn))
  obtain ⟨A1, c1, hcs1, hc1, hr1⟩ := hK1
  simp only [List.cons.injEq, Value.slice.injEq, and_true] at hcs1
  obtain ⟨rfl, rfl, rfl⟩ := hcs1
  obtain ⟨k, hk⟩ := PinsPrints_pure x0.f0 x0.f1 x0.f2 ok0 l1 ok1
  refine (keelsonlaw8_PinsPrints.calls k x0.f0 x0.f1 x0.f2 _ _ l1 true W hr1 hc1 (maxLen_of_shape hSh) (numErr_of_laid hL) (pow10_of_laid hL) hk).mono fun e W' ⟨he, bel⟩ => ?_
  subst he
  exact ⟨_, rfl, _, _, _, [], _, [], hW', trodAll_mk1 (shut_bool Tryz.underlying4 _), (trodAll_cons_mk (Below.trod laidOut (by kernel_rfl) (of_decide_eq_true (by kernel_rfl)) k0 bel lt0) (trodAll_cons_mk (Below.trod laidOut (by kernel_rfl) (of_decide_eq_true (by kernel_rfl)) k1 bel lt1) trodAll_mk0)), rfl, bel.frame _, fun h => by cases h⟩
theorem over : Rows.pinsPrintsRow.holds Tryz.pinned (OpenSpec.ofChange Rows.pinsPrintsSpec) :=
  OpenClaim.holds_of_wide 4 Tryz.f4 rfl rfl rfl rfl rfl rfl rfl ⟨rfl, rfl, rfl, rfl, rfl⟩ rfl rfl rfl rfl rfl (by kernel_rfl) Tryz.func4 (by kernel_rfl)
    (of_decide_eq_true (by kernel_rfl)) (by unfold Func.isWrapper; first | (rw [if_pos (by decide +kernel)]; kernel_rfl) | (rw [if_neg (by decide +kernel)]; exact ⟨rfl, rfl⟩))
    (fun os started H enc _ => lifted os started H enc)
theorem said : Rows.PinsPrintsSaid := over
theorem proved : Rows.PinsPrintsCardSaid :=
  Claim7.holds_tied_plain_at .later [] [.data, .data, .data, .data, .sentinel, .sentinel, .pinned] true (true, "ae8b5f4508b27d05baee40571132509b03caa991d8903e13fecbf2c179cc327a") true
    said (fun _ h => by cases h) (by kernel_rfl) (fun _ h => by cases h) pinsPrints_row_tie rfl ⟨rfl, rfl⟩ (by kernel_rfl) rfl
    (fun f fn hf hfn => by
      obtain rfl : f = 4 := Option.some.inj ((show Tryz.prog.funcNamed "keelson/keelsonlaw8.PinsPrints" = some 4 by kernel_rfl).symm.trans hf) |>.symm
      obtain rfl : fn = Tryz.f4 := (Option.some.inj (Tryz.func4.symm.trans hfn)).symm
      exact ⟨by kernel_rfl, fun j t ht => by
        rw [Tryz.params4] at ht
        have hm : t ∈ ([30, 23] : List TypeId) := List.mem_of_getElem? (by simpa using ht)
        have hall : ([30, 23] : List TypeId).all (fun t => !Tryz.prog.wantsStandIn t) = true := by kernel_rfl
        have := List.all_eq_true.1 hall t hm
        exact (show Tryz.prog.wantsStandIn t = false by simpa using this)⟩)
    (by kernel_rfl)
#print axioms proved
end Go.Proofs.YtlcfpmdamehopaaGreatDoor.pinsPrints
namespace Go.Proofs.YtlcfpmdamehopaaGreatDoor
/-- The statement, under a short name, for the claim. -/
theorem pinsPrints_holds : Rows.PinsPrintsCardSaid := pinsPrints.proved
end Go.Proofs.YtlcfpmdamehopaaGreatDoor
