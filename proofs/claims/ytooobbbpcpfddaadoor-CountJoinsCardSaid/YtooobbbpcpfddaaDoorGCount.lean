/- keelson/count.Right and count.Value: are terms right; the number of bits by a truth. Value: the truth's length is at most 2^45 (the machine's room for a slice). -/
import Derived.Test.YtooobbbpcpfddaaDoorGRight
import Derived.Test.YtooobbbpcpfddaaDoorGHolds
namespace Go.Proofs.YtooobbbpcpfddaaDoor.PA
open Go.RowKit Go.Proofs.YtooobbbpcpfddaaDoorW.PrintWords Go.Proofs.YtooobbbpcpfddaaDoorW.PrintLast Go.Proofs.YtooobbbpcpfddaaDoorW.PrintMore

def badT (n : Int) (t : S40) : Bool := decide (t.f1 < 0) || !(rightG n [[t.f0]])
def cRightG (n : Int) (l : List S40) : Bool := decide ((l.length : Int) ≤ 1000) && (rightG n [] && !(l.any (badT n)))
def count_Right.f (a0 : Int) (l1 : List S40) : Option Bool := some (cRightG a0 l1)

/-- A literal of one number, and of one row: as it reads. -/
theorem lit_one {w : World} {b : Nat} {x : Int} (h : w.cell? ⟨b, 0, none⟩ = some (.int .i64 x)) : Kd.C (Kd.int .i64) w (some ⟨b, 0, none⟩) 1 [x] :=
  ⟨rfl, by decide, fun _ => ⟨_, rfl, fun j p hp => by
    have hj := (List.getElem?_eq_some_iff.1 hp).1
    have h0 : j = 0 := by simp at hj; omega
    subst h0
    simp at hp
    subst hp
    refine ⟨[.int .i64 x], rfl, rfl, fun i u hu => ?_⟩
    have hi := (List.getElem?_eq_some_iff.1 hu).1
    have hi0 : i = 0 := by simp at hi; omega
    subst hi0
    simp at hu
    subst hu
    simpa [Addr.add] using h⟩⟩
theorem lit_row {w : World} {b b' : Nat} {x : Int} (h : w.cell? ⟨b, 0, none⟩ = some (.int .i64 x)) (h' : w.cell? ⟨b', 0, none⟩ = some (.slice (some ⟨b, 0, none⟩) 1 1)) :
    Kd.C (Kd.slice 3 (Kd.int .i64)) w (some ⟨b', 0, none⟩) 1 [[x]] :=
  ⟨rfl, by decide, fun _ => ⟨_, rfl, fun j p hp => by
    have hj := (List.getElem?_eq_some_iff.1 hp).1
    have h0 : j = 0 := by simp at hj; omega
    subst h0
    simp at hp
    subst hp
    refine ⟨[.slice (some ⟨b, 0, none⟩) 1 1], rfl, ⟨_, _, rfl, Nat.le_refl _, lit_one h⟩, fun i u hu => ?_⟩
    have hi := (List.getElem?_eq_some_iff.1 hu).1
    have hi0 : i = 0 := by simp at hi; omega
    subst hi0
    simp at hu
    subst hu
    simpa [Addr.add] using h'⟩⟩

set_option maxHeartbeats 1000000 in
theorem cright1_any (p : Addr) (n : Int) (t : S40) (w : World) (hp : w.cell? p = some (.int .i64 n)) :
    Calls Tryd.prog 47 #[.agg #[.int .i64 t.f0, .int .i64 t.f1], .pointer (some p)] w fun e w' => e = .returned (.bool (badT n t)) ∧ Below w.heap.size w w' := by
  have hb1 : Below w.heap.size w (w.alloc (.cells #[.int .i64 t.f0, .int .i64 t.f1] 40)) := (Below.refl _ w).alloc (Nat.le_refl _) _
  by_cases h0 : t.f1 < 0
  · have hb : badT n t = true := by unfold badT; rw [decide_eq_true h0]; rfl
    have HB := Lib.hid hb
    clear hb
    have hp' := pw_cell_below hb1 hp
    have hlt := World.block_lt_of_cell? w _ hp
    go_enter Tryd.func47, Tryd.ntmps47
    go_wp2
    go_ret
    exact ⟨by rw [HB.out]; rfl, hb1⟩
  · have hb : (!(rightG n [[t.f0]])) = badT n t := by unfold badT; rw [decide_eq_false h0]; rfl
    have hlt := World.block_lt_of_cell? w _ hp
    have hb2 : Below w.heap.size w (((w.alloc (.cells #[.int .i64 t.f0, .int .i64 t.f1] 40)).alloc (.cells #[.int .i64 t.f0] 3)).alloc (.cells #[.slice (some ⟨w.heap.size + 1, 0, none⟩) 1 1] 22)) :=
      (hb1.alloc hb1.size _).alloc (by simp; omega) _
    have hc := (clause_Right.calls n (some ⟨w.heap.size + 2, 0, none⟩) 1 [[t.f0]] _ (((w.alloc (.cells #[.int .i64 t.f0, .int .i64 t.f1] 40)).alloc (.cells #[.int .i64 t.f0] 3)).alloc (.cells #[.slice (some ⟨w.heap.size + 1, 0, none⟩) 1 1] 22))
      (lit_row (b := w.heap.size + 1) (by simp [go_sem]) (by simp [go_sem])) (Nat.le_refl _) rfl).mono fun e w' h => (⟨h.1, hb2.trans (h.2.mono hb2.size)⟩ : e = .returned (.bool (rightG n [[t.f0]])) ∧ Below w.heap.size w w')
    have HB := Lib.hid hb
    clear hb hb2
    generalize rightG n [[t.f0]] = b at hc HB
    go_enter Tryd.func47, Tryd.ntmps47
    go_wp2_with (go_at_call 31; refine hc.mono ?_; rintro e w' ⟨rfl, hb'⟩)
    go_ret
    exact ⟨congrArg (fun z => Ending.returned (Value.bool z)) HB.out, hb'⟩

theorem k40_cells {w : World} {x : S40} {cs : List Value} (h : k40.K w x cs) : aggV cs = .agg #[.int .i64 x.f0, .int .i64 x.f1] := by
  rw [k40_open h]; rfl
set_option maxHeartbeats 1000000 in
theorem count_Right.calls (a0 : Int) (A1 : Option Addr) (c1 : Nat) (l1 : List S40) (r : Bool) (w : World) (hr1 : Kd.C k40 w A1 l1.length l1) (_hc1 : l1.length ≤ c1) (h : count_Right.f a0 l1 = some r) :
    Calls Tryd.prog 24 #[.int .i64 a0, .slice A1 l1.length c1] w fun e w' => e = .returned (.bool r) ∧ Below w.heap.size w w' := by
  obtain rfl := Option.some.inj h
  clear h
  have hmf := makeFunc_run
  have hlen : l1.length ≤ 9223372036854775807 := hr1.2.1
  have hb1 : Below w.heap.size w (w.alloc (.cells #[.int .i64 a0] 3)) := (Below.refl _ w).alloc (Nat.le_refl _) _
  have hcell : (w.alloc (.cells #[.int .i64 a0] 3)).cell? ⟨w.heap.size, 0, none⟩ = some (.int .i64 a0) := by simp [go_sem]
  by_cases h0 : (l1.length : Int) ≤ 1000
  · have hR := (clause_Right.calls a0 none 0 [] _ (w.alloc (.cells #[.int .i64 a0] 3)) (C_nil _ _ _) (Nat.le_refl _) rfl).mono fun e w' h => (⟨h.1, pw_cell_below h.2 hcell, hb1.trans (h.2.mono hb1.size)⟩ : e = .returned (.bool (rightG a0 [])) ∧ w'.cell? ⟨w.heap.size, 0, none⟩ = some (.int .i64 a0) ∧ Below w.heap.size w w')
    cases hq : rightG a0 [] with
    | false =>
      have hb : cRightG a0 l1 = false := by unfold cRightG; rw [hq]; simp
      have HB := Lib.hid hb
      rw [hq] at hR
      have HQ := Lib.hid hq
      clear hb hr1 hq hcell
      go_enter Tryd.func24, Tryd.ntmps24
      go_wp2_with (go_at_call 31; refine hR.mono ?_; rintro e w' ⟨rfl, _, hb'⟩)
      go_ret
      exact ⟨by rw [HB.out]; rfl, hb'⟩
    | true =>
      have hb : (!(l1.any (badT a0))) = cRightG a0 l1 := by unfold cRightG; rw [hq, decide_eq_true h0]; rfl
      have HB := Lib.hid hb
      rw [hq] at hR
      have HQ := Lib.hid hq
      have eg : ∀ args w, (callFunc 47 args).run Tryd.prog w = .ok (.enter 47 args) w := enters_of Tryd.func47 (by kernel_rfl) rfl
      have hpred : ∀ w1 : World, w1.cell? ⟨w.heap.size, 0, none⟩ = some (.int .i64 a0) → PredOn k40 aggV 47 #[.pointer (some ⟨w.heap.size, 0, none⟩)] (badT a0) l1 w1 := by
        intro w1 hc1 y _ cs W hW hK
        rw [k40_cells hK]
        exact cright1_any ⟨w.heap.size, 0, none⟩ a0 y W (pw_cell_below hW hc1)
      have hcon : ∀ w1 : World, w1.cell? ⟨w.heap.size, 0, none⟩ = some (.int .i64 a0) → Below w.heap.size w w1 → Calls Tryd.prog 46 #[.slice A1 l1.length c1, .func (.func 47) #[] #[.pointer (some ⟨w.heap.size, 0, none⟩)]] w1 fun e w' => e = .returned (.bool (l1.any (badT a0))) ∧ Below w.heap.size w w' := fun w1 h1 h2 =>
        (con46 k40 rfl _ _ eg A1 c1 l1 (badT a0) w1 (Kd.C_below hr1 h2) (hpred w1 h1)).mono fun e w' h => (⟨h.1, h2.trans (h.2.mono h2.size)⟩ : e = .returned (.bool (l1.any (badT a0))) ∧ Below w.heap.size w w')
      clear hpred hr1 hb eg hcell hq
      generalize l1.any (badT a0) = b at hcon HB
      have HC := Lib.hid hcon
      clear hcon
      go_enter Tryd.func24, Tryd.ntmps24
      go_wp2_with (first | (go_at_call 31; refine hR.mono ?_; rintro e w' ⟨rfl, hcw, hbw⟩; have CW := Lib.hid hcw; have BW := Lib.hid hbw; clear hcw hbw) | (go_at_call 46; refine (HC.out _ CW.out BW.out).mono ?_; rintro e w'' ⟨rfl, hb'⟩))
      go_ret
      exact ⟨congrArg (fun z => Ending.returned (Value.bool z)) HB.out, hb'⟩
  · have hb : cRightG a0 l1 = false := by unfold cRightG; rw [decide_eq_false h0]; rfl
    have HB := Lib.hid hb
    clear hb hr1
    go_enter Tryd.func24, Tryd.ntmps24
    go_wp2
    go_ret
    exact ⟨by rw [HB.out]; rfl, hb1⟩

/-- The number of bits from the place i on, as Go sums it. -/
def cvalG (m : List Bool) : List Int → Nat → Int → Int
  | [], _, n => n
  | x :: l, i, n => cvalG m l (i + 1) (if holdsG [[x]] m = true then wrap64 (n + 2 ^ i) else n)
def count_Value.f (l0 : List Int) (l1 : List Bool) : Option Int := if l1.length ≤ 35184372088832 then some (cvalG l1 (l0.take 40) 0 0) else none
theorem take_C {α : Type} {d : Kd α} {w : World} {A : Option Addr} {xs : List α} (n : Nat) (h : d.C w A xs.length xs) : d.C w A (xs.take n).length (xs.take n) :=
  ⟨rfl, Nat.le_trans (by simp; omega) h.2.1, fun hn => by
    have hle : (xs.take n).length ≤ xs.length := by rw [List.length_take]; omega
    obtain ⟨ad, e, hc⟩ := h.2.2 (Nat.lt_of_lt_of_le hn hle)
    refine ⟨ad, e, fun j p hp => hc j p ?_⟩
    rw [List.getElem?_take] at hp
    split at hp
    · exact hp
    · cases hp⟩
theorem pow_small {k : Nat} (h : k ≤ 40) : wrap64 ((2 : Int) ^ k) = 2 ^ k := by
  have h0 : (0 : Int) < 2 ^ k := Int.pow_pos (by decide)
  have h1 : 2 ^ k ≤ 2 ^ 40 := Nat.pow_le_pow_right (by decide) h
  have h2 : ((2 ^ k : Nat) : Int) ≤ ((2 ^ 40 : Nat) : Int) := by omega
  have e : ((2 ^ 40 : Nat) : Int) = 1099511627776 := by decide +kernel
  rw [e] at h2
  have h3 : (2 : Int) ^ k ≤ 1099511627776 := by simpa using h2
  unfold wrap64
  omega
theorem cval_step (m : List Bool) (l : List Int) (k : Nat) (s : Int) (hk : k < l.length) : cvalG m (l.drop k) k s = cvalG m (l.drop (k + 1)) (k + 1) (if holdsG [[l[k]]] m = true then wrap64 (s + 2 ^ k) else s) := by
  rw [List.drop_eq_getElem_cons hk, cvalG]
attribute [local go_sem] max2_int min2_int max_two min_two
set_option maxHeartbeats 1000000 in
theorem count_Value.calls (A0 : Option Addr) (c0 : Nat) (l0 : List Int) (A1 : Option Addr) (c1 : Nat) (l1 : List Bool) (r : Int) (w : World) (hr0 : Kd.C (Kd.int .i64) w A0 l0.length l0) (hc0 : l0.length ≤ c0)
    (hr1 : Kd.C Kd.bool w A1 l1.length l1) (hc1 : l1.length ≤ c1) (h : count_Value.f l0 l1 = some r) :
    Calls Tryd.prog 28 #[.slice A0 l0.length c0, .slice A1 l1.length c1] w fun e w' => e = .returned (.int .i64 r) ∧ Below w.heap.size w w' := by
  unfold count_Value.f at h
  split at h
  case isFalse => cases h
  case isTrue hlen =>
  obtain rfl := Option.some.inj h
  clear h
  have hn : l0.length ≤ 9223372036854775807 := hr0.2.1
  have hT := take_C 40 hr0
  have hm : (l0.take 40).length = min l0.length 40 := by rw [List.length_take]; omega
  have hmc : (l0.take 40).length ≤ c0 := by omega
  have hm40 : (l0.take 40).length ≤ 40 := by omega
  have hmin : (if (40 : Int) < (l0.length : Int) then (40 : Int) else (l0.length : Int)) = (((l0.take 40).length : Nat) : Int) := by split <;> omega
  generalize l0.take 40 = b at hT hm hmc hm40 hmin ⊢
  have HM := Lib.hid hm
  have H0 := Lib.hid hT
  have H1 := Lib.hid hr1
  clear hr0 hr1 hm hT
  go_enter Tryd.func28, Tryd.ntmps28
  go_wp2_with fail
  go_loopg [5, 6, 7, 14] b.length (fun gg s5 _ _ s14 wr => ∃ (kk : Nat) (s : Int), kk ≤ b.length ∧ b.length - kk ≤ gg ∧ s5 = .int .i64 s ∧ s14 = .int .i64 kk ∧ Aside (Below w.heap.size w wr) ∧ Aside (cvalG l1 (b.drop kk) kk s = cvalG l1 b 0 0))
  case atStart => exact ⟨0, 0, Nat.zero_le _, by omega, rfl, rfl, Below.refl _ _, by rw [List.drop_zero]; exact rfl⟩
  case round =>
    obtain ⟨kk, s, hkk, hg, rfl, rfl, RB, HS⟩ := hrel
    by_cases hlt : kk < b.length
    · have hltz : (kk : Int) < (b.length : Int) := by omega
      obtain ⟨ad, e, hx⟩ := Kd.at_int H0.out (kk : Int) (by omega) (by omega)
      subst e
      rw [Int.toNat_natCast, show rd b (kk : Int) = b[kk] from by unfold rd; simp [List.getD_eq_getElem?_getD, List.getElem?_eq_getElem hlt]] at hx
      replace hx := pw_cell_below RB.out hx
      have hst := cval_step l1 b kk s hlt
      rw [HS.out] at hst
      have hb2 : Below w.heap.size w ((wr.alloc (.cells #[.int .i64 b[kk]] 3)).alloc (.cells #[.slice (some ⟨wr.heap.size, 0, none⟩) 1 1] 22)) := (RB.out.alloc RB.out.size _).alloc (by have := RB.out.size; simp; omega) _
      have hc := (clause_Holds.calls (some ⟨wr.heap.size + 1, 0, none⟩) 1 [[b[kk]]] A1 c1 l1 (holdsG [[b[kk]]] l1) ((wr.alloc (.cells #[.int .i64 b[kk]] 3)).alloc (.cells #[.slice (some ⟨wr.heap.size, 0, none⟩) 1 1] 22))
        (lit_row (b := wr.heap.size) (by simp [go_sem]) (by simp [go_sem])) (Nat.le_refl _) (Kd.C_below H1.out hb2) hc1 (by unfold clause_Holds.f; rw [if_pos hlen])).mono fun e w' h => (⟨h.1, hb2.trans (h.2.mono hb2.size)⟩ : e = .returned (.bool (holdsG [[b[kk]]] l1)) ∧ Below w.heap.size w w')
      generalize b[kk] = x at hx hc hst
      cases hq : holdsG [[x]] l1 with
      | true =>
        rw [hq] at hc hst
        have ST := Lib.hid hst
        clear hst hb2 hq HS RB
        go_wp2_with (go_at_call 20; refine hc.mono ?_; rintro e w' ⟨rfl, hb'⟩)
        go_roundg (b.length - (kk + 1))
        case measure => omega
        case rel =>
          exact ⟨kk + 1, wrap64 (s + 2 ^ kk), by omega, by omega, by rw [pow_small (by omega)], by go_num, hb', by have hh := ST.out; simp only [if_true] at hh; exact hh.symm⟩
      | false =>
        rw [hq] at hc hst
        have ST := Lib.hid hst
        clear hst hb2 hq HS RB
        go_wp2_with (go_at_call 20; refine hc.mono ?_; rintro e w' ⟨rfl, hb'⟩)
        go_roundg (b.length - (kk + 1))
        case measure => omega
        case rel => exact ⟨kk + 1, s, by omega, by omega, rfl, by go_num, hb', ST.out.symm⟩
    · have hltz : ¬ (kk : Int) < (b.length : Int) := by omega
      have hS := HS.out
      rw [List.drop_eq_nil_of_le (by omega)] at hS
      have HS2 := Lib.hid hS
      clear hS HS
      go_wp2
      go_ret
      exact ⟨by rw [← HS2.out]; rfl, RB.out⟩
end Go.Proofs.YtooobbbpcpfddaaDoor.PA
