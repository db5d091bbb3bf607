/- keelson/clause.Right: is a formula right. No condition. -/
import Derived.Test.YtooobbbpcpfddaaDoorGClause
import Derived.Test.YtooobbbpcpfddaaDoorGIdx
import Derived.Test.YtooobbbpcpfddaaDoorGMake
namespace Go.Proofs.YtooobbbpcpfddaaDoor.PA
open Go.RowKit Go.Proofs.YtooobbbpcpfddaaDoorW.PrintWords Go.Proofs.YtooobbbpcpfddaaDoorW.PrintLast Go.Proofs.YtooobbbpcpfddaaDoorW.PrintMore

def badC (n : Int) (c : List Int) : Bool := decide ((c.length : Int) > 20000) || c.any fun x => varG x n == 0
def rightG (n : Int) (l : List (List Int)) : Bool := !(decide (n < 0) || (decide (n > 20000) || decide ((l.length : Int) > 400000))) && !(l.any (badC n))
def clause_Right.f (a0 : Int) (l1 : List (List Int)) : Option Bool := some (rightG a0 l1)


set_option maxHeartbeats 400000 in
theorem right11_any (p : Addr) (n x : Int) (w : World) (hp : w.cell? p = some (.int .i64 n)) :
    Calls Tryd.prog 54 #[.int .i64 x, .pointer (some p)] w fun e w' => e = .returned (.bool (varG x n == 0)) ∧ Below w.heap.size w w' := by
  have h := (clause_variable.calls x n _ w (variable_eq x n)).mono fun e w' h => (⟨h.1, by obtain ⟨_, rfl⟩ := h.2; exact pw_below_drewN (Below.refl _ _) _⟩ : e = .returned (.int .i64 (varG x n)) ∧ Below w.heap.size w w')
  generalize varG x n = v at h ⊢
  go_enter Tryd.func54, Tryd.ntmps54
  go_wp2_with (go_at_call 55; refine h.mono ?_; rintro e w' ⟨rfl, hb⟩)
  go_ret
  exact ⟨rfl, hb⟩

set_option maxHeartbeats 400000 in
theorem right1_any (p : Addr) (n : Int) (A : Option Addr) (c : Nat) (x : List Int) (w : World) (hp : w.cell? p = some (.int .i64 n)) (hx : Kd.C (Kd.int .i64) w A x.length x) :
    Calls Tryd.prog 52 #[.slice A x.length c, .pointer (some p)] w fun e w' => e = .returned (.bool (badC n x)) ∧ Below w.heap.size w w' := by
  have hmf := makeFunc_run
  have hlen : x.length ≤ 9223372036854775807 := hx.2.1
  by_cases h1 : (x.length : Int) > 20000
  · have hb : badC n x = true := by unfold badC; rw [decide_eq_true h1]; rfl
    have HB := Lib.hid hb
    clear hb hx
    go_enter Tryd.func52, Tryd.ntmps52
    go_wp2
    go_ret
    exact ⟨by rw [HB.out]; rfl, Below.refl _ _⟩
  · have hb : badC n x = x.any fun y => varG y n == 0 := by unfold badC; rw [decide_eq_false h1]; rfl
    have eg : ∀ args w, (callFunc 54 args).run Tryd.prog w = .ok (.enter 54 args) w := enters_of Tryd.func54 (by kernel_rfl) rfl
    have hpred : PredOn (Kd.int .i64) oneV 54 #[.pointer (some p)] (fun y => varG y n == 0) x w := by
      rintro y _ cs W hW rfl
      exact right11_any p n y W (pw_cell_below hW hp)
    have hcon := con53 _ rfl _ _ eg A c x _ w hx hpred
    rw [← hb] at hcon
    generalize badC n x = b at hcon ⊢
    clear hpred hx hb eg hp
    go_enter Tryd.func52, Tryd.ntmps52
    go_wp2_with (go_at_call 53; refine hcon.mono ?_; rintro e w' ⟨rfl, hb'⟩)
    go_ret
    exact ⟨rfl, hb'⟩

set_option maxHeartbeats 1000000 in
theorem clause_Right.calls (a0 : Int) (A1 : Option Addr) (c1 : Nat) (l1 : List (List Int)) (r : Bool) (w : World) (hr1 : Kd.C (Kd.slice 3 (Kd.int .i64)) w A1 l1.length l1) (_hc1 : l1.length ≤ c1) (h : clause_Right.f a0 l1 = some r) :
    Calls Tryd.prog 31 #[.int .i64 a0, .slice A1 l1.length c1] w fun e w' => e = .returned (.bool r) ∧ Below w.heap.size w w' := by
  obtain rfl := Option.some.inj h
  clear h
  have hmf := makeFunc_run
  have hlen : l1.length ≤ 9223372036854775807 := hr1.2.1
  have hb1 : Below w.heap.size w (w.alloc (.cells #[.int .i64 a0] 3)) := (Below.refl _ w).alloc (Nat.le_refl _) _
  by_cases h0 : a0 < 0
  · have hb : rightG a0 l1 = false := by unfold rightG; rw [decide_eq_true h0]; rfl
    have HB := Lib.hid hb
    clear hb hr1
    go_enter Tryd.func31, Tryd.ntmps31
    go_wp2
    go_ret
    exact ⟨by rw [HB.out]; rfl, hb1⟩
  by_cases h1 : a0 > 20000
  · have hb : rightG a0 l1 = false := by unfold rightG; rw [decide_eq_false h0, decide_eq_true h1]; rfl
    have HB := Lib.hid hb
    clear hb hr1
    go_enter Tryd.func31, Tryd.ntmps31
    go_wp2
    go_ret
    exact ⟨by rw [HB.out]; rfl, hb1⟩
  by_cases h2 : (l1.length : Int) > 400000
  · have hb : rightG a0 l1 = false := by unfold rightG; rw [decide_eq_false h0, decide_eq_false h1, decide_eq_true h2]; rfl
    have HB := Lib.hid hb
    clear hb hr1
    go_enter Tryd.func31, Tryd.ntmps31
    go_wp2
    go_ret
    exact ⟨by rw [HB.out]; rfl, hb1⟩
  · have hb : (!l1.any (badC a0)) = rightG a0 l1 := by unfold rightG; rw [decide_eq_false h0, decide_eq_false h1, decide_eq_false h2]; rfl
    have eg : ∀ args w, (callFunc 52 args).run Tryd.prog w = .ok (.enter 52 args) w := enters_of Tryd.func52 (by kernel_rfl) rfl
    have hcell : (w.alloc (.cells #[.int .i64 a0] 3)).cell? ⟨w.heap.size, 0, none⟩ = some (.int .i64 a0) := by simp [go_sem]
    have hpred : PredOn (Kd.slice 3 (Kd.int .i64)) oneV 52 #[.pointer (some ⟨w.heap.size, 0, none⟩)] (badC a0) l1 (w.alloc (.cells #[.int .i64 a0] 3)) := by
      rintro y _ cs W hW ⟨A, c, rfl, hle, hC⟩
      exact right1_any ⟨w.heap.size, 0, none⟩ a0 A c y W (pw_cell_below hW hcell) hC
    have hcon := (con42 _ rfl _ _ eg A1 c1 l1 _ _ (Kd.C_below hr1 hb1) hpred).mono fun e w' h => (⟨h.1, hb1.trans (h.2.mono hb1.size)⟩ : e = .returned (.bool (l1.any (badC a0))) ∧ Below w.heap.size w w')
    have HB := Lib.hid hb
    clear hpred hr1 hb eg hcell
    generalize l1.any (badC a0) = b at hcon HB
    go_enter Tryd.func31, Tryd.ntmps31
    go_wp2_with (go_at_call 42; refine hcon.mono ?_; rintro e w' ⟨rfl, hb'⟩)
    go_ret
    exact ⟨congrArg (fun z => Ending.returned (Value.bool z)) HB.out, hb'⟩
end Go.Proofs.YtooobbbpcpfddaaDoor.PA
