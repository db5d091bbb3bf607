/- keelson/clause.Resolve: two clauses resolved. At most 2^43 literals each (the machine's room). -/
import Derived.Test.YtooobbbpcpfddaaDoorGTidy
import Derived.Test.YtooobbbpcpfddaaDoorMContains
import Derived.Test.YtooobbbpcpfddaaDoorPA0
namespace Go.Proofs.YtooobbbpcpfddaaDoor.PA
open Go.RowKit Go.Lib Go.Sort Go.Proofs.YtooobbbpcpfddaaDoorW.PrintWords Go.Proofs.YtooobbbpcpfddaaDoorW.PrintLast Go.Proofs.YtooobbbpcpfddaaDoorW.PrintMore

def lessL (l : List Int) (x : Int) : List Int := l.filter fun y => !(y == x)
def resolveG (a b : List Int) (v : Int) : List Int × Bool := if v < 1 ∨ ¬ v ∈ a ∨ ¬ wrap64 (-v) ∈ b then ([], false) else (tidyL (lessL a v ++ lessL b (wrap64 (-v))), true)
def clause_Resolve.f (l0 l1 : List Int) (a2 : Int) : Option (List Int × Bool) := if l0.length ≤ 8796093022208 ∧ l1.length ≤ 8796093022208 then some (resolveG l0 l1 a2) else none

theorem below_sortWorld {B : Nat} {W : World} {b n : Nat} {os : Array Obj} {dk : Array Int} (hb : B ≤ b) (hB : B ≤ W.heap.size) : RowKit.Below B W (sortWorld (Value.int .i64) W b 0 n dk os) := by
  have h1 := below_putRow (enc := Value.int .i64) (q := n) (d := dk) (g := b) (RowKit.Below.refl B W) hb
  have hz : (putRow (Value.int .i64) (Sort.ahead W n) b 0 dk).heap.size = W.heap.size := by simp [putRow, mapBlock, Sort.ahead]
  have hg2 : RowKit.Below (putRow (Value.int .i64) (Sort.ahead W n) b 0 dk).heap.size (putRow (Value.int .i64) (Sort.ahead W n) b 0 dk) (grow (putRow (Value.int .i64) (Sort.ahead W n) b 0 dk) os) :=
    ⟨rfl, rfl, rfl, by show _ ≤ (_ ++ os).size; rw [Array.size_append]; omega, fun _ hj => Sort.heap_grow_old _ os hj⟩
  exact h1.trans (hg2.mono (by rw [hz]; exact hB))
set_option maxHeartbeats 400000 in
theorem resolve11_any (p : Addr) (x y : Int) (w : World) (hp : w.cell? p = some (.int .i64 x)) :
    Calls Tryd.prog 68 #[.int .i64 y, .pointer (some p)] w fun e w' => e = .returned (.bool (y == x)) ∧ ∃ q, w' = w.drewN q := by
  go_enter Tryd.func68, Tryd.ntmps68
  go_wp2
  go_ret
  exact ⟨rfl, 0, rfl⟩
theorem resolve11_enters : ∀ args w, (callFunc 68 args).run Tryd.prog w = .ok (.enter 68 args) w := enters_of Tryd.func68 (by kernel_rfl) rfl
theorem resolve1_enters : ∀ args w, (callFunc 65 args).run Tryd.prog w = .ok (.enter 65 args) w := enters_of Tryd.func65 (by kernel_rfl) rfl
set_option maxHeartbeats 1000000 in
theorem resolve1_any (A : Option Addr) (c : Nat) (l : List Int) (x : Int) (w : World) (hr : Kd.C (Kd.int .i64) w A l.length l) (hl : l.length ≤ 17592186044416) (hx : l ≠ []) :
    Calls Tryd.prog 65 #[.slice A l.length c, .int .i64 x] w fun e w' => ∃ v, e = .returned v ∧ OwnS w.heap.size w w' v (lessL l x) := by
  have hb1 : RowKit.Below w.heap.size w (w.alloc (.cells #[.int .i64 x] 3)) := (RowKit.Below.refl _ w).alloc (Nat.le_refl _) _
  have hcl := clone_own A c l (w.alloc (.cells #[.int .i64 x] 3)) (Kd.C_below hr hb1) (by omega)
  have hcell : (w.alloc (.cells #[.int .i64 x] 3)).cell? ⟨w.heap.size, 0, none⟩ = some (.int .i64 x) := by simp [go_sem]
  have hz : w.heap.size < (w.alloc (.cells #[.int .i64 x] 3)).heap.size := by simp
  generalize hw1 : w.alloc (.cells #[.int .i64 x] 3) = w1 at hb1 hcl hcell hz
  have hde : ∀ W v, OwnS w1.heap.size w1 W v l → Calls Tryd.prog 66 #[v, .func (.func 68) #[] #[.pointer (some ⟨w.heap.size, 0, none⟩)]] W fun e w' => ∃ v', e = .returned v' ∧ OwnS w.heap.size w w' v' (lessL l x) := by
    intro W v ho
    have hW : W.cell? ⟨w.heap.size, 0, none⟩ = some (.int .i64 x) := (ho.2.1.cell hz).trans hcell
    refine (delete_own (fun y => y == x) 68 #[.pointer (some ⟨w.heap.size, 0, none⟩)] resolve11_enters w1.heap.size w1 W v l hx ho ?_ ?_).mono ?_
    · intro b n os dk y hb
      exact resolve11_any _ x y _ (((below_sortWorld hb ho.2.2).cell hz).trans hW)
    · intro W' y hb
      exact resolve11_any _ x y _ (pw_cell_below hb hW)
    · rintro e w' ⟨v', rfl, h1, h2, h3⟩
      exact ⟨v', rfl, OwnS.lower ⟨h1, h2, h3⟩ hb1 hb1.size⟩
  have HDE := Lib.hid hde
  have hmf := makeFunc_run
  clear hde hcell hz hr hx hl hb1
  subst hw1
  go_enter Tryd.func65, Tryd.ntmps65
  go_wp2_with (first | (go_at_call 67; with_reducible refine hcl.mono ?_; rintro e w2 ⟨v1, rfl, o1⟩; have O1 := Lib.hid o1; clear o1) | (go_at_call 66; with_reducible refine (HDE.out _ _ O1.out).mono ?_; rintro e w3 ⟨v2, rfl, o2⟩; have O2 := Lib.hid o2; clear o2))
  go_ret
  exact ⟨_, rfl, O2.out⟩
theorem contains_calls (A : Option Addr) (c : Nat) (l : List Int) (x : Int) (w : World) (hr : Kd.C (Kd.int .i64) w A l.length l) (hc : l.length ≤ c) :
    Calls Tryd.prog 40 #[.slice A l.length c, .int .i64 x] w fun e w' => e = .returned (.bool (decide (x ∈ l))) ∧ Drawn0 w w' := by
  obtain ⟨K, hK⟩ := contains_ev l x hr.2.1
  exact slices_Contains_int_int.calls K A c l x _ w hr hc (hK K (Nat.le_refl _))
set_option maxHeartbeats 4000000 in
theorem clause_Resolve.calls (A0 : Option Addr) (c0 : Nat) (l0 : List Int) (A1 : Option Addr) (c1 : Nat) (l1 : List Int) (a2 : Int) (r1 : List Int) (r2 : Bool) (w : World) (hr0 : Kd.C (Kd.int .i64) w A0 l0.length l0) (hc0 : l0.length ≤ c0)
    (hr1 : Kd.C (Kd.int .i64) w A1 l1.length l1) (hc1 : l1.length ≤ c1) (h : clause_Resolve.f l0 l1 a2 = some (r1, r2)) :
    Calls Tryd.prog 39 #[.slice A0 l0.length c0, .slice A1 l1.length c1, .int .i64 a2] w fun e w' => ∃ v0_ : Value, e = .returned (.tuple #[v0_, .bool r2]) ∧ Kd.R (Kd.int .i64) 3 w' w.heap.size (fun _ => True) v0_ r1 ∧ Below w.heap.size w w' := by
  unfold clause_Resolve.f at h
  split at h
  case isFalse => cases h
  case isTrue hlen =>
  replace h := Option.some.inj h
  have k0 := contains_calls A0 c0 l0 a2 w hr0 hc0
  have k1 := fun m => contains_calls A1 c1 l1 (wrap64 (-a2)) (w.drewN m) (Kd.C_drewN hr1 m) hc1
  by_cases g0 : a2 < 1
  · have hG : resolveG l0 l1 a2 = ([], false) := by unfold resolveG; rw [if_pos (.inl g0)]
    rw [hG] at h
    cases h
    clear hr0 hr1 k0 k1
    go_enter Tryd.func39, Tryd.ntmps39
    go_wp2
    go_ret2
    exact ⟨_, rfl, (OwnS.nil (RowKit.Below.refl _ _) (Nat.le_refl _)).R, RowKit.Below.refl _ _⟩
  by_cases g1 : a2 ∈ l0
  case neg =>
    have hG : resolveG l0 l1 a2 = ([], false) := by unfold resolveG; rw [if_pos (.inr (.inl g1))]
    rw [hG] at h
    cases h
    rw [decide_eq_false g1] at k0
    clear hr0 hr1 k1 g1
    go_enter Tryd.func39, Tryd.ntmps39
    go_wp2_with (go_at_call 40; with_reducible refine k0.mono ?_; rintro e w' ⟨rfl, m, rfl⟩)
    go_ret2
    exact ⟨_, rfl, (OwnS.nil (pw_below_drewN (RowKit.Below.refl _ _) _) (Nat.le_refl _)).R, pw_below_drewN (RowKit.Below.refl _ _) _⟩
  by_cases g2 : wrap64 (-a2) ∈ l1
  case neg =>
    have hG : resolveG l0 l1 a2 = ([], false) := by unfold resolveG; rw [if_pos (.inr (.inr g2))]
    rw [hG] at h
    cases h
    rw [decide_eq_true g1] at k0
    rw [decide_eq_false g2] at k1
    clear hr0 hr1 g1 g2
    go_enter Tryd.func39, Tryd.ntmps39
    go_wp2_with (first | (go_at_call 40; with_reducible refine k0.mono ?_; rintro e w' ⟨rfl, m, rfl⟩) | (go_at_call 40; with_reducible refine (k1 _).mono ?_; rintro e w' ⟨rfl, m2, rfl⟩))
    go_ret2
    exact ⟨_, rfl, (OwnS.nil (pw_below_drewN (RowKit.Below.refl _ _) _) (Nat.le_refl _)).R, pw_below_drewN (RowKit.Below.refl _ _) _⟩
  have hG : resolveG l0 l1 a2 = (tidyL (lessL l0 a2 ++ lessL l1 (wrap64 (-a2))), true) := by
    unfold resolveG; rw [if_neg]; rintro (z | z | z) <;> contradiction
  rw [hG] at h
  cases h
  rw [decide_eq_true g1] at k0
  rw [decide_eq_true g2] at k1
  have n0 : l0 ≠ [] := List.ne_nil_of_mem g1
  have n1 : l1 ≠ [] := List.ne_nil_of_mem g2
  have q0 : (lessL l0 a2).length ≤ 8796093022208 := Nat.le_trans (List.length_filter_le _ _) hlen.1
  have q1 : (lessL l1 (wrap64 (-a2))).length ≤ 8796093022208 := Nat.le_trans (List.length_filter_le _ _) hlen.2
  have f0 := fun m => resolve1_any A0 c0 l0 a2 (w.drewN m) (Kd.C_drewN hr0 m) (by omega) n0
  have f1 := fun (W : World) (hW : RowKit.Below w.heap.size w W) => resolve1_any A1 c1 l1 (wrap64 (-a2)) W (Kd.C_below hr1 hW) (by omega) n1
  have ft := fun (W : World) (A : Option Addr) (c : Nat) (h1 : Kd.C (Kd.int .i64) W A (lessL l0 a2 ++ lessL l1 (wrap64 (-a2))).length (lessL l0 a2 ++ lessL l1 (wrap64 (-a2)))) (h2 : (lessL l0 a2 ++ lessL l1 (wrap64 (-a2))).length ≤ c) => clause_Tidy.calls A c _ (tidyL (lessL l0 a2 ++ lessL l1 (wrap64 (-a2)))) (bothL (tidyL (lessL l0 a2 ++ lessL l1 (wrap64 (-a2))))) W h1 h2 (by unfold clause_Tidy.f; rw [if_pos (by rw [List.length_append]; omega)])
  generalize lessL l0 a2 = x0 at f0 ft q0 ⊢
  generalize lessL l1 (wrap64 (-a2)) = x1 at f1 ft q1 ⊢
  generalize hy : x0 ++ x1 = y at ft ⊢
  generalize bothL (tidyL y) = bb at ft
  generalize tidyL y = r at ft ⊢
  have F1 := Lib.hid f1
  have FT := Lib.hid ft
  clear hr0 hr1 g1 g2 n0 n1 f1 ft hG
  go_enter Tryd.func39, Tryd.ntmps39
  go_wp2_with (first | (go_at_call 40; with_reducible refine k0.mono ?_; rintro e w' ⟨rfl, m, rfl⟩) | (go_at_call 40; with_reducible refine (k1 _).mono ?_; rintro e w' ⟨rfl, m2, rfl⟩) | (go_at_call 65; with_reducible refine (f0 _).mono ?_; rintro e w1 ⟨v1, rfl, o1⟩; have O1 := Lib.hid (OwnS.lower o1 (pw_below_drewN (RowKit.Below.refl w.heap.size w) _) (Nat.le_refl _)); clear o1) | (go_at_call 65; with_reducible refine (F1.out _ O1.out.bel).mono ?_; rintro e w2 ⟨v2, rfl, o2⟩; obtain ⟨A2, c2, rfl, hc2⟩ := o2.slice; have O1b := Lib.hid (O1.out.below o2.bel); have O2 := Lib.hid o2; clear o2 O1) | ((with_reducible refine gate_builtin (b := .append) (xs := #[.tmp 30, .tmp 35]) rfl ?_); (try (refine gate_guard (by rfl) ?_; dsimp only)); at_builtin; refine Kd.R_append_rows (Kd.int .i64) (w0 := w) w.heap.size rfl (.tmp 30) (.tmp 35) 22 3 (.int .i64 0) 8 rfl Tryd.underlying22 info3 rfl (by decide) (by omega) v1 x0 x1 _ _ _ (fun _ => True) (fun _ => False) rfl rfl O1b.out.R (Kd.R_reads' O2.out.R).2.2 (fun _ _ h => h) (fun _ h => h.elim) (fun _ _ => trivial) O1b.out.bel O1b.out.base (by omega) ?_; intro v3 w3 ho hb hg hat; rw [hy] at ho; obtain ⟨A3, c3, rfl⟩ := Kd.R_slice ho; have HO := Lib.hid ho; have HB := Lib.hid hb; clear ho hb hg hat) | (go_at_call 57; with_reducible refine (FT.out _ _ _ (Kd.R_reads' HO.out).2.2 (Kd.R_reads' HO.out).2.1).mono ?_; rintro e w4 ⟨v4, rfl, hR, hb4⟩; have O4 := Lib.hid (OwnS.lower (OwnS.of_R hR hb4 hb4.size) HB.out HB.out.size); clear hR hb4))
  go_ret2
  exact ⟨_, rfl, O4.out.R, O4.out.2.1⟩
end Go.Proofs.YtooobbbpcpfddaaDoor.PA
