/- Rows of numbers that are the call's own, through the library: cloned, sorted, compacted, with some deleted. What is asked: the row is the call's own (or reads so, for Clone) and within the machine's room. -/
import Derived.Test.YtooobbbpcpfddaaDoorGBase
import Derived.Test.YtooobbbpcpfddaaDoorShelf
import Derived.Lib.OwnBridge
import Derived.Sort.OwnSortedInts
namespace Go.Proofs.YtooobbbpcpfddaaDoor.PA
open Go.RowKit Go.Lib Go.Sort Go.Proofs.YtooobbbpcpfddaaDoorW.PrintWords Go.Proofs.YtooobbbpcpfddaaDoorW.PrintLast Go.Proofs.YtooobbbpcpfddaaDoorW.PrintMore

/-- The value v is a row of numbers xs of the call's own: blocks from B on; below B all is as it was in w0. -/
def OwnS (B : Nat) (w0 W : World) (v : Value) (xs : List Int) : Prop := W.ownsRow B 3 1 v xs.length (xs.map (Value.int .i64)) ∧ Below B w0 W ∧ B ≤ W.heap.size
theorem OwnS.nil {B : Nat} {w0 W : World} (h : Below B w0 W) (hB : B ≤ W.heap.size) : OwnS B w0 W (.slice none 0 0) [] := ⟨own_nil _ _ _ _, h, hB⟩
theorem OwnS.slice {B : Nat} {w0 W : World} {v : Value} {xs : List Int} (h : OwnS B w0 W v xs) : ∃ A c, v = .slice A xs.length c ∧ xs.length ≤ c := by
  rcases h.1.2 with ⟨rfl, hl⟩ | ⟨g, cap, cur, rfl, _, _, hn, _⟩
  · exact ⟨none, 0, by rw [hl], by omega⟩
  · exact ⟨_, cap, rfl, hn⟩
theorem OwnS.R {B : Nat} {w0 W : World} {v : Value} {xs : List Int} (h : OwnS B w0 W v xs) : Kd.R (Kd.int .i64) 3 W B (fun _ => True) v xs := Kd.R_of_own h.1 (fun _ _ => trivial)
theorem OwnS.of_R {B : Nat} {w0 W : World} {v : Value} {xs : List Int} {ok : Nat → Prop} (h : Kd.R (Kd.int .i64) 3 W B ok v xs) (hb : Below B w0 W) (hB : B ≤ W.heap.size) : OwnS B w0 W v xs := by
  exact ⟨Kd.own_of_R h, hb, hB⟩
theorem OwnS.drewN {B : Nat} {w0 W : World} {v : Value} {xs : List Int} (h : OwnS B w0 W v xs) (m : Nat) : OwnS B w0 (W.drewN m) v xs := ⟨h.1, pw_below_drewN h.2.1 m, h.2.2⟩
theorem OwnS.size {B : Nat} {w0 W : World} {v : Value} {xs : List Int} (h : OwnS B w0 W v xs) : xs.length ≤ maxLen := by
  rcases h.1.2 with ⟨_, hl⟩ | ⟨g, cap, cur, _, _, _, hn, hm, _⟩
  · rw [hl]; exact Nat.zero_le _
  · exact Nat.le_trans hn hm
theorem OwnS.below {B : Nat} {w0 W W1 : World} {v : Value} {xs : List Int} (h : OwnS B w0 W v xs) (hb : Below W.heap.size W W1) : OwnS B w0 W1 v xs := ⟨pw_own_below h.1 hb, h.2.1.trans (hb.mono h.2.2), Nat.le_trans h.2.2 hb.size⟩
theorem OwnS.bel {B : Nat} {w0 W : World} {v : Value} {xs : List Int} (h : OwnS B w0 W v xs) : Below B w0 W := h.2.1
theorem OwnS.base {B : Nat} {w0 W : World} {v : Value} {xs : List Int} (h : OwnS B w0 W v xs) : B ≤ W.heap.size := h.2.2
theorem OwnS.lower {B B0 : Nat} {w0 W W1 : World} {v : Value} {xs : List Int} (h : OwnS B W W1 v xs) (hb : Below B0 w0 W) (h0 : B0 ≤ B) : OwnS B0 w0 W1 v xs := by
  obtain ⟨⟨hl', h1⟩, h2, h3⟩ := h
  refine ⟨⟨hl', ?_⟩, hb.trans (h2.mono h0), Nat.le_trans h0 h3⟩
  rcases h1 with ⟨e, e2⟩ | ⟨g, cap, cur, e, hg, r⟩
  · exact .inl ⟨e, e2⟩
  · exact .inr ⟨g, cap, cur, e, Nat.le_trans h0 hg, r⟩
/-- Either no element, or a row at the head of a block. -/
theorem OwnS.form {B : Nat} {w0 W : World} {v : Value} {xs : List Int} (h : OwnS B w0 W v xs) : (xs = [] ∧ ∃ A c, v = .slice A 0 c) ∨ (xs ≠ [] ∧ ∃ g cap, v = .slice (some ⟨g, 0, none⟩) xs.length cap ∧ B ≤ g ∧ g < W.heap.size ∧ xs.length ≤ cap ∧ cap ≤ maxLen ∧ Holds (Value.int .i64) W g 0 xs.toArray) := by
  by_cases hx : xs = []
  · obtain ⟨A, c, e, _⟩ := h.slice
    exact .inl ⟨hx, A, c, by rw [e, hx]; rfl⟩
  · refine .inr ⟨hx, ?_⟩
    have hv : v ≠ .slice none 0 0 := by
      rintro rfl
      rcases h.1.2 with ⟨_, hl⟩ | ⟨g, cap, cur, e, _⟩
      · exact hx (List.length_eq_zero_iff.1 hl)
      · cases e
    obtain ⟨g, cap, e, h1, h2, h3, h4, _, h5⟩ := holds_of_ownsRow h.1 hv
    exact ⟨g, cap, e, h1, h2, h3, h4, h5⟩
/-- Behind a sort in place. -/
theorem OwnS.sorted {B : Nat} {w0 W : World} {g cap : Nat} {xs ys : List Int} (h : OwnS B w0 W (.slice (some ⟨g, 0, none⟩) xs.length cap) xs) (hl : ys.length = xs.length) (hg : B ≤ g) (n : Nat) (os : Array Obj) :
    OwnS B w0 (grow (putRow (Value.int .i64) (Sort.ahead W n) g 0 ys.toArray) os) (.slice (some ⟨g, 0, none⟩) xs.length cap) ys := by
  have h1 := ownsRow_putRow (q := n) (k := xs.length) (ys := ys) h.1 hl (Nat.le_refl _)
  have hb := below_putRow (enc := Value.int .i64) (q := n) (d := ys.toArray) h.2.1 hg
  have hz : (putRow (Value.int .i64) (Sort.ahead W n) g 0 ys.toArray).heap.size = W.heap.size := by simp [putRow, mapBlock, Sort.ahead]
  rw [List.take_of_length_le (by omega)] at h1
  have hg2 : Below (putRow (Value.int .i64) (Sort.ahead W n) g 0 ys.toArray).heap.size (putRow (Value.int .i64) (Sort.ahead W n) g 0 ys.toArray) (grow (putRow (Value.int .i64) (Sort.ahead W n) g 0 ys.toArray) os) :=
    ⟨rfl, rfl, rfl, by show _ ≤ (_ ++ os).size; rw [Array.size_append]; omega, fun _ hj => Sort.heap_grow_old _ os hj⟩
  have := pw_own_below h1 hg2
  rw [← hl] at this ⊢
  exact ⟨this, hb.trans (hg2.mono (by rw [hz]; exact h.2.2)), Nat.le_trans (by rw [hz]; exact h.2.2) hg2.size⟩

theorem cell_spot {w : World} {a : Addr} {u : Value} (h : w.cell? a = some u) : a = ⟨a.block, a.off, none⟩ := by
  obtain ⟨b, o, s⟩ := a
  unfold World.cell? at h
  cases hh : w.heap[b]? with
  | none => rw [hh] at h; cases h
  | some ob =>
    rw [hh] at h
    cases ob with
    | cells c e f =>
      cases s with
      | none => rfl
      | some s => simp at h
    | _ => simp at h
/-- slices.Clone of numbers. -/
theorem clone_own (A : Option Addr) (c : Nat) (xs : List Int) (w : World) (hr : Kd.C (Kd.int .i64) w A xs.length xs) (hl : xs.length * 8 ≤ 140737488355328) :
    Calls Tryd.prog 67 #[.slice A xs.length c] w fun e w' => ∃ v, e = .returned v ∧ OwnS w.heap.size w w' v xs := by
  by_cases hn : xs = []
  · subst hn
    cases A with
    | none => exact (Tryd.slices_Clone_int_nil 0 c w).mono fun _ _ ⟨he, hw⟩ => ⟨_, he, by rw [hw]; exact OwnS.nil (Below.refl _ _) (Nat.le_refl _)⟩
    | some a => exact (Tryd.slices_Clone_int_zero a c w).mono fun _ _ ⟨v, he, ho, _, hb⟩ => ⟨v, he, ho, hb, hb.size⟩
  · have h0 : 0 < xs.length := List.length_pos_iff.2 hn
    obtain ⟨ad, rfl⟩ := C_addr hr h0
    have hcell : ∀ j, j < xs.length → w.cell? (ad.add j) = some (.int .i64 (xs.getD j 0)) := by
      intro j hj
      obtain ⟨ad', e, hx⟩ := Kd.at_int hr (j : Int) (by omega) (by omega)
      cases e
      rw [Int.toNat_natCast, show Go.Proofs.YtooobbbpcpfddaaDoorW.PrintWords.rd xs (j : Int) = xs.getD j 0 from by unfold Go.Proofs.YtooobbbpcpfddaaDoorW.PrintWords.rd; simp] at hx
      exact hx
    have had : ad = ⟨ad.block, ad.off, none⟩ := cell_spot (by simpa [Addr.add] using hcell 0 h0)
    have h := Tryd.slices_Clone_int ad.block ad.off xs.length c xs w (Nat.le_refl _) hl (by
      intro j hj
      have hj' := hcell j hj
      rw [had] at hj'
      by_cases hj0 : j = 0
      · subst hj0; simpa [Addr.add] using hj'
      · simpa [Addr.add, hj0] using hj')
    rw [← had, List.take_of_length_le (Nat.le_refl _)] at h
    exact h.mono fun _ _ ⟨v, he, ho, _, hb⟩ => ⟨v, he, ho, hb, hb.size⟩

/-- slices.SortFunc of numbers that are the call's own, by a comparison that parts whatever two that are not one. -/
theorem sortf_own (cf : Int → Int → Int) (hO : SWO (ltOf cf)) (hT : ∀ x y, (ltOf cf) x y = false → (ltOf cf) y x = false → x = y) (g : Nat) (cb : Array Value) (eg : ∀ args w, (callFunc g args).run Tryd.prog w = .ok (.enter g args) w)
    (hc : ∀ W x y, Calls Tryd.prog g (#[.int .i64 x, .int .i64 y] ++ cb) W fun e w' => e = .returned (.int .i64 (cf x y)) ∧ ∃ q os', w' = grow (W.drewN q) os')
    (B : Nat) (w0 W : World) (v : Value) (xs : List Int) (hs : xs.length < 4611686018427387904) (h : OwnS B w0 W v xs) :
    Calls Tryd.prog 81 #[v, .func (.func g) #[] cb] W fun e w' => e = .returned (.tuple #[]) ∧ OwnS B w0 w' v (xs.mergeSort fun x y => !(ltOf cf) y x) := by
  rcases h.form with ⟨rfl, A, c, rfl⟩ | ⟨hx, b, cap, rfl, hB, hlt, hn, hm, hH⟩
  · exact (Tryd.slices_SortFunc_none (α := Int) A c (.func (.func g) #[] cb) W).mono fun _ _ ⟨he, hw⟩ => ⟨he, by rw [hw, List.mergeSort_nil]; exact h⟩
  · have h2 := Tryd.slices_SortFunc_total (Value.int .i64) (fun _ => rfl) cf hO g cb b 0 cap xs.toArray W eg (fun m os dk _ x y => hc _ x y) hH hlt (by simpa using hs) hT
    refine h2.mono ?_
    rintro e w' ⟨rfl, n, os, rfl⟩
    exact ⟨rfl, h.sorted (by simp) hB n os⟩
/-- slices.Sort of numbers that are the call's own. -/
theorem sort_own (B : Nat) (w0 W : World) (v : Value) (xs : List Int) (hs : xs.length < 4611686018427387904) (h : OwnS B w0 W v xs) :
    Calls Tryd.prog 92 #[v] W fun e w' => e = .returned (.tuple #[]) ∧ OwnS B w0 w' v (xs.mergeSort fun x y => decide (x ≤ y)) := by
  rcases h.form with ⟨rfl, A, c, rfl⟩ | ⟨hx, b, cap, rfl, hB, hlt, hn, hm, hH⟩
  · exact (Tryd.slices_Sort_int_none A c W).mono fun _ _ ⟨he, hw⟩ => ⟨he, by rw [hw, List.mergeSort_nil]; exact h⟩
  · refine (Tryd.slices_Sort_int b 0 cap xs W hH hlt hs).mono ?_
    rintro e w' ⟨rfl, n, os, rfl⟩
    exact ⟨rfl, h.sorted (by simp) hB n os⟩
/-- Behind a contract that leaves the row's head. -/
theorem OwnS.cut {B : Nat} {w0 W : World} {g cap : Nat} {xs zs ys : List Int} (h : OwnS B w0 W (.slice (some ⟨g, 0, none⟩) xs.length cap) xs) (hl : (zs ++ ys).length = xs.length) (hg : B ≤ g) (n : Nat) :
    OwnS B w0 (putRow (Value.int .i64) (Sort.ahead W n) g 0 (zs ++ ys).toArray) (.slice (some ⟨g, 0, none⟩) zs.length cap) zs := by
  have h1 := ownsRow_putRow (q := n) (k := zs.length) (ys := zs ++ ys) h.1 hl (by rw [← hl, List.length_append]; omega)
  rw [List.take_left'  rfl] at h1
  exact ⟨h1, below_putRow h.2.1 hg, by simpa [putRow, mapBlock, Sort.ahead] using h.2.2⟩
/-- slices.Compact of numbers that are the call's own. -/
theorem compact_own (B : Nat) (w0 W : World) (v : Value) (xs : List Int) (h : OwnS B w0 W v xs) :
    Calls Tryd.prog 85 #[v] W fun e w' => ∃ v', e = .returned v' ∧ OwnS B w0 w' v' (Lib.compact xs) := by
  rcases h.form with ⟨rfl, A, c, rfl⟩ | ⟨hx, b, cap, rfl, hB, hlt, hn, hm, hH⟩
  · exact (Tryd.slices_Compact_int_empty A c W).mono fun _ _ ⟨he, hw⟩ => ⟨_, he, by rw [hw]; exact h⟩
  · have hs := h.size
    have hc := compact_length_le xs
    refine (Tryd.slices_Compact_int b 0 cap xs W hH (by simp [maxLen] at hs; omega) hn).mono ?_
    rintro e w' ⟨rfl, n, rfl⟩
    exact ⟨_, rfl, h.cut (by simp; omega) hB n⟩
/-- slices.DeleteFunc of numbers that are the call's own. -/
theorem delete_own (p : Int → Bool) (g : Nat) (lb : Array Value) (eg : ∀ args w, (callFunc g args).run Tryd.prog w = .ok (.enter g args) w)
    (B : Nat) (w0 W : World) (v : Value) (xs : List Int) (hx : xs ≠ []) (h : OwnS B w0 W v xs)
    (hp : ∀ (b : Nat) (n : Nat) (os : Array Obj) (dk : Array Int) (x : Int), B ≤ b → Calls Tryd.prog g (#[.int .i64 x] ++ lb) (sortWorld (Value.int .i64) W b 0 n dk os) fun e w' => e = .returned (.bool (p x)) ∧ ∃ q, w' = (sortWorld (Value.int .i64) W b 0 n dk os).drewN q)
    (hq : ∀ W' x, Below W.heap.size W W' → Calls Tryd.prog g (#[.int .i64 x] ++ lb) W' fun e w' => e = .returned (.bool (p x)) ∧ ∃ q, w' = W'.drewN q) :
    Calls Tryd.prog 66 #[v, .func (.func g) #[] lb] W fun e w' => ∃ v', e = .returned v' ∧ OwnS B w0 w' v' (xs.filter fun x => !p x) := by
  rcases h.form with ⟨rfl, A, c, rfl⟩ | ⟨_, b, cap, rfl, hB, hlt, hn, hm, hH⟩
  · exact absurd rfl hx
  · have hs := h.size
    have hc : (xs.filter fun x => !p x).length ≤ xs.length := List.length_filter_le _ _
    refine (Tryd.slices_DeleteFunc (Value.int .i64) (fun _ => rfl) p g lb eg 0 Tryd.zeroValue3 b 0 cap xs.toArray W (fun W' x hb => hq W' x hb) (fun n os dk x _ => hp b n os dk x hB) hH (by simp [maxLen] at hs ⊢; omega) (by simpa using hn)).mono ?_
    rintro e w' ⟨rfl, n, rfl⟩
    exact ⟨_, rfl, h.cut (by simp; omega) hB n⟩
end Go.Proofs.YtooobbbpcpfddaaDoor.PA
