/- keelson/stanza.place, Only: the place of the first field of a name; whether each field's name is one of some. No condition. -/
import Derived.Test.YtekplcjgmnahmaaDoorGIdx5
import Derived.Test.YtekplcjgmnahmaaDoorGMake
import Derived.Test.YtekplcjgmnahmaaDoorShelf
import Derived.Test.YtekplcjgmnahmaaDoorMStanza0
namespace Go.Proofs.YtekplcjgmnahmaaDoor.PA
open Go.RowKit Go.Proofs.YtekplcjgmnahmaaDoorW.PrintWords Go.Proofs.YtekplcjgmnahmaaDoorW.PrintLast Go.Proofs.YtekplcjgmnahmaaDoorW.PrintMore

theorem place1_enters : ∀ args w, (callFunc 57 args).run Tryd.prog w = .ok (.enter 57 args) w := enters_of Tryd.func57 (by kernel_rfl) rfl
theorem str_eq (a b : ByteArray) : (a.toList == b.toList) = decide (a = b) := by
  rw [ByteArray.toList_eq, ByteArray.toList_eq]
  by_cases h : a = b
  · subst h; simp
  · rw [decide_eq_false h, beq_eq_false_iff_ne]
    intro e
    exact h (by cases a; cases b; simp at e; rw [e])
set_option maxHeartbeats 400000 in
theorem place1_any (x y n : ByteArray) (p : Addr) (W : World) (hp : W.cell? p = some (.string n)) : Calls Tryd.prog 57 #[.agg #[.string x, .string y], .pointer (some p)] W fun e w' => e = .returned (.bool (decide (x = n))) ∧ Below W.heap.size W w' := by
  have hlt : p.block < W.heap.size := World.block_lt_of_cell? W p hp
  have hp2 : (W.alloc (.cells #[.string x, .string y] 49)).cell? p = some (.string n) := pw_cell_below ((Below.refl _ W).alloc (Nat.le_refl _) _) hp
  have hse := str_eq x n
  clear hp
  go_enter Tryd.func57, Tryd.ntmps57
  go_wp2
  go_ret
  exact ⟨rfl, (Below.refl _ W).alloc (Nat.le_refl _) _⟩
def isName (n : ByteArray) (f : Fd) : Bool := decide (f.f0 = n)
def stanza_place.f (l0 : List Fd) (a1 : ByteArray) : Option Int := some (idxP (isName a1) l0)
set_option maxHeartbeats 1000000 in
theorem stanza_place.calls (A0 : Option Addr) (c0 : Nat) (l0 : List Fd) (a1 : ByteArray) (r : Int) (w : World) (hr0 : Kd.C k49 w A0 l0.length l0) (_hc0 : l0.length ≤ c0) (h : stanza_place.f l0 a1 = some r) :
    Calls Tryd.prog 34 #[.slice A0 l0.length c0, .string a1] w fun e w' => e = .returned (.int .i64 r) ∧ Below w.heap.size w w' := by
  obtain rfl := Option.some.inj h
  clear h
  have hb1 : Below w.heap.size w (w.alloc (.cells #[.string a1] 9)) := (Below.refl _ w).alloc (Nat.le_refl _) _
  have hcell : (w.alloc (.cells #[.string a1] 9)).cell? ⟨w.heap.size, 0, none⟩ = some (.string a1) := by simp [go_sem]
  have hi := (idx56 k49 rfl 57 #[.pointer (some ⟨w.heap.size, 0, none⟩)] place1_enters A0 c0 l0 (isName a1) (w.alloc (.cells #[.string a1] 9)) (Kd.C_below hr0 hb1) (by
    intro x _ cs W' hb' hK
    obtain rfl := k49_open hK
    exact place1_any x.f0 x.f1 a1 _ W' (pw_cell_below hb' hcell))).mono fun e w' h => (⟨h.1, hb1.trans (h.2.mono hb1.size)⟩ : e = .returned (.int .i64 (idxP (isName a1) l0)) ∧ Below w.heap.size w w')
  generalize idxP (isName a1) l0 = r at hi ⊢
  have hmf := makeFunc_run
  clear hcell hb1 hr0
  go_enter Tryd.func34, Tryd.ntmps34
  go_wp2_with (go_at_call 56; with_reducible refine hi.mono ?_; rintro e w' ⟨rfl, hb⟩)
  go_ret
  exact ⟨rfl, hb⟩

theorem cell_spot5 {w : World} {a : Addr} {u : Value} (h : w.cell? a = some u) : a = ⟨a.block, a.off, none⟩ := by
  obtain ⟨b, o, s⟩ := a
  unfold World.cell? at h
  cases hh : w.heap[b]? with
  | none => rw [hh] at h; cases h
  | some ob =>
    rw [hh] at h
    cases ob with
    | cells c e f =>
      cases s with
      | none => rfl
      | some s => simp at h
    | _ => simp at h
theorem contains_calls (A : Option Addr) (c : Nat) (l : List ByteArray) (x : ByteArray) (w : World) (hr : Kd.C Kd.string w A l.length l) : Calls Tryd.prog 37 #[.slice A l.length c, .string x] w fun e w' => e = .returned (.bool (Lib.containsS l x)) ∧ w' = w := by
  cases l with
  | nil => exact Tryd.slices_Contains_string_empty A c x w
  | cons y l =>
    obtain ⟨ad, rfl⟩ := C_addr hr (Nat.succ_pos _)
    have hcell : ∀ j, j < (y :: l).length → w.cell? (ad.add j) = some (.string ((y :: l).getD j ByteArray.empty)) := by
      intro j hj
      obtain ⟨cs, _, hK, hc⟩ := C_elem hr j hj
      obtain rfl : cs = [.string (y :: l)[j]] := hK
      have := hc 0 _ rfl
      rw [show j * Kd.string.sz + 0 = j from by show j * 1 + 0 = j; omega] at this
      rw [this, List.getD_eq_getElem?_getD, List.getElem?_eq_getElem hj]; rfl
    have had : ad = ⟨ad.block, ad.off, none⟩ := cell_spot5 (by simpa [Addr.add] using hcell 0 (Nat.succ_pos _))
    have h := Tryd.slices_Contains_string ad.block ad.off (y :: l).length c (y :: l) x w (Nat.le_refl _) hr.2.1 (by
      intro j hj
      have hj' := hcell j hj
      rw [had] at hj'
      by_cases hj0 : j = 0
      · subst hj0; simpa [Addr.add] using hj'
      · simpa [Addr.add, hj0] using hj')
    rw [← had, List.take_of_length_le (Nat.le_refl _)] at h
    exact h
theorem only1_enters : ∀ args w, (callFunc 36 args).run Tryd.prog w = .ok (.enter 36 args) w := enters_of Tryd.func36 (by kernel_rfl) rfl
set_option maxHeartbeats 400000 in
theorem only1_any (x y : ByteArray) (A : Option Addr) (c : Nat) (l : List ByteArray) (p : Addr) (W : World) (hp : W.cell? p = some (.slice A l.length c)) (hr : Kd.C Kd.string W A l.length l) : Calls Tryd.prog 36 #[.agg #[.string x, .string y], .pointer (some p)] W fun e w' => e = .returned (.bool (!(Lib.containsS l x))) ∧ Below W.heap.size W w' := by
  have hlt : p.block < W.heap.size := World.block_lt_of_cell? W p hp
  have hb1 : Below W.heap.size W (W.alloc (.cells #[.string x, .string y] 49)) := (Below.refl _ W).alloc (Nat.le_refl _) _
  have hp2 := pw_cell_below hb1 hp
  have hc := contains_calls A c l x _ (Kd.C_below hr hb1)
  generalize Lib.containsS l x = b at hc ⊢
  have HB := Lib.hid hb1
  clear hp hr hb1
  go_enter Tryd.func36, Tryd.ntmps36
  go_wp2_with (go_at_call 37; with_reducible refine hc.mono ?_; rintro e w' ⟨rfl, rfl⟩)
  go_ret
  exact ⟨rfl, HB.out⟩
def stanza_Only.f (l0 : List Fd) (l1 : List ByteArray) : Option Bool := some (!(l0.any fun f => !(Lib.containsS l1 f.f0)))
set_option maxHeartbeats 1000000 in
theorem stanza_Only.calls (A0 : Option Addr) (c0 : Nat) (l0 : List Fd) (A1 : Option Addr) (c1 : Nat) (l1 : List ByteArray) (r : Bool) (w : World) (hr0 : Kd.C k49 w A0 l0.length l0) (_hc0 : l0.length ≤ c0) (hr1 : Kd.C Kd.string w A1 l1.length l1) (_hc1 : l1.length ≤ c1) (h : stanza_Only.f l0 l1 = some r) :
    Calls Tryd.prog 20 #[.slice A0 l0.length c0, .slice A1 l1.length c1] w fun e w' => e = .returned (.bool r) ∧ Below w.heap.size w w' := by
  obtain rfl := Option.some.inj h
  clear h
  have hb1 : Below w.heap.size w (w.alloc (.cells #[.slice A1 l1.length c1] 42)) := (Below.refl _ w).alloc (Nat.le_refl _) _
  have hcell : (w.alloc (.cells #[.slice A1 l1.length c1] 42)).cell? ⟨w.heap.size, 0, none⟩ = some (.slice A1 l1.length c1) := by simp [go_sem]
  have hi := (con35 k49 rfl 36 #[.pointer (some ⟨w.heap.size, 0, none⟩)] only1_enters A0 c0 l0 (fun f => !(Lib.containsS l1 f.f0)) (w.alloc (.cells #[.slice A1 l1.length c1] 42)) (Kd.C_below hr0 hb1) (by
    intro x _ cs W' hb' hK
    obtain rfl := k49_open hK
    exact only1_any x.f0 x.f1 A1 c1 l1 _ W' (pw_cell_below hb' hcell) (Kd.C_below (Kd.C_below hr1 hb1) hb'))).mono fun e w' h => (⟨h.1, hb1.trans (h.2.mono hb1.size)⟩ : e = .returned (.bool (l0.any fun f => !(Lib.containsS l1 f.f0))) ∧ Below w.heap.size w w')
  generalize (l0.any fun f => !(Lib.containsS l1 f.f0)) = r at hi ⊢
  have hmf := makeFunc_run
  clear hcell hb1 hr0 hr1
  go_enter Tryd.func20, Tryd.ntmps20
  go_wp2_with (go_at_call 35; with_reducible refine hi.mono ?_; rintro e w' ⟨rfl, hb⟩)
  go_ret
  exact ⟨rfl, hb⟩
end Go.Proofs.YtekplcjgmnahmaaDoor.PA
