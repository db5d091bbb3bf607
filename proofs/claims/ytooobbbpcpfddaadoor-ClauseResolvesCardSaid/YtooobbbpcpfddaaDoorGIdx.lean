/- slices.IndexFunc, slices.ContainsFunc at this seat's instances: the place of the first element at which the predicate holds. What is asked: the slice reads as xs, and the predicate gives its answer at each element. -/
import Derived.Test.YtooobbbpcpfddaaDoorGBase
namespace Go.Proofs.YtooobbbpcpfddaaDoor.PA
open Go.RowKit Go.Proofs.YtooobbbpcpfddaaDoorW.PrintWords Go.Proofs.YtooobbbpcpfddaaDoorW.PrintLast Go.Proofs.YtooobbbpcpfddaaDoorW.PrintMore

set_option maxHeartbeats 2000000 in
theorem idx73 {α : Type} (d : Kd α) (hd : d.sz = 1) (g : Nat) (lb : Array Value) (eg : ∀ args w, (callFunc g args).run Tryd.prog w = .ok (.enter g args) w) (A : Option Addr) (c : Nat) (xs : List α) (p : α → Bool) (w : World)
    (hC : d.C w A xs.length xs) (hp : PredOn d oneV g lb p xs w) :
    Calls Tryd.prog 73 #[.slice A xs.length c, .func (.func g) #[] lb] w fun e w' => e = .returned (.int .i64 (idxP p xs)) ∧ Below w.heap.size w w' := by
  have hn : xs.length ≤ 9223372036854775807 := hC.2.1
  go_enter Tryd.func73, Tryd.ntmps73
  go_wp2
  go_loopg [5, 8] xs.length (fun gg _ s8 wr => ∃ kk : Nat, kk ≤ xs.length ∧ xs.length - kk ≤ gg ∧ s8 = .int .i64 kk ∧ Aside (Below w.heap.size w wr) ∧ Aside (∀ j (hj : j < xs.length), j < kk → p xs[j] = false))
  case atStart => exact ⟨0, Nat.zero_le _, by omega, rfl, Below.refl _ w, fun j _ hj => absurd hj (Nat.not_lt_zero _)⟩
  case round =>
    obtain ⟨kk, hkk, hg, rfl, BW, A0⟩ := hrel
    by_cases hlt : kk < xs.length
    · have hltz : (kk : Int) < (xs.length : Int) := by omega
      obtain ⟨ad, rfl⟩ := C_addr hC (by omega)
      obtain ⟨cs, hlen, hK, hcell0⟩ := C_elem (Kd.C_below hC BW.out) kk hlt
      have hcall := hp _ (List.getElem_mem hlt) cs wr BW.out hK
      rw [hd] at hlen
      obtain ⟨c0, rfl⟩ : ∃ c0, cs = [c0] := by
        match cs, hlen with
        | [c0], _ => exact ⟨c0, rfl⟩
      have l0 : wr.cell? (ad.add kk) = some c0 := by
        have h := hcell0 0 c0 rfl
        rw [hd] at h; simpa using h
      replace hcall : Calls Tryd.prog g (#[c0] ++ lb) wr _ := hcall
      clear hC hp hcell0 hlen
      cases hq : p xs[kk] with
      | true =>
        rw [hq] at hcall
        have Q := Lib.hid hq
        clear hq
        have hcw := hcall.mono fun e w' h => (⟨h.1, BW.out.trans (h.2.mono BW.out.size)⟩ : e = .returned (.bool true) ∧ Below w.heap.size w w')
        clear hcall hK
        go_wp2_with (go_at_fn g; refine hcw.mono ?_; rintro e w' ⟨rfl, hb'⟩)
        go_ret
        exact ⟨by rw [idxP_hit hlt Q.out A0.out] <;> rfl, hb'⟩
      | false =>
        rw [hq] at hcall
        have Q := Lib.hid hq
        clear hq
        have hcw := hcall.mono fun e w' h => (⟨h.1, BW.out.trans (h.2.mono BW.out.size)⟩ : e = .returned (.bool false) ∧ Below w.heap.size w w')
        clear hcall hK
        go_wp2_with (go_at_fn g; refine hcw.mono ?_; rintro e w' ⟨rfl, hb'⟩)
        go_roundg (xs.length - (kk + 1))
        case measure => omega
        case rel =>
          refine ⟨kk + 1, by omega, by omega, by go_num, hb', (show Aside _ from fun j hl hj => ?_)⟩
          by_cases e : j = kk
          · subst e
            exact Q.out
          · exact A0.out j hl (by omega)
    · have hltz : ¬ (kk : Int) < (xs.length : Int) := by omega
      clear hC hp
      go_wp2
      go_ret
      exact ⟨by rw [idxP_miss (fun j hj => A0.out j hj (by omega))] <;> rfl, BW.out⟩

set_option maxHeartbeats 1000000 in
theorem con42 {α : Type} (d : Kd α) (hd : d.sz = 1) (g : Nat) (lb : Array Value) (eg : ∀ args w, (callFunc g args).run Tryd.prog w = .ok (.enter g args) w) (A : Option Addr) (c : Nat) (xs : List α) (p : α → Bool) (w : World)
    (hC : d.C w A xs.length xs) (hp : PredOn d oneV g lb p xs w) :
    Calls Tryd.prog 42 #[.slice A xs.length c, .func (.func g) #[] lb] w fun e w' => e = .returned (.bool (xs.any p)) ∧ Below w.heap.size w w' := by
  have h := idx73 d hd g lb eg A c xs p w hC hp
  have hany := idxP_any p xs
  generalize xs.any p = r at hany ⊢
  generalize idxP p xs = q at hany h
  subst hany
  clear hC hp
  go_enter Tryd.func42, Tryd.ntmps42
  go_wp2_with (go_at_call 73; refine h.mono ?_; rintro e w' ⟨rfl, hb'⟩)
  go_ret
  exact ⟨rfl, hb'⟩


set_option maxHeartbeats 2000000 in
theorem idx76 {α : Type} (d : Kd α) (hd : d.sz = 2) (g : Nat) (lb : Array Value) (eg : ∀ args w, (callFunc g args).run Tryd.prog w = .ok (.enter g args) w) (A : Option Addr) (c : Nat) (xs : List α) (p : α → Bool) (w : World)
    (hC : d.C w A xs.length xs) (hp : PredOn d aggV g lb p xs w) :
    Calls Tryd.prog 76 #[.slice A xs.length c, .func (.func g) #[] lb] w fun e w' => e = .returned (.int .i64 (idxP p xs)) ∧ Below w.heap.size w w' := by
  have hn : xs.length ≤ 9223372036854775807 := hC.2.1
  go_enter Tryd.func76, Tryd.ntmps76
  go_wp2
  go_loopg [5, 8] xs.length (fun gg _ s8 wr => ∃ kk : Nat, kk ≤ xs.length ∧ xs.length - kk ≤ gg ∧ s8 = .int .i64 kk ∧ Aside (Below w.heap.size w wr) ∧ Aside (∀ j (hj : j < xs.length), j < kk → p xs[j] = false))
  case atStart => exact ⟨0, Nat.zero_le _, by omega, rfl, Below.refl _ w, fun j _ hj => absurd hj (Nat.not_lt_zero _)⟩
  case round =>
    obtain ⟨kk, hkk, hg, rfl, BW, A0⟩ := hrel
    by_cases hlt : kk < xs.length
    · have hltz : (kk : Int) < (xs.length : Int) := by omega
      obtain ⟨ad, rfl⟩ := C_addr hC (by omega)
      obtain ⟨cs, hlen, hK, hcell0⟩ := C_elem (Kd.C_below hC BW.out) kk hlt
      have hcall := hp _ (List.getElem_mem hlt) cs wr BW.out hK
      rw [hd] at hlen
      obtain ⟨c0, c1, rfl⟩ : ∃ c0 c1, cs = [c0, c1] := by
        match cs, hlen with
        | [c0, c1], _ => exact ⟨c0, c1, rfl⟩
      have l0 : wr.cell? (ad.add (kk * 2)) = some c0 := by
        have h := hcell0 0 c0 rfl
        rw [hd] at h; simpa using h
      have l1 : wr.cell? ⟨(ad.add (kk * 2)).block, (ad.add (kk * 2)).off + 1, none⟩ = some c1 := by
        have h := hcell0 1 c1 rfl
        rw [hd, add_field _ _ _ (by decide)] at h; exact h
      replace hcall : Calls Tryd.prog g (#[.agg #[c0, c1]] ++ lb) wr _ := hcall
      clear hC hp hcell0 hlen
      cases hq : p xs[kk] with
      | true =>
        rw [hq] at hcall
        have Q := Lib.hid hq
        clear hq
        have hcw := hcall.mono fun e w' h => (⟨h.1, BW.out.trans (h.2.mono BW.out.size)⟩ : e = .returned (.bool true) ∧ Below w.heap.size w w')
        clear hcall hK
        go_wp2_with (go_at_fn g; refine hcw.mono ?_; rintro e w' ⟨rfl, hb'⟩)
        go_ret
        exact ⟨by rw [idxP_hit hlt Q.out A0.out] <;> rfl, hb'⟩
      | false =>
        rw [hq] at hcall
        have Q := Lib.hid hq
        clear hq
        have hcw := hcall.mono fun e w' h => (⟨h.1, BW.out.trans (h.2.mono BW.out.size)⟩ : e = .returned (.bool false) ∧ Below w.heap.size w w')
        clear hcall hK
        go_wp2_with (go_at_fn g; refine hcw.mono ?_; rintro e w' ⟨rfl, hb'⟩)
        go_roundg (xs.length - (kk + 1))
        case measure => omega
        case rel =>
          refine ⟨kk + 1, by omega, by omega, by go_num, hb', (show Aside _ from fun j hl hj => ?_)⟩
          by_cases e : j = kk
          · subst e
            exact Q.out
          · exact A0.out j hl (by omega)
    · have hltz : ¬ (kk : Int) < (xs.length : Int) := by omega
      clear hC hp
      go_wp2
      go_ret
      exact ⟨by rw [idxP_miss (fun j hj => A0.out j hj (by omega))] <;> rfl, BW.out⟩

set_option maxHeartbeats 1000000 in
theorem con46 {α : Type} (d : Kd α) (hd : d.sz = 2) (g : Nat) (lb : Array Value) (eg : ∀ args w, (callFunc g args).run Tryd.prog w = .ok (.enter g args) w) (A : Option Addr) (c : Nat) (xs : List α) (p : α → Bool) (w : World)
    (hC : d.C w A xs.length xs) (hp : PredOn d aggV g lb p xs w) :
    Calls Tryd.prog 46 #[.slice A xs.length c, .func (.func g) #[] lb] w fun e w' => e = .returned (.bool (xs.any p)) ∧ Below w.heap.size w w' := by
  have h := idx76 d hd g lb eg A c xs p w hC hp
  have hany := idxP_any p xs
  generalize xs.any p = r at hany ⊢
  generalize idxP p xs = q at hany h
  subst hany
  clear hC hp
  go_enter Tryd.func46, Tryd.ntmps46
  go_wp2_with (go_at_call 76; refine h.mono ?_; rintro e w' ⟨rfl, hb'⟩)
  go_ret
  exact ⟨rfl, hb'⟩


set_option maxHeartbeats 2000000 in
theorem idx80 {α : Type} (d : Kd α) (hd : d.sz = 1) (g : Nat) (lb : Array Value) (eg : ∀ args w, (callFunc g args).run Tryd.prog w = .ok (.enter g args) w) (A : Option Addr) (c : Nat) (xs : List α) (p : α → Bool) (w : World)
    (hC : d.C w A xs.length xs) (hp : PredOn d oneV g lb p xs w) :
    Calls Tryd.prog 80 #[.slice A xs.length c, .func (.func g) #[] lb] w fun e w' => e = .returned (.int .i64 (idxP p xs)) ∧ Below w.heap.size w w' := by
  have hn : xs.length ≤ 9223372036854775807 := hC.2.1
  go_enter Tryd.func80, Tryd.ntmps80
  go_wp2
  go_loopg [5, 8] xs.length (fun gg _ s8 wr => ∃ kk : Nat, kk ≤ xs.length ∧ xs.length - kk ≤ gg ∧ s8 = .int .i64 kk ∧ Aside (Below w.heap.size w wr) ∧ Aside (∀ j (hj : j < xs.length), j < kk → p xs[j] = false))
  case atStart => exact ⟨0, Nat.zero_le _, by omega, rfl, Below.refl _ w, fun j _ hj => absurd hj (Nat.not_lt_zero _)⟩
  case round =>
    obtain ⟨kk, hkk, hg, rfl, BW, A0⟩ := hrel
    by_cases hlt : kk < xs.length
    · have hltz : (kk : Int) < (xs.length : Int) := by omega
      obtain ⟨ad, rfl⟩ := C_addr hC (by omega)
      obtain ⟨cs, hlen, hK, hcell0⟩ := C_elem (Kd.C_below hC BW.out) kk hlt
      have hcall := hp _ (List.getElem_mem hlt) cs wr BW.out hK
      rw [hd] at hlen
      obtain ⟨c0, rfl⟩ : ∃ c0, cs = [c0] := by
        match cs, hlen with
        | [c0], _ => exact ⟨c0, rfl⟩
      have l0 : wr.cell? (ad.add kk) = some c0 := by
        have h := hcell0 0 c0 rfl
        rw [hd] at h; simpa using h
      replace hcall : Calls Tryd.prog g (#[c0] ++ lb) wr _ := hcall
      clear hC hp hcell0 hlen
      cases hq : p xs[kk] with
      | true =>
        rw [hq] at hcall
        have Q := Lib.hid hq
        clear hq
        have hcw := hcall.mono fun e w' h => (⟨h.1, BW.out.trans (h.2.mono BW.out.size)⟩ : e = .returned (.bool true) ∧ Below w.heap.size w w')
        clear hcall hK
        go_wp2_with (go_at_fn g; refine hcw.mono ?_; rintro e w' ⟨rfl, hb'⟩)
        go_ret
        exact ⟨by rw [idxP_hit hlt Q.out A0.out] <;> rfl, hb'⟩
      | false =>
        rw [hq] at hcall
        have Q := Lib.hid hq
        clear hq
        have hcw := hcall.mono fun e w' h => (⟨h.1, BW.out.trans (h.2.mono BW.out.size)⟩ : e = .returned (.bool false) ∧ Below w.heap.size w w')
        clear hcall hK
        go_wp2_with (go_at_fn g; refine hcw.mono ?_; rintro e w' ⟨rfl, hb'⟩)
        go_roundg (xs.length - (kk + 1))
        case measure => omega
        case rel =>
          refine ⟨kk + 1, by omega, by omega, by go_num, hb', (show Aside _ from fun j hl hj => ?_)⟩
          by_cases e : j = kk
          · subst e
            exact Q.out
          · exact A0.out j hl (by omega)
    · have hltz : ¬ (kk : Int) < (xs.length : Int) := by omega
      clear hC hp
      go_wp2
      go_ret
      exact ⟨by rw [idxP_miss (fun j hj => A0.out j hj (by omega))] <;> rfl, BW.out⟩

set_option maxHeartbeats 1000000 in
theorem con53 {α : Type} (d : Kd α) (hd : d.sz = 1) (g : Nat) (lb : Array Value) (eg : ∀ args w, (callFunc g args).run Tryd.prog w = .ok (.enter g args) w) (A : Option Addr) (c : Nat) (xs : List α) (p : α → Bool) (w : World)
    (hC : d.C w A xs.length xs) (hp : PredOn d oneV g lb p xs w) :
    Calls Tryd.prog 53 #[.slice A xs.length c, .func (.func g) #[] lb] w fun e w' => e = .returned (.bool (xs.any p)) ∧ Below w.heap.size w w' := by
  have h := idx80 d hd g lb eg A c xs p w hC hp
  have hany := idxP_any p xs
  generalize xs.any p = r at hany ⊢
  generalize idxP p xs = q at hany h
  subst hany
  clear hC hp
  go_enter Tryd.func53, Tryd.ntmps53
  go_wp2_with (go_at_call 80; refine h.mono ?_; rintro e w' ⟨rfl, hb'⟩)
  go_ret
  exact ⟨rfl, hb'⟩

end Go.Proofs.YtooobbbpcpfddaaDoor.PA
