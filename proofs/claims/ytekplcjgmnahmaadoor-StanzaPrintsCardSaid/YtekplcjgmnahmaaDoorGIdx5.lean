/- slices.IndexFunc, slices.ContainsFunc at this seat's instances: the place of the first element at which the predicate holds. What is asked: the slice reads as xs, and the predicate gives its answer at each element. -/
import Derived.Test.YtekplcjgmnahmaaDoorGBase
namespace Go.Proofs.YtekplcjgmnahmaaDoor.PA
open Go.RowKit Go.Proofs.YtekplcjgmnahmaaDoorW.PrintWords Go.Proofs.YtekplcjgmnahmaaDoorW.PrintLast Go.Proofs.YtekplcjgmnahmaaDoorW.PrintMore

set_option maxHeartbeats 2000000 in
theorem idx56 {α : Type} (d : Kd α) (hd : d.sz = 2) (g : Nat) (lb : Array Value) (eg : ∀ args w, (callFunc g args).run Tryd.prog w = .ok (.enter g args) w) (A : Option Addr) (c : Nat) (xs : List α) (p : α → Bool) (w : World)
    (hC : d.C w A xs.length xs) (hp : PredOn d aggV g lb p xs w) :
    Calls Tryd.prog 56 #[.slice A xs.length c, .func (.func g) #[] lb] w fun e w' => e = .returned (.int .i64 (idxP p xs)) ∧ Below w.heap.size w w' := by
  have hn : xs.length ≤ 9223372036854775807 := hC.2.1
  go_enter Tryd.func56, Tryd.ntmps56
  go_wp2
  go_loopg [5, 8] xs.length (fun gg _ s8 wr => ∃ kk : Nat, kk ≤ xs.length ∧ xs.length - kk ≤ gg ∧ s8 = .int .i64 kk ∧ Aside (Below w.heap.size w wr) ∧ Aside (∀ j (hj : j < xs.length), j < kk → p xs[j] = false))
  case atStart => exact ⟨0, Nat.zero_le _, by omega, rfl, Below.refl _ w, fun j _ hj => absurd hj (Nat.not_lt_zero _)⟩
  case round =>
    obtain ⟨kk, hkk, hg, rfl, BW, A0⟩ := hrel
    by_cases hlt : kk < xs.length
    · have hltz : (kk : Int) < (xs.length : Int) := by omega
      obtain ⟨ad, rfl⟩ := C_addr hC (by omega)
      obtain ⟨cs, hlen, hK, hcell0⟩ := C_elem (Kd.C_below hC BW.out) kk hlt
      have hcall := hp _ (List.getElem_mem hlt) cs wr BW.out hK
      rw [hd] at hlen
      obtain ⟨c0, c1, rfl⟩ : ∃ c0 c1, cs = [c0, c1] := by
        match cs, hlen with
        | [c0, c1], _ => exact ⟨c0, c1, rfl⟩
      have l0 : wr.cell? (ad.add (kk * 2)) = some c0 := by
        have h := hcell0 0 c0 rfl
        rw [hd] at h; simpa using h
      have l1 : wr.cell? ⟨(ad.add (kk * 2)).block, (ad.add (kk * 2)).off + 1, none⟩ = some c1 := by
        have h := hcell0 1 c1 rfl
        rw [hd, add_field _ _ _ (by decide)] at h; exact h
      replace hcall : Calls Tryd.prog g (#[.agg #[c0, c1]] ++ lb) wr _ := hcall
      clear hC hp hcell0 hlen
      cases hq : p xs[kk] with
      | true =>
        rw [hq] at hcall
        have Q := Lib.hid hq
        clear hq
        have hcw := hcall.mono fun e w' h => (⟨h.1, BW.out.trans (h.2.mono BW.out.size)⟩ : e = .returned (.bool true) ∧ Below w.heap.size w w')
        clear hcall hK
        go_wp2_with (go_at_fn g; refine hcw.mono ?_; rintro e w' ⟨rfl, hb'⟩)
        go_ret
        exact ⟨by rw [idxP_hit hlt Q.out A0.out] <;> rfl, hb'⟩
      | false =>
        rw [hq] at hcall
        have Q := Lib.hid hq
        clear hq
        have hcw := hcall.mono fun e w' h => (⟨h.1, BW.out.trans (h.2.mono BW.out.size)⟩ : e = .returned (.bool false) ∧ Below w.heap.size w w')
        clear hcall hK
        go_wp2_with (go_at_fn g; refine hcw.mono ?_; rintro e w' ⟨rfl, hb'⟩)
        go_roundg (xs.length - (kk + 1))
        case measure => omega
        case rel =>
          refine ⟨kk + 1, by omega, by omega, by go_num, hb', (show Aside _ from fun j hl hj => ?_)⟩
          by_cases e : j = kk
          · subst e
            exact Q.out
          · exact A0.out j hl (by omega)
    · have hltz : ¬ (kk : Int) < (xs.length : Int) := by omega
      clear hC hp
      go_wp2
      go_ret
      exact ⟨by rw [idxP_miss (fun j hj => A0.out j hj (by omega))] <;> rfl, BW.out⟩

set_option maxHeartbeats 1000000 in
theorem con35 {α : Type} (d : Kd α) (hd : d.sz = 2) (g : Nat) (lb : Array Value) (eg : ∀ args w, (callFunc g args).run Tryd.prog w = .ok (.enter g args) w) (A : Option Addr) (c : Nat) (xs : List α) (p : α → Bool) (w : World)
    (hC : d.C w A xs.length xs) (hp : PredOn d aggV g lb p xs w) :
    Calls Tryd.prog 35 #[.slice A xs.length c, .func (.func g) #[] lb] w fun e w' => e = .returned (.bool (xs.any p)) ∧ Below w.heap.size w w' := by
  have h := idx56 d hd g lb eg A c xs p w hC hp
  have hany := idxP_any p xs
  generalize xs.any p = r at hany ⊢
  generalize idxP p xs = q at hany h
  subst hany
  clear hC hp
  go_enter Tryd.func35, Tryd.ntmps35
  go_wp2_with (go_at_call 56; refine h.mono ?_; rintro e w' ⟨rfl, hb'⟩)
  go_ret
  exact ⟨rfl, hb'⟩


set_option maxHeartbeats 2000000 in
theorem idx60 {α : Type} (d : Kd α) (hd : d.sz = 1) (g : Nat) (lb : Array Value) (eg : ∀ args w, (callFunc g args).run Tryd.prog w = .ok (.enter g args) w) (A : Option Addr) (c : Nat) (xs : List α) (p : α → Bool) (w : World)
    (hC : d.C w A xs.length xs) (hp : PredOn d oneV g lb p xs w) :
    Calls Tryd.prog 60 #[.slice A xs.length c, .func (.func g) #[] lb] w fun e w' => e = .returned (.int .i64 (idxP p xs)) ∧ Below w.heap.size w w' := by
  have hn : xs.length ≤ 9223372036854775807 := hC.2.1
  go_enter Tryd.func60, Tryd.ntmps60
  go_wp2
  go_loopg [5, 8] xs.length (fun gg _ s8 wr => ∃ kk : Nat, kk ≤ xs.length ∧ xs.length - kk ≤ gg ∧ s8 = .int .i64 kk ∧ Aside (Below w.heap.size w wr) ∧ Aside (∀ j (hj : j < xs.length), j < kk → p xs[j] = false))
  case atStart => exact ⟨0, Nat.zero_le _, by omega, rfl, Below.refl _ w, fun j _ hj => absurd hj (Nat.not_lt_zero _)⟩
  case round =>
    obtain ⟨kk, hkk, hg, rfl, BW, A0⟩ := hrel
    by_cases hlt : kk < xs.length
    · have hltz : (kk : Int) < (xs.length : Int) := by omega
      obtain ⟨ad, rfl⟩ := C_addr hC (by omega)
      obtain ⟨cs, hlen, hK, hcell0⟩ := C_elem (Kd.C_below hC BW.out) kk hlt
      have hcall := hp _ (List.getElem_mem hlt) cs wr BW.out hK
      rw [hd] at hlen
      obtain ⟨c0, rfl⟩ : ∃ c0, cs = [c0] := by
        match cs, hlen with
        | [c0], _ => exact ⟨c0, rfl⟩
      have l0 : wr.cell? (ad.add kk) = some c0 := by
        have h := hcell0 0 c0 rfl
        rw [hd] at h; simpa using h
      replace hcall : Calls Tryd.prog g (#[c0] ++ lb) wr _ := hcall
      clear hC hp hcell0 hlen
      cases hq : p xs[kk] with
      | true =>
        rw [hq] at hcall
        have Q := Lib.hid hq
        clear hq
        have hcw := hcall.mono fun e w' h => (⟨h.1, BW.out.trans (h.2.mono BW.out.size)⟩ : e = .returned (.bool true) ∧ Below w.heap.size w w')
        clear hcall hK
        go_wp2_with (go_at_fn g; refine hcw.mono ?_; rintro e w' ⟨rfl, hb'⟩)
        go_ret
        exact ⟨by rw [idxP_hit hlt Q.out A0.out] <;> rfl, hb'⟩
      | false =>
        rw [hq] at hcall
        have Q := Lib.hid hq
        clear hq
        have hcw := hcall.mono fun e w' h => (⟨h.1, BW.out.trans (h.2.mono BW.out.size)⟩ : e = .returned (.bool false) ∧ Below w.heap.size w w')
        clear hcall hK
        go_wp2_with (go_at_fn g; refine hcw.mono ?_; rintro e w' ⟨rfl, hb'⟩)
        go_roundg (xs.length - (kk + 1))
        case measure => omega
        case rel =>
          refine ⟨kk + 1, by omega, by omega, by go_num, hb', (show Aside _ from fun j hl hj => ?_)⟩
          by_cases e : j = kk
          · subst e
            exact Q.out
          · exact A0.out j hl (by omega)
    · have hltz : ¬ (kk : Int) < (xs.length : Int) := by omega
      clear hC hp
      go_wp2
      go_ret
      exact ⟨by rw [idxP_miss (fun j hj => A0.out j hj (by omega))] <;> rfl, BW.out⟩

set_option maxHeartbeats 1000000 in
theorem con39 {α : Type} (d : Kd α) (hd : d.sz = 1) (g : Nat) (lb : Array Value) (eg : ∀ args w, (callFunc g args).run Tryd.prog w = .ok (.enter g args) w) (A : Option Addr) (c : Nat) (xs : List α) (p : α → Bool) (w : World)
    (hC : d.C w A xs.length xs) (hp : PredOn d oneV g lb p xs w) :
    Calls Tryd.prog 39 #[.slice A xs.length c, .func (.func g) #[] lb] w fun e w' => e = .returned (.bool (xs.any p)) ∧ Below w.heap.size w w' := by
  have h := idx60 d hd g lb eg A c xs p w hC hp
  have hany := idxP_any p xs
  generalize xs.any p = r at hany ⊢
  generalize idxP p xs = q at hany h
  subst hany
  clear hC hp
  go_enter Tryd.func39, Tryd.ntmps39
  go_wp2_with (go_at_call 60; refine h.mono ?_; rintro e w' ⟨rfl, hb'⟩)
  go_ret
  exact ⟨rfl, hb'⟩


set_option maxHeartbeats 2000000 in
theorem idx91 {α : Type} (d : Kd α) (hd : d.sz = 1) (g : Nat) (lb : Array Value) (eg : ∀ args w, (callFunc g args).run Tryd.prog w = .ok (.enter g args) w) (A : Option Addr) (c : Nat) (xs : List α) (p : α → Bool) (w : World)
    (hC : d.C w A xs.length xs) (hp : PredOn d oneV g lb p xs w) :
    Calls Tryd.prog 91 #[.slice A xs.length c, .func (.func g) #[] lb] w fun e w' => e = .returned (.int .i64 (idxP p xs)) ∧ Below w.heap.size w w' := by
  have hn : xs.length ≤ 9223372036854775807 := hC.2.1
  go_enter Tryd.func91, Tryd.ntmps91
  go_wp2
  go_loopg [5, 8] xs.length (fun gg _ s8 wr => ∃ kk : Nat, kk ≤ xs.length ∧ xs.length - kk ≤ gg ∧ s8 = .int .i64 kk ∧ Aside (Below w.heap.size w wr) ∧ Aside (∀ j (hj : j < xs.length), j < kk → p xs[j] = false))
  case atStart => exact ⟨0, Nat.zero_le _, by omega, rfl, Below.refl _ w, fun j _ hj => absurd hj (Nat.not_lt_zero _)⟩
  case round =>
    obtain ⟨kk, hkk, hg, rfl, BW, A0⟩ := hrel
    by_cases hlt : kk < xs.length
    · have hltz : (kk : Int) < (xs.length : Int) := by omega
      obtain ⟨ad, rfl⟩ := C_addr hC (by omega)
      obtain ⟨cs, hlen, hK, hcell0⟩ := C_elem (Kd.C_below hC BW.out) kk hlt
      have hcall := hp _ (List.getElem_mem hlt) cs wr BW.out hK
      rw [hd] at hlen
      obtain ⟨c0, rfl⟩ : ∃ c0, cs = [c0] := by
        match cs, hlen with
        | [c0], _ => exact ⟨c0, rfl⟩
      have l0 : wr.cell? (ad.add kk) = some c0 := by
        have h := hcell0 0 c0 rfl
        rw [hd] at h; simpa using h
      replace hcall : Calls Tryd.prog g (#[c0] ++ lb) wr _ := hcall
      clear hC hp hcell0 hlen
      cases hq : p xs[kk] with
      | true =>
        rw [hq] at hcall
        have Q := Lib.hid hq
        clear hq
        have hcw := hcall.mono fun e w' h => (⟨h.1, BW.out.trans (h.2.mono BW.out.size)⟩ : e = .returned (.bool true) ∧ Below w.heap.size w w')
        clear hcall hK
        go_wp2_with (go_at_fn g; refine hcw.mono ?_; rintro e w' ⟨rfl, hb'⟩)
        go_ret
        exact ⟨by rw [idxP_hit hlt Q.out A0.out] <;> rfl, hb'⟩
      | false =>
        rw [hq] at hcall
        have Q := Lib.hid hq
        clear hq
        have hcw := hcall.mono fun e w' h => (⟨h.1, BW.out.trans (h.2.mono BW.out.size)⟩ : e = .returned (.bool false) ∧ Below w.heap.size w w')
        clear hcall hK
        go_wp2_with (go_at_fn g; refine hcw.mono ?_; rintro e w' ⟨rfl, hb'⟩)
        go_roundg (xs.length - (kk + 1))
        case measure => omega
        case rel =>
          refine ⟨kk + 1, by omega, by omega, by go_num, hb', (show Aside _ from fun j hl hj => ?_)⟩
          by_cases e : j = kk
          · subst e
            exact Q.out
          · exact A0.out j hl (by omega)
    · have hltz : ¬ (kk : Int) < (xs.length : Int) := by omega
      clear hC hp
      go_wp2
      go_ret
      exact ⟨by rw [idxP_miss (fun j hj => A0.out j hj (by omega))] <;> rfl, BW.out⟩

set_option maxHeartbeats 1000000 in
theorem con77 {α : Type} (d : Kd α) (hd : d.sz = 1) (g : Nat) (lb : Array Value) (eg : ∀ args w, (callFunc g args).run Tryd.prog w = .ok (.enter g args) w) (A : Option Addr) (c : Nat) (xs : List α) (p : α → Bool) (w : World)
    (hC : d.C w A xs.length xs) (hp : PredOn d oneV g lb p xs w) :
    Calls Tryd.prog 77 #[.slice A xs.length c, .func (.func g) #[] lb] w fun e w' => e = .returned (.bool (xs.any p)) ∧ Below w.heap.size w w' := by
  have h := idx91 d hd g lb eg A c xs p w hC hp
  have hany := idxP_any p xs
  generalize xs.any p = r at hany ⊢
  generalize idxP p xs = q at hany h
  subst hany
  clear hC hp
  go_enter Tryd.func77, Tryd.ntmps77
  go_wp2_with (go_at_call 91; refine h.mono ?_; rintro e w' ⟨rfl, hb'⟩)
  go_ret
  exact ⟨rfl, hb'⟩


set_option maxHeartbeats 2000000 in
theorem idx61 {α : Type} (d : Kd α) (hd : d.sz = 1) (g : Nat) (lb : Array Value) (eg : ∀ args w, (callFunc g args).run Tryd.prog w = .ok (.enter g args) w) (A : Option Addr) (c : Nat) (xs : List α) (p : α → Bool) (w : World)
    (hC : d.C w A xs.length xs) (hp : PredOn d oneV g lb p xs w) :
    Calls Tryd.prog 61 #[.slice A xs.length c, .func (.func g) #[] lb] w fun e w' => e = .returned (.int .i64 (idxP p xs)) ∧ Below w.heap.size w w' := by
  have hn : xs.length ≤ 9223372036854775807 := hC.2.1
  go_enter Tryd.func61, Tryd.ntmps61
  go_wp2
  go_loopg [5, 8] xs.length (fun gg _ s8 wr => ∃ kk : Nat, kk ≤ xs.length ∧ xs.length - kk ≤ gg ∧ s8 = .int .i64 kk ∧ Aside (Below w.heap.size w wr) ∧ Aside (∀ j (hj : j < xs.length), j < kk → p xs[j] = false))
  case atStart => exact ⟨0, Nat.zero_le _, by omega, rfl, Below.refl _ w, fun j _ hj => absurd hj (Nat.not_lt_zero _)⟩
  case round =>
    obtain ⟨kk, hkk, hg, rfl, BW, A0⟩ := hrel
    by_cases hlt : kk < xs.length
    · have hltz : (kk : Int) < (xs.length : Int) := by omega
      obtain ⟨ad, rfl⟩ := C_addr hC (by omega)
      obtain ⟨cs, hlen, hK, hcell0⟩ := C_elem (Kd.C_below hC BW.out) kk hlt
      have hcall := hp _ (List.getElem_mem hlt) cs wr BW.out hK
      rw [hd] at hlen
      obtain ⟨c0, rfl⟩ : ∃ c0, cs = [c0] := by
        match cs, hlen with
        | [c0], _ => exact ⟨c0, rfl⟩
      have l0 : wr.cell? (ad.add kk) = some c0 := by
        have h := hcell0 0 c0 rfl
        rw [hd] at h; simpa using h
      replace hcall : Calls Tryd.prog g (#[c0] ++ lb) wr _ := hcall
      clear hC hp hcell0 hlen
      cases hq : p xs[kk] with
      | true =>
        rw [hq] at hcall
        have Q := Lib.hid hq
        clear hq
        have hcw := hcall.mono fun e w' h => (⟨h.1, BW.out.trans (h.2.mono BW.out.size)⟩ : e = .returned (.bool true) ∧ Below w.heap.size w w')
        clear hcall hK
        go_wp2_with (go_at_fn g; refine hcw.mono ?_; rintro e w' ⟨rfl, hb'⟩)
        go_ret
        exact ⟨by rw [idxP_hit hlt Q.out A0.out] <;> rfl, hb'⟩
      | false =>
        rw [hq] at hcall
        have Q := Lib.hid hq
        clear hq
        have hcw := hcall.mono fun e w' h => (⟨h.1, BW.out.trans (h.2.mono BW.out.size)⟩ : e = .returned (.bool false) ∧ Below w.heap.size w w')
        clear hcall hK
        go_wp2_with (go_at_fn g; refine hcw.mono ?_; rintro e w' ⟨rfl, hb'⟩)
        go_roundg (xs.length - (kk + 1))
        case measure => omega
        case rel =>
          refine ⟨kk + 1, by omega, by omega, by go_num, hb', (show Aside _ from fun j hl hj => ?_)⟩
          by_cases e : j = kk
          · subst e
            exact Q.out
          · exact A0.out j hl (by omega)
    · have hltz : ¬ (kk : Int) < (xs.length : Int) := by omega
      clear hC hp
      go_wp2
      go_ret
      exact ⟨by rw [idxP_miss (fun j hj => A0.out j hj (by omega))] <;> rfl, BW.out⟩

set_option maxHeartbeats 1000000 in
theorem con43 {α : Type} (d : Kd α) (hd : d.sz = 1) (g : Nat) (lb : Array Value) (eg : ∀ args w, (callFunc g args).run Tryd.prog w = .ok (.enter g args) w) (A : Option Addr) (c : Nat) (xs : List α) (p : α → Bool) (w : World)
    (hC : d.C w A xs.length xs) (hp : PredOn d oneV g lb p xs w) :
    Calls Tryd.prog 43 #[.slice A xs.length c, .func (.func g) #[] lb] w fun e w' => e = .returned (.bool (xs.any p)) ∧ Below w.heap.size w w' := by
  have h := idx61 d hd g lb eg A c xs p w hC hp
  have hany := idxP_any p xs
  generalize xs.any p = r at hany ⊢
  generalize idxP p xs = q at hany h
  subst hany
  clear hC hp
  go_enter Tryd.func43, Tryd.ntmps43
  go_wp2_with (go_at_call 61; refine h.mono ?_; rintro e w' ⟨rfl, hb'⟩)
  go_ret
  exact ⟨rfl, hb'⟩

end Go.Proofs.YtekplcjgmnahmaaDoor.PA
