/- keelsonlaw12.ClauseResolves, walked by hand: it answers true. For a number and literals that are int64s; the table of powers of ten lies as laid. -/
import Derived.Test.YtooobbbpcpfddaaDoorMResolve
import Derived.Test.YtooobbbpcpfddaaDoorMLaw12
import Derived.Test.YtooobbbpcpfddaaDoorMModel12
import Derived.Test.YtooobbbpcpfddaaDoorGHolds
import Derived.Test.YtooobbbpcpfddaaDoorPAkeelsonlaw120
import Derived.Test.YtooobbbpcpfddaaDoorPAkeelsonlaw122
namespace Go.Proofs.YtooobbbpcpfddaaDoor.PA
open Go.RowKit Go.Lib Go.Sort Go.Proofs.YtooobbbpcpfddaaDoorW.PrintWords Go.Proofs.YtooobbbpcpfddaaDoorW.PrintLast Go.Proofs.YtooobbbpcpfddaaDoorW.PrintMore

def keelsonlaw12_ClauseResolves.f (_ : Nat) (_ _ : List Int) (_ : Int) : Option Bool := some true
theorem shown_calls (w : World) (h : GlobPow10 w) : Calls Tryd.prog 33 #[] w fun e w' => e = .returned (.bool true) ∧ Below w.heap.size w w' := by
  obtain ⟨K, hK⟩ := shown12_ev
  exact keelsonlaw12_shown.calls K true w h (hK K (Nat.le_refl _))
theorem lit_rows {w : World} {b' : Nat} {l0 l1 : List Int} {A0 A1 : Option Addr} {c0 c1 : Nat} (h0 : w.cell? ⟨b', 0, none⟩ = some (.slice A0 l0.length c0)) (h1 : w.cell? ⟨b', 1, none⟩ = some (.slice A1 l1.length c1)) (hc0 : l0.length ≤ c0) (hc1 : l1.length ≤ c1)
    (r0 : Kd.C (Kd.int .i64) w A0 l0.length l0) (r1 : Kd.C (Kd.int .i64) w A1 l1.length l1) : Kd.C (Kd.slice 3 (Kd.int .i64)) w (some ⟨b', 0, none⟩) 2 [l0, l1] :=
  ⟨rfl, by decide, fun _ => ⟨_, rfl, fun j p hp => by
    have hj := (List.getElem?_eq_some_iff.1 hp).1
    simp at hj
    rcases (show j = 0 ∨ j = 1 by omega) with rfl | rfl
    · simp at hp; subst hp
      refine ⟨[.slice A0 l0.length c0], rfl, ⟨_, _, rfl, hc0, r0⟩, fun i u hu => ?_⟩
      have hi := (List.getElem?_eq_some_iff.1 hu).1
      have hi0 : i = 0 := by simp at hi; omega
      subst hi0
      simp at hu; subst hu
      simpa [Addr.add] using h0
    · simp at hp; subst hp
      refine ⟨[.slice A1 l1.length c1], rfl, ⟨_, _, rfl, hc1, r1⟩, fun i u hu => ?_⟩
      have hi := (List.getElem?_eq_some_iff.1 hu).1
      have hi0 : i = 0 := by simp at hi; omega
      subst hi0
      simp at hu; subst hu
      rw [show (Kd.slice 3 (Kd.int IntKind.i64)).sz = 1 from rfl]
      simpa [Addr.add] using h1⟩⟩
theorem lit_rows1 {w : World} {b' : Nat} {l0 : List Int} {A0 : Option Addr} {c0 : Nat} (h0 : w.cell? ⟨b', 0, none⟩ = some (.slice A0 l0.length c0)) (hc0 : l0.length ≤ c0) (r0 : Kd.C (Kd.int .i64) w A0 l0.length l0) : Kd.C (Kd.slice 3 (Kd.int .i64)) w (some ⟨b', 0, none⟩) 1 [l0] :=
  ⟨rfl, by decide, fun _ => ⟨_, rfl, fun j p hp => by
    have hj := (List.getElem?_eq_some_iff.1 hp).1
    simp at hj
    subst hj
    simp at hp; subst hp
    refine ⟨[.slice A0 l0.length c0], rfl, ⟨_, _, rfl, hc0, r0⟩, fun i u hu => ?_⟩
    have hi := (List.getElem?_eq_some_iff.1 hu).1
    have hi0 : i = 0 := by simp at hi; omega
    subst hi0
    simp at hu; subst hu
    simpa [Addr.add] using h0⟩⟩
theorem own_empty {w W : World} (hb : Below w.heap.size w W) : OwnS w.heap.size w (W.alloc (.cells #[] 3)) (.slice (some ⟨W.heap.size, 0, none⟩) 0 0) [] := by
  have h := own_lit W w.heap.size 3 .i64 [] hb.size (by decide)
  exact ⟨h, hb.alloc hb.size _, by have := hb.size; simp; omega⟩
theorem own_alloc {B : Nat} {w W : World} {v : Value} {xs : List Int} (h : OwnS B w W v xs) (o : Obj) : OwnS B w (W.alloc o) v xs := h.below (below_alloc (Below.refl _ _) o)
theorem own_of {w W : World} {v : Value} {xs : List Int} {ok : Nat → Prop} (h : Kd.R (Kd.int .i64) 3 W w.heap.size ok v xs) (hb : Below w.heap.size w W) : OwnS w.heap.size w W v xs := OwnS.of_R h hb hb.size
set_option maxHeartbeats 4000000 in
theorem keelsonlaw12_ClauseResolves.calls (k : Nat) (A0 : Option Addr) (c0 : Nat) (l0 : List Int) (A1 : Option Addr) (c1 : Nat) (l1 : List Int) (a2 : Int) (r : Bool) (w : World) (hr0 : Kd.C (Kd.int .i64) w A0 l0.length l0) (hc0 : l0.length ≤ c0)
    (hr1 : Kd.C (Kd.int .i64) w A1 l1.length l1) (hc1 : l1.length ≤ c1) (hG_pow10 : GlobPow10 w) (h : keelsonlaw12_ClauseResolves.f k l0 l1 a2 = some r) :
    Calls Tryd.prog 10 #[.slice A0 l0.length c0, .slice A1 l1.length c1, .int .i64 a2] w fun e w' => e = .returned (.bool r) ∧ Below w.heap.size w w' := by
  obtain rfl := Option.some.inj h
  clear h
  have hsh := shown_calls w hG_pow10
  by_cases g0 : (l0.length : Int) > 40
  case pos =>
    clear hr0 hr1
    go_enter Tryd.func10, Tryd.ntmps10
    go_wp2_with (go_at_call 33; with_reducible refine hsh.mono ?_; rintro e w1 ⟨rfl, hb⟩)
    go_ret
    exact ⟨rfl, hb⟩
  by_cases g1 : (l1.length : Int) > 40
  case pos =>
    clear hr0 hr1
    go_enter Tryd.func10, Tryd.ntmps10
    go_wp2_with (go_at_call 33; with_reducible refine hsh.mono ?_; rintro e w1 ⟨rfl, hb⟩)
    go_ret
    exact ⟨rfl, hb⟩
  by_cases g2 : a2 < 1
  case pos =>
    clear hr0 hr1
    go_enter Tryd.func10, Tryd.ntmps10
    go_wp2_with (go_at_call 33; with_reducible refine hsh.mono ?_; rintro e w1 ⟨rfl, hb⟩)
    go_ret
    exact ⟨rfl, hb⟩
  by_cases g3 : a2 > 8
  case pos =>
    clear hr0 hr1
    go_enter Tryd.func10, Tryd.ntmps10
    go_wp2_with (go_at_call 33; with_reducible refine hsh.mono ?_; rintro e w1 ⟨rfl, hb⟩)
    go_ret
    exact ⟨rfl, hb⟩
  have hR : ∀ w1 : World, Below w.heap.size w w1 → Calls Tryd.prog 31 #[.int .i64 8, .slice (some ⟨w1.heap.size, 0, none⟩) 2 2] (w1.alloc (.cells #[.slice A0 l0.length c0, .slice A1 l1.length c1] 22)) fun e w' => e = .returned (.bool (rightG 8 [l0, l1])) ∧ Below w.heap.size w w' := by
    intro w1 hb
    have hb2 : Below w.heap.size w (w1.alloc (.cells #[.slice A0 l0.length c0, .slice A1 l1.length c1] 22)) := hb.alloc hb.size _
    exact (clause_Right.calls 8 (some ⟨w1.heap.size, 0, none⟩) 2 [l0, l1] _ (w1.alloc (.cells #[.slice A0 l0.length c0, .slice A1 l1.length c1] 22)) (lit_rows (by simp [go_sem]) (by simp [go_sem]) hc0 hc1 (Kd.C_below hr0 hb2) (Kd.C_below hr1 hb2)) (Nat.le_refl _) rfl).mono
      fun _ _ h => ⟨h.1, hb2.trans (h.2.mono hb2.size)⟩
  have HR := Lib.hid hR
  clear hR
  cases hq : rightG 8 [l0, l1] with
  | false =>
    rw [hq] at HR
    clear hr0 hr1
    go_enter Tryd.func10, Tryd.ntmps10
    go_wp2_with (first | (go_at_call 33; with_reducible refine hsh.mono ?_; rintro e w1 ⟨rfl, hb⟩; have HB := Lib.hid hb; clear hb) | (go_at_call 31; with_reducible refine (HR.out _ HB.out).mono ?_; rintro e w2 ⟨rfl, hb2⟩))
    go_ret
    exact ⟨rfl, hb2⟩
  | true =>
    rw [hq] at HR
    have H0 := Lib.hid hr0
    have H1 := Lib.hid hr1
    have hwm : wrap64 (-a2) = -a2 := by unfold wrap64; omega
    obtain ⟨X, hX⟩ : ∃ X, [] ++ l0 ++ [a2] = X := ⟨_, rfl⟩
    obtain ⟨Y, hY⟩ : ∃ Y, [] ++ l1 ++ [-a2] = Y := ⟨_, rfl⟩
    have hXl : X.length ≤ 8796093022208 := by rw [← hX]; simp; omega
    have hYl : Y.length ≤ 8796093022208 := by rw [← hY]; simp; omega
    have hXm : a2 ∈ X := by rw [← hX]; simp
    have hYm : wrap64 (-a2) ∈ Y := by rw [← hY, hwm]; simp
    have hre : ∀ (W : World) (A c A' c'), Kd.C (Kd.int .i64) W A X.length X → X.length ≤ c → Kd.C (Kd.int .i64) W A' Y.length Y → Y.length ≤ c' → Calls Tryd.prog 39 #[.slice A X.length c, .slice A' Y.length c', .int .i64 a2] W fun e w' => ∃ v0_ : Value, e = .returned (.tuple #[v0_, .bool true]) ∧ Kd.R (Kd.int .i64) 3 w' W.heap.size (fun _ => True) v0_ (tidyL (lessL X a2 ++ lessL Y (wrap64 (-a2)))) ∧ Below W.heap.size W w' :=
      fun W A c A' c' h1 h2 h3 h4 => clause_Resolve.calls A c X A' c' Y a2 _ _ W h1 h2 h3 h4 (by unfold clause_Resolve.f resolveG; rw [if_pos ⟨hXl, hYl⟩, if_neg (by rintro (z | z | z); omega; exact z hXm; exact z hYm)])
    have hsound := fun z => resolve_sound X Y a2 (by omega) (by omega) z
    generalize tidyL (lessL X a2 ++ lessL Y (wrap64 (-a2))) = R at hre hsound
    have HRE := Lib.hid hre
    have HS := Lib.hid hsound
    clear hre hsound hXl hYl hXm hYm
    clear hr0 hr1
    go_enter Tryd.func10, Tryd.ntmps10
    go_wp2_with (first | (go_at_call 33; with_reducible refine hsh.mono ?_; rintro e w1 ⟨rfl, hb⟩; have HB := Lib.hid hb; clear hb) | (go_at_call 31; with_reducible refine (HR.out _ HB.out).mono ?_; rintro e w2 ⟨rfl, hb2⟩; have HB2 := Lib.hid hb2; clear hb2) | ((with_reducible refine gate_builtin (b := .append) (xs := #[.tmp 43, .tmp 44]) rfl ?_); (try (refine gate_guard (by rfl) ?_; dsimp only)); at_builtin; refine Kd.R_append_rows (Kd.int .i64) (w0 := w) w.heap.size rfl (.tmp 43) (.tmp 44) 22 3 (.int .i64 0) 8 rfl Tryd.underlying22 info3 rfl (by decide) (by omega) (.slice (some ⟨w2.heap.size, 0, none⟩) 0 0) [] l0 _ _ _ (fun _ => True) (fun _ => False) rfl rfl (own_empty HB2.out).R (Kd.C_below H0.out (own_empty HB2.out).bel) (fun _ _ h => h) (fun _ h => h.elim) (fun _ _ => trivial) (own_empty HB2.out).bel (own_empty HB2.out).base (by simp <;> omega) ?_; intro v3 w3 ho hb hg hat; have O3 := Lib.hid (own_of ho hb); clear ho hb hg hat) | ((with_reducible refine gate_builtin (b := .append) (xs := #[.tmp 45, .tmp 47]) rfl ?_); (try (refine gate_guard (by rfl) ?_; dsimp only)); at_builtin; refine Kd.R_append_rows (Kd.int .i64) (w0 := w) w.heap.size rfl (.tmp 45) (.tmp 47) 22 3 (.int .i64 0) 8 rfl Tryd.underlying22 info3 rfl (by decide) (by omega) v3 ([] ++ l0) [a2] _ _ _ (fun _ => True) (fun _ => False) rfl rfl (own_alloc O3.out _).R (lit_one (by simp [go_sem])) (fun _ _ h => h) (fun _ h => h.elim) (fun _ _ => trivial) (own_alloc O3.out _).bel (own_alloc O3.out _).base (by simp <;> omega) ?_; intro v4 w4 ho hb hg hat; rw [hX] at ho; have O4 := Lib.hid (own_of ho hb); clear ho hb hg hat) | ((with_reducible refine gate_builtin (b := .append) (xs := #[.tmp 49, .tmp 50]) rfl ?_); (try (refine gate_guard (by rfl) ?_; dsimp only)); at_builtin; refine Kd.R_append_rows (Kd.int .i64) (w0 := w4) w4.heap.size rfl (.tmp 49) (.tmp 50) 22 3 (.int .i64 0) 8 rfl Tryd.underlying22 info3 rfl (by decide) (by omega) (.slice (some ⟨w4.heap.size, 0, none⟩) 0 0) [] l1 _ _ _ (fun _ => True) (fun _ => False) rfl rfl (own_empty (RowKit.Below.refl w4.heap.size w4)).R (Kd.C_below H1.out (O4.out.bel.trans ((own_empty (RowKit.Below.refl w4.heap.size w4)).bel.mono O4.out.base))) (fun _ _ h => h) (fun _ h => h.elim) (fun _ _ => trivial) (own_empty (RowKit.Below.refl w4.heap.size w4)).bel (own_empty (RowKit.Below.refl w4.heap.size w4)).base (by simp <;> omega) ?_; intro v5 w5 ho hb hg hat; have O5 := Lib.hid (own_of ho hb); clear ho hb hg hat) | ((with_reducible refine gate_builtin (b := .append) (xs := #[.tmp 51, .tmp 54]) rfl ?_); (try (refine gate_guard (by rfl) ?_; dsimp only)); at_builtin; refine Kd.R_append_rows (Kd.int .i64) (w0 := w4) w4.heap.size rfl (.tmp 51) (.tmp 54) 22 3 (.int .i64 0) 8 rfl Tryd.underlying22 info3 rfl (by decide) (by omega) v5 ([] ++ l1) [-a2] _ _ _ (fun _ => True) (fun _ => False) rfl rfl (own_alloc O5.out _).R (lit_one (by simp [go_sem])) (fun _ _ h => h) (fun _ h => h.elim) (fun _ _ => trivial) (own_alloc O5.out _).bel (own_alloc O5.out _).base (by simp <;> omega) ?_; intro v6 w6 ho hb hg hat; rw [hY] at ho; have O6 := Lib.hid (own_of ho hb); clear ho hb hg hat; obtain ⟨A4, c4, rfl, hc4⟩ := O4.out.slice; obtain ⟨A6, c6, rfl, hc6⟩ := O6.out.slice; have O4b := Lib.hid (O4.out.below O6.out.bel)) | (go_at_call 39; with_reducible refine (HRE.out _ _ _ _ _ (Kd.R_reads' O4b.out.R).2.2 hc4 (Kd.R_reads' O6.out.R).2.2 hc6).mono ?_; rintro e w7 ⟨v7, rfl, hR7, hb7⟩; have O7 := Lib.hid (own_of hR7 hb7); clear hR7 hb7; obtain ⟨A7, c7, rfl, hc7⟩ := O7.out.slice))
    have BZ := Lib.hid (RowKit.Below.refl w7.heap.size w7)
    go_loopg [12, 13] 256 (fun gg s12 _ wr => ∃ kk : Nat, kk ≤ 256 ∧ 256 - kk ≤ gg ∧ s12 = .int .i64 kk ∧ Aside (Below w7.heap.size w7 wr))
    case atStart => exact ⟨0, Nat.zero_le _, by omega, rfl, BZ.out⟩
    case round =>
      obtain ⟨kk, hkk, hg, rfl, BW⟩ := hrel
      by_cases hlt : kk < 256
      · have hltz : (kk : Int) < 256 := by omega
        obtain ⟨K, hK⟩ := model12_ev (kk : Int) 8 (by omega)
        have hmo := fun W => keelsonlaw12_model.calls K (kk : Int) 8 _ W (hK K (Nat.le_refl _))
        have hz0 : (modelF (kk : Int) 8).length ≤ 35184372088832 := by rw [modelF_len]; decide
        generalize modelF (kk : Int) 8 = z at hmo hz0
        have hH1 : ∀ (W : World) (Az cz), Below w7.heap.size w7 W → Kd.C Kd.bool W Az z.length z → z.length ≤ cz → Calls Tryd.prog 20 #[.slice (some ⟨W.heap.size, 0, none⟩) 2 2, .slice Az z.length cz] (W.alloc (.cells #[.slice A4 X.length c4, .slice A6 Y.length c6] 22)) fun e w' => e = .returned (.bool (holdsG [X, Y] z)) ∧ Below W.heap.size W w' := by
          intro W Az cz hb hz hcz
          have hb2 : Below w7.heap.size w7 (W.alloc (.cells #[.slice A4 X.length c4, .slice A6 Y.length c6] 22)) := hb.alloc hb.size _
          have hb3 : Below W.heap.size W (W.alloc (.cells #[.slice A4 X.length c4, .slice A6 Y.length c6] 22)) := (Below.refl _ _).alloc (Nat.le_refl _) _
          exact (clause_Holds.calls (some ⟨W.heap.size, 0, none⟩) 2 [X, Y] Az cz z _ (W.alloc (.cells #[.slice A4 X.length c4, .slice A6 Y.length c6] 22))
            (lit_rows (by simp [go_sem]) (by simp [go_sem]) hc4 hc6 (Kd.C_below (Kd.R_reads' (O4b.out.below O7.out.bel).R).2.2 hb2) (Kd.C_below (Kd.R_reads' (O6.out.below O7.out.bel).R).2.2 hb2)) (Nat.le_refl _) (Kd.C_below hz hb3) hcz (by unfold clause_Holds.f; rw [if_pos hz0])).mono
            fun _ _ h => ⟨h.1, hb3.trans (h.2.mono hb3.size)⟩
        have hH2 : ∀ (W : World) (Az cz), Below w7.heap.size w7 W → Kd.C Kd.bool W Az z.length z → z.length ≤ cz → Calls Tryd.prog 20 #[.slice (some ⟨W.heap.size, 0, none⟩) 1 1, .slice Az z.length cz] (W.alloc (.cells #[.slice A7 R.length c7] 22)) fun e w' => e = .returned (.bool (holdsG [R] z)) ∧ Below W.heap.size W w' := by
          intro W Az cz hb hz hcz
          have hb2 : Below w7.heap.size w7 (W.alloc (.cells #[.slice A7 R.length c7] 22)) := hb.alloc hb.size _
          have hb3 : Below W.heap.size W (W.alloc (.cells #[.slice A7 R.length c7] 22)) := (Below.refl _ _).alloc (Nat.le_refl _) _
          exact (clause_Holds.calls (some ⟨W.heap.size, 0, none⟩) 1 [R] Az cz z _ (W.alloc (.cells #[.slice A7 R.length c7] 22))
            (lit_rows1 (by simp [go_sem]) hc7 (Kd.C_below (Kd.R_reads' O7.out.R).2.2 hb2)) (Nat.le_refl _) (Kd.C_below hz hb3) hcz (by unfold clause_Holds.f; rw [if_pos hz0])).mono
            fun _ _ h => ⟨h.1, hb3.trans (h.2.mono hb3.size)⟩
        have H1' := Lib.hid hH1
        have H2' := Lib.hid hH2
        have HM := Lib.hid hmo
        clear hH1 hH2 hmo
        have hsz : holdsG [X, Y] z = true → holdsG [R] z = true := by
          intro h
          have h' := h
          unfold holdsG at h' ⊢
          simp only [List.all_cons, List.all_nil, Bool.and_true, Bool.and_eq_true, Bool.not_eq_true', decide_eq_false_iff_not] at h' ⊢
          have := HS.out z (by omega) (by omega)
          omega
        have step : ∀ {u v : World}, Below w7.heap.size w7 u → Below u.heap.size u v → Below w7.heap.size w7 v := fun h1 h2 => h1.trans (h2.mono h1.size)
        have ST := Lib.hid hsz
        clear hsz hz0 hK
        cases hh : holdsG [X, Y] z with
        | false =>
          rw [hh] at H1'
          clear hh
          go_wp2_with (first | (go_at_call 38; with_reducible refine (HM.out _).mono ?_; rintro e w8 ⟨v8, rfl, hR8, hb8⟩; have B8 := Lib.hid (step BW.out hb8); clear hb8; obtain ⟨A8, c8, rfl, hc8, hz8⟩ := Kd.R_reads hR8; have Z8 := Lib.hid hz8; clear hz8 hR8) | (go_at_call 20; with_reducible refine (H1'.out _ _ _ B8.out Z8.out hc8).mono ?_; rintro e w9 ⟨rfl, hb9⟩; have B9 := Lib.hid (step B8.out hb9); clear hb9))
          go_roundg (256 - (kk + 1))
          case measure => omega
          case rel => exact ⟨kk + 1, by omega, by omega, by go_num, B9.out⟩
        | true =>
          have h2 := ST.out hh
          rw [hh] at H1'
          rw [h2] at H2'
          clear hh h2
          go_wp2_with (first | (go_at_call 38; with_reducible refine (HM.out _).mono ?_; rintro e w8 ⟨v8, rfl, hR8, hb8⟩; have B8 := Lib.hid (step BW.out hb8); clear hb8; obtain ⟨A8, c8, rfl, hc8, hz8⟩ := Kd.R_reads hR8; have Z8 := Lib.hid hz8; clear hz8 hR8) | (go_at_call 20; with_reducible refine (H1'.out _ _ _ B8.out Z8.out hc8).mono ?_; rintro e w9 ⟨rfl, hb9⟩; have B9 := Lib.hid (step B8.out hb9); have Z9 := Lib.hid (Kd.C_below Z8.out hb9); clear hb9) | (go_at_call 20; with_reducible refine (H2'.out _ _ _ B9.out Z9.out hc8).mono ?_; rintro e w10 ⟨rfl, hb10⟩; have B10 := Lib.hid (step B9.out hb10); clear hb10))
          go_roundg (256 - (kk + 1))
          case measure => omega
          case rel => exact ⟨kk + 1, by omega, by omega, by go_num, B10.out⟩
      · have hltz : ¬ (kk : Int) < 256 := by omega
        have hb7 : Below w.heap.size w w7 := O4b.out.bel.trans (O7.out.bel.mono O4b.out.base)
        have hfin : Below w.heap.size w wr := hb7.trans (BW.out.mono hb7.size)
        clear hb7
        clear HRE HS
        go_wp2
        go_ret
        exact ⟨rfl, hfin⟩
end Go.Proofs.YtooobbbpcpfddaaDoor.PA
