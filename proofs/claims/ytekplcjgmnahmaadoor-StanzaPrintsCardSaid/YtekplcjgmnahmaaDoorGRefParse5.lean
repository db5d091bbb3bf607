/- keelsonref5.Parse: what it comes to. No premise on the world. -/
import Derived.Test.YtekplcjgmnahmaaDoorGRefField5
import Derived.Test.YtekplcjgmnahmaaDoorGParse5
/- keelsonref5's reader: line: what it comes to. Conditions: the reader lies as GRead says. -/
namespace Go.Proofs.YtekplcjgmnahmaaDoor.PA
open Go.RowKit Go.Proofs.YtekplcjgmnahmaaDoorW.PrintWords Go.Proofs.YtekplcjgmnahmaaDoorW.PrintLast Go.Proofs.YtekplcjgmnahmaaDoorW.PrintMore

theorem gr_set {W w7 : World} (h : W.grownBy w7 none) {g : Nat} (hg : W.heap.size ≤ g) (j : Nat) (u : Value) : W.grownBy (w7.setCell ⟨g, j, none⟩ u) none :=
  ⟨h.os, h.tape, h.output, by simpa using h.size, fun k hk _ => (heap_set_ne w7 ⟨g, j, none⟩ u k (fun e => by have : k = g := e; omega)).trans (h.block k hk (by simp))⟩
theorem clean_calls (s : ByteArray) (w : World) (hs : s.size ≤ 4611686018427387904) : Calls Tryd.prog 54 #[.string s] w fun e w' => e = .returned (.bool (cleanL s.data.toList)) ∧ ∃ n, w' = w.drewN n := by
  obtain ⟨k, hk⟩ := Ev.rounds (refclean_ev s hs)
  exact (keelsonref5_clean.calls k s _ w hk).mono fun e w' h => ⟨h.1, h.2.out⟩
set_option maxRecDepth 20000 in
set_option maxHeartbeats 16000000 in
theorem refline_calls (w0 W : World) (rb : Nat) (gs : List Guest) (v : Value) (vs : List Value) (l : List (List Fd)) (o : Bool) (s : ByteArray) (N : Nat) (hs : s.size ≤ 4294967281) (hF : FineR l o) (hN : ValsLe N l) (hNs : N + s.size ≤ 4611686018427387904) (h : RdR w0 W rb gs v vs l o) :
    Calls Tryd.prog 32 #[.pointer (some ⟨rb, 0, none⟩), .string s] W fun e w' =>
      match lineG l o s.data.toList with
      | .error q => e = .returned (.int .i64 q) ∧ Below w0.heap.size w0 w'
      | .ok p => e = .returned (.int .i64 0) ∧ ∃ v' vs', RdR w0 w' rb gs v' vs' p.1 p.2 := by
  obtain ⟨r, hr⟩ : ∃ r, lineG l o s.data.toList = r := ⟨_, rfl⟩
  rw [hr]
  unfold lineG at hr
  have hcl := fun w => clean_calls s w (by omega)
  have hmv := fun n => h.move (pw_below_drewN (Below.refl W.heap.size W) n)
  cases hc : cleanL s.data.toList with
  | false =>
    rw [hc] at hr hcl
    rw [if_neg (by decide)] at hr
    subst hr
    clear h
    go_enter Tryd.func32, Tryd.ntmps32
    go_wp2_with (go_at_call 54; with_reducible refine (hcl _).mono ?_; rintro e w1 ⟨rfl, n, rfl⟩; have H1 := Lib.hid (hmv n))
    go_ret
    exact ⟨rfl, H1.out.bel⟩
  | true =>
    rw [hc] at hr hcl
    rw [if_pos rfl] at hr
    cases hl : s.data.toList with
    | nil =>
      rw [hl] at hr
      dsimp only at hr
      subst hr
      obtain rfl : s = ⟨#[]⟩ := by cases s with | mk d => cases d with | mk l => cases hl; rfl
      clear h
      go_enter Tryd.func32, Tryd.ntmps32
      go_wp2_with (go_at_call 54; with_reducible refine (hcl _).mono ?_; rintro e w1 ⟨rfl, n, rfl⟩; have H1 := Lib.hid (hmv n); have k0 := H1.out.cell1; have k1 := H1.out.frozen 1; have H2 := Lib.hid (H1.out.flag (by decide) (by decide) false))
      go_ret
      exact ⟨rfl, _, _, H2.out⟩
    | cons c t =>
      rw [hl] at hr
      dsimp only at hr
      have hsz : s.size = t.length + 1 := by rw [← data_length, hl]; rfl
      have hne2 : (s.toList = []) = False := by rw [ByteArray.toList_eq, hl]; simp
      have hne3 : s.toList.isEmpty = false := by rw [ByteArray.toList_eq, hl]; rfl
      have q1 : ((0 : Int) < (s.size : Int)) = True := eq_true (by omega)
      have q3 : (0 < s.size) = True := eq_true (by omega)
      have hx : ∀ h : 0 < s.size, ((s[0]'h).toNat : Int) = (c.toNat : Int) := by
        intro h
        congr 2
        show s.data[0] = c
        have : s.data.toList[0]'(by rw [hl]; exact Nat.succ_pos _) = c := by simp [hl]
        simpa using this
      by_cases h32 : c.toNat ≠ 32
      · rw [if_pos h32] at hr
        have hci : ¬ (c.toNat : Int) = 32 := by omega
        have hci2 : ((c.toNat : Int) != 32) = true := bne_iff_ne.2 hci
        have hci3 : ((c.toNat : Int) == 32) = false := beq_eq_false_iff_ne.2 hci
        have hfc := fun w1 H => begins_calls w0 w1 rb gs v vs l o s (by omega) hF H
        rw [hl, hr] at hfc
        generalize (c.toNat : Int) = ci at hx hci hci2 hci3
        have HSZ := Lib.hid hsz
        clear h hsz hl hr
        go_enter Tryd.func32, Tryd.ntmps32
        cases r with
        | error q =>
          dsimp only at hfc ⊢
          go_wp2_with (first | (go_at_call 54; with_reducible refine (hcl _).mono ?_; rintro e w1 ⟨rfl, n, rfl⟩; have H1 := Lib.hid (hmv n)) | (go_at_call 55; with_reducible refine (hfc _ H1.out).mono ?_; rintro e w3 ⟨rfl, hb3⟩))
          go_ret
          exact ⟨rfl, hb3⟩
        | ok p =>
          dsimp only at hfc ⊢
          go_wp2_with (first | (go_at_call 54; with_reducible refine (hcl _).mono ?_; rintro e w1 ⟨rfl, n, rfl⟩; have H1 := Lib.hid (hmv n)) | (go_at_call 55; with_reducible refine (hfc _ H1.out).mono ?_; rintro e w3 ⟨rfl, h3⟩))
          go_ret
          exact ⟨rfl, h3⟩
      · rw [if_neg h32] at hr
        have hci : (c.toNat : Int) = 32 := by omega
        rw [hci] at hx
        cases o with
        | false =>
          rw [Bool.false_and, if_neg (by decide)] at hr
          subst hr
          have HSZ := Lib.hid hsz
          clear h hsz hl
          go_enter Tryd.func32, Tryd.ntmps32
          go_wp2_with (go_at_call 54; with_reducible refine (hcl _).mono ?_; rintro e w1 ⟨rfl, n, rfl⟩; have H1 := Lib.hid (hmv n); have k0 := H1.out.cell1)
          go_ret
          exact ⟨rfl, H1.out.bel⟩
        | true =>
        cases t with
        | nil =>
          rw [Bool.true_and, if_neg (by decide)] at hr
          subst hr
          have hsz1 : (s.size : Int) = 1 := by rw [hsz]; rfl
          clear h hl hsz q1
          go_enter Tryd.func32, Tryd.ntmps32
          go_wp2_with (go_at_call 54; with_reducible refine (hcl _).mono ?_; rintro e w1 ⟨rfl, n, rfl⟩; have H1 := Lib.hid (hmv n); have k0 := H1.out.cell1)
          go_ret
          exact ⟨rfl, H1.out.bel⟩
        | cons c1 t1 =>
          rw [Bool.true_and, if_pos (by rfl)] at hr
          subst hr
          have hl0 := hF.2.2 rfl
          have hne := (hF.2.1 _ (lastS_mem hl0)).1
          have h40 := (hF.2.1 _ (lastS_mem hl0)).2
          obtain ⟨g, cap, hv, _, _⟩ := h.slice hl0
          obtain ⟨us, z, hvs, _, hz, hlen⟩ := h.last hl0
          obtain ⟨x, f, hx9⟩ : ∃ x f, lastS l = x ++ [f] := ⟨_, _, (List.dropLast_concat_getLast hne).symm⟩
          have hsz9 : f.f1.size ≤ N := hN _ (lastS_mem hl0) f (by rw [hx9]; simp)
          have hmore : moreS (c1 :: t1) (lastS l) = x ++ [⟨f.f0, mkB (f.f1.data.toList ++ 10 :: c1 :: t1)⟩] := by rw [hx9]; simp [moreS, moreF]
          obtain ⟨gz, cz, hzv⟩ : ∃ gz cz, z = .slice (some ⟨gz, 0, none⟩) (x.length + 1) cz := by
            rcases hz.2 with ⟨_, e⟩ | ⟨gz, cz, cur, e, _⟩
            · rw [hx9] at e; simp at e
            · exact ⟨gz, cz, by rw [e, hx9]; simp⟩
          have hzr : OwnF w0.heap.size W (.slice (some ⟨gz, 0, none⟩) (x.length + 1) cz) (x ++ [f]) := by rw [← hzv, ← hx9]; exact hz
          have c2 := (h.lastAt hv hvs hlen).1
          have c3 := (h.lastAt hv hvs hlen).2
          rw [hmore]
          rw [← hlen] at hv
          subst hv hzv
          have c0 := h.cell0
          have hlu : us.length < 9223372036854775807 := by have := hF.1; omega
          have hxl : x.length + 1 ≤ 40 := by rw [hx9] at h40; simpa using h40
          have i1 : IntKind.i64.wrap ((us.length : Int) + 1 - 1) = (us.length : Int) := by
            rw [i64_w]; unfold wrap64; omega
          have i1b : IntKind.i64.wrap (us.length : Int) = (us.length : Int) := by
            rw [i64_w]; unfold wrap64; omega
          have i2 : (0 ≤ (us.length : Int)) = True := eq_true (by omega)
          have i3 : ((us.length : Int) < (us.length : Int) + 1) = True := eq_true (by omega)
          have x1 : IntKind.i64.wrap ((x.length : Int) + 1 - 1) = (x.length : Int) := by
            rw [i64_w]; unfold wrap64; omega
          have x1b : IntKind.i64.wrap (x.length : Int) = (x.length : Int) := by
            rw [i64_w]; unfold wrap64; omega
          have x2 : (0 ≤ (x.length : Int)) = True := eq_true (by omega)
          have x3 : ((x.length : Int) < (x.length : Int) + 1) = True := eq_true (by omega)
          have hs1 : ((1 : Int) < (s.size : Int)) = True := eq_true (by rw [hsz]; simp only [List.length_cons]; omega)
          have hs2 : ((1 : Int) ≤ (s.size : Int)) = True := eq_true (by rw [hsz]; simp only [List.length_cons]; omega)
          have hs3 : ((s.size : Int) = 1) = False := eq_false (by rw [hsz]; simp only [List.length_cons]; omega)
          have hs4 : ((s.size : Int) == 1) = false := beq_eq_false_iff_ne.2 (by rw [hsz]; simp only [List.length_cons]; omega)
          have hex : s.extract 1 s.size = mkB (c1 :: t1) := by
            refine bytes_inj9 ?_
            rw [Lib.extract_to_end, hl]; rfl
          have hts : (mkB (c1 :: t1)).size = s.size - 1 := by rw [mkB_size, hsz]; simp
          have e1 := fun w => run_string_add_sum (P := Tryd.prog) (w := w) f.f1 ⟨#[10]⟩ (by rw [show (⟨#[10]⟩ : ByteArray).size = 1 from rfl]; omega)
          have e2 := fun w => run_string_add_sum (P := Tryd.prog) (w := w) (f.f1 ++ ⟨#[10]⟩) (mkB (c1 :: t1)) (by rw [ByteArray.size_append, hts, show (⟨#[10]⟩ : ByteArray).size = 1 from rfl]; omega)
          have heq : f.f1 ++ ⟨#[10]⟩ ++ mkB (c1 :: t1) = mkB (f.f1.data.toList ++ 10 :: c1 :: t1) := by
            refine bytes_inj9 ?_
            rw [ByteArray.data_append, ByteArray.data_append, Array.toList_append, Array.toList_append, List.append_assoc]; rfl
          generalize mkB (f.f1.data.toList ++ 10 :: c1 :: t1) = fv at heq ⊢
          generalize mkB (c1 :: t1) = uv at e1 e2 heq hex
          have HL := Lib.hid hlen
          have HH := Lib.hid h
          have HZ := Lib.hid hzr
          clear h hl hsz hlen hz hne hx9 hmore hlu hN hts hsz9 hzr
          go_enter Tryd.func32, Tryd.ntmps32
          go_wp2_with (go_at_call 54; with_reducible refine (hcl _).mono ?_; rintro e w1 ⟨rfl, n, rfl⟩; have k0 := HH.out.cell1)
          obtain ⟨w9, hw9⟩ : ∃ w9, W.drewN n = w9 := ⟨_, rfl⟩
          rw [hw9]
          have H9 := Lib.hid (hw9 ▸ HH.out.move (pw_below_drewN (Below.refl _ W) n))
          have Z9 : OwnF w0.heap.size w9 (.slice (some ⟨gz, 0, none⟩) (x.length + 1) cz) (x ++ [f]) := by rw [← hw9]; exact HZ.out
          have c0 : w9.cell? ⟨rb, 0, none⟩ = some (.slice (some ⟨g, 0, none⟩) (us.length + 1) cap) := by rw [← hw9]; exact c0
          have c2 : w9.cell? ⟨g, us.length, none⟩ = some (.slice (some ⟨gz, 0, none⟩) (x.length + 1) cz) := by rw [← hw9]; exact c2
          have c3 : w9.frozen? ⟨g, us.length, none⟩ = false := by rw [← hw9]; exact c3
          clear HH HZ hw9
          obtain ⟨i49, hi49, hz49⟩ := Option.map_eq_some_iff.1 info49
          simp only [Prod.mk.injEq] at hz49
          obtain ⟨hi1, hi2, hi3⟩ := hz49
          have gr_a : w9.grownBy (w9.alloc (.cells #[] 49)).drew none := gr_drew (World.grownBy_alloc w9 _ none)
          have gr_0 : w9.grownBy w9.drew none := gr_drew (World.grownBy.refl w9 none)
          have S0 : w9.cell? ⟨rb, 0, none⟩ = some (.slice (some ⟨g, 0, none⟩) (us.length + 1) cap) ∧ w9.cell? ⟨g, us.length, none⟩ = some (.slice (some ⟨gz, 0, none⟩) (x.length + 1) cz) := ⟨c0, c2⟩
          have kS : ∀ w', w9.grownBy w' none → w'.cell? ⟨rb, 0, none⟩ = some (.slice (some ⟨g, 0, none⟩) (us.length + 1) cap) ∧ w'.cell? ⟨g, us.length, none⟩ = some (.slice (some ⟨gz, 0, none⟩) (x.length + 1) cz) := fun w' h => ⟨grown_cell h c0, grown_cell h c2⟩
          have own_a : (w9.alloc (.cells #[] 49)).drew.ownsRow w9.heap.size 49 2 (.slice (some ⟨w9.heap.size, 0, none⟩) 0 0) 0 [] := World.ownsRow_made w9 #[] 0 (Nat.le_refl _) (by decide) rfl
          have nx : ∀ W', w9.grownBy W' none → ∀ (j : Nat) u, (fcells (x ++ [f]))[j]? = some u → W'.cell? ((⟨gz, 0, none⟩ : Addr).add j) = some u := fun W' h j u hu => grown_cell h (World.ownsRow.cells Z9 (g := gz) rfl j u hu)
          have fl : (fcells (x ++ [f])).length = (x.length + 1) * 2 := by rw [fcells_len]; simp
          have mx : 0 + (x.length + 1) ≤ maxLen := by simp only [maxLen]; omega
          have bx : (0 + (x.length + 1)) * 32 ≤ 140737488355328 := by omega
          go_wp2
          go_region_held3 (fun w' => w'.cell? ⟨rb, 0, none⟩ = some (.slice (some ⟨g, 0, none⟩) (us.length + 1) cap) ∧ w'.cell? ⟨g, us.length, none⟩ = some (.slice (some ⟨gz, 0, none⟩) (x.length + 1) cz)) (first | exact S0 | exact kS _ gr_0 | exact kS _ gr_a | exact kS _ G7) (first | (refine step_append_lies _ rfl (.tmp 36) (.tmp 48) 35 rfl w9.heap.size 49 i49 _ 2 32 Tryd.underlying35 hi49 hi1 hi2 hi3 rfl (by decide) (.slice (some ⟨w9.heap.size, 0, none⟩) 0 0) 0 [] rfl own_a ⟨gz, 0, none⟩ (x.length + 1) cz (fcells (x ++ [f])) rfl fl (nx _ gr_a) (fcells_one _) (Nat.succ_pos _) mx bx gr_a.size (w9.heap.size + 1) (by simp) ?_; intro g7 cap7 w7 hown7 hg7 hat7 hlt7; simp only [Nat.zero_add, List.nil_append] at hown7 ⊢; have G7 := fresh_grown gr_a hg7 (fun k hk => blk_le (Nat.le_refl _) hk)))
          have hg7 : w9.heap.size ≤ g7 := own_base hown7 g7 rfl
          have F7 := World.ownsRow.frozenAt hown7 (x.length * 2 + 1)
          have k7 : w7.cell? ⟨g7, x.length * 2 + 1, none⟩ = some (.string f.f1) := by
            have := World.ownsRow.cells hown7 (g := g7) rfl (x.length * 2 + 1) (.string f.f1) (by
              rw [fcells_app, List.getElem?_append_right (by rw [fcells_len]; omega), fcells_len, show x.length * 2 + 1 - x.length * 2 = 1 by omega]; rfl)
            rwa [show (⟨g7, 0, none⟩ : Addr).add (x.length * 2 + 1) = ⟨g7, x.length * 2 + 1, none⟩ from by unfold Addr.add; split <;> simp_all] at this
          have own8 := (World.ownsRow.stored hown7 (x.length * 2 + 1) (.string fv)).1
          have e3 : (fcells (x ++ [f])).set (x.length * 2 + 1) (.string fv) = fcells (x ++ [(⟨f.f0, fv⟩ : Fd)]) := by
            rw [fcells_app, fcells_app, List.set_append_right _ _ (by rw [fcells_len]; omega), fcells_len, show x.length * 2 + 1 - x.length * 2 = 1 by omega]; rfl
          rw [e3] at own8
          have G8 := gr_set G7 hg7 (x.length * 2 + 1) (.string fv)
          have r0 := grown_cell G8 c0
          have r2 := grown_cell G8 c2
          have r3 := grown_frozen G8 c2 c3
          have h8 := H9.out.fresh (x1 := x ++ [⟨f.f0, fv⟩]) hl0 (by decide) (by decide) (by decide) (by rw [HL.out]) hvs HL.out G8 (by rw [List.length_append, List.length_singleton]; exact own8) (by simp)
          have H8 := Lib.hid h8
          clear h8 G8 own8 own_a nx kS S0 gr_a gr_0 hi49 hi1 hi2 hi3 Z9 H9 G7 c0 c2 c3 k0 hown7 hcl hmv
          go_wp2
          go_region
          go_wp2
          go_region
          go_wp2
          go_ret
          exact ⟨rfl, _, _, H8.out.move (pw_below_drewN (Below.refl _ _) 2)⟩
end Go.Proofs.YtekplcjgmnahmaaDoor.PA
namespace Go.Proofs.YtekplcjgmnahmaaDoor.PA
open Go.RowKit Go.Proofs.YtekplcjgmnahmaaDoorW.PrintWords Go.Proofs.YtekplcjgmnahmaaDoorW.PrintLast Go.Proofs.YtekplcjgmnahmaaDoorW.PrintMore

def keelsonref5_Parse.f (a0 : ByteArray) : Option (List (List Fd) × Int × Int) := some (parseL a0.data.toList)
theorem S_nilR (w : World) (base : Nat) : Kd.S (Kd.slice 49 k49) 35 w base (fun _ => True) (.slice none 0 0) [] := ⟨fun _ => 0, Kd.R_nil _ _ _ _ _⟩
theorem reps_strings : ∀ (xs : List ByteArray) (cs : List Value) (w : World) (base : Nat) (ok : Nat → Prop), Reps (Kd.string.M w base ok) 1 xs cs → cs = xs.map Value.string := by
  intro xs cs w base ok h
  obtain ⟨h1, h2⟩ := h
  apply List.ext_getElem?
  intro j
  rw [List.getElem?_map]
  by_cases hj : j < xs.length
  · have := h2 j _ (List.getElem?_eq_getElem hj)
    have h3 : (cs.drop (j * 1)).take 1 = [.string xs[j]] := this
    have hjc : j < cs.length := by omega
    rw [Nat.mul_one, List.drop_eq_getElem_cons hjc] at h3
    rw [List.getElem?_eq_getElem hj, List.getElem?_eq_getElem hjc]
    rw [List.take_succ_cons] at h3
    injection h3 with h4 _
    rw [h4]; rfl
  · rw [List.getElem?_eq_none (by omega), List.getElem?_eq_none (by omega)]; rfl
/-- Rows of strings of the call's own: their block, as it is. -/
theorem strings_block {w : World} {base : Nat} {ok : Nat → Prop} {v : Value} {xs : List ByteArray} (h : Kd.R Kd.string 9 w base ok v xs) (hx : xs ≠ []) : ∃ g cap cur, v = .slice (some ⟨g, 0, none⟩) xs.length cap ∧ base ≤ g ∧ w.heap[g]? = some (.cells cur 9 (0, 0)) ∧ ∀ j (hj : j < xs.length), cur[j]? = some (.string xs[j]) := by
  obtain ⟨_, inner, ho, hr⟩ := h
  have hin := reps_strings _ _ _ _ _ hr
  rcases ho.2 with ⟨_, e⟩ | ⟨g, cap, cur, e, hb, hh, hn, hm, hs, ht⟩
  · exact absurd (List.length_eq_zero_iff.1 e) hx
  · refine ⟨g, cap, cur, e, hb, hh, fun j hj => ?_⟩
    have h1 : (cur.toList.take (xs.length * 1))[j]? = some (.string xs[j]) := by
      rw [show cur.toList.take (xs.length * 1) = inner from ht, hin, List.getElem?_map, List.getElem?_eq_getElem hj]; rfl
    rw [List.getElem?_take, if_pos (by omega)] at h1
    simpa using h1

set_option maxRecDepth 20000 in
set_option maxHeartbeats 8000000 in
theorem keelsonref5_Parse.calls (a0 : ByteArray) (r1 : List (List Fd)) (r2 r3 : Int) (w : World) (h : keelsonref5_Parse.f a0 = some (r1, r2, r3)) :
    Calls Tryd.prog 11 #[.string a0] w fun e w' => ∃ v0_ : Value, e = .returned (.tuple #[v0_, .int .i64 r2, .int .i64 r3]) ∧ Kd.S (Kd.slice 49 k49) 35 w' w.heap.size (fun _ => True) v0_ r1 ∧ Below w.heap.size w w' := by
  have h := Option.some.inj h
  have hsz : a0.size = a0.data.toList.length := (data_length a0).symm
  unfold parseL at h
  split at h
  case isTrue hbig =>
    cases h
    have q1 : (60000 : Int) < (a0.size : Int) := by omega
    clear hbig hsz
    go_enter Tryd.func11, Tryd.ntmps11
    go_wp2
    go_ret3
    exact ⟨_, rfl, S_nilR _ _, Below.refl _ _⟩
  case isFalse hbig =>
    have q1 : ¬ (60000 : Int) < (a0.size : Int) := by omega
    obtain ⟨kl, hkl⟩ := Ev.rounds (reflines_ev a0 (by omega))
    have hlc := fun w1 => keelsonref5_lines.calls kl a0 _ w1 hkl
    have hll := lines_len a0.data.toList
    have hl1 := line_len1 a0.data.toList
    have hl0 := lines_ne a0.data.toList
    generalize linesL a0.data.toList = ls at h hlc hll hl1 hl0
    have hstart := fun W (hb : Below w.heap.size w W) => hb
    have HR := Lib.hid h
    have HL1 := Lib.hid hl1
    clear h hl1 hsz hkl
    go_enter Tryd.func11, Tryd.ntmps11
    go_wp2_with (go_at_call 31; with_reducible refine (hlc _).mono ?_; rintro e w1 ⟨v1, rfl, ho1, hb1⟩; have O1 := Lib.hid ho1; have B1 := Lib.hid hb1; clear ho1 hb1)
    obtain ⟨g, cap, cur, rfl, hg, hh, hcs⟩ := strings_block O1.out (by rw [Ne, List.map_eq_nil_iff]; exact hl0)
    rw [List.length_map]
    have hn : ls.length < 9223372036854775807 := by omega
    have hb0 := alloc_below w (.cells #[.slice none 0 0, .bool false] 62)
    have hbw : Below w.heap.size w w1 := hb0.trans (B1.out.mono hb0.size)
    have hst : RdR w w1 w.heap.size [⟨g, cur, 9⟩] (.slice none 0 0) [] [] false := by
      have h1 := (RdP.start (TS := 35) hb0 hb0.size (Nat.le_refl _) (heap_alloc_new w _)).move B1.out
      refine ⟨h1.bel, h1.base, h1.hrb, h1.cell, h1.row, h1.rows, h1.apart, fun q hq => ?_⟩
      rw [List.mem_singleton] at hq
      subst hq
      exact ⟨hh, (show 35 ≠ 9 by decide), (show 62 ≠ 9 by decide), (show 49 ≠ 9 by decide)⟩
    have HS := Lib.hid hst
    have HC := Lib.hid hcs
    clear hst hcs hh hg hb0 hbw hlc O1 B1 q1 hstart
    go_loopg [7, 8] ls.length (fun gg s7 _ wr => ∃ (kk : Nat) (l : List (List Fd)) (o : Bool) (v : Value) (vs : List Value), kk ≤ ls.length ∧ ls.length - kk ≤ gg ∧ s7 = .int .i64 kk ∧ Aside (RdR w wr w.heap.size [⟨g, cur, 9⟩] v vs l o) ∧ Aside (FineR l o) ∧ Aside (ValsLe (kk * 60000) l) ∧ Aside (readG (ls.drop kk) kk l o = (r1, r2, r3)))
    case atStart => exact ⟨0, [], false, _, _, Nat.zero_le _, by omega, rfl, HS.out, fine_start, vals_start _, by rw [List.drop_zero]; exact HR.out⟩
    case round =>
      obtain ⟨kk, l, o, v, vs, hkk, hg, rfl, RP, RF, RV, RR⟩ := hrel
      by_cases hlt : kk < ls.length
      · have hltz : (kk : Int) < (ls.length : Int) := by omega
        have p0 : (0 ≤ (kk : Int)) = True := eq_true (by omega)
        have hcell : wr.cell? ⟨g, kk, none⟩ = some (.string (mkB ls[kk])) := by
          rw [cell_of_row wr _ kk _ _ _ (RP.out.guest _ (List.mem_singleton.2 rfl)).1, HC.out kk (by rw [List.length_map]; exact hlt), List.getElem_map]
        have hlk := HL1.out ls[kk] (List.getElem_mem hlt)
        have hlc := refline_calls w wr w.heap.size [⟨g, cur, 9⟩] v vs l o (mkB ls[kk]) (kk * 60000) (by rw [mkB_size]; omega) RF.out RV.out (by rw [mkB_size]; omega) RP.out
        have hrs := RR.out
        rw [read_step ls kk l o hlt] at hrs
        have hfl := fun l' o' => fine_line (l' := l') (o' := o') (s := ls[kk]) RF.out
        have hvl := fun l' o' => vals_line (l' := l') (o' := o') (s := ls[kk]) RV.out RF.out.2.2
        rw [show (mkB ls[kk]).data.toList = ls[kk] from rfl] at hlc
        cases hq : lineG l o ls[kk] with
        | error q =>
          have hq0 := line_err hq
          rw [hq] at hlc hrs
          have hq1 : (q != 0) = true := bne_iff_ne.2 hq0
          cases hrs
          dsimp only at hlc
          have hwr : IntKind.i64.wrap ((kk : Int) + 1) = (kk : Int) + 1 := by rw [i64_w]; unfold wrap64; omega
          clear hfl hvl RF RV RR
          go_wp2_with (go_at_call 32; with_reducible refine hlc.mono ?_; rintro e w3 ⟨rfl, hb3⟩)
          go_ret3
          exact ⟨_, rfl, S_nilR _ _, hb3⟩
        | ok p =>
          rw [hq] at hlc hrs
          dsimp only at hlc hrs
          have HF := Lib.hid (hfl p.1 p.2 hq)
          have HV := Lib.hid ((hvl p.1 p.2 hq).mono (show kk * 60000 + ls[kk].length ≤ (kk + 1) * 60000 by omega))
          have HRR := Lib.hid hrs
          clear hfl hvl RF RV RR hrs
          go_wp2_with (go_at_call 32; with_reducible refine hlc.mono ?_; rintro e w3 ⟨rfl, v3, vs3, h3⟩; have H3 := Lib.hid h3; clear h3)
          go_roundg (ls.length - (kk + 1))
          case measure => omega
          case rel => exact ⟨kk + 1, p.1, p.2, v3, vs3, by omega, by omega, by go_num, H3.out, HF.out, HV.out, HRR.out⟩
      · have hltz : ¬ (kk : Int) < (ls.length : Int) := by omega
        have hrs := RR.out
        rw [List.drop_eq_nil_of_le (by omega)] at hrs
        cases hrs
        have k0 := RP.out.cell0
        have HSS := Lib.hid (RP.out.S (by decide))
        have HBB := Lib.hid RP.out.bel
        clear RF RV RR RP
        go_wp2
        go_ret3
        exact ⟨_, rfl, HSS.out, HBB.out⟩
end Go.Proofs.YtekplcjgmnahmaaDoor.PA
