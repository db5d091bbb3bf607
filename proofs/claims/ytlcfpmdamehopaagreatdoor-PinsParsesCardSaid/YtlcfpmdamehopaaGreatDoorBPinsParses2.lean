/- PinsParses returns true, whatever it is given, and leaves it as it was: texts are read as pins, or refused, at the place that is wrong. Conditions: those of the given row alone. -/
import Derived.Test.YtlcfpmdamehopaaGreatDoorBPinsParses1
import Derived.Lib.ReplaceLaws
import Derived.Shelf.Strings.BuilderK
import Derived.Laws.EntriesVeiled
import Derived.Test.YtlcfpmdamehopaaGreatDoorTie
import Derived.Test.YtlcfpmdamehopaaGreatDoorCards
import Derived.SevenTiedAt
import Derived.OpenShut
import Derived.ShutString
import Derived.WideWitness
/- keelsonref5.Parse: what it comes to. No premise on the world. -/
/- keelsonref5's reader: line: what it comes to. Conditions: the reader lies as GRead says. -/
namespace Go.Proofs.YtlcfpmdamehopaaGreatDoor.PA
open Go.RowKit Go.Proofs.YtlcfpmdamehopaaGreatDoorW.PrintWords Go.Proofs.YtlcfpmdamehopaaGreatDoorW.PrintLast Go.Proofs.YtlcfpmdamehopaaGreatDoorW.PrintMore

theorem gr_set {W w7 : World} (h : W.grownBy w7 none) {g : Nat} (hg : W.heap.size ≤ g) (j : Nat) (u : Value) : W.grownBy (w7.setCell ⟨g, j, none⟩ u) none :=
  ⟨h.os, h.tape, h.output, by simpa using h.size, fun k hk _ => (heap_set_ne w7 ⟨g, j, none⟩ u k (fun e => by have : k = g := e; omega)).trans (h.block k hk (by simp))⟩
theorem clean_calls (s : ByteArray) (w : World) (hs : s.size ≤ 4611686018427387904) : Calls Tryz.prog 102 #[.string s] w fun e w' => e = .returned (.bool (cleanL s.data.toList)) ∧ ∃ n, w' = w.drewN n := by
  obtain ⟨k, hk⟩ := Ev.rounds (refclean_ev s hs)
  exact (keelsonref5_clean.calls k s _ w hk).mono fun e w' h => ⟨h.1, h.2.out⟩
set_option maxRecDepth 20000 in
set_option maxHeartbeats 16000000 in
theorem refline_calls (w0 W : World) (rb : Nat) (gs : List Guest) (v : Value) (vs : List Value) (l : List (List Fd)) (o : Bool) (s : ByteArray) (N : Nat) (hs : s.size ≤ 4294967281) (hF : FineR l o) (hN : ValsLe N l) (hNs : N + s.size ≤ 4611686018427387904) (h : RdR w0 W rb gs v vs l o) :
    Calls Tryz.prog 59 #[.pointer (some ⟨rb, 0, none⟩), .string s] W fun e w' =>
      match lineG l o s.data.toList with
      | .error q => e = .returned (.int .i64 q) ∧ Below w0.heap.size w0 w'
      | .ok p => e = .returned (.int .i64 0) ∧ ∃ v' vs', RdR w0 w' rb gs v' vs' p.1 p.2 := by
  obtain ⟨r, hr⟩ : ∃ r, lineG l o s.data.toList = r := ⟨_, rfl⟩
  rw [hr]
  unfold lineG at hr
  have hcl := fun w => clean_calls s w (by omega)
  have hmv := fun n => h.move (pw_below_drewN (Below.refl W.heap.size W) n)
  cases hc : cleanL s.data.toList with
  | false =>
    rw [hc] at hr hcl
    rw [if_neg (by decide)] at hr
    subst hr
    clear h
    go_enter Tryz.func59, Tryz.ntmps59
    go_wp2_with (go_at_call 102; with_reducible refine (hcl _).mono ?_; rintro e w1 ⟨rfl, n, rfl⟩; have H1 := Lib.hid (hmv n))
    go_ret
    exact ⟨rfl, H1.out.bel⟩
  | true =>
    rw [hc] at hr hcl
    rw [if_pos rfl] at hr
    cases hl : s.data.toList with
    | nil =>
      rw [hl] at hr
      dsimp only at hr
      subst hr
      obtain rfl : s = ⟨#[]⟩ := by cases s with | mk d => cases d with | mk l => cases hl; rfl
      clear h
      go_enter Tryz.func59, Tryz.ntmps59
      go_wp2_with (go_at_call 102; with_reducible refine (hcl _).mono ?_; rintro e w1 ⟨rfl, n, rfl⟩; have H1 := Lib.hid (hmv n); have k0 := H1.out.cell1; have k1 := H1.out.frozen 1; have H2 := Lib.hid (H1.out.flag (by decide) (by decide) false))
      go_ret
      exact ⟨rfl, _, _, H2.out⟩
    | cons c t =>
      rw [hl] at hr
      dsimp only at hr
      have hsz : s.size = t.length + 1 := by rw [← data_length, hl]; rfl
      have hne2 : (s.toList = []) = False := by rw [ByteArray.toList_eq, hl]; simp
      have hne3 : s.toList.isEmpty = false := by rw [ByteArray.toList_eq, hl]; rfl
      have q1 : ((0 : Int) < (s.size : Int)) = True := eq_true (by omega)
      have q3 : (0 < s.size) = True := eq_true (by omega)
      have hx : ∀ h : 0 < s.size, ((s[0]'h).toNat : Int) = (c.toNat : Int) := by
        intro h
        congr 2
        show s.data[0] = c
        have : s.data.toList[0]'(by rw [hl]; exact Nat.succ_pos _) = c := by simp [hl]
        simpa using this
      by_cases h32 : c.toNat ≠ 32
      · rw [if_pos h32] at hr
        have hci : ¬ (c.toNat : Int) = 32 := by omega
        have hci2 : ((c.toNat : Int) != 32) = true := bne_iff_ne.2 hci
        have hci3 : ((c.toNat : Int) == 32) = false := beq_eq_false_iff_ne.2 hci
        have hfc := fun w1 H => begins_calls w0 w1 rb gs v vs l o s (by omega) hF H
        rw [hl, hr] at hfc
        generalize (c.toNat : Int) = ci at hx hci hci2 hci3
        have HSZ := Lib.hid hsz
        clear h hsz hl hr
        go_enter Tryz.func59, Tryz.ntmps59
        cases r with
        | error q =>
          dsimp only at hfc ⊢
          go_wp2_with (first | (go_at_call 102; with_reducible refine (hcl _).mono ?_; rintro e w1 ⟨rfl, n, rfl⟩; have H1 := Lib.hid (hmv n)) | (go_at_call 103; with_reducible refine (hfc _ H1.out).mono ?_; rintro e w3 ⟨rfl, hb3⟩))
          go_ret
          exact ⟨rfl, hb3⟩
        | ok p =>
          dsimp only at hfc ⊢
          go_wp2_with (first | (go_at_call 102; with_reducible refine (hcl _).mono ?_; rintro e w1 ⟨rfl, n, rfl⟩; have H1 := Lib.hid (hmv n)) | (go_at_call 103; with_reducible refine (hfc _ H1.out).mono ?_; rintro e w3 ⟨rfl, h3⟩))
          go_ret
          exact ⟨rfl, h3⟩
      · rw [if_neg h32] at hr
        have hci : (c.toNat : Int) = 32 := by omega
        rw [hci] at hx
        cases o with
        | false =>
          rw [Bool.false_and, if_neg (by decide)] at hr
          subst hr
          have HSZ := Lib.hid hsz
          clear h hsz hl
          go_enter Tryz.func59, Tryz.ntmps59
          go_wp2_with (go_at_call 102; with_reducible refine (hcl _).mono ?_; rintro e w1 ⟨rfl, n, rfl⟩; have H1 := Lib.hid (hmv n); have k0 := H1.out.cell1)
          go_ret
          exact ⟨rfl, H1.out.bel⟩
        | true =>
        cases t with
        | nil =>
          rw [Bool.true_and, if_neg (by decide)] at hr
          subst hr
          have hsz1 : (s.size : Int) = 1 := by rw [hsz]; rfl
          clear h hl hsz q1
          go_enter Tryz.func59, Tryz.ntmps59
          go_wp2_with (go_at_call 102; with_reducible refine (hcl _).mono ?_; rintro e w1 ⟨rfl, n, rfl⟩; have H1 := Lib.hid (hmv n); have k0 := H1.out.cell1)
          go_ret
          exact ⟨rfl, H1.out.bel⟩
        | cons c1 t1 =>
          rw [Bool.true_and, if_pos (by rfl)] at hr
          subst hr
          have hl0 := hF.2.2 rfl
          have hne := (hF.2.1 _ (lastS_mem hl0)).1
          have h40 := (hF.2.1 _ (lastS_mem hl0)).2
          obtain ⟨g, cap, hv, _, _⟩ := h.slice hl0
          obtain ⟨us, z, hvs, _, hz, hlen⟩ := h.last hl0
          obtain ⟨x, f, hx9⟩ : ∃ x f, lastS l = x ++ [f] := ⟨_, _, (List.dropLast_concat_getLast hne).symm⟩
          have hsz9 : f.f1.size ≤ N := hN _ (lastS_mem hl0) f (by rw [hx9]; simp)
          have hmore : moreS (c1 :: t1) (lastS l) = x ++ [⟨f.f0, mkB (f.f1.data.toList ++ 10 :: c1 :: t1)⟩] := by rw [hx9]; simp [moreS, moreF]
          obtain ⟨gz, cz, hzv⟩ : ∃ gz cz, z = .slice (some ⟨gz, 0, none⟩) (x.length + 1) cz := by
            rcases hz.2 with ⟨_, e⟩ | ⟨gz, cz, cur, e, _⟩
            · rw [hx9] at e; simp at e
            · exact ⟨gz, cz, by rw [e, hx9]; simp⟩
          have hzr : OwnF w0.heap.size W (.slice (some ⟨gz, 0, none⟩) (x.length + 1) cz) (x ++ [f]) := by rw [← hzv, ← hx9]; exact hz
          have c2 := (h.lastAt hv hvs hlen).1
          have c3 := (h.lastAt hv hvs hlen).2
          rw [hmore]
          rw [← hlen] at hv
          subst hv hzv
          have c0 := h.cell0
          have hlu : us.length < 9223372036854775807 := by have := hF.1; omega
          have hxl : x.length + 1 ≤ 40 := by rw [hx9] at h40; simpa using h40
          have i1 : IntKind.i64.wrap ((us.length : Int) + 1 - 1) = (us.length : Int) := by
            rw [i64_w]; unfold wrap64; omega
          have i1b : IntKind.i64.wrap (us.length : Int) = (us.length : Int) := by
            rw [i64_w]; unfold wrap64; omega
          have i2 : (0 ≤ (us.length : Int)) = True := eq_true (by omega)
          have i3 : ((us.length : Int) < (us.length : Int) + 1) = True := eq_true (by omega)
          have x1 : IntKind.i64.wrap ((x.length : Int) + 1 - 1) = (x.length : Int) := by
            rw [i64_w]; unfold wrap64; omega
          have x1b : IntKind.i64.wrap (x.length : Int) = (x.length : Int) := by
            rw [i64_w]; unfold wrap64; omega
          have x2 : (0 ≤ (x.length : Int)) = True := eq_true (by omega)
          have x3 : ((x.length : Int) < (x.length : Int) + 1) = True := eq_true (by omega)
          have hs1 : ((1 : Int) < (s.size : Int)) = True := eq_true (by rw [hsz]; simp only [List.length_cons]; omega)
          have hs2 : ((1 : Int) ≤ (s.size : Int)) = True := eq_true (by rw [hsz]; simp only [List.length_cons]; omega)
          have hs3 : ((s.size : Int) = 1) = False := eq_false (by rw [hsz]; simp only [List.length_cons]; omega)
          have hs4 : ((s.size : Int) == 1) = false := beq_eq_false_iff_ne.2 (by rw [hsz]; simp only [List.length_cons]; omega)
          have hex : s.extract 1 s.size = mkB (c1 :: t1) := by
            refine bytes_inj9 ?_
            rw [Lib.extract_to_end, hl]; rfl
          have hts : (mkB (c1 :: t1)).size = s.size - 1 := by rw [mkB_size, hsz]; simp
          have e1 := fun w => run_string_add_sum (P := Tryz.prog) (w := w) f.f1 ⟨#[10]⟩ (by rw [show (⟨#[10]⟩ : ByteArray).size = 1 from rfl]; omega)
          have e2 := fun w => run_string_add_sum (P := Tryz.prog) (w := w) (f.f1 ++ ⟨#[10]⟩) (mkB (c1 :: t1)) (by rw [ByteArray.size_append, hts, show (⟨#[10]⟩ : ByteArray).size = 1 from rfl]; omega)
          have heq : f.f1 ++ ⟨#[10]⟩ ++ mkB (c1 :: t1) = mkB (f.f1.data.toList ++ 10 :: c1 :: t1) := by
            refine bytes_inj9 ?_
            rw [ByteArray.data_append, ByteArray.data_append, Array.toList_append, Array.toList_append, List.append_assoc]; rfl
          generalize mkB (f.f1.data.toList ++ 10 :: c1 :: t1) = fv at heq ⊢
          generalize mkB (c1 :: t1) = uv at e1 e2 heq hex
          have HL := Lib.hid hlen
          have HH := Lib.hid h
          have HZ := Lib.hid hzr
          clear h hl hsz hlen hz hne hx9 hmore hlu hN hts hsz9 hzr
          go_enter Tryz.func59, Tryz.ntmps59
          go_wp2_with (go_at_call 102; with_reducible refine (hcl _).mono ?_; rintro e w1 ⟨rfl, n, rfl⟩; have k0 := HH.out.cell1)
          obtain ⟨w9, hw9⟩ : ∃ w9, W.drewN n = w9 := ⟨_, rfl⟩
          rw [hw9]
          have H9 := Lib.hid (hw9 ▸ HH.out.move (pw_below_drewN (Below.refl _ W) n))
          have Z9 : OwnF w0.heap.size w9 (.slice (some ⟨gz, 0, none⟩) (x.length + 1) cz) (x ++ [f]) := by rw [← hw9]; exact HZ.out
          have c0 : w9.cell? ⟨rb, 0, none⟩ = some (.slice (some ⟨g, 0, none⟩) (us.length + 1) cap) := by rw [← hw9]; exact c0
          have c2 : w9.cell? ⟨g, us.length, none⟩ = some (.slice (some ⟨gz, 0, none⟩) (x.length + 1) cz) := by rw [← hw9]; exact c2
          have c3 : w9.frozen? ⟨g, us.length, none⟩ = false := by rw [← hw9]; exact c3
          clear HH HZ hw9
          obtain ⟨i49, hi49, hz49⟩ := Option.map_eq_some_iff.1 info60
          simp only [Prod.mk.injEq] at hz49
          obtain ⟨hi1, hi2, hi3⟩ := hz49
          have gr_a : w9.grownBy (w9.alloc (.cells #[] 60)).drew none := gr_drew (World.grownBy_alloc w9 _ none)
          have gr_0 : w9.grownBy w9.drew none := gr_drew (World.grownBy.refl w9 none)
          have S0 : w9.cell? ⟨rb, 0, none⟩ = some (.slice (some ⟨g, 0, none⟩) (us.length + 1) cap) ∧ w9.cell? ⟨g, us.length, none⟩ = some (.slice (some ⟨gz, 0, none⟩) (x.length + 1) cz) := ⟨c0, c2⟩
          have kS : ∀ w', w9.grownBy w' none → w'.cell? ⟨rb, 0, none⟩ = some (.slice (some ⟨g, 0, none⟩) (us.length + 1) cap) ∧ w'.cell? ⟨g, us.length, none⟩ = some (.slice (some ⟨gz, 0, none⟩) (x.length + 1) cz) := fun w' h => ⟨grown_cell h c0, grown_cell h c2⟩
          have own_a : (w9.alloc (.cells #[] 60)).drew.ownsRow w9.heap.size 60 2 (.slice (some ⟨w9.heap.size, 0, none⟩) 0 0) 0 [] := World.ownsRow_made w9 #[] 0 (Nat.le_refl _) (by decide) rfl
          have nx : ∀ W', w9.grownBy W' none → ∀ (j : Nat) u, (fcells (x ++ [f]))[j]? = some u → W'.cell? ((⟨gz, 0, none⟩ : Addr).add j) = some u := fun W' h j u hu => grown_cell h (World.ownsRow.cells Z9 (g := gz) rfl j u hu)
          have fl : (fcells (x ++ [f])).length = (x.length + 1) * 2 := by rw [fcells_len]; simp
          have mx : 0 + (x.length + 1) ≤ maxLen := by simp only [maxLen]; omega
          have bx : (0 + (x.length + 1)) * 32 ≤ 140737488355328 := by omega
          go_wp2
          go_region_held3 (fun w' => w'.cell? ⟨rb, 0, none⟩ = some (.slice (some ⟨g, 0, none⟩) (us.length + 1) cap) ∧ w'.cell? ⟨g, us.length, none⟩ = some (.slice (some ⟨gz, 0, none⟩) (x.length + 1) cz)) (first | exact S0 | exact kS _ gr_0 | exact kS _ gr_a | exact kS _ G7) (first | (refine step_append_lies _ rfl (.tmp 36) (.tmp 48) 48 rfl w9.heap.size 60 i49 _ 2 32 Tryz.underlying48 hi49 hi1 hi2 hi3 rfl (by decide) (.slice (some ⟨w9.heap.size, 0, none⟩) 0 0) 0 [] rfl own_a ⟨gz, 0, none⟩ (x.length + 1) cz (fcells (x ++ [f])) rfl fl (nx _ gr_a) (fcells_one _) (Nat.succ_pos _) mx bx gr_a.size (w9.heap.size + 1) (by simp) ?_; intro g7 cap7 w7 hown7 hg7 hat7 hlt7; simp only [Nat.zero_add, List.nil_append] at hown7 ⊢; have G7 := fresh_grown gr_a hg7 (fun k hk => blk_le (Nat.le_refl _) hk)))
          have hg7 : w9.heap.size ≤ g7 := own_base hown7 g7 rfl
          have F7 := World.ownsRow.frozenAt hown7 (x.length * 2 + 1)
          have k7 : w7.cell? ⟨g7, x.length * 2 + 1, none⟩ = some (.string f.f1) := by
            have := World.ownsRow.cells hown7 (g := g7) rfl (x.length * 2 + 1) (.string f.f1) (by
              rw [fcells_app, List.getElem?_append_right (by rw [fcells_len]; omega), fcells_len, show x.length * 2 + 1 - x.length * 2 = 1 by omega]; rfl)
            rwa [show (⟨g7, 0, none⟩ : Addr).add (x.length * 2 + 1) = ⟨g7, x.length * 2 + 1, none⟩ from by unfold Addr.add; split <;> simp_all] at this
          have own8 := (World.ownsRow.stored hown7 (x.length * 2 + 1) (.string fv)).1
          have e3 : (fcells (x ++ [f])).set (x.length * 2 + 1) (.string fv) = fcells (x ++ [(⟨f.f0, fv⟩ : Fd)]) := by
            rw [fcells_app, fcells_app, List.set_append_right _ _ (by rw [fcells_len]; omega), fcells_len, show x.length * 2 + 1 - x.length * 2 = 1 by omega]; rfl
          rw [e3] at own8
          have G8 := gr_set G7 hg7 (x.length * 2 + 1) (.string fv)
          have r0 := grown_cell G8 c0
          have r2 := grown_cell G8 c2
          have r3 := grown_frozen G8 c2 c3
          have h8 := H9.out.fresh (x1 := x ++ [⟨f.f0, fv⟩]) hl0 (by decide) (by decide) (by decide) (by rw [HL.out]) hvs HL.out G8 (by rw [List.length_append, List.length_singleton]; exact own8) (by simp)
          have H8 := Lib.hid h8
          clear h8 G8 own8 own_a nx kS S0 gr_a gr_0 hi49 hi1 hi2 hi3 Z9 H9 G7 c0 c2 c3 k0 hown7 hcl hmv
          go_wp2
          go_region
          go_wp2
          go_region
          go_wp2
          go_ret
          exact ⟨rfl, _, _, H8.out.move (pw_below_drewN (Below.refl _ _) 2)⟩
end Go.Proofs.YtlcfpmdamehopaaGreatDoor.PA
namespace Go.Proofs.YtlcfpmdamehopaaGreatDoor.PA
open Go.RowKit Go.Proofs.YtlcfpmdamehopaaGreatDoorW.PrintWords Go.Proofs.YtlcfpmdamehopaaGreatDoorW.PrintLast Go.Proofs.YtlcfpmdamehopaaGreatDoorW.PrintMore

def keelsonref5_Parse.f (a0 : ByteArray) : Option (List (List Fd) × Int × Int) := some (parseL a0.data.toList)
theorem S_nilR (w : World) (base : Nat) : Kd.S (Kd.slice 60 k60) 48 w base (fun _ => True) (.slice none 0 0) [] := ⟨fun _ => 0, Kd.R_nil _ _ _ _ _⟩
theorem reps_strings : ∀ (xs : List ByteArray) (cs : List Value) (w : World) (base : Nat) (ok : Nat → Prop), Reps (Kd.string.M w base ok) 1 xs cs → cs = xs.map Value.string := by
  intro xs cs w base ok h
  obtain ⟨h1, h2⟩ := h
  apply List.ext_getElem?
  intro j
  rw [List.getElem?_map]
  by_cases hj : j < xs.length
  · have := h2 j _ (List.getElem?_eq_getElem hj)
    have h3 : (cs.drop (j * 1)).take 1 = [.string xs[j]] := this
    have hjc : j < cs.length := by omega
    rw [Nat.mul_one, List.drop_eq_getElem_cons hjc] at h3
    rw [List.getElem?_eq_getElem hj, List.getElem?_eq_getElem hjc]
    rw [List.take_succ_cons] at h3
    injection h3 with h4 _
    rw [h4]; rfl
  · rw [List.getElem?_eq_none (by omega), List.getElem?_eq_none (by omega)]; rfl
/-- Rows of strings of the call's own: their block, as it is. -/
theorem strings_block {w : World} {base : Nat} {ok : Nat → Prop} {v : Value} {xs : List ByteArray} (h : Kd.R Kd.string 9 w base ok v xs) (hx : xs ≠ []) : ∃ g cap cur, v = .slice (some ⟨g, 0, none⟩) xs.length cap ∧ base ≤ g ∧ w.heap[g]? = some (.cells cur 9 (0, 0)) ∧ ∀ j (hj : j < xs.length), cur[j]? = some (.string xs[j]) := by
  obtain ⟨_, inner, ho, hr⟩ := h
  have hin := reps_strings _ _ _ _ _ hr
  rcases ho.2 with ⟨_, e⟩ | ⟨g, cap, cur, e, hb, hh, hn, hm, hs, ht⟩
  · exact absurd (List.length_eq_zero_iff.1 e) hx
  · refine ⟨g, cap, cur, e, hb, hh, fun j hj => ?_⟩
    have h1 : (cur.toList.take (xs.length * 1))[j]? = some (.string xs[j]) := by
      rw [show cur.toList.take (xs.length * 1) = inner from ht, hin, List.getElem?_map, List.getElem?_eq_getElem hj]; rfl
    rw [List.getElem?_take, if_pos (by omega)] at h1
    simpa using h1

set_option maxRecDepth 20000 in
set_option maxHeartbeats 8000000 in
theorem keelsonref5_Parse.calls (a0 : ByteArray) (r1 : List (List Fd)) (r2 r3 : Int) (w : World) (h : keelsonref5_Parse.f a0 = some (r1, r2, r3)) :
    Calls Tryz.prog 25 #[.string a0] w fun e w' => ∃ v0_ : Value, e = .returned (.tuple #[v0_, .int .i64 r2, .int .i64 r3]) ∧ Kd.S (Kd.slice 60 k60) 48 w' w.heap.size (fun _ => True) v0_ r1 ∧ Below w.heap.size w w' := by
  have h := Option.some.inj h
  have hsz : a0.size = a0.data.toList.length := (data_length a0).symm
  unfold parseL at h
  split at h
  case isTrue hbig =>
    cases h
    have q1 : (60000 : Int) < (a0.size : Int) := by omega
    clear hbig hsz
    go_enter Tryz.func25, Tryz.ntmps25
    go_wp2
    go_ret3
    exact ⟨_, rfl, S_nilR _ _, Below.refl _ _⟩
  case isFalse hbig =>
    have q1 : ¬ (60000 : Int) < (a0.size : Int) := by omega
    obtain ⟨kl, hkl⟩ := Ev.rounds (reflines_ev a0 (by omega))
    have hlc := fun w1 => keelsonref5_lines.calls kl a0 _ w1 hkl
    have hll := lines_len a0.data.toList
    have hl1 := line_len1 a0.data.toList
    have hl0 := lines_ne a0.data.toList
    generalize linesL a0.data.toList = ls at h hlc hll hl1 hl0
    have hstart := fun W (hb : Below w.heap.size w W) => hb
    have HR := Lib.hid h
    have HL1 := Lib.hid hl1
    clear h hl1 hsz hkl
    go_enter Tryz.func25, Tryz.ntmps25
    go_wp2_with (go_at_call 58; with_reducible refine (hlc _).mono ?_; rintro e w1 ⟨v1, rfl, ho1, hb1⟩; have O1 := Lib.hid ho1; have B1 := Lib.hid hb1; clear ho1 hb1)
    obtain ⟨g, cap, cur, rfl, hg, hh, hcs⟩ := strings_block O1.out (by rw [Ne, List.map_eq_nil_iff]; exact hl0)
    rw [List.length_map]
    have hn : ls.length < 9223372036854775807 := by omega
    have hb0 := alloc_below w (.cells #[.slice none 0 0, .bool false] 102)
    have hbw : Below w.heap.size w w1 := hb0.trans (B1.out.mono hb0.size)
    have hst : RdR w w1 w.heap.size [⟨g, cur, 9⟩] (.slice none 0 0) [] [] false := by
      have h1 := (RdP.start (TS := 48) hb0 hb0.size (Nat.le_refl _) (heap_alloc_new w _)).move B1.out
      refine ⟨h1.bel, h1.base, h1.hrb, h1.cell, h1.row, h1.rows, h1.apart, fun q hq => ?_⟩
      rw [List.mem_singleton] at hq
      subst hq
      exact ⟨hh, (show 48 ≠ 9 by decide), (show 102 ≠ 9 by decide), (show 60 ≠ 9 by decide)⟩
    have HS := Lib.hid hst
    have HC := Lib.hid hcs
    clear hst hcs hh hg hb0 hbw hlc O1 B1 q1 hstart
    go_loopg [7, 8] ls.length (fun gg s7 _ wr => ∃ (kk : Nat) (l : List (List Fd)) (o : Bool) (v : Value) (vs : List Value), kk ≤ ls.length ∧ ls.length - kk ≤ gg ∧ s7 = .int .i64 kk ∧ Aside (RdR w wr w.heap.size [⟨g, cur, 9⟩] v vs l o) ∧ Aside (FineR l o) ∧ Aside (ValsLe (kk * 60000) l) ∧ Aside (readG (ls.drop kk) kk l o = (r1, r2, r3)))
    case atStart => exact ⟨0, [], false, _, _, Nat.zero_le _, by omega, rfl, HS.out, fine_start, vals_start _, by rw [List.drop_zero]; exact HR.out⟩
    case round =>
      obtain ⟨kk, l, o, v, vs, hkk, hg, rfl, RP, RF, RV, RR⟩ := hrel
      by_cases hlt : kk < ls.length
      · have hltz : (kk : Int) < (ls.length : Int) := by omega
        have p0 : (0 ≤ (kk : Int)) = True := eq_true (by omega)
        have hcell : wr.cell? ⟨g, kk, none⟩ = some (.string (mkB ls[kk])) := by
          rw [cell_of_row wr _ kk _ _ _ (RP.out.guest _ (List.mem_singleton.2 rfl)).1, HC.out kk (by rw [List.length_map]; exact hlt), List.getElem_map]
        have hlk := HL1.out ls[kk] (List.getElem_mem hlt)
        have hlc := refline_calls w wr w.heap.size [⟨g, cur, 9⟩] v vs l o (mkB ls[kk]) (kk * 60000) (by rw [mkB_size]; omega) RF.out RV.out (by rw [mkB_size]; omega) RP.out
        have hrs := RR.out
        rw [read_step ls kk l o hlt] at hrs
        have hfl := fun l' o' => fine_line (l' := l') (o' := o') (s := ls[kk]) RF.out
        have hvl := fun l' o' => vals_line (l' := l') (o' := o') (s := ls[kk]) RV.out RF.out.2.2
        rw [show (mkB ls[kk]).data.toList = ls[kk] from rfl] at hlc
        cases hq : lineG l o ls[kk] with
        | error q =>
          have hq0 := line_err hq
          rw [hq] at hlc hrs
          have hq1 : (q != 0) = true := bne_iff_ne.2 hq0
          cases hrs
          dsimp only at hlc
          have hwr : IntKind.i64.wrap ((kk : Int) + 1) = (kk : Int) + 1 := by rw [i64_w]; unfold wrap64; omega
          clear hfl hvl RF RV RR
          go_wp2_with (go_at_call 59; with_reducible refine hlc.mono ?_; rintro e w3 ⟨rfl, hb3⟩)
          go_ret3
          exact ⟨_, rfl, S_nilR _ _, hb3⟩
        | ok p =>
          rw [hq] at hlc hrs
          dsimp only at hlc hrs
          have HF := Lib.hid (hfl p.1 p.2 hq)
          have HV := Lib.hid ((hvl p.1 p.2 hq).mono (show kk * 60000 + ls[kk].length ≤ (kk + 1) * 60000 by omega))
          have HRR := Lib.hid hrs
          clear hfl hvl RF RV RR hrs
          go_wp2_with (go_at_call 59; with_reducible refine hlc.mono ?_; rintro e w3 ⟨rfl, v3, vs3, h3⟩; have H3 := Lib.hid h3; clear h3)
          go_roundg (ls.length - (kk + 1))
          case measure => omega
          case rel => exact ⟨kk + 1, p.1, p.2, v3, vs3, by omega, by omega, by go_num, H3.out, HF.out, HV.out, HRR.out⟩
      · have hltz : ¬ (kk : Int) < (ls.length : Int) := by omega
        have hrs := RR.out
        rw [List.drop_eq_nil_of_le (by omega)] at hrs
        cases hrs
        have k0 := RP.out.cell0
        have HSS := Lib.hid (RP.out.S (by decide))
        have HBB := Lib.hid RP.out.bel
        clear RF RV RR RP
        go_wp2
        go_ret3
        exact ⟨_, rfl, HSS.out, HBB.out⟩
end Go.Proofs.YtlcfpmdamehopaaGreatDoor.PA
/- keelson/stanza.value, right, text, Right, Print: what they come to. Conditions: the library's own number stands in its variable; values have at most 2^32 bytes or so, the whole text at most 2^47. -/
/- keelsonref5.field: a field's lines: what it comes to. Conditions: sizes below 2^42, the text at most 2^47. -/
namespace Go.Proofs.YtlcfpmdamehopaaGreatDoor.PA
open Go.RowKit Go.Proofs.YtlcfpmdamehopaaGreatDoorW.PrintWords Go.Proofs.YtlcfpmdamehopaaGreatDoorW.PrintLast Go.Proofs.YtlcfpmdamehopaaGreatDoorW.PrintMore

end Go.Proofs.YtlcfpmdamehopaaGreatDoor.PA
namespace Go.Proofs.YtlcfpmdamehopaaGreatDoor.PA
open Go.RowKit Go.Proofs.YtlcfpmdamehopaaGreatDoorW.PrintWords Go.Proofs.YtlcfpmdamehopaaGreatDoorW.PrintLast Go.Proofs.YtlcfpmdamehopaaGreatDoorW.PrintMore

theorem isBF_below {T e : TypeId} {B b : Nat} {bs : List Value} {w w' : World} (h : Lib.IsBuilderF T e B b bs w) (hb : Below w.heap.size w w') : Lib.IsBuilderF T e B b bs w' := by
  have key : ∀ p, Lib.BuilderAtF T e B b p bs w → Lib.BuilderAtF T e B b p bs w' := by
    rintro p ⟨hB, v, hv, hown, hne⟩
    exact ⟨hB, v, (hb.block b (Array.getElem?_eq_some_iff.1 hv).1).trans hv, hown.kept (row := none) ⟨hb.os, hb.tape, hb.output, hb.size, fun k hk _ => hb.block k hk⟩ (Classical.em _), hne⟩
  rcases h with h | h
  · exact .inl (key _ h)
  · exact .inr (key _ h)
/-- The builder holds a text; below B all is as it was. -/
def TextB (B b : Nat) (w0 W : World) (l : List UInt8) : Prop := Lib.IsBuilderF 72 5 B b (Lib.byteCells l) W ∧ Below B w0 W ∧ B ≤ W.heap.size
theorem TextB.below {B b : Nat} {w0 W W' : World} {l : List UInt8} (h : TextB B b w0 W l) (hb : Below W.heap.size W W') : TextB B b w0 W' l := ⟨isBF_below h.1 hb, h.2.1.trans (hb.mono h.2.2), Nat.le_trans h.2.2 hb.size⟩
theorem TextB.bel {B b : Nat} {w0 W : World} {l : List UInt8} (h : TextB B b w0 W l) : Below B w0 W := h.2.1
theorem TextB.lt {B b : Nat} {w0 W : World} {l : List UInt8} (h : TextB B b w0 W l) : b < W.heap.size := by
  rcases h.1 with ⟨_, v, h, _⟩ | ⟨_, v, h, _⟩
  · exact (Array.getElem?_eq_some_iff.1 h).1
  · exact (Array.getElem?_eq_some_iff.1 h).1
end Go.Proofs.YtlcfpmdamehopaaGreatDoor.PA
-- Printed by gprint.py (wip/ of this repo), over the kit's print.
namespace Go.Proofs.YtlcfpmdamehopaaGreatDoor.PA
open Go.RowKit Go.Proofs.YtlcfpmdamehopaaGreatDoorW.PrintWords Go.Proofs.YtlcfpmdamehopaaGreatDoorW.PrintLast Go.Proofs.YtlcfpmdamehopaaGreatDoorW.PrintMore
attribute [local go_sem] max2_int min2_int max_two min_two max_three min_three max_four min_four   -- for this text's walks alone
set_option linter.unusedVariables false
set_option linter.unusedSimpArgs false

/-! ### keelsonref5_text: function 71 -/
/-! ### keelsonref5_Right: function 70 -/
/-! ### keelsonref5_Print: function 34 -/
end Go.Proofs.YtlcfpmdamehopaaGreatDoor.PA
-- Printed by gprint.py (wip/ of this repo), over the kit's print.
namespace Go.Proofs.YtlcfpmdamehopaaGreatDoor.PA
open Go.RowKit Go.Proofs.YtlcfpmdamehopaaGreatDoorW.PrintWords Go.Proofs.YtlcfpmdamehopaaGreatDoorW.PrintLast Go.Proofs.YtlcfpmdamehopaaGreatDoorW.PrintMore
attribute [local go_sem] max2_int min2_int max_two min_two max_three min_three max_four min_four   -- for this text's walks alone
set_option linter.unusedVariables false
set_option linter.unusedSimpArgs false

/-! ### keelsonref8_Parse: function 9 -/
def keelsonref8_Parse.l0 : Nat → List (List (S60)) → List (S30) → Int → Option ((List (S30)) × Int × Int)
  | 0, _, _, _ => none
  | k + 1, x5, x8, x9 => if x9 < (x5.length : Int) then (if 0 ≤ x9 then ((keelsonref8_pin.f k (rd_L2 x5 x9)).bind fun bt175 => (if bt175.2.2.2 = 0 then (if x8.length < 3518437208883 then (keelsonref8_Parse.l0 k x5 (x8 ++ [(⟨bt175.1, bt175.2.1, bt175.2.2.1⟩ : S30)]) (wrap64 (x9 + 1))) else (none)) else (some (([] : List (S30)), wrap64 (x9 + 1), bt175.2.2.2)))) else (none)) else (some (x8, 0, 0))
def keelsonref8_Parse.f (k : Nat) (a0 : ByteArray) : Option ((List (S30)) × Int × Int) := (keelsonref5_Parse.f a0).bind fun bt169 => (if bt169.2.2 = 0 then (if (bt169.1.length : Int) > 64 then (some (([] : List (S30)), 0, 8)) else (keelsonref8_Parse.l0 k bt169.1 ([] : List (S30)) 0)) else (some (([] : List (S30)), bt169.2.1, bt169.2.2)))
set_option maxHeartbeats 8000000 in
set_option maxRecDepth 100000 in
theorem keelsonref8_Parse.calls (k : Nat) (a0 : ByteArray) (r1 : List (S30)) (r2 : Int) (r3 : Int) (w : World) (h : keelsonref8_Parse.f k a0 = some (r1, r2, r3)) :
    Calls Tryz.prog 9 #[.string a0] w fun e w' => ∃ v0_ : Value, e = .returned (.tuple #[v0_, .int .i64 r2, .int .i64 r3]) ∧ Kd.R k30 30 w' w.heap.size (fun _ => True) v0_ r1 ∧ Below w.heap.size w w' := by
  have hu30 := Tryz.underlying30
  have HB := Aside0.mk (Below.refl w.heap.size w)
  have H : ((keelsonref5_Parse.f a0).bind fun bt169 => (if bt169.2.2 = 0 then (if (bt169.1.length : Int) > 64 then (some (([] : List (S30)), 0, 8)) else (keelsonref8_Parse.l0 k bt169.1 ([] : List (S30)) 0)) else (some (([] : List (S30)), bt169.2.1, bt169.2.2)))) = some (r1, r2, r3) := h
  clear h
  replace H := Option.bind_eq_some_iff.mp H
  obtain ⟨⟨t169, t170, t171⟩, A20, H⟩ := H
  replace H : (if t171 = 0 then (if (t169.length : Int) > 64 then (some (([] : List (S30)), 0, 8)) else (keelsonref8_Parse.l0 k t169 ([] : List (S30)) 0)) else (some (([] : List (S30)), t170, t171))) = some (r1, r2, r3) := H
  have A2 := Aside0.mk A20
  clear A20
  by_cases c3 : t171 = 0
  · rw [if_pos c3] at H
    have c3b0 : (t171 == 0) = true := beq_iff_eq.mpr c3
    have c3b1 : (t171 != 0) = false := bne_eq_false_iff_eq.mpr c3
    clear c3
    by_cases c4 : (t169.length : Int) > 64
    · rw [if_pos c4] at H
      have c4b0 : decide (64 < (t169.length : Int)) = true := decide_eq_true c4
      have c4b1 : decide (64 < t169.length) = true := decide_eq_true (by omega)
      clear c4
      simp only [Option.some.injEq, Prod.mk.injEq] at H
      obtain ⟨rfl, rfl, rfl⟩ := H
      go_enter Tryz.func9, Tryz.ntmps9
      go_wp2_with (first | ((with_reducible refine gate_callee (f := 25) rfl ?_); refine goesL_ (some 14) rfl rfl Tryz.func25 (by kernel_rfl) rfl #[.string a0] rfl (by (try simp only [List.map_toArray, List.map_cons, List.map_nil]); first | done | rfl | (simp only [List.length_drop, List.length_take]; rfl)) ?_; (with_reducible refine (keelsonref5_Parse.calls a0 t169 t170 t171 _ A2.out).mono ?_); rintro e w5 ⟨v172, rfl, ho0, hb⟩; refine ⟨_, rfl, ?_⟩; have n0_ := Aside0.mk (Kd.S_lower ho0 (below_size (by repeat (first | (with_reducible first | exact HB.out | apply below_alloc | apply pw_below_drewN | apply below_drew1) | exact HB.out)))); have n1_ := Aside0.mk (below_step (by repeat (first | (with_reducible first | exact HB.out | apply below_alloc | apply pw_below_drewN | apply below_drew1) | exact HB.out)) hb); clear HB; have HO173 := n0_; have HB := n1_; clear n0_ n1_; (try clear hb); (try clear hb2); (try clear hk); (try clear hi); (try clear ho0); obtain ⟨Ao6, co6, eo6⟩ := Kd.S_slice HO173.out; subst eo6))
      go_ret3
      exact ⟨_, by first | rfl | (simp [errW_none, errW_some] <;> rfl) | (simp [*, errW_none, errW_some] <;> rfl), by first | exact Kd.R_nil _ _ _ _ _ | exact Kd.N_nil _ _ _ _ _ | exact Kd.V_nil _ _ _ _ _ | exact Kd.Q_nil _ _ _ _ _ | exact Kd.S_nil _ _ _ _ _, by repeat (first | (with_reducible first | exact HB.out | apply below_alloc | apply pw_below_drewN | apply below_drew1) | exact HB.out)⟩
    · rw [if_neg c4] at H
      have c4b0 : decide (64 < (t169.length : Int)) = false := decide_eq_false c4
      have c4b1 : decide (64 < t169.length) = false := decide_eq_false (by omega)
      clear c4
      have H' := Aside0.mk H
      clear H
      go_enter Tryz.func9, Tryz.ntmps9
      go_wp2_with (first | ((with_reducible refine gate_callee (f := 25) rfl ?_); refine goesL_ (some 14) rfl rfl Tryz.func25 (by kernel_rfl) rfl #[.string a0] rfl (by (try simp only [List.map_toArray, List.map_cons, List.map_nil]); first | done | rfl | (simp only [List.length_drop, List.length_take]; rfl)) ?_; (with_reducible refine (keelsonref5_Parse.calls a0 t169 t170 t171 _ A2.out).mono ?_); rintro e w7 ⟨v172, rfl, ho0, hb⟩; refine ⟨_, rfl, ?_⟩; have n0_ := Aside0.mk (Kd.S_lower ho0 (below_size (by repeat (first | (with_reducible first | exact HB.out | apply below_alloc | apply pw_below_drewN | apply below_drew1) | exact HB.out)))); have n1_ := Aside0.mk (below_step (by repeat (first | (with_reducible first | exact HB.out | apply below_alloc | apply pw_below_drewN | apply below_drew1) | exact HB.out)) hb); clear HB; have HO173 := n0_; have HB := n1_; clear n0_ n1_; (try clear hb); (try clear hb2); (try clear hk); (try clear hi); (try clear ho0); obtain ⟨Ao8, co8, eo8⟩ := Kd.S_slice HO173.out; subst eo8))
      go_loopg [8, 9] k (fun kq v8 v9 w' => ∃ (x8_1 : List (S30)) (x9_1 : Int), v9 = .int .i64 x9_1 ∧ Aside0 (keelsonref8_Parse.l0 kq t169 x8_1 x9_1 = some (r1, r2, r3)) ∧ Aside0 (kq ≤ k) ∧ Aside0 (Kd.S (Kd.slice 60 k60) 48 w' w.heap.size (fun _ => True) (.slice Ao8 t169.length co8) t169) ∧ Aside0 (Kd.R k30 30 w' w.heap.size (fun _ => True) v8 x8_1) ∧ Aside0 (Below w.heap.size w w'))
      case atStart => exact ⟨(([] : List (S30))), (0), (by first | rfl | (simp; done) | (simp [*]; done)), H', ⟨Nat.le_refl _⟩, ⟨by (with_reducible repeat (first | apply Kd.S_alloc | apply Kd.S_drewN | apply Kd.S_drew)); exact HO173.out⟩, ⟨by first | exact Kd.R_nil _ _ _ _ _ | exact Kd.N_nil _ _ _ _ _ | exact Kd.V_nil _ _ _ _ _ | exact Kd.Q_nil _ _ _ _ _ | exact Kd.S_nil _ _ _ _ _⟩, ⟨by repeat (first | (with_reducible first | exact HB.out | apply below_alloc | apply pw_below_drewN | apply below_drew1) | exact HB.out)⟩⟩
      case round =>
        clear H'
        try clear c2
        try clear p2
        try clear c3
        try clear c3b0
        try clear c3b1
        try clear c4
        try clear c4b0
        try clear c4b1
        obtain ⟨x8_1, x9_1, rfl, HA, HK1, HO_5, HO_8, HB⟩ := hrel
        cases gk with
        | zero => exact absurd HA.out (by simp [keelsonref8_Parse.l0])
        | succ k1 =>
          have H := HA.out
          clear HA
          simp only [keelsonref8_Parse.l0] at H
          by_cases c9 : x9_1 < (t169.length : Int)
          · rw [if_pos c9] at H
            have c9b0 : decide (x9_1 < (t169.length : Int)) = true := decide_eq_true c9
            clear c9
            by_cases c10 : 0 ≤ x9_1
            · rw [if_pos c10] at H
              have c10b0 : decide (0 ≤ x9_1) = true := decide_eq_true c10
              clear c10
              replace H := Option.bind_eq_some_iff.mp H
              obtain ⟨⟨t175, t176, t177, t178⟩, A110, H⟩ := H
              replace H : (if t178 = 0 then (if x8_1.length < 3518437208883 then (keelsonref8_Parse.l0 k1 t169 (x8_1 ++ [(⟨t175, t176, t177⟩ : S30)]) (wrap64 (x9_1 + 1))) else (none)) else (some (([] : List (S30)), wrap64 (x9_1 + 1), t178))) = some (r1, r2, r3) := H
              have A11 := Aside0.mk A110
              clear A110
              by_cases c12 : t178 = 0
              · rw [if_pos c12] at H
                have c12b0 : (t178 == 0) = true := beq_iff_eq.mpr c12
                have c12b1 : (t178 != 0) = false := bne_eq_false_iff_eq.mpr c12
                clear c12
                by_cases c13 : x8_1.length < 3518437208883
                · rw [if_pos c13] at H
                  have LMc13 := Aside0.mk c13
                  clear c13
                  obtain ⟨y180, hy180⟩ : ∃ y_ : List (S30), y_ = (x8_1 ++ [(⟨t175, t176, t177⟩ : S30)]) := ⟨_, rfl⟩
                  replace H : (keelsonref8_Parse.l0 k1 t169 y180 (wrap64 (x9_1 + 1))) = some (r1, r2, r3) := by first | (rw [hy180]; with_reducible exact H) | (have H2_ := (Option.bind_some _ _).symm.trans H; rw [hy180]; with_reducible exact H2_) | (have H2_ := (Option.bind_some _ _).symm.trans H; with_reducible exact H2_) | with_reducible exact H | (rw [hy180]; exact H) | exact H
                  have Ny180 := Aside0.mk hy180
                  clear hy180
                  have H' := Aside0.mk H
                  clear H
                  have p174 : 0 ≤ (x9_1 : Int) := of_decide_eq_true (by first | (with_reducible assumption) | assumption)
                  have q174 : x9_1 < (t169.length : Int) := of_decide_eq_true (by first | (with_reducible assumption) | assumption)
                  obtain ⟨ad174, A174_0, c174_0, e174, hx174_0, hl174_0, hi174_0⟩ := at_L2 (Kd.S_reads' HO_5.out).2.2 x9_1 p174 q174
                  cases e174
                  obtain ⟨ce174, hce174, hMe174, hcc174⟩ := Kd.S_get HO_5.out [] x9_1 p174 (by first | exact q174 | exact of_decide_eq_true (by first | (with_reducible assumption) | assumption) | (have e_ := (Kd.S_reads' HO_5.out).1; omega))
                  obtain ⟨ve174_0, rfl, ge174_0⟩ := hMe174
                  have hv174_0 := hcc174 0 _ rfl
                  rw [Nat.add_zero, show ((Kd.slice 60 k60)).sz = 1 from rfl, Nat.mul_one] at hv174_0
                  replace hv174_0 := Option.some.inj (hv174_0.symm.trans hx174_0)
                  rw [hv174_0] at ge174_0
                  have HL174_0 := Aside0.mk (show Kd.R k60 60 _ _ _ _ (rd_L2 t169 x9_1) from ge174_0)
                  clear hv174_0 ge174_0
                  clear hcc174 hce174
                  have HR174_0 := Aside0.mk hi174_0
                  have HC174_0 := Aside0.mk hl174_0
                  clear hi174_0 hl174_0
                  replace p174 := eq_true p174
                  replace q174 := eq_true q174
                  go_wp2_with (first | ((with_reducible refine gate_callee (f := 26) rfl ?_); refine goesL_ (some 36) rfl rfl Tryz.func26 (by kernel_rfl) rfl #[.slice A174_0 (rd_L2 t169 x9_1).length c174_0] rfl (by (try simp only [List.map_toArray, List.map_cons, List.map_nil]); first | done | rfl | (simp only [List.length_drop, List.length_take]; rfl)) ?_; (with_reducible refine (keelsonref8_pin.calls k1 _ _ (rd_L2 t169 x9_1) t175 t176 t177 t178 _ ?side1 ?side2 A11.out).mono ?_); (case side1 => repeat (first | exact (by repeat (first | (with_reducible exact HR174_0.out) | (with_reducible refine Kd.C_alloc ?_ _) | (with_reducible refine Kd.C_drewN ?_ _) | (with_reducible refine Kd.C_drew ?_) | exact HR174_0.out)) | (with_reducible refine Kd.C_alloc ?_ _) | (with_reducible refine Kd.C_drewN ?_ _) | (with_reducible refine Kd.C_drew ?_))); (case side2 => exact HC174_0.out); rintro e w14 ⟨rfl, hb⟩; refine ⟨_, rfl, ?_⟩; have n0_ := Aside0.mk (Kd.S_below (by (with_reducible repeat (first | apply Kd.S_alloc | apply Kd.S_drewN | apply Kd.S_drew)); exact HO_5.out) hb); have n1_ := Aside0.mk (Kd.R_below (by (with_reducible repeat (first | apply Kd.R_alloc | apply Kd.R_drewN | apply Kd.R_drew)); exact HO_8.out) hb); have n2_ := Aside0.mk (Kd.R_below (by (with_reducible repeat (first | apply Kd.R_alloc | apply Kd.R_drewN | apply Kd.R_drew)); exact HL174_0.out) hb); have n3_ := Aside0.mk (Kd.C_below (by repeat (first | (with_reducible exact HR174_0.out) | (with_reducible refine Kd.C_alloc ?_ _) | (with_reducible refine Kd.C_drewN ?_ _) | (with_reducible refine Kd.C_drew ?_) | exact HR174_0.out)) hb); have n4_ := Aside0.mk (below_step (by repeat (first | (with_reducible first | exact HB.out | apply below_alloc | apply pw_below_drewN | apply below_drew1) | exact HB.out)) hb); clear HO_5; clear HO_8; clear HL174_0; clear HR174_0; clear HB; have HO_5 := n0_; have HO_8 := n1_; have HL174_0 := n2_; have HR174_0 := n3_; have HB := n4_; clear n0_ n1_ n2_ n3_ n4_; (try clear hb); (try clear hb2); (try clear hk); (try clear hi)) | ((with_reducible refine gate_dst (N := 10) rfl ?_); refine box_event ?hg (N := 10) ?hd (cs := #[.string (⟨#[]⟩ : ByteArray), .string (⟨#[]⟩ : ByteArray), .int .i64 0]) (t := 30) ?hr ?_; (case hd => rfl); (case hg => rfl); (case hr => first | (go_simp; done) | (go_simp; rfl)); intro gb179 hg w15 hbox hb; have n0_ := Aside0.mk (Kd.S_below (by (with_reducible repeat (first | apply Kd.S_alloc | apply Kd.S_drewN | apply Kd.S_drew)); exact HO_5.out) hb); have n1_ := Aside0.mk (Kd.R_below (Kd.R_elderB (by (with_reducible repeat (first | apply Kd.R_alloc | apply Kd.R_drewN | apply Kd.R_drew)); exact HO_8.out) gb179 (Nat.le_of_eq hg.symm)) hb); have n2_ := Aside0.mk (Kd.R_below (by (with_reducible repeat (first | apply Kd.R_alloc | apply Kd.R_drewN | apply Kd.R_drew)); exact HL174_0.out) hb); have n3_ := Aside0.mk (Kd.C_below (by repeat (first | (with_reducible exact HR174_0.out) | (with_reducible refine Kd.C_alloc ?_ _) | (with_reducible refine Kd.C_drewN ?_ _) | (with_reducible refine Kd.C_drew ?_) | exact HR174_0.out)) hb); have n4_ := Aside0.mk (below_step (by repeat (first | (with_reducible first | exact HB.out | apply below_alloc | apply pw_below_drewN | apply below_drew1) | exact HB.out)) hb); have n5_ := Aside0.mk (hbox); have n6_ := Aside0.mk ((by rw [hg]; exact (below_size (by repeat (first | (with_reducible first | exact HB.out | apply below_alloc | apply pw_below_drewN | apply below_drew1) | exact HB.out))) : w.heap.size ≤ gb179)); have n7_ := Aside0.mk ((by rw [hg]; exact (below_size (by repeat (first | (with_reducible first | exact HB.out | apply below_alloc | apply pw_below_drewN | apply below_drew1) | exact HB.out))) : w.heap.size ≤ gb179)); clear HO_5; clear HO_8; clear HL174_0; clear HR174_0; clear HB; have HO_5 := n0_; have HO_8 := n1_; have HL174_0 := n2_; have HR174_0 := n3_; have HB := n4_; have BK179 := n5_; have GW179 := n6_; have GE179 := n7_; clear n0_ n1_ n2_ n3_ n4_ n5_ n6_ n7_; clear hb hbox hg; have hcz16_0 : w15.cell? ⟨gb179, 0, none⟩ = some (.string (⟨#[]⟩ : ByteArray)) := (blk_cell BK179.out 0).trans rfl; have hcz16_1 : w15.cell? ⟨gb179, 1, none⟩ = some (.string (⟨#[]⟩ : ByteArray)) := (blk_cell BK179.out 1).trans rfl; have hcz16_2 : w15.cell? ⟨gb179, 2, none⟩ = some (.int .i64 0) := (blk_cell BK179.out 2).trans rfl; have hfz16_0 := blk_frozen BK179.out 0; have hfz16_1 := blk_frozen BK179.out 1; have hfz16_2 := blk_frozen BK179.out 2) | ((with_reducible refine gate_builtin (b := .append) (xs := #[.tmp 44, .tmp 46]) rfl ?_); at_builtin; refine Kd.R_append k30 (w0 := w) w.heap.size rfl (.tmp 44) (.tmp 46) 23 30 (.agg #[(.string ⟨#[]⟩), (.string ⟨#[]⟩), (.int .i64 0)]) 40 rfl Tryz.underlying23 info30 rfl (by decide) (by omega) u8 x8_1 (⟨t175, t176, t177⟩ : S30) [.string t175, .string t176, .int .i64 t177] (fun k_ => k_ ≠ gb179) (fun _ => False) rfl (by first | (go_simp; done) | (go_simp; rfl)) ?aP (fun _ hk => hk.elim) ?aF ?aO ?aB ?aS ?aL ?_; (case aP => exact k30_mkM _ _ _ (⟨t175, t176, t177⟩ : S30)); (case aB => exact (by repeat (first | (with_reducible first | exact HB.out | apply below_alloc | apply pw_below_drewN | apply below_drew1 | refine below_set ?_ GE179.out) | exact HB.out))); (case aF => exact (fun k_ hk => Kd.freshB (g := gb179) (o := .cells #[.string t175, .string t176, .int .i64 t177] 30 (0, 0)) (by (with_reducible repeat (first | refine blk_drewN ?_ _ | refine blk_drew ?_ | refine blk_alloc ?_ _)); refine blk_put (cs := #[.string t175, .string t176, .int .i64 0]) ?_ 2 _ rfl; (with_reducible repeat (first | refine blk_drewN ?_ _ | refine blk_drew ?_ | refine blk_alloc ?_ _)); refine blk_put (cs := #[.string t175, .string (⟨#[]⟩ : ByteArray), .int .i64 0]) ?_ 1 _ rfl; (with_reducible repeat (first | refine blk_drewN ?_ _ | refine blk_drew ?_ | refine blk_alloc ?_ _)); refine blk_put (cs := #[.string (⟨#[]⟩ : ByteArray), .string (⟨#[]⟩ : ByteArray), .int .i64 0]) ?_ 0 _ rfl; (with_reducible repeat (first | refine blk_drewN ?_ _ | refine blk_drew ?_ | refine blk_alloc ?_ _)); exact BK179.out) k_ hk)); (case aO => exact (by (with_reducible repeat (first | apply Kd.R_alloc | apply Kd.R_drewN | apply Kd.R_drew)); exact Kd.R_mono (Kd.R_far (p := ⟨gb179, 2, none⟩) (Kd.R_far (p := ⟨gb179, 1, none⟩) (Kd.R_far (p := ⟨gb179, 0, none⟩) (Kd.R_mono HO_8.out (fun k_ hk => (⟨hk, hk.2⟩ : _ ∧ k_ ≠ gb179))) (fun _ hk => hk.2) (.string t175)) (fun _ hk => hk.2) (.string t176)) (fun _ hk => hk.2) (.int .i64 t177)) (fun _ hk => hk.1.2))); (case aS => exact (below_size (by repeat (first | (with_reducible first | exact HB.out | apply below_alloc | apply pw_below_drewN | apply below_drew1 | refine below_set ?_ GE179.out) | exact HB.out)))); (case aL => have := LMc13.out; omega); intro v181 w17 ho hb hg hat; rw [← Ny180.out] at ho; have n0_ := Aside0.mk (Kd.S_over' (by (with_reducible repeat (first | apply Kd.S_alloc | apply Kd.S_drewN | apply Kd.S_drew)); exact (Kd.S_mono (Kd.S_far (p := ⟨gb179, 2, none⟩) (Kd.S_far (p := ⟨gb179, 1, none⟩) (Kd.S_far (p := ⟨gb179, 0, none⟩) (Kd.S_types HO_5.out BK179.out (by decide)) (fun _ hk => hk.2) (.string t175)) (fun _ hk => hk.2) (.string t176)) (fun _ hk => hk.2) (.int .i64 t177)) (fun _ h_ => h_.1))) (Kd.R_typed (by (with_reducible repeat (first | apply Kd.R_alloc | apply Kd.R_drewN | apply Kd.R_drew)); exact (Kd.R_mono (Kd.R_far (p := ⟨gb179, 2, none⟩) (Kd.R_far (p := ⟨gb179, 1, none⟩) (Kd.R_far (p := ⟨gb179, 0, none⟩) (Kd.R_mono HO_8.out (fun k_ hk => (⟨hk, hk.2⟩ : _ ∧ k_ ≠ gb179))) (fun _ hk => hk.2) (.string t175)) (fun _ hk => hk.2) (.string t176)) (fun _ hk => hk.2) (.int .i64 t177)) (fun _ h_ => h_.1)))) (by decide) hg); have n1_ := Aside0.mk (Kd.R_over' (by (with_reducible repeat (first | apply Kd.R_alloc | apply Kd.R_drewN | apply Kd.R_drew)); exact (Kd.R_mono (Kd.R_far (p := ⟨gb179, 2, none⟩) (Kd.R_far (p := ⟨gb179, 1, none⟩) (Kd.R_far (p := ⟨gb179, 0, none⟩) (Kd.R_types HL174_0.out BK179.out (by decide)) (fun _ hk => hk.2) (.string t175)) (fun _ hk => hk.2) (.string t176)) (fun _ hk => hk.2) (.int .i64 t177)) (fun _ h_ => h_.1))) (Kd.R_typed (by (with_reducible repeat (first | apply Kd.R_alloc | apply Kd.R_drewN | apply Kd.R_drew)); exact (Kd.R_mono (Kd.R_far (p := ⟨gb179, 2, none⟩) (Kd.R_far (p := ⟨gb179, 1, none⟩) (Kd.R_far (p := ⟨gb179, 0, none⟩) (Kd.R_mono HO_8.out (fun k_ hk => (⟨hk, hk.2⟩ : _ ∧ k_ ≠ gb179))) (fun _ hk => hk.2) (.string t175)) (fun _ hk => hk.2) (.string t176)) (fun _ hk => hk.2) (.int .i64 t177)) (fun _ h_ => h_.1)))) (by decide) hg); have n2_ := Aside0.mk (blk_grown (g := gb179) (o := .cells #[.string t175, .string t176, .int .i64 t177] 30 (0, 0)) (by (with_reducible repeat (first | refine blk_drewN ?_ _ | refine blk_drew ?_ | refine blk_alloc ?_ _)); refine blk_put (cs := #[.string t175, .string t176, .int .i64 0]) ?_ 2 _ rfl; (with_reducible repeat (first | refine blk_drewN ?_ _ | refine blk_drew ?_ | refine blk_alloc ?_ _)); refine blk_put (cs := #[.string t175, .string (⟨#[]⟩ : ByteArray), .int .i64 0]) ?_ 1 _ rfl; (with_reducible repeat (first | refine blk_drewN ?_ _ | refine blk_drew ?_ | refine blk_alloc ?_ _)); refine blk_put (cs := #[.string (⟨#[]⟩ : ByteArray), .string (⟨#[]⟩ : ByteArray), .int .i64 0]) ?_ 0 _ rfl; (with_reducible repeat (first | refine blk_drewN ?_ _ | refine blk_drew ?_ | refine blk_alloc ?_ _)); exact BK179.out) hg (Kd.R_away HO_8.out (fun _ hk => hk.2))); have n3_ := Aside0.mk (hb); have n4_ := Aside0.mk (ho); clear HO_5; clear HL174_0; clear BK179; clear HB; clear HO_8; have HO_5 := n0_; have HL174_0 := n1_; have BK179 := n2_; have HB := n3_; have HO182 := n4_; clear n0_ n1_ n2_ n3_ n4_; clear ho hb hg hat))
                  go_roundg k1
                  case measure => have := HK1.out; omega
                  case rel => exact ⟨(y180), (wrap64 (x9_1 + 1)), (by first | rfl | (simp; done) | (simp [*]; done)), H', ⟨by have := HK1.out; omega⟩, ⟨by (with_reducible repeat (first | apply Kd.S_alloc | apply Kd.S_drewN | apply Kd.S_drew)); exact HO_5.out⟩, ⟨by (with_reducible repeat (first | apply Kd.R_alloc | apply Kd.R_drewN | apply Kd.R_drew)); exact Kd.R_mono HO182.out (fun _ hk => trivial)⟩, ⟨by repeat (first | (with_reducible first | exact HB.out | apply below_alloc | apply pw_below_drewN | apply below_drew1 | refine below_set ?_ GE179.out) | exact HB.out)⟩⟩
                · rw [if_neg c13] at H
                  exact absurd H (by simp)
              · rw [if_neg c12] at H
                have c12b0 : (t178 == 0) = false := beq_eq_false_iff_ne.mpr c12
                have c12b1 : (t178 != 0) = true := bne_iff_ne.mpr c12
                simp only [Option.some.injEq, Prod.mk.injEq] at H
                obtain ⟨rfl, rfl, rfl⟩ := H
                have p174 : 0 ≤ (x9_1 : Int) := of_decide_eq_true (by first | (with_reducible assumption) | assumption)
                have q174 : x9_1 < (t169.length : Int) := of_decide_eq_true (by first | (with_reducible assumption) | assumption)
                obtain ⟨ad174, A174_0, c174_0, e174, hx174_0, hl174_0, hi174_0⟩ := at_L2 (Kd.S_reads' HO_5.out).2.2 x9_1 p174 q174
                cases e174
                obtain ⟨ce174, hce174, hMe174, hcc174⟩ := Kd.S_get HO_5.out [] x9_1 p174 (by first | exact q174 | exact of_decide_eq_true (by first | (with_reducible assumption) | assumption) | (have e_ := (Kd.S_reads' HO_5.out).1; omega))
                obtain ⟨ve174_0, rfl, ge174_0⟩ := hMe174
                have hv174_0 := hcc174 0 _ rfl
                rw [Nat.add_zero, show ((Kd.slice 60 k60)).sz = 1 from rfl, Nat.mul_one] at hv174_0
                replace hv174_0 := Option.some.inj (hv174_0.symm.trans hx174_0)
                rw [hv174_0] at ge174_0
                have HL174_0 := Aside0.mk (show Kd.R k60 60 _ _ _ _ (rd_L2 t169 x9_1) from ge174_0)
                clear hv174_0 ge174_0
                clear hcc174 hce174
                have HR174_0 := Aside0.mk hi174_0
                have HC174_0 := Aside0.mk hl174_0
                clear hi174_0 hl174_0
                replace p174 := eq_true p174
                replace q174 := eq_true q174
                go_wp2_with (first | ((with_reducible refine gate_callee (f := 26) rfl ?_); refine goesL_ (some 36) rfl rfl Tryz.func26 (by kernel_rfl) rfl #[.slice A174_0 (rd_L2 t169 x9_1).length c174_0] rfl (by (try simp only [List.map_toArray, List.map_cons, List.map_nil]); first | done | rfl | (simp only [List.length_drop, List.length_take]; rfl)) ?_; (with_reducible refine (keelsonref8_pin.calls k1 _ _ (rd_L2 t169 x9_1) t175 t176 t177 t178 _ ?side1 ?side2 A11.out).mono ?_); (case side1 => repeat (first | exact (by repeat (first | (with_reducible exact HR174_0.out) | (with_reducible refine Kd.C_alloc ?_ _) | (with_reducible refine Kd.C_drewN ?_ _) | (with_reducible refine Kd.C_drew ?_) | exact HR174_0.out)) | (with_reducible refine Kd.C_alloc ?_ _) | (with_reducible refine Kd.C_drewN ?_ _) | (with_reducible refine Kd.C_drew ?_))); (case side2 => exact HC174_0.out); rintro e w18 ⟨rfl, hb⟩; refine ⟨_, rfl, ?_⟩; have n0_ := Aside0.mk (Kd.S_below (by (with_reducible repeat (first | apply Kd.S_alloc | apply Kd.S_drewN | apply Kd.S_drew)); exact HO_5.out) hb); have n1_ := Aside0.mk (Kd.R_below (by (with_reducible repeat (first | apply Kd.R_alloc | apply Kd.R_drewN | apply Kd.R_drew)); exact HO_8.out) hb); have n2_ := Aside0.mk (Kd.R_below (by (with_reducible repeat (first | apply Kd.R_alloc | apply Kd.R_drewN | apply Kd.R_drew)); exact HL174_0.out) hb); have n3_ := Aside0.mk (Kd.C_below (by repeat (first | (with_reducible exact HR174_0.out) | (with_reducible refine Kd.C_alloc ?_ _) | (with_reducible refine Kd.C_drewN ?_ _) | (with_reducible refine Kd.C_drew ?_) | exact HR174_0.out)) hb); have n4_ := Aside0.mk (below_step (by repeat (first | (with_reducible first | exact HB.out | apply below_alloc | apply pw_below_drewN | apply below_drew1) | exact HB.out)) hb); clear HO_5; clear HO_8; clear HL174_0; clear HR174_0; clear HB; have HO_5 := n0_; have HO_8 := n1_; have HL174_0 := n2_; have HR174_0 := n3_; have HB := n4_; clear n0_ n1_ n2_ n3_ n4_; (try clear hb); (try clear hb2); (try clear hk); (try clear hi)) | ((with_reducible refine gate_dst (N := 10) rfl ?_); refine box_event ?hg (N := 10) ?hd (cs := #[.string (⟨#[]⟩ : ByteArray), .string (⟨#[]⟩ : ByteArray), .int .i64 0]) (t := 30) ?hr ?_; (case hd => rfl); (case hg => rfl); (case hr => first | (go_simp; done) | (go_simp; rfl)); intro gb179 hg w19 hbox hb; have n0_ := Aside0.mk (Kd.S_below (by (with_reducible repeat (first | apply Kd.S_alloc | apply Kd.S_drewN | apply Kd.S_drew)); exact HO_5.out) hb); have n1_ := Aside0.mk (Kd.R_below (Kd.R_elderB (by (with_reducible repeat (first | apply Kd.R_alloc | apply Kd.R_drewN | apply Kd.R_drew)); exact HO_8.out) gb179 (Nat.le_of_eq hg.symm)) hb); have n2_ := Aside0.mk (Kd.R_below (by (with_reducible repeat (first | apply Kd.R_alloc | apply Kd.R_drewN | apply Kd.R_drew)); exact HL174_0.out) hb); have n3_ := Aside0.mk (Kd.C_below (by repeat (first | (with_reducible exact HR174_0.out) | (with_reducible refine Kd.C_alloc ?_ _) | (with_reducible refine Kd.C_drewN ?_ _) | (with_reducible refine Kd.C_drew ?_) | exact HR174_0.out)) hb); have n4_ := Aside0.mk (below_step (by repeat (first | (with_reducible first | exact HB.out | apply below_alloc | apply pw_below_drewN | apply below_drew1) | exact HB.out)) hb); have n5_ := Aside0.mk (hbox); have n6_ := Aside0.mk ((by rw [hg]; exact (below_size (by repeat (first | (with_reducible first | exact HB.out | apply below_alloc | apply pw_below_drewN | apply below_drew1) | exact HB.out))) : w.heap.size ≤ gb179)); have n7_ := Aside0.mk ((by rw [hg]; exact (below_size (by repeat (first | (with_reducible first | exact HB.out | apply below_alloc | apply pw_below_drewN | apply below_drew1) | exact HB.out))) : w.heap.size ≤ gb179)); clear HO_5; clear HO_8; clear HL174_0; clear HR174_0; clear HB; have HO_5 := n0_; have HO_8 := n1_; have HL174_0 := n2_; have HR174_0 := n3_; have HB := n4_; have BK179 := n5_; have GW179 := n6_; have GE179 := n7_; clear n0_ n1_ n2_ n3_ n4_ n5_ n6_ n7_; clear hb hbox hg; have hcz20_0 : w19.cell? ⟨gb179, 0, none⟩ = some (.string (⟨#[]⟩ : ByteArray)) := (blk_cell BK179.out 0).trans rfl; have hcz20_1 : w19.cell? ⟨gb179, 1, none⟩ = some (.string (⟨#[]⟩ : ByteArray)) := (blk_cell BK179.out 1).trans rfl; have hcz20_2 : w19.cell? ⟨gb179, 2, none⟩ = some (.int .i64 0) := (blk_cell BK179.out 2).trans rfl; have hfz20_0 := blk_frozen BK179.out 0; have hfz20_1 := blk_frozen BK179.out 1; have hfz20_2 := blk_frozen BK179.out 2))
                go_ret3
                exact ⟨_, by first | rfl | (simp [errW_none, errW_some] <;> rfl) | (simp [*, errW_none, errW_some] <;> rfl), by first | exact Kd.R_nil _ _ _ _ _ | exact Kd.N_nil _ _ _ _ _ | exact Kd.V_nil _ _ _ _ _ | exact Kd.Q_nil _ _ _ _ _ | exact Kd.S_nil _ _ _ _ _, by repeat (first | (with_reducible first | exact HB.out | apply below_alloc | apply pw_below_drewN | apply below_drew1 | refine below_set ?_ GE179.out) | exact HB.out)⟩
            · rw [if_neg c10] at H
              exact absurd H (by simp)
          · rw [if_neg c9] at H
            have c9b0 : decide (x9_1 < (t169.length : Int)) = false := decide_eq_false c9
            clear c9
            simp only [Option.some.injEq, Prod.mk.injEq] at H
            obtain ⟨rfl, rfl, rfl⟩ := H
            go_wp2
            go_ret3
            exact ⟨_, by first | rfl | (simp [errW_none, errW_some] <;> rfl) | (simp [*, errW_none, errW_some] <;> rfl), by (with_reducible repeat (first | apply Kd.R_alloc | apply Kd.R_drewN | apply Kd.R_drew)); exact HO_8.out, by repeat (first | (with_reducible first | exact HB.out | apply below_alloc | apply pw_below_drewN | apply below_drew1) | exact HB.out)⟩
  · rw [if_neg c3] at H
    have c3b0 : (t171 == 0) = false := beq_eq_false_iff_ne.mpr c3
    have c3b1 : (t171 != 0) = true := bne_iff_ne.mpr c3
    simp only [Option.some.injEq, Prod.mk.injEq] at H
    obtain ⟨rfl, rfl, rfl⟩ := H
    go_enter Tryz.func9, Tryz.ntmps9
    go_wp2_with (first | ((with_reducible refine gate_callee (f := 25) rfl ?_); refine goesL_ (some 14) rfl rfl Tryz.func25 (by kernel_rfl) rfl #[.string a0] rfl (by (try simp only [List.map_toArray, List.map_cons, List.map_nil]); first | done | rfl | (simp only [List.length_drop, List.length_take]; rfl)) ?_; (with_reducible refine (keelsonref5_Parse.calls a0 t169 t170 t171 _ A2.out).mono ?_); rintro e w21 ⟨v172, rfl, ho0, hb⟩; refine ⟨_, rfl, ?_⟩; have n0_ := Aside0.mk (Kd.S_lower ho0 (below_size (by repeat (first | (with_reducible first | exact HB.out | apply below_alloc | apply pw_below_drewN | apply below_drew1) | exact HB.out)))); have n1_ := Aside0.mk (below_step (by repeat (first | (with_reducible first | exact HB.out | apply below_alloc | apply pw_below_drewN | apply below_drew1) | exact HB.out)) hb); clear HB; have HO173 := n0_; have HB := n1_; clear n0_ n1_; (try clear hb); (try clear hb2); (try clear hk); (try clear hi); (try clear ho0)))
    go_ret3
    exact ⟨_, by first | rfl | (simp [errW_none, errW_some] <;> rfl) | (simp [*, errW_none, errW_some] <;> rfl), by first | exact Kd.R_nil _ _ _ _ _ | exact Kd.N_nil _ _ _ _ _ | exact Kd.V_nil _ _ _ _ _ | exact Kd.Q_nil _ _ _ _ _ | exact Kd.S_nil _ _ _ _ _, by repeat (first | (with_reducible first | exact HB.out | apply below_alloc | apply pw_below_drewN | apply below_drew1) | exact HB.out)⟩

/-! ### keelsonref8_Print: function 15 -/
end Go.Proofs.YtlcfpmdamehopaaGreatDoor.PA
-- Printed by gprint.py (wip/ of this repo), over the kit's print.
namespace Go.Proofs.YtlcfpmdamehopaaGreatDoor.PA
open Go.RowKit Go.Proofs.YtlcfpmdamehopaaGreatDoorW.PrintWords Go.Proofs.YtlcfpmdamehopaaGreatDoorW.PrintLast Go.Proofs.YtlcfpmdamehopaaGreatDoorW.PrintMore
attribute [local go_sem] max2_int min2_int max_two min_two max_three min_three max_four min_four   -- for this text's walks alone
set_option linter.unusedVariables false
set_option linter.unusedSimpArgs false

theorem eqA30 (d : Nat) (w : World) (x0 y0 : ByteArray) (x1 y1 : ByteArray) (x2 y2 : Int) :
    (Op.equalIn (d + 2) 30 (.agg #[.string x0, .string x1, .int .i64 x2]) (.agg #[.string y0, .string y1, .int .i64 y2])).run Tryz.prog w = .ok (x0.toList == y0.toList && (x1.toList == y1.toList && (x2 == y2))) w := by
  refine eqA_of Tryz.underlying30 (by kernel_rfl) ?_
  refine eqf_cons (by rfl) (by go_simp; rfl) (by go_simp; rfl) (by go_simp) ?_
  refine eqf_cons (by rfl) (by go_simp; rfl) (by go_simp; rfl) (by go_simp) ?_
  exact eqf_last (by rfl) (by go_simp; rfl) (by go_simp; rfl) (by go_simp)
end Go.Proofs.YtlcfpmdamehopaaGreatDoor.PA
-- Printed by gprint.py (wip/ of this repo), over the kit's print.
namespace Go.Proofs.YtlcfpmdamehopaaGreatDoor.PA
open Go.RowKit Go.Proofs.YtlcfpmdamehopaaGreatDoorW.PrintWords Go.Proofs.YtlcfpmdamehopaaGreatDoorW.PrintLast Go.Proofs.YtlcfpmdamehopaaGreatDoorW.PrintMore
attribute [local go_sem] max2_int min2_int max_two min_two max_three min_three max_four min_four   -- for this text's walks alone
set_option linter.unusedVariables false
set_option linter.unusedSimpArgs false

attribute [local go_sem high] eqA30
/-! ### keelsonlaw8_same: function 10 -/
def keelsonlaw8_same.l0 : Nat → List (S30) → List (S30) → Int → Option (Bool)
  | 0, _, _, _ => none
  | k + 1, x0, x1, x5 => if x5 < (x0.length : Int) then (if 0 ≤ x5 then (if x5 < (x1.length : Int) then (if (!((((rd_T30 x0 x5).f0).toList) == (((rd_T30 x1 x5).f0).toList)) || (!((((rd_T30 x0 x5).f1).toList) == (((rd_T30 x1 x5).f1).toList)) || (!(((rd_T30 x0 x5).f2) == ((rd_T30 x1 x5).f2))))) = true then (some false) else (keelsonlaw8_same.l0 k x0 x1 (wrap64 (x5 + 1)))) else (none)) else (none)) else (some true)
def keelsonlaw8_same.f (k : Nat) (l0 : List (S30)) (l1 : List (S30)) : Option (Bool) := if (l0.length : Int) = (l1.length : Int) then (keelsonlaw8_same.l0 k l0 l1 0) else (some false)
set_option maxHeartbeats 8000000 in
set_option maxRecDepth 100000 in
theorem keelsonlaw8_same.calls (k : Nat) (A0 : Option Addr) (c0 : Nat) (l0 : List (S30)) (A1 : Option Addr) (c1 : Nat) (l1 : List (S30)) (r : Bool) (w : World) (hr0 : Kd.C k30 w A0 l0.length l0) (hc0 : l0.length ≤ c0) (hr1 : Kd.C k30 w A1 l1.length l1) (hc1 : l1.length ≤ c1) (h : keelsonlaw8_same.f k l0 l1 = some r) :
    Calls Tryz.prog 10 #[.slice A0 l0.length c0, .slice A1 l1.length c1] w fun e w' => e = .returned (.bool r) ∧ Drawn0 w w' := by
  have hu30 := Tryz.underlying30
  have HR0 := Aside0.mk hr0
  have HC0 := Aside0.mk hc0
  clear hr0 hc0
  have HR1 := Aside0.mk hr1
  have HC1 := Aside0.mk hc1
  clear hr1 hc1
  have H : (if (l0.length : Int) = (l1.length : Int) then (keelsonlaw8_same.l0 k l0 l1 0) else (some false)) = some r := h
  clear h
  by_cases c3 : (l0.length : Int) = (l1.length : Int)
  · rw [if_pos c3] at H
    have c3b0 : ((l0.length : Int) == (l1.length : Int)) = true := beq_iff_eq.mpr c3
    have c3b1 : ((l0.length : Int) != (l1.length : Int)) = false := bne_eq_false_iff_eq.mpr c3
    have c3b2 : (l0.length == l1.length) = true := by first | simpa using c3 | (simp at c3 ⊢; omega)
    clear c3
    have H' := Aside0.mk H
    clear H
    go_enter Tryz.func10, Tryz.ntmps10
    go_wp2
    repeat (go_quiet (fail); try go_wp2)
    go_loopg [5] k (fun kq v5 w' => ∃ (x5_1 : Int), v5 = .int .i64 x5_1 ∧ Aside0 (keelsonlaw8_same.l0 kq l0 l1 x5_1 = some r) ∧ Aside0 (kq ≤ k) ∧ Drawn0 w w')
    case atStart => exact ⟨(0), (by first | rfl | (simp; done) | (simp [*]; done)), H', ⟨Nat.le_refl _⟩, by repeat (first | exact Drawn0.refl _ | apply Drawn0.step)⟩
    case round =>
      clear H'
      try clear c1
      try clear p2
      try clear c3
      try clear c3b0
      try clear c3b1
      try clear c3b2
      obtain ⟨x5_1, rfl, HA, HK1, ⟨m1, rfl⟩⟩ := hrel
      cases gk with
      | zero => exact absurd HA.out (by simp [keelsonlaw8_same.l0])
      | succ k1 =>
        have H := HA.out
        clear HA
        simp only [keelsonlaw8_same.l0] at H
        by_cases c4 : x5_1 < (l0.length : Int)
        · rw [if_pos c4] at H
          have c4b0 : decide (x5_1 < (l0.length : Int)) = true := decide_eq_true c4
          clear c4
          by_cases c5 : 0 ≤ x5_1
          · rw [if_pos c5] at H
            have c5b0 : decide (0 ≤ x5_1) = true := decide_eq_true c5
            clear c5
            by_cases c6 : x5_1 < (l1.length : Int)
            · rw [if_pos c6] at H
              have c6b0 : decide (x5_1 < (l1.length : Int)) = true := decide_eq_true c6
              clear c6
              by_cases c7 : (!((((rd_T30 l0 x5_1).f0).toList) == (((rd_T30 l1 x5_1).f0).toList)) || (!((((rd_T30 l0 x5_1).f1).toList) == (((rd_T30 l1 x5_1).f1).toList)) || (!(((rd_T30 l0 x5_1).f2) == ((rd_T30 l1 x5_1).f2))))) = true
              · rw [if_pos c7] at H
                have c7b0 : (!((((rd_T30 l0 x5_1).f0).toList) == (((rd_T30 l1 x5_1).f0).toList)) || (!((((rd_T30 l0 x5_1).f1).toList) == (((rd_T30 l1 x5_1).f1).toList)) || (!(((rd_T30 l0 x5_1).f2) == ((rd_T30 l1 x5_1).f2))))) = true := c7
                clear c7
                obtain rfl := Option.some.inj H
                have p117 : 0 ≤ (x5_1 : Int) := of_decide_eq_true (by first | (with_reducible assumption) | assumption)
                have q117 : x5_1 < (l0.length : Int) := of_decide_eq_true (by first | (with_reducible assumption) | assumption)
                obtain ⟨ad117, e117, hx117_0, hx117_1, hx117_2⟩ := at_T30 HR0.out x5_1 p117 q117
                cases e117
                replace p117 := eq_true p117
                replace q117 := eq_true q117
                have p118 : 0 ≤ (x5_1 : Int) := of_decide_eq_true (by first | (with_reducible assumption) | assumption)
                have q118 : x5_1 < (l1.length : Int) := of_decide_eq_true (by first | (with_reducible assumption) | assumption)
                obtain ⟨ad118, e118, hx118_0, hx118_1, hx118_2⟩ := at_T30 HR1.out x5_1 p118 q118
                cases e118
                replace p118 := eq_true p118
                replace q118 := eq_true q118
                go_wp2
                repeat (go_quiet (fail); try go_wp2)
                go_ret
                exact ⟨by first | rfl | (simp; done) | (simp [*]; done), by repeat (first | exact Drawn0.refl _ | apply Drawn0.step)⟩
              · rw [if_neg c7] at H
                have c7b0 : (!((((rd_T30 l0 x5_1).f0).toList) == (((rd_T30 l1 x5_1).f0).toList)) || (!((((rd_T30 l0 x5_1).f1).toList) == (((rd_T30 l1 x5_1).f1).toList)) || (!(((rd_T30 l0 x5_1).f2) == ((rd_T30 l1 x5_1).f2))))) = false := by simpa using c7
                clear c7
                have H' := Aside0.mk H
                clear H
                have p117 : 0 ≤ (x5_1 : Int) := of_decide_eq_true (by first | (with_reducible assumption) | assumption)
                have q117 : x5_1 < (l0.length : Int) := of_decide_eq_true (by first | (with_reducible assumption) | assumption)
                obtain ⟨ad117, e117, hx117_0, hx117_1, hx117_2⟩ := at_T30 HR0.out x5_1 p117 q117
                cases e117
                replace p117 := eq_true p117
                replace q117 := eq_true q117
                have p118 : 0 ≤ (x5_1 : Int) := of_decide_eq_true (by first | (with_reducible assumption) | assumption)
                have q118 : x5_1 < (l1.length : Int) := of_decide_eq_true (by first | (with_reducible assumption) | assumption)
                obtain ⟨ad118, e118, hx118_0, hx118_1, hx118_2⟩ := at_T30 HR1.out x5_1 p118 q118
                cases e118
                replace p118 := eq_true p118
                replace q118 := eq_true q118
                go_wp2
                repeat (go_quiet (fail); try go_wp2)
                go_roundg k1
                case measure => have := HK1.out; omega
                case rel => exact ⟨(wrap64 (x5_1 + 1)), (by first | rfl | (simp; done) | (simp [*]; done)), H', ⟨by have := HK1.out; omega⟩, by repeat (first | exact Drawn0.refl _ | apply Drawn0.step)⟩
            · rw [if_neg c6] at H
              exact absurd H (by simp)
          · rw [if_neg c5] at H
            exact absurd H (by simp)
        · rw [if_neg c4] at H
          have c4b0 : decide (x5_1 < (l0.length : Int)) = false := decide_eq_false c4
          clear c4
          obtain rfl := Option.some.inj H
          go_wp2
          repeat (go_quiet (fail); try go_wp2)
          go_ret
          exact ⟨by first | rfl | (simp; done) | (simp [*]; done), by repeat (first | exact Drawn0.refl _ | apply Drawn0.step)⟩
  · rw [if_neg c3] at H
    have c3b0 : ((l0.length : Int) == (l1.length : Int)) = false := beq_eq_false_iff_ne.mpr c3
    have c3b1 : ((l0.length : Int) != (l1.length : Int)) = true := bne_iff_ne.mpr c3
    have c3b2 : (l0.length == l1.length) = false := by first | simpa using c3 | (simp at c3 ⊢; omega)
    obtain rfl := Option.some.inj H
    go_enter Tryz.func10, Tryz.ntmps10
    go_wp2
    repeat (go_quiet (fail); try go_wp2)
    go_ret
    exact ⟨by first | rfl | (simp; done) | (simp [*]; done), by repeat (first | exact Drawn0.refl _ | apply Drawn0.step)⟩

/-! ### keelsonlaw8_small: function 11 -/
end Go.Proofs.YtlcfpmdamehopaaGreatDoor.PA
/- Pins' texts in program and reference: what is parsed and printed; what was printed is parsed as it was; as plain functions. Conditions: sizes that fit. -/
namespace Go.Proofs.YtlcfpmdamehopaaGreatDoor.PA
open Go.RowKit Go.Proofs.YtlcfpmdamehopaaGreatDoorW.PrintWords Go.Proofs.YtlcfpmdamehopaaGreatDoorW.PrintLast Go.Proofs.YtlcfpmdamehopaaGreatDoorW.PrintMore

theorem lines_consP (c : UInt8) (s : List UInt8) : linesL (c :: s) = if c.toNat = 10 then [] :: linesL s else match linesL s with | l :: ls => (c :: l) :: ls | [] => [[c]] := by rw [linesL]; rfl
theorem lines_total : ∀ s : List UInt8, ((linesL s).map List.length).sum ≤ s.length := by
  intro s
  induction s with
  | nil => simp [linesL]
  | cons c s ih =>
    rw [lines_consP]
    split
    · simp only [List.map_cons, List.sum_cons, List.length_nil, List.length_cons]; omega
    · cases h : linesL s with
      | nil => exact absurd h (lines_ne s)
      | cons l ls =>
        rw [h] at ih
        simp only [List.map_cons, List.sum_cons, List.length_cons] at ih ⊢; omega
theorem read_vals : ∀ (ss : List (List UInt8)) (i : Nat) (l : List (List Fd)) (o : Bool) (N : Nat), FineR l o → ValsLe N l → ValsLe (N + (ss.map List.length).sum) (readG ss i l o).1 := by
  intro ss
  induction ss with
  | nil => intro i l o N _ h; exact h
  | cons s ss ih =>
    intro i l o N hF h
    unfold readG
    cases e : lineG l o s with
    | error q => exact fun st hst => by cases hst
    | ok p =>
      have := ih (i + 1) p.1 p.2 (N + s.length) (fine_line hF e) (vals_line h hF.2.2 e)
      rw [Nat.add_assoc] at this
      exact this
theorem parse_vals (s : List UInt8) : ValsLe 60000 (parseL s).1 := by
  unfold parseL
  split
  · exact fun st hst => by cases hst
  · rename_i h
    intro st hst f hf
    have := read_vals (linesL s) 0 [] false 0 fine_start (vals_start 0) st hst f hf
    have := lines_total s
    omega
abbrev Pn := S30
def pinS (q : ByteArray × ByteArray × Int × Int) : Pn := ⟨q.1, q.2.1, q.2.2.1⟩
def pinsG : List (List Fd) → Nat → List Pn → List Pn × Int × Int
  | [], _, acc => (acc, 0, 0)
  | st :: r, i, acc => if (pinG st).2.2.2 = 0 then pinsG r (i + 1) (acc ++ [pinS (pinG st)]) else ([], (i : Int) + 1, (pinG st).2.2.2)
def parseP (s : List UInt8) : List Pn × Int × Int := if (parseL s).2.2 = 0 then (if (parseL s).1.length > 64 then ([], 0, 8) else pinsG (parseL s).1 0 []) else ([], (parseL s).2.1, (parseL s).2.2)
theorem pparse_loop (l : List (List Fd)) (hl : l.length ≤ 200) (hv : ∀ st ∈ l, ∀ f ∈ st, f.f1.size ≤ 1000000) (d : Nat) : ∀ (i : Nat) (acc : List Pn), i + d = l.length → acc.length = i → Ev (fun k => pins_Parse.l0 k acc l (l.length : Int) (i : Int)) (pinsG (l.drop i) i acc) := by
  induction d with
  | zero =>
    intro i acc hi ha
    refine Ev.succ ?_
    simp only [pins_Parse.l0]
    rw [List.drop_eq_nil_of_le (by omega)]
    exact Ev.neg (by omega) (Ev.some rfl)
  | succ d ih =>
    intro i acc hi ha
    have hil : i < l.length := by omega
    refine Ev.succ ?_
    simp only [pins_Parse.l0]
    rw [wrap_step hil (by omega), rdL_nat l i hil, List.drop_eq_getElem_cons hil, pinsG]
    refine Ev.pos (by omega) (Ev.pos (by omega) (Ev.pos (by omega) (Ev.call (read_is _ (hv _ (List.getElem_mem hil))) ?_)))
    by_cases h : (pinG l[i]).2.2.2 = 0
    · rw [if_pos h]
      exact Ev.pos h (Ev.pos (by omega) (ih (i + 1) _ (by omega) (by simp [ha])))
    · rw [if_neg h]
      exact Ev.neg h (Ev.some (by rw [show ((i + 1 : Nat) : Int) = (i : Int) + 1 from by omega]))
theorem refparse8_loop (l : List (List Fd)) (hl : l.length ≤ 200) (hx : ∀ st ∈ l, st.length ≤ 40) (hv : ∀ st ∈ l, ∀ f ∈ st, f.f1.size ≤ 1000000) (d : Nat) : ∀ (i : Nat) (acc : List Pn), i + d = l.length → acc.length = i → Ev (fun k => keelsonref8_Parse.l0 k l acc (i : Int)) (pinsG (l.drop i) i acc) := by
  induction d with
  | zero =>
    intro i acc hi ha
    refine Ev.succ ?_
    simp only [keelsonref8_Parse.l0]
    rw [List.drop_eq_nil_of_le (by omega)]
    exact Ev.neg (by omega) (Ev.some rfl)
  | succ d ih =>
    intro i acc hi ha
    have hil : i < l.length := by omega
    have hm := List.getElem_mem hil
    have hp := refpin_ev l[i] (by have := hx _ hm; omega) (hv _ hm)
    refine Ev.succ ?_
    simp only [keelsonref8_Parse.l0]
    rw [wrap_step hil (by omega), rdL_nat l i hil, List.drop_eq_getElem_cons hil, pinsG]
    refine Ev.pos (by omega) (Ev.pos (by omega) (Ev.bind hp ?_))
    by_cases h : (pinG l[i]).2.2.2 = 0
    · rw [if_pos h]
      exact Ev.pos h (Ev.pos (by omega) (ih (i + 1) _ (by omega) (by simp [ha])))
    · rw [if_neg h]
      exact Ev.neg h (Ev.some (by rw [show ((i + 1 : Nat) : Int) = (i : Int) + 1 from by omega]))
theorem pparse_ev (s : ByteArray) : Ev (fun k => pins_Parse.f k s) (parseP s.data.toList) := by
  have h1 : stanza_Parse.f s = some (parseL s.data.toList) := rfl
  have hf := parse_fine s.data.toList
  have hv := parse_vals s.data.toList
  unfold pins_Parse.f parseP
  refine Ev.call h1 ?_
  generalize parseL s.data.toList = p at *
  by_cases h0 : p.2.2 = 0
  · rw [if_pos h0]
    refine Ev.pos h0 ?_
    by_cases h64 : p.1.length > 64
    · rw [if_pos h64]; exact Ev.pos (by omega) (Ev.some rfl)
    · rw [if_neg h64]
      have := pparse_loop p.1 (by omega) (fun st hst f hf => by have := hv st hst f hf; omega) p.1.length 0 [] (by omega) rfl
      rw [List.drop_zero] at this
      exact Ev.neg (by omega) this
  · rw [if_neg h0]; exact Ev.neg h0 (Ev.some rfl)
theorem refparse8_ev (s : ByteArray) : Ev (fun k => keelsonref8_Parse.f k s) (parseP s.data.toList) := by
  have h1 : keelsonref5_Parse.f s = some (parseL s.data.toList) := rfl
  have hf := parse_fine s.data.toList
  have hv := parse_vals s.data.toList
  unfold keelsonref8_Parse.f parseP
  refine Ev.call h1 ?_
  generalize parseL s.data.toList = p at *
  by_cases h0 : p.2.2 = 0
  · rw [if_pos h0]
    refine Ev.pos h0 ?_
    by_cases h64 : p.1.length > 64
    · rw [if_pos h64]; exact Ev.pos (by omega) (Ev.some rfl)
    · rw [if_neg h64]
      have := refparse8_loop p.1 (by omega) hf.2 (fun st hst f hf => by have := hv st hst f hf; omega) p.1.length 0 [] (by omega) rfl
      rw [List.drop_zero] at this
      exact Ev.neg (by omega) this
  · rw [if_neg h0]; exact Ev.neg h0 (Ev.some rfl)
theorem same8_loop (a : List Pn) (hn : a.length ≤ 1000000) (d : Nat) : ∀ i : Nat, i + d = a.length → Ev (fun k => keelsonlaw8_same.l0 k a a (i : Int)) true := by
  induction d with
  | zero =>
    intro i hi
    refine Ev.succ ?_
    simp only [keelsonlaw8_same.l0]
    exact Ev.neg (by omega) (Ev.some rfl)
  | succ d ih =>
    intro i hi
    have hil : i < a.length := by omega
    refine Ev.succ ?_
    simp only [keelsonlaw8_same.l0]
    rw [wrap_step hil (by omega)]
    exact Ev.pos (by omega) (Ev.pos (by omega) (Ev.pos (by omega) (Ev.neg (by simp) (ih (i + 1) (by omega)))))
theorem same8_ev (a : List Pn) (hn : a.length ≤ 1000000) : Ev (fun k => keelsonlaw8_same.f k a a) true := by
  unfold keelsonlaw8_same.f
  exact Ev.pos rfl (same8_loop a hn a.length 0 (by omega))
theorem pinsG_len : ∀ (l : List (List Fd)) (i : Nat) (acc : List Pn), (pinsG l i acc).1.length ≤ acc.length + l.length := by
  intro l
  induction l with
  | nil => intro i acc; exact Nat.le_refl _
  | cons st r ih =>
    intro i acc
    rw [pinsG]
    split
    · have := ih (i + 1) (acc ++ [pinS (pinG st)])
      simp only [List.length_append, List.length_cons, List.length_nil] at this ⊢; omega
    · exact Nat.zero_le _
theorem parseP_len (s : List UInt8) : (parseP s).1.length ≤ 64 := by
  unfold parseP
  split
  · split
    · exact Nat.zero_le _
    · have := pinsG_len (parseL s).1 0 []
      simp only [List.length_nil] at this; omega
  · exact Nat.zero_le _
def rightQ (p : Pn) : Bool := rightP p.f0 p.f1 p.f2
end Go.Proofs.YtlcfpmdamehopaaGreatDoor.PA
/- A pin's stanza is read as that pin; as plain functions. No condition. -/
namespace Go.Proofs.YtlcfpmdamehopaaGreatDoor.PA
open Go.RowKit Go.Proofs.YtlcfpmdamehopaaGreatDoorW.PrintWords Go.Proofs.YtlcfpmdamehopaaGreatDoorW.PrintLast Go.Proofs.YtlcfpmdamehopaaGreatDoorW.PrintMore

def pinV (y : ByteArray) : ByteArray := (headB ++ y) ++ starB
def stPin (p : Pn) : List Fd := [⟨kPack, p.f0⟩, ⟨kPin, pinV p.f1⟩, ⟨kPrio, itoaB p.f2⟩]
theorem right_parts {x y : ByteArray} {z : Int} (h : rightP x y z = true) : (∀ c ∈ y.data.toList, oddC (c.toNat : Int) = false) ∧ (x = starB ∨ relL x.data.toList = true) ∧ y.size ≤ 60 ∧ -1000 ≤ z ∧ z ≤ 1000 := by
  rw [right_split] at h
  unfold okTail at h
  simp only [Bool.and_eq_true, Bool.or_eq_true, decide_eq_true_iff, Bool.not_eq_true', List.any_eq_false] at h
  obtain ⟨h1, ⟨⟨h2, h3⟩, h4⟩, h5⟩ := h
  exact ⟨fun c hc => Bool.eq_false_iff.2 (h1 c hc), h2, h3, h4, h5⟩
theorem pinV_size (y : ByteArray) : (pinV y).size = 9 + y.size := by
  unfold pinV
  rw [ByteArray.size_append, ByteArray.size_append, show headB.size = 8 from rfl, show starB.size = 1 from rfl]; omega
theorem pinV_list (y : ByteArray) : (pinV y).data.toList = headB.data.toList ++ y.data.toList ++ [42] := by
  unfold pinV
  rw [ByteArray.data_append, ByteArray.data_append, Array.toList_append, Array.toList_append]; rfl
theorem pack_pin : ¬ kPack = kPin := by decide
theorem pack_prio : ¬ kPack = kPrio := by decide
theorem pin_prio : ¬ kPin = kPrio := by decide
theorem getG_hit (f : Fd) (r : List Fd) (n : ByteArray) (h : f.f0 = n) : getG (f :: r) n = some f.f1 := by rw [getG_cons, if_pos h]
theorem getG_miss (f : Fd) (r : List Fd) (n : ByteArray) (h : ¬ f.f0 = n) : getG (f :: r) n = getG r n := by rw [getG_cons, if_neg h]
theorem pin_back (p : Pn) (h : rightQ p = true) : pinG (stPin p) = (p.f0, p.f1, p.f2, 0) := by
  obtain ⟨h1, h2, h3, h4⟩ := right_parts h
  have e1 : getG (stPin p) kPack = some p.f0 := getG_hit _ _ _ rfl
  have e2 : getG (stPin p) kPin = some (pinV p.f1) := by unfold stPin; rw [getG_miss _ _ _ pack_pin, getG_hit _ _ _ rfl]
  have e3 : getG (stPin p) kPrio = some (itoaB p.f2) := by unfold stPin; rw [getG_miss _ _ _ pack_prio, getG_miss _ _ _ pin_prio, getG_hit _ _ _ rfl]
  unfold pinG valG
  rw [e1, e2, e3]
  simp only [Option.isSome_some, Bool.and_self, if_true, Option.getD_some]
  have hl := pinV_list p.f1
  have hs := pinV_size p.f1
  have hfit : fitsV (pinV p.f1) = true := by
    unfold fitsV
    have t8 : (headB.data.toList ++ p.f1.data.toList ++ [42]).take 8 = headB.data.toList := by
      rw [List.append_assoc, List.take_append_of_le_length (by decide)]; rfl
    rw [hl, t8, List.getLast?_append]
    rw [decide_eq_true (show 9 ≤ (pinV p.f1).size by omega)]
    simp
  have hcut : cutV (pinV p.f1) = p.f1 := by
    refine bytes_injQ ?_
    rw [cut_is, hl, hs, List.append_assoc, List.drop_append_of_le_length (by decide)]
    rw [show headB.data.toList.drop 8 = [] from rfl, List.nil_append]
    rw [show 9 + p.f1.size - 1 - 8 = p.f1.data.toList.length by rw [data_length]; omega]
    exact List.take_left
  rw [readF_is, hcut, prio_hit p.f2 h4.1 h4.2]
  exact if_pos ⟨hfit, rfl, h⟩
theorem pinsG_back : ∀ (l : List Pn) (i : Nat) (acc : List Pn), (∀ p ∈ l, rightQ p = true) → pinsG (l.map stPin) i acc = (acc ++ l, 0, 0) := by
  intro l
  induction l with
  | nil => intro i acc _; rw [List.map_nil, pinsG, List.append_nil]
  | cons p r ih =>
    intro i acc h
    rw [List.map_cons, pinsG, pin_back p (h p List.mem_cons_self)]
    rw [if_pos rfl, ih _ _ (fun q hq => h q (List.mem_cons_of_mem _ hq)), List.append_assoc]
    rfl
end Go.Proofs.YtlcfpmdamehopaaGreatDoor.PA
/- keelson/pins.first, Priority, Matches: what they come to. No condition. -/
namespace Go.Proofs.YtlcfpmdamehopaaGreatDoor.PA
open Go.RowKit Go.Proofs.YtlcfpmdamehopaaGreatDoorW.PrintWords Go.Proofs.YtlcfpmdamehopaaGreatDoorW.PrintLast Go.Proofs.YtlcfpmdamehopaaGreatDoorW.PrintMore

def namedB (n v : ByteArray) (p : S30) : Bool := decide (p.f0 = n) && Lib.hasPrefix v.data.toList p.f1.data.toList
def wideB (v : ByteArray) (p : S30) : Bool := decide (p.f0 = starB) && Lib.hasPrefix v.data.toList p.f1.data.toList
theorem named_any (n v : ByteArray) (p : S30) (W : World) : Calls Tryz.prog 51 #[.agg #[.string p.f0, .string p.f1, .int .i64 p.f2], .string n, .string v] W fun e w' => e = .returned (.bool (namedB n v p)) ∧ Below W.heap.size W w' := by
  obtain ⟨x, y, z⟩ := p
  unfold namedB
  dsimp only
  have hp := Tryz.strings_HasPrefix v y
  have hse := str_eqB x n
  generalize Lib.hasPrefix v.data.toList y.data.toList = b at hp ⊢
  generalize decide (x = n) = c at hse ⊢
  cases c with
  | false =>
    go_enter Tryz.func51, Tryz.ntmps51
    go_wp2_with (go_at_call 92; with_reducible refine (hp _).mono ?_; rintro e w' ⟨rfl, rfl⟩)
    go_ret
    exact ⟨rfl, (Below.refl _ W).alloc (Nat.le_refl _) _⟩
  | true =>
    go_enter Tryz.func51, Tryz.ntmps51
    go_wp2_with (go_at_call 92; with_reducible refine (hp _).mono ?_; rintro e w' ⟨rfl, rfl⟩)
    go_ret
    exact ⟨rfl, (Below.refl _ W).alloc (Nat.le_refl _) _⟩
theorem wide_any (n v : ByteArray) (p : S30) (W : World) : Calls Tryz.prog 52 #[.agg #[.string p.f0, .string p.f1, .int .i64 p.f2], .string n, .string v] W fun e w' => e = .returned (.bool (wideB v p)) ∧ Below W.heap.size W w' := by
  obtain ⟨x, y, z⟩ := p
  unfold wideB
  dsimp only
  have hp := Tryz.strings_HasPrefix v y
  have hse := star_eq x
  generalize Lib.hasPrefix v.data.toList y.data.toList = b at hp ⊢
  generalize decide (x = starB) = c at hse ⊢
  cases c with
  | false =>
    go_enter Tryz.func52, Tryz.ntmps52
    go_wp2_with (go_at_call 92; with_reducible refine (hp _).mono ?_; rintro e w' ⟨rfl, rfl⟩)
    go_ret
    exact ⟨rfl, (Below.refl _ W).alloc (Nat.le_refl _) _⟩
  | true =>
    go_enter Tryz.func52, Tryz.ntmps52
    go_wp2_with (go_at_call 92; with_reducible refine (hp _).mono ?_; rintro e w' ⟨rfl, rfl⟩)
    go_ret
    exact ⟨rfl, (Below.refl _ W).alloc (Nat.le_refl _) _⟩
/-- A function value of those two, and what it says. -/
def SaysP (g : Nat) (n v : ByteArray) (q : S30 → Bool) : Prop := (∀ args w, (callFunc g args).run Tryz.prog w = .ok (.enter g args) w) ∧ ∀ (p : S30) (W : World), Calls Tryz.prog g #[.agg #[.string p.f0, .string p.f1, .int .i64 p.f2], .string n, .string v] W fun e w' => e = .returned (.bool (q p)) ∧ Below W.heap.size W w'
theorem named_says (n v : ByteArray) : SaysP 51 n v (namedB n v) := ⟨enters_of Tryz.func51 (by kernel_rfl) rfl, named_any n v⟩
theorem wide_says (n v : ByteArray) : SaysP 52 n v (wideB v) := ⟨enters_of Tryz.func52 (by kernel_rfl) rfl, wide_any n v⟩
theorem first1_enters : ∀ args w, (callFunc 91 args).run Tryz.prog w = .ok (.enter 91 args) w := enters_of Tryz.func91 (by kernel_rfl) rfl
set_option maxHeartbeats 400000 in
theorem first1_any (g : Nat) (n v : ByteArray) (q : S30 → Bool) (hg : SaysP g n v q) (p : S30) (ps pn pv : Addr) (W : World) (h1 : W.cell? ps = some (.func (.func g) #[] #[])) (h2 : W.cell? pn = some (.string n)) (h3 : W.cell? pv = some (.string v)) :
    Calls Tryz.prog 91 #[.agg #[.string p.f0, .string p.f1, .int .i64 p.f2], .pointer (some ps), .pointer (some pn), .pointer (some pv)] W fun e w' => e = .returned (.bool (q p)) ∧ Below W.heap.size W w' := by
  have hb1 : Below W.heap.size W (W.alloc (.cells #[.string p.f0, .string p.f1, .int .i64 p.f2] 30)) := (Below.refl _ W).alloc (Nat.le_refl _) _
  have k1 := pw_cell_below hb1 h1
  have k2 := pw_cell_below hb1 h2
  have k3 := pw_cell_below hb1 h3
  obtain ⟨eg, hc⟩ := hg
  have hc2 := fun w1 => (hc p w1)
  generalize q p = r at hc2 ⊢
  obtain ⟨x, y, z⟩ := p
  dsimp only at *
  have HB := Lib.hid hb1
  clear hb1 h1 h2 h3 hc
  go_enter Tryz.func91, Tryz.ntmps91
  go_wp2_with (go_at_fn g; with_reducible refine (hc2 _).mono ?_; rintro e w' ⟨rfl, hb⟩)
  go_ret
  exact ⟨rfl, HB.out.trans (hb.mono HB.out.size)⟩
def firstI (l : List S30) (i : Int) : Int × Bool := if i < 0 then (0, false) else ((rd_T30 l i).f2, true)
def firstF (q : S30 → Bool) (l : List S30) : Int × Bool := firstI l (idxP q l)
theorem idxP_lt {α : Type} (p : α → Bool) (xs : List α) : idxP p xs < xs.length := by
  unfold idxP
  cases e : xs.findIdx? p with
  | none => show (-1 : Int) < _; omega
  | some k => obtain ⟨hk, _, _⟩ := List.findIdx?_eq_some_iff_getElem.1 e; show (k : Int) < _; omega
set_option maxHeartbeats 1000000 in
theorem first_any (g : Nat) (n v : ByteArray) (q : S30 → Bool) (hg : SaysP g n v q) (A0 : Option Addr) (c0 : Nat) (l0 : List S30) (w : World) (hr0 : Kd.C k30 w A0 l0.length l0) :
    Calls Tryz.prog 50 #[.slice A0 l0.length c0, .string n, .string v, .func (.func g) #[] #[]] w fun e w' => e = .returned (.tuple #[.int .i64 (firstF q l0).1, .bool (firstF q l0).2]) ∧ Below w.heap.size w w' := by
  obtain ⟨W, hW⟩ : ∃ W, W = ((w.alloc (.cells #[.string n] 9)).alloc (.cells #[.string v] 9)).alloc (.cells #[.func (.func g) #[] #[]] 91) := ⟨_, rfl⟩
  have hb1 : Below w.heap.size w W := by rw [hW]; exact (((Below.refl _ w).alloc (Nat.le_refl _) _).alloc (by simp) _).alloc (by simp; omega) _
  have c1 : W.cell? ⟨w.heap.size, 0, none⟩ = some (.string n) := by rw [hW]; simp [go_sem]
  have c2 : W.cell? ⟨w.heap.size + 1, 0, none⟩ = some (.string v) := by rw [hW]; simp [go_sem]
  have c3 : W.cell? ⟨w.heap.size + 1 + 1, 0, none⟩ = some (.func (.func g) #[] #[]) := by rw [hW]; simp [go_sem]
  have hi := (idx90 k30 rfl 91 #[.pointer (some ⟨w.heap.size + 1 + 1, 0, none⟩), .pointer (some ⟨w.heap.size, 0, none⟩), .pointer (some ⟨w.heap.size + 1, 0, none⟩)] first1_enters A0 c0 l0 q W (Kd.C_below hr0 hb1) (by
    intro x _ cs W' hb' hK
    obtain rfl := k30_open hK
    exact first1_any g n v q hg x _ _ _ W' (pw_cell_below hb' c3) (pw_cell_below hb' c1) (pw_cell_below hb' c2))).mono fun e w' h => (⟨h.1, hb1.trans (h.2.mono hb1.size)⟩ : e = .returned (.int .i64 (idxP q l0)) ∧ Below w.heap.size w w')
  have hlt := idxP_lt q l0
  unfold firstF
  generalize idxP q l0 = i at hi hlt ⊢
  have hmf := makeFunc_run
  clear c1 c2 c3 hb1
  subst hW
  by_cases h0 : i < 0
  · have e : firstI l0 i = (0, false) := if_pos h0
    rw [e]
    clear hr0 e
    go_enter Tryz.func50, Tryz.ntmps50
    go_wp2_with (go_at_call 90; with_reducible refine hi.mono ?_; rintro e w' ⟨rfl, hb⟩)
    go_ret2
    exact ⟨rfl, hb⟩
  · have e : firstI l0 i = ((rd_T30 l0 i).f2, true) := if_neg h0
    rw [e]
    have h00 : 0 ≤ i := by omega
    obtain ⟨ad, ha, d0, d1, d2⟩ := at_T30 hr0 i h00 hlt
    have hd2 := fun w' (hb : Below w.heap.size w w') => pw_cell_below hb d2
    generalize (rd_T30 l0 i).f2 = z at hd2 ⊢
    subst ha
    clear hr0 e d0 d1 d2
    go_enter Tryz.func50, Tryz.ntmps50
    go_wp2_with (go_at_call 90; with_reducible refine hi.mono ?_; rintro e w' ⟨rfl, hb⟩; have e2 := hd2 _ hb)
    go_ret2
    exact ⟨rfl, hb⟩
def prioF (n v : ByteArray) (l : List S30) : Int := if (firstF (namedB n v) l).2 then (firstF (namedB n v) l).1 else if (firstF (wideB v) l).2 then (firstF (wideB v) l).1 else 500
def pins_Priority.f (l0 : List S30) (n v : ByteArray) : Option Int := some (prioF n v l0)
theorem pins_Priority.calls (A0 : Option Addr) (c0 : Nat) (l0 : List S30) (n v : ByteArray) (r : Int) (w : World) (hr0 : Kd.C k30 w A0 l0.length l0) (_hc0 : l0.length ≤ c0) (h : pins_Priority.f l0 n v = some r) :
    Calls Tryz.prog 22 #[.slice A0 l0.length c0, .string n, .string v] w fun e w' => e = .returned (.int .i64 r) ∧ Below w.heap.size w w' := by
  obtain rfl := Option.some.inj h
  clear h
  have f1 := first_any _ n v _ (named_says n v) A0 c0 l0 w hr0
  have f2 := fun w1 (hb : Below w.heap.size w w1) => (first_any _ n v _ (wide_says n v) A0 c0 l0 w1 (Kd.C_below hr0 hb)).mono fun e w' h => (⟨h.1, hb.trans (h.2.mono hb.size)⟩ : _ ∧ Below w.heap.size w w')
  unfold prioF
  generalize firstF (namedB n v) l0 = a at f1 ⊢
  generalize firstF (wideB v) l0 = b at f2 ⊢
  obtain ⟨a1, a2⟩ := a
  obtain ⟨b1, b2⟩ := b
  clear hr0
  cases a2 with
  | true =>
    go_enter Tryz.func22, Tryz.ntmps22
    go_wp2_with (go_at_call 50; with_reducible refine f1.mono ?_; rintro e w' ⟨rfl, hb⟩)
    go_ret
    exact ⟨rfl, hb⟩
  | false =>
    cases b2 with
    | true =>
      go_enter Tryz.func22, Tryz.ntmps22
      go_wp2_with fail
      with_reducible refine f1.mono ?_
      rintro e w1 ⟨rfl, hb1⟩
      go_wp2_with fail
      with_reducible refine (f2 _ hb1).mono ?_
      rintro e w2 ⟨rfl, hb2⟩
      go_wp2
      go_ret
      exact ⟨rfl, hb2⟩
    | false =>
      go_enter Tryz.func22, Tryz.ntmps22
      go_wp2_with fail
      with_reducible refine f1.mono ?_
      rintro e w1 ⟨rfl, hb1⟩
      go_wp2_with fail
      with_reducible refine (f2 _ hb1).mono ?_
      rintro e w2 ⟨rfl, hb2⟩
      go_wp2
      go_ret
      exact ⟨rfl, hb2⟩
end Go.Proofs.YtlcfpmdamehopaaGreatDoor.PA
-- Printed by gprint.py (wip/ of this repo), over the kit's print.
namespace Go.Proofs.YtlcfpmdamehopaaGreatDoor.PA
open Go.RowKit Go.Proofs.YtlcfpmdamehopaaGreatDoorW.PrintWords Go.Proofs.YtlcfpmdamehopaaGreatDoorW.PrintLast Go.Proofs.YtlcfpmdamehopaaGreatDoorW.PrintMore
attribute [local go_sem] max2_int min2_int max_two min_two max_three min_three max_four min_four   -- for this text's walks alone
set_option linter.unusedVariables false
set_option linter.unusedSimpArgs false

/-! ### keelsonlaw8_shown: function 7 -/
def keelsonlaw8_shown.j0 : Nat → List (S30) → Bool → Option (Bool)
  | 0, _, _ => none
  | k + 1, x1, x22 => if x22 = true then (some false) else ((some (([] : List (S30)) : List (S30))).bind fun y128 => (if y128.length + x1.length < 3518437208883 then ((some (y128 ++ x1 : List (S30))).bind fun y131 => (if y131.length < 3518437208883 then ((some (y131 ++ [(⟨(⟨#[42]⟩ : ByteArray), (⟨#[50]⟩ : ByteArray), 900⟩ : S30)] : List (S30))).bind fun y134 => ((pins_Priority.f y134 (⟨#[97, 98]⟩ : ByteArray) (⟨#[49, 46, 53]⟩ : ByteArray)).bind fun t137 => (if t137 = (-1) then ((pins_Priority.f y134 (⟨#[97, 98]⟩ : ByteArray) (⟨#[50]⟩ : ByteArray)).bind fun t138 => (if t138 = 900 then ((pins_Priority.f y134 (⟨#[99, 100]⟩ : ByteArray) (⟨#[50]⟩ : ByteArray)).bind fun t139 => (if t139 = 900 then ((pins_Priority.f y134 (⟨#[99, 100]⟩ : ByteArray) (⟨#[49]⟩ : ByteArray)).bind fun t140 => (some (t140 == 500))) else (none))) else (none))) else (none)))) else (none))) else (none)))
def keelsonlaw8_shown.f (k : Nat)  : Option (Bool) := (pins_Parse.f k (⟨#[80, 97, 99, 107, 97, 103, 101, 58, 32, 97, 98, 10, 80, 105, 110, 58, 32, 118, 101, 114, 115, 105, 111, 110, 32, 49, 46, 42, 10, 80, 105, 110, 45, 80, 114, 105, 111, 114, 105, 116, 121, 58, 32, 45, 49]⟩ : ByteArray)).bind fun bt119 => ((keelsonlaw8_same.f k bt119.1 (([(⟨(⟨#[97, 98]⟩ : ByteArray), (⟨#[49, 46]⟩ : ByteArray), (-1)⟩ : S30)] : List (S30)))).bind fun t127 => (if t127 = true then (if bt119.2.1 = 0 then (keelsonlaw8_shown.j0 k bt119.1 (bt119.2.2 != 0)) else (keelsonlaw8_shown.j0 k bt119.1 true)) else (keelsonlaw8_shown.j0 k bt119.1 true)))
set_option maxHeartbeats 8000000 in
set_option maxRecDepth 100000 in
theorem keelsonlaw8_shown.calls (k : Nat)  (r : Bool) (w : World) (hG_maxLen : GlobMaxLen w) (hG_numErr : GlobNumErr w) (hG_pow10 : GlobPow10 w) (h : keelsonlaw8_shown.f k  = some r) :
    Calls Tryz.prog 7 #[] w fun e w' => e = .returned (.bool r) ∧ Below w.heap.size w w' := by
  have hu30 := Tryz.underlying30
  have HG_maxLen := Aside0.mk hG_maxLen
  clear hG_maxLen
  have HG_numErr := Aside0.mk hG_numErr
  clear hG_numErr
  have HG_pow10 := Aside0.mk hG_pow10
  clear hG_pow10
  have HB := Aside0.mk (Below.refl w.heap.size w)
  have H : ((pins_Parse.f k (⟨#[80, 97, 99, 107, 97, 103, 101, 58, 32, 97, 98, 10, 80, 105, 110, 58, 32, 118, 101, 114, 115, 105, 111, 110, 32, 49, 46, 42, 10, 80, 105, 110, 45, 80, 114, 105, 111, 114, 105, 116, 121, 58, 32, 45, 49]⟩ : ByteArray)).bind fun bt119 => ((keelsonlaw8_same.f k bt119.1 (([(⟨(⟨#[97, 98]⟩ : ByteArray), (⟨#[49, 46]⟩ : ByteArray), (-1)⟩ : S30)] : List (S30)))).bind fun t127 => (if t127 = true then (if bt119.2.1 = 0 then (keelsonlaw8_shown.j0 k bt119.1 (bt119.2.2 != 0)) else (keelsonlaw8_shown.j0 k bt119.1 true)) else (keelsonlaw8_shown.j0 k bt119.1 true)))) = some r := h
  clear h
  replace H := Option.bind_eq_some_iff.mp H
  obtain ⟨⟨t119, t120, t121⟩, A10, H⟩ := H
  replace H : ((keelsonlaw8_same.f k t119 (([(⟨(⟨#[97, 98]⟩ : ByteArray), (⟨#[49, 46]⟩ : ByteArray), (-1)⟩ : S30)] : List (S30)))).bind fun t127 => (if t127 = true then (if t120 = 0 then (keelsonlaw8_shown.j0 k t119 (t121 != 0)) else (keelsonlaw8_shown.j0 k t119 true)) else (keelsonlaw8_shown.j0 k t119 true))) = some r := H
  have A1 := Aside0.mk A10
  clear A10
  have HC2 := Aside0.mk H
  clear H
  go_enter Tryz.func7, Tryz.ntmps7
  go_upto_region 2 with (first | ((with_reducible refine gate_callee (f := 8) rfl ?_); refine goesL_ (some 6) rfl rfl Tryz.func8 (by kernel_rfl) rfl #[.string (⟨#[80, 97, 99, 107, 97, 103, 101, 58, 32, 97, 98, 10, 80, 105, 110, 58, 32, 118, 101, 114, 115, 105, 111, 110, 32, 49, 46, 42, 10, 80, 105, 110, 45, 80, 114, 105, 111, 114, 105, 116, 121, 58, 32, 45, 49]⟩ : ByteArray)] rfl (by (try simp only [List.map_toArray, List.map_cons, List.map_nil]); first | done | rfl | (simp only [List.length_drop, List.length_take]; rfl)) ?_; (with_reducible refine (pins_Parse.calls k (⟨#[80, 97, 99, 107, 97, 103, 101, 58, 32, 97, 98, 10, 80, 105, 110, 58, 32, 118, 101, 114, 115, 105, 111, 110, 32, 49, 46, 42, 10, 80, 105, 110, 45, 80, 114, 105, 111, 114, 105, 116, 121, 58, 32, 45, 49]⟩ : ByteArray) t119 t120 t121 _ ?side1 ?side2 ?side3 A1.out).mono ?_); (case side1 => exact HG_maxLen.out.below (by repeat (first | (with_reducible first | exact HB.out | apply below_alloc | apply pw_below_drewN | apply below_drew1) | exact HB.out))); (case side2 => exact HG_numErr.out.below (by repeat (first | (with_reducible first | exact HB.out | apply below_alloc | apply pw_below_drewN | apply below_drew1) | exact HB.out))); (case side3 => exact HG_pow10.out.below (by repeat (first | (with_reducible first | exact HB.out | apply below_alloc | apply pw_below_drewN | apply below_drew1) | exact HB.out))); rintro e w3 ⟨v122, rfl, ho0, hb⟩; refine ⟨_, rfl, ?_⟩; have n0_ := Aside0.mk (Kd.R_lower ho0 (below_size (by repeat (first | (with_reducible first | exact HB.out | apply below_alloc | apply pw_below_drewN | apply below_drew1) | exact HB.out)))); have n1_ := Aside0.mk (below_step (by repeat (first | (with_reducible first | exact HB.out | apply below_alloc | apply pw_below_drewN | apply below_drew1) | exact HB.out)) hb); clear HB; have HO123 := n0_; have HB := n1_; clear n0_ n1_; (try clear hb); (try clear hb2); (try clear hk); (try clear hi); (try clear ho0)))
  (try simp only [Act.put, List.setIfInBounds_toArray, List.set_cons_zero, List.set_cons_succ])
  go_cut [22] (fun v22 wc => ∃ (kq : Nat) (x22_1 : Bool), v22 = .bool x22_1 ∧ Aside0 (keelsonlaw8_shown.j0 kq t119 x22_1 = some r) ∧ Aside0 (kq ≤ k) ∧ Aside0 (Kd.R k30 30 wc w.heap.size (fun _ => True) v122 t119) ∧ Aside0 (Below w.heap.size w wc))
  case first =>
    have H := HC2.out
    clear HC2
    obtain ⟨y124, hy124⟩ : ∃ y_ : List (S30), y_ = (([(⟨(⟨#[97, 98]⟩ : ByteArray), (⟨#[49, 46]⟩ : ByteArray), (-1)⟩ : S30)] : List (S30))) := ⟨_, rfl⟩
    replace H : ((keelsonlaw8_same.f k t119 y124).bind fun t127 => (if t127 = true then (if t120 = 0 then (keelsonlaw8_shown.j0 k t119 (t121 != 0)) else (keelsonlaw8_shown.j0 k t119 true)) else (keelsonlaw8_shown.j0 k t119 true))) = some r := by first | (rw [hy124]; with_reducible exact H) | (have H2_ := (Option.bind_some _ _).symm.trans H; rw [hy124]; with_reducible exact H2_) | (have H2_ := (Option.bind_some _ _).symm.trans H; with_reducible exact H2_) | with_reducible exact H | (rw [hy124]; exact H) | exact H
    have Ny124 := Aside0.mk hy124
    clear hy124
    replace H := Option.bind_eq_some_iff.mp H
    obtain ⟨t127, A40, H⟩ := H
    replace H : (if t127 = true then (if t120 = 0 then (keelsonlaw8_shown.j0 k t119 (t121 != 0)) else (keelsonlaw8_shown.j0 k t119 true)) else (keelsonlaw8_shown.j0 k t119 true)) = some r := H
    have A4 := Aside0.mk A40
    clear A40
    by_cases c5 : t127 = true
    · subst c5
      have H1 : (if t120 = 0 then (keelsonlaw8_shown.j0 k t119 (t121 != 0)) else (keelsonlaw8_shown.j0 k t119 true)) = some r := by rw [if_pos rfl] at H; exact H
      clear H
      have H := H1
      clear H1
      by_cases c6 : t120 = 0
      · rw [if_pos c6] at H
        have c6b0 : (t120 == 0) = true := beq_iff_eq.mpr c6
        have c6b1 : (t120 != 0) = false := bne_eq_false_iff_eq.mpr c6
        clear c6
        (first | rw [c6b0] | (simp only [i64_w, i32_w]; rw [c6b0]) | rw [c6b1] | skip)
        have H' := Aside0.mk H
        clear H
        go_wp2_with (first | ((with_reducible refine gate_dst (N := 12) rfl ?_); refine Kd.R_lit k30 _ 30 ?hg (N := 12) ?hd (xs := ([(⟨(⟨#[97, 98]⟩ : ByteArray), (⟨#[49, 46]⟩ : ByteArray), (-1)⟩ : S30)] : List (S30))) (inner := [.string (⟨#[97, 98]⟩ : ByteArray), .string (⟨#[49, 46]⟩ : ByteArray), .int .i64 (-1)]) (ok := fun _ => True) (okp := fun _ => True) ?hr ?hp (fun _ hk => hk) trivial (Below.refl _ _) (Nat.le_refl _) (by simp) ?_; (case hd => rfl); (case hg => rfl); (case hr => first | (go_simp; done) | (go_simp; rfl)); (case hp => exact (Reps.c3 (show Kd.M k30 _ _ _ (⟨(⟨#[97, 98]⟩ : ByteArray), (⟨#[49, 46]⟩ : ByteArray), (-1)⟩ : S30) [.string (⟨#[97, 98]⟩ : ByteArray), .string (⟨#[49, 46]⟩ : ByteArray), .int .i64 (-1)] from (k30_mkM _ _ _ (⟨(⟨#[97, 98]⟩ : ByteArray), (⟨#[49, 46]⟩ : ByteArray), (-1)⟩ : S30) )) (Reps.none _ _))); intro v125 w7 ho8 hb hg_ hnew_; clear hg_ hnew_; (first | rw [← Ny124.out] at ho8 | (simp only [Int.reduceToNat] at ho8; rw [← Ny124.out] at ho8)); have n0_ := Aside0.mk (Kd.R_elder' (by (with_reducible repeat (first | apply Kd.R_alloc | apply Kd.R_drewN | apply Kd.R_drew)); exact HO123.out) (Kd.R_base ho8) hb); have n1_ := Aside0.mk (Kd.R_lower (Kd.R_new' ho8 (Kd.R_lt (by (with_reducible repeat (first | apply Kd.R_alloc | apply Kd.R_drewN | apply Kd.R_drew)); exact HO123.out))) (below_size (by repeat (first | (with_reducible first | exact HB.out | apply below_alloc | apply pw_below_drewN | apply below_drew1) | exact HB.out)))); have n2_ := Aside0.mk (below_step (by repeat (first | (with_reducible first | exact HB.out | apply below_alloc | apply pw_below_drewN | apply below_drew1) | exact HB.out)) hb); clear HO123; clear HB; have HO123 := n0_; have HO126 := n1_; have HB := n2_; clear n0_ n1_ n2_; clear hb ho8; obtain ⟨Ao9, co9, eo9⟩ := Kd.R_slice HO123.out; subst eo9; obtain ⟨Ao10, co10, eo10⟩ := Kd.R_slice HO126.out; subst eo10) | ((with_reducible refine gate_callee (f := 10) rfl ?_); refine goesL_ (some 13) rfl rfl Tryz.func10 (by kernel_rfl) rfl #[.slice Ao9 t119.length co9, .slice Ao10 y124.length co10] rfl (by (try simp only [List.map_toArray, List.map_cons, List.map_nil]); first | done | rfl | (simp only [List.length_drop, List.length_take]; rfl)) ?_; (with_reducible refine (keelsonlaw8_same.calls k _ _ t119 _ _ y124 true _ ?side1 ?side2 ?side3 ?side4 A4.out).mono ?_); (case side1 => repeat (first | exact (Kd.R_reads' HO123.out).2.2 | (with_reducible refine Kd.C_alloc ?_ _) | (with_reducible refine Kd.C_drewN ?_ _) | (with_reducible refine Kd.C_drew ?_))); (case side2 => exact (Kd.R_reads' HO123.out).2.1); (case side3 => repeat (first | exact (Kd.R_reads' HO126.out).2.2 | (with_reducible refine Kd.C_alloc ?_ _) | (with_reducible refine Kd.C_drewN ?_ _) | (with_reducible refine Kd.C_drew ?_))); (case side4 => exact (Kd.R_reads' HO126.out).2.1); rintro e w' ⟨rfl, ⟨nd, rfl⟩⟩; refine ⟨_, rfl, ?_⟩))
        go_meet
        case rel => exact ⟨_, ((t121 != 0)), (by first | rfl | (simp; done) | (simp [*]; done)), H', ⟨by first | omega | exact Nat.le_refl _⟩, ⟨by (with_reducible repeat (first | apply Kd.R_alloc | apply Kd.R_drewN | apply Kd.R_drew)); exact Kd.R_mono HO123.out (fun _ hk => trivial)⟩, ⟨by repeat (first | (with_reducible first | exact HB.out | apply below_alloc | apply pw_below_drewN | apply below_drew1) | exact HB.out)⟩⟩
      · rw [if_neg c6] at H
        have c6b0 : (t120 == 0) = false := beq_eq_false_iff_ne.mpr c6
        have c6b1 : (t120 != 0) = true := bne_iff_ne.mpr c6
        (first | rw [c6b0] | (simp only [i64_w, i32_w]; rw [c6b0]) | rw [c6b1] | skip)
        have H' := Aside0.mk H
        clear H
        go_wp2_with (first | ((with_reducible refine gate_dst (N := 12) rfl ?_); refine Kd.R_lit k30 _ 30 ?hg (N := 12) ?hd (xs := ([(⟨(⟨#[97, 98]⟩ : ByteArray), (⟨#[49, 46]⟩ : ByteArray), (-1)⟩ : S30)] : List (S30))) (inner := [.string (⟨#[97, 98]⟩ : ByteArray), .string (⟨#[49, 46]⟩ : ByteArray), .int .i64 (-1)]) (ok := fun _ => True) (okp := fun _ => True) ?hr ?hp (fun _ hk => hk) trivial (Below.refl _ _) (Nat.le_refl _) (by simp) ?_; (case hd => rfl); (case hg => rfl); (case hr => first | (go_simp; done) | (go_simp; rfl)); (case hp => exact (Reps.c3 (show Kd.M k30 _ _ _ (⟨(⟨#[97, 98]⟩ : ByteArray), (⟨#[49, 46]⟩ : ByteArray), (-1)⟩ : S30) [.string (⟨#[97, 98]⟩ : ByteArray), .string (⟨#[49, 46]⟩ : ByteArray), .int .i64 (-1)] from (k30_mkM _ _ _ (⟨(⟨#[97, 98]⟩ : ByteArray), (⟨#[49, 46]⟩ : ByteArray), (-1)⟩ : S30) )) (Reps.none _ _))); intro v125 w11 ho12 hb hg_ hnew_; clear hg_ hnew_; (first | rw [← Ny124.out] at ho12 | (simp only [Int.reduceToNat] at ho12; rw [← Ny124.out] at ho12)); have n0_ := Aside0.mk (Kd.R_elder' (by (with_reducible repeat (first | apply Kd.R_alloc | apply Kd.R_drewN | apply Kd.R_drew)); exact HO123.out) (Kd.R_base ho12) hb); have n1_ := Aside0.mk (Kd.R_lower (Kd.R_new' ho12 (Kd.R_lt (by (with_reducible repeat (first | apply Kd.R_alloc | apply Kd.R_drewN | apply Kd.R_drew)); exact HO123.out))) (below_size (by repeat (first | (with_reducible first | exact HB.out | apply below_alloc | apply pw_below_drewN | apply below_drew1) | exact HB.out)))); have n2_ := Aside0.mk (below_step (by repeat (first | (with_reducible first | exact HB.out | apply below_alloc | apply pw_below_drewN | apply below_drew1) | exact HB.out)) hb); clear HO123; clear HB; have HO123 := n0_; have HO126 := n1_; have HB := n2_; clear n0_ n1_ n2_; clear hb ho12; obtain ⟨Ao13, co13, eo13⟩ := Kd.R_slice HO123.out; subst eo13; obtain ⟨Ao14, co14, eo14⟩ := Kd.R_slice HO126.out; subst eo14) | ((with_reducible refine gate_callee (f := 10) rfl ?_); refine goesL_ (some 13) rfl rfl Tryz.func10 (by kernel_rfl) rfl #[.slice Ao13 t119.length co13, .slice Ao14 y124.length co14] rfl (by (try simp only [List.map_toArray, List.map_cons, List.map_nil]); first | done | rfl | (simp only [List.length_drop, List.length_take]; rfl)) ?_; (with_reducible refine (keelsonlaw8_same.calls k _ _ t119 _ _ y124 true _ ?side1 ?side2 ?side3 ?side4 A4.out).mono ?_); (case side1 => repeat (first | exact (Kd.R_reads' HO123.out).2.2 | (with_reducible refine Kd.C_alloc ?_ _) | (with_reducible refine Kd.C_drewN ?_ _) | (with_reducible refine Kd.C_drew ?_))); (case side2 => exact (Kd.R_reads' HO123.out).2.1); (case side3 => repeat (first | exact (Kd.R_reads' HO126.out).2.2 | (with_reducible refine Kd.C_alloc ?_ _) | (with_reducible refine Kd.C_drewN ?_ _) | (with_reducible refine Kd.C_drew ?_))); (case side4 => exact (Kd.R_reads' HO126.out).2.1); rintro e w' ⟨rfl, ⟨nd, rfl⟩⟩; refine ⟨_, rfl, ?_⟩))
        go_meet
        case rel => exact ⟨_, (true), (by first | rfl | (simp; done) | (simp [*]; done)), H', ⟨by first | omega | exact Nat.le_refl _⟩, ⟨by (with_reducible repeat (first | apply Kd.R_alloc | apply Kd.R_drewN | apply Kd.R_drew)); exact Kd.R_mono HO123.out (fun _ hk => trivial)⟩, ⟨by repeat (first | (with_reducible first | exact HB.out | apply below_alloc | apply pw_below_drewN | apply below_drew1) | exact HB.out)⟩⟩
    · replace c5 := Bool.eq_false_iff.mpr c5
      subst c5
      have H1 : (keelsonlaw8_shown.j0 k t119 true) = some r := by rw [if_neg (show ¬ (false = true) by decide)] at H; exact H
      clear H
      have H := H1
      clear H1
      have H' := Aside0.mk H
      clear H
      go_wp2_with (first | ((with_reducible refine gate_dst (N := 12) rfl ?_); refine Kd.R_lit k30 _ 30 ?hg (N := 12) ?hd (xs := ([(⟨(⟨#[97, 98]⟩ : ByteArray), (⟨#[49, 46]⟩ : ByteArray), (-1)⟩ : S30)] : List (S30))) (inner := [.string (⟨#[97, 98]⟩ : ByteArray), .string (⟨#[49, 46]⟩ : ByteArray), .int .i64 (-1)]) (ok := fun _ => True) (okp := fun _ => True) ?hr ?hp (fun _ hk => hk) trivial (Below.refl _ _) (Nat.le_refl _) (by simp) ?_; (case hd => rfl); (case hg => rfl); (case hr => first | (go_simp; done) | (go_simp; rfl)); (case hp => exact (Reps.c3 (show Kd.M k30 _ _ _ (⟨(⟨#[97, 98]⟩ : ByteArray), (⟨#[49, 46]⟩ : ByteArray), (-1)⟩ : S30) [.string (⟨#[97, 98]⟩ : ByteArray), .string (⟨#[49, 46]⟩ : ByteArray), .int .i64 (-1)] from (k30_mkM _ _ _ (⟨(⟨#[97, 98]⟩ : ByteArray), (⟨#[49, 46]⟩ : ByteArray), (-1)⟩ : S30) )) (Reps.none _ _))); intro v125 w15 ho16 hb hg_ hnew_; clear hg_ hnew_; (first | rw [← Ny124.out] at ho16 | (simp only [Int.reduceToNat] at ho16; rw [← Ny124.out] at ho16)); have n0_ := Aside0.mk (Kd.R_elder' (by (with_reducible repeat (first | apply Kd.R_alloc | apply Kd.R_drewN | apply Kd.R_drew)); exact HO123.out) (Kd.R_base ho16) hb); have n1_ := Aside0.mk (Kd.R_lower (Kd.R_new' ho16 (Kd.R_lt (by (with_reducible repeat (first | apply Kd.R_alloc | apply Kd.R_drewN | apply Kd.R_drew)); exact HO123.out))) (below_size (by repeat (first | (with_reducible first | exact HB.out | apply below_alloc | apply pw_below_drewN | apply below_drew1) | exact HB.out)))); have n2_ := Aside0.mk (below_step (by repeat (first | (with_reducible first | exact HB.out | apply below_alloc | apply pw_below_drewN | apply below_drew1) | exact HB.out)) hb); clear HO123; clear HB; have HO123 := n0_; have HO126 := n1_; have HB := n2_; clear n0_ n1_ n2_; clear hb ho16; obtain ⟨Ao17, co17, eo17⟩ := Kd.R_slice HO123.out; subst eo17; obtain ⟨Ao18, co18, eo18⟩ := Kd.R_slice HO126.out; subst eo18) | ((with_reducible refine gate_callee (f := 10) rfl ?_); refine goesL_ (some 13) rfl rfl Tryz.func10 (by kernel_rfl) rfl #[.slice Ao17 t119.length co17, .slice Ao18 y124.length co18] rfl (by (try simp only [List.map_toArray, List.map_cons, List.map_nil]); first | done | rfl | (simp only [List.length_drop, List.length_take]; rfl)) ?_; (with_reducible refine (keelsonlaw8_same.calls k _ _ t119 _ _ y124 false _ ?side1 ?side2 ?side3 ?side4 A4.out).mono ?_); (case side1 => repeat (first | exact (Kd.R_reads' HO123.out).2.2 | (with_reducible refine Kd.C_alloc ?_ _) | (with_reducible refine Kd.C_drewN ?_ _) | (with_reducible refine Kd.C_drew ?_))); (case side2 => exact (Kd.R_reads' HO123.out).2.1); (case side3 => repeat (first | exact (Kd.R_reads' HO126.out).2.2 | (with_reducible refine Kd.C_alloc ?_ _) | (with_reducible refine Kd.C_drewN ?_ _) | (with_reducible refine Kd.C_drew ?_))); (case side4 => exact (Kd.R_reads' HO126.out).2.1); rintro e w' ⟨rfl, ⟨nd, rfl⟩⟩; refine ⟨_, rfl, ?_⟩))
      go_meet
      case rel => exact ⟨_, (true), (by first | rfl | (simp; done) | (simp [*]; done)), H', ⟨by first | omega | exact Nat.le_refl _⟩, ⟨by (with_reducible repeat (first | apply Kd.R_alloc | apply Kd.R_drewN | apply Kd.R_drew)); exact Kd.R_mono HO123.out (fun _ hk => trivial)⟩, ⟨by repeat (first | (with_reducible first | exact HB.out | apply below_alloc | apply pw_below_drewN | apply below_drew1) | exact HB.out)⟩⟩
  case rest =>
    clear HC2
    try clear c1
    try clear p2
    try clear c3
    try clear c5
    try clear c6
    try clear c6b0
    try clear c6b1
    try clear c7
    try clear c8
    try clear c10
    obtain ⟨kq, x22_1, rfl, HA, HJ1, HO_1, HB⟩ := hcut
    cases kq with
    | zero => exact absurd HA.out (by simp [keelsonlaw8_shown.j0])
    | succ kj1 =>
      have H := HA.out
      clear HA
      simp only [keelsonlaw8_shown.j0] at H
      by_cases c19 : x22_1 = true
      · subst c19
        have H1 : (some false) = some r := by rw [if_pos rfl] at H; exact H
        clear H
        have H := H1
        clear H1
        obtain rfl := Option.some.inj H
        go_wp2
        go_ret
        exact ⟨by first | rfl | (simp [errW_none, errW_some] <;> rfl) | (simp [*, errW_none, errW_some] <;> rfl), by repeat (first | (with_reducible first | exact HB.out | apply below_alloc | apply pw_below_drewN | apply below_drew1) | exact HB.out)⟩
      · replace c19 := Bool.eq_false_iff.mpr c19
        subst c19
        have H1 : ((some (([] : List (S30)) : List (S30))).bind fun y128 => (if y128.length + t119.length < 3518437208883 then ((some (y128 ++ t119 : List (S30))).bind fun y131 => (if y131.length < 3518437208883 then ((some (y131 ++ [(⟨(⟨#[42]⟩ : ByteArray), (⟨#[50]⟩ : ByteArray), 900⟩ : S30)] : List (S30))).bind fun y134 => ((pins_Priority.f y134 (⟨#[97, 98]⟩ : ByteArray) (⟨#[49, 46, 53]⟩ : ByteArray)).bind fun t137 => (if t137 = (-1) then ((pins_Priority.f y134 (⟨#[97, 98]⟩ : ByteArray) (⟨#[50]⟩ : ByteArray)).bind fun t138 => (if t138 = 900 then ((pins_Priority.f y134 (⟨#[99, 100]⟩ : ByteArray) (⟨#[50]⟩ : ByteArray)).bind fun t139 => (if t139 = 900 then ((pins_Priority.f y134 (⟨#[99, 100]⟩ : ByteArray) (⟨#[49]⟩ : ByteArray)).bind fun t140 => (some (t140 == 500))) else (none))) else (none))) else (none)))) else (none))) else (none))) = some r := by rw [if_neg (show ¬ (false = true) by decide)] at H; exact H
        clear H
        have H := H1
        clear H1
        obtain ⟨y128, hy128⟩ : ∃ y_ : List (S30), y_ = (([] : List (S30))) := ⟨_, rfl⟩
        replace H : (if y128.length + t119.length < 3518437208883 then ((some (y128 ++ t119 : List (S30))).bind fun y131 => (if y131.length < 3518437208883 then ((some (y131 ++ [(⟨(⟨#[42]⟩ : ByteArray), (⟨#[50]⟩ : ByteArray), 900⟩ : S30)] : List (S30))).bind fun y134 => ((pins_Priority.f y134 (⟨#[97, 98]⟩ : ByteArray) (⟨#[49, 46, 53]⟩ : ByteArray)).bind fun t137 => (if t137 = (-1) then ((pins_Priority.f y134 (⟨#[97, 98]⟩ : ByteArray) (⟨#[50]⟩ : ByteArray)).bind fun t138 => (if t138 = 900 then ((pins_Priority.f y134 (⟨#[99, 100]⟩ : ByteArray) (⟨#[50]⟩ : ByteArray)).bind fun t139 => (if t139 = 900 then ((pins_Priority.f y134 (⟨#[99, 100]⟩ : ByteArray) (⟨#[49]⟩ : ByteArray)).bind fun t140 => (some (t140 == 500))) else (none))) else (none))) else (none)))) else (none))) else (none)) = some r := by first | (rw [hy128]; with_reducible exact H) | (have H2_ := (Option.bind_some _ _).symm.trans H; rw [hy128]; with_reducible exact H2_) | (have H2_ := (Option.bind_some _ _).symm.trans H; with_reducible exact H2_) | with_reducible exact H | (rw [hy128]; exact H) | exact H
        have Ny128 := Aside0.mk hy128
        clear hy128
        by_cases c20 : y128.length + t119.length < 3518437208883
        · rw [if_pos c20] at H
          have LMc20 := Aside0.mk c20
          clear c20
          obtain ⟨y131, hy131⟩ : ∃ y_ : List (S30), y_ = (y128 ++ t119) := ⟨_, rfl⟩
          replace H : (if y131.length < 3518437208883 then ((some (y131 ++ [(⟨(⟨#[42]⟩ : ByteArray), (⟨#[50]⟩ : ByteArray), 900⟩ : S30)] : List (S30))).bind fun y134 => ((pins_Priority.f y134 (⟨#[97, 98]⟩ : ByteArray) (⟨#[49, 46, 53]⟩ : ByteArray)).bind fun t137 => (if t137 = (-1) then ((pins_Priority.f y134 (⟨#[97, 98]⟩ : ByteArray) (⟨#[50]⟩ : ByteArray)).bind fun t138 => (if t138 = 900 then ((pins_Priority.f y134 (⟨#[99, 100]⟩ : ByteArray) (⟨#[50]⟩ : ByteArray)).bind fun t139 => (if t139 = 900 then ((pins_Priority.f y134 (⟨#[99, 100]⟩ : ByteArray) (⟨#[49]⟩ : ByteArray)).bind fun t140 => (some (t140 == 500))) else (none))) else (none))) else (none)))) else (none)) = some r := by first | (rw [hy131]; with_reducible exact H) | (have H2_ := (Option.bind_some _ _).symm.trans H; rw [hy131]; with_reducible exact H2_) | (have H2_ := (Option.bind_some _ _).symm.trans H; with_reducible exact H2_) | with_reducible exact H | (rw [hy131]; exact H) | exact H
          have Ny131 := Aside0.mk hy131
          clear hy131
          by_cases c21 : y131.length < 3518437208883
          · rw [if_pos c21] at H
            have LMc21 := Aside0.mk c21
            clear c21
            obtain ⟨y134, hy134⟩ : ∃ y_ : List (S30), y_ = (y131 ++ [(⟨(⟨#[42]⟩ : ByteArray), (⟨#[50]⟩ : ByteArray), 900⟩ : S30)]) := ⟨_, rfl⟩
            replace H : ((pins_Priority.f y134 (⟨#[97, 98]⟩ : ByteArray) (⟨#[49, 46, 53]⟩ : ByteArray)).bind fun t137 => (if t137 = (-1) then ((pins_Priority.f y134 (⟨#[97, 98]⟩ : ByteArray) (⟨#[50]⟩ : ByteArray)).bind fun t138 => (if t138 = 900 then ((pins_Priority.f y134 (⟨#[99, 100]⟩ : ByteArray) (⟨#[50]⟩ : ByteArray)).bind fun t139 => (if t139 = 900 then ((pins_Priority.f y134 (⟨#[99, 100]⟩ : ByteArray) (⟨#[49]⟩ : ByteArray)).bind fun t140 => (some (t140 == 500))) else (none))) else (none))) else (none))) = some r := by first | (rw [hy134]; with_reducible exact H) | (have H2_ := (Option.bind_some _ _).symm.trans H; rw [hy134]; with_reducible exact H2_) | (have H2_ := (Option.bind_some _ _).symm.trans H; with_reducible exact H2_) | with_reducible exact H | (rw [hy134]; exact H) | exact H
            have Ny134 := Aside0.mk hy134
            clear hy134
            replace H := Option.bind_eq_some_iff.mp H
            obtain ⟨t137, A220, H⟩ := H
            replace H : (if t137 = (-1) then ((pins_Priority.f y134 (⟨#[97, 98]⟩ : ByteArray) (⟨#[50]⟩ : ByteArray)).bind fun t138 => (if t138 = 900 then ((pins_Priority.f y134 (⟨#[99, 100]⟩ : ByteArray) (⟨#[50]⟩ : ByteArray)).bind fun t139 => (if t139 = 900 then ((pins_Priority.f y134 (⟨#[99, 100]⟩ : ByteArray) (⟨#[49]⟩ : ByteArray)).bind fun t140 => (some (t140 == 500))) else (none))) else (none))) else (none)) = some r := H
            have A22 := Aside0.mk A220
            clear A220
            by_cases c23 : t137 = (-1)
            · rw [if_pos c23] at H
              have c23b0 : (t137 == (-1)) = true := beq_iff_eq.mpr c23
              have c23b1 : (t137 != (-1)) = false := bne_eq_false_iff_eq.mpr c23
              clear c23
              replace H := Option.bind_eq_some_iff.mp H
              obtain ⟨t138, A240, H⟩ := H
              replace H : (if t138 = 900 then ((pins_Priority.f y134 (⟨#[99, 100]⟩ : ByteArray) (⟨#[50]⟩ : ByteArray)).bind fun t139 => (if t139 = 900 then ((pins_Priority.f y134 (⟨#[99, 100]⟩ : ByteArray) (⟨#[49]⟩ : ByteArray)).bind fun t140 => (some (t140 == 500))) else (none))) else (none)) = some r := H
              have A24 := Aside0.mk A240
              clear A240
              by_cases c25 : t138 = 900
              · rw [if_pos c25] at H
                have c25b0 : (t138 == 900) = true := beq_iff_eq.mpr c25
                have c25b1 : (t138 != 900) = false := bne_eq_false_iff_eq.mpr c25
                clear c25
                replace H := Option.bind_eq_some_iff.mp H
                obtain ⟨t139, A260, H⟩ := H
                replace H : (if t139 = 900 then ((pins_Priority.f y134 (⟨#[99, 100]⟩ : ByteArray) (⟨#[49]⟩ : ByteArray)).bind fun t140 => (some (t140 == 500))) else (none)) = some r := H
                have A26 := Aside0.mk A260
                clear A260
                by_cases c27 : t139 = 900
                · rw [if_pos c27] at H
                  have c27b0 : (t139 == 900) = true := beq_iff_eq.mpr c27
                  have c27b1 : (t139 != 900) = false := bne_eq_false_iff_eq.mpr c27
                  clear c27
                  replace H := Option.bind_eq_some_iff.mp H
                  obtain ⟨t140, A280, H⟩ := H
                  replace H : (some (t140 == 500)) = some r := H
                  have A28 := Aside0.mk A280
                  clear A280
                  obtain rfl := Option.some.inj H
                  go_wp2_with (first | ((with_reducible refine gate_dst (N := 23) rfl ?_); refine Kd.R_lit k30 _ 30 ?hg (N := 23) ?hd (xs := ([] : List (S30))) (inner := []) (ok := fun _ => True) (okp := fun _ => True) ?hr ?hp (fun _ hk => hk) trivial (Below.refl _ _) (Nat.le_refl _) (by simp) ?_; (case hd => rfl); (case hg => rfl); (case hr => first | (go_simp; done) | (go_simp; rfl)); (case hp => exact (Reps.none _ _)); intro v129 w29 ho30 hb hg_ hnew_; clear hg_ hnew_; (first | rw [← Ny128.out] at ho30 | (simp only [Int.reduceToNat] at ho30; rw [← Ny128.out] at ho30)); have n0_ := Aside0.mk (Kd.R_elder' (by (with_reducible repeat (first | apply Kd.R_alloc | apply Kd.R_drewN | apply Kd.R_drew)); exact HO_1.out) (Kd.R_base ho30) hb); have n1_ := Aside0.mk (Kd.R_lower (Kd.R_new' ho30 (Kd.R_lt (by (with_reducible repeat (first | apply Kd.R_alloc | apply Kd.R_drewN | apply Kd.R_drew)); exact HO_1.out))) (below_size (by repeat (first | (with_reducible first | exact HB.out | apply below_alloc | apply pw_below_drewN | apply below_drew1) | exact HB.out)))); have n2_ := Aside0.mk (below_step (by repeat (first | (with_reducible first | exact HB.out | apply below_alloc | apply pw_below_drewN | apply below_drew1) | exact HB.out)) hb); clear HO_1; clear HB; have HO_1 := n0_; have HO130 := n1_; have HB := n2_; clear n0_ n1_ n2_; clear hb ho30; obtain ⟨Ao32, co32, eo32⟩ := Kd.R_slice HO_1.out; subst eo32) | ((with_reducible refine gate_builtin (b := .append) (xs := #[.tmp 23, .tmp 24]) rfl ?_); at_builtin; refine Kd.R_append_rows k30 (w0 := w) w.heap.size rfl (.tmp 23) (.tmp 24) 23 30 (.agg #[(.string ⟨#[]⟩), (.string ⟨#[]⟩), (.int .i64 0)]) 40 rfl Tryz.underlying23 info30 rfl (by decide) (by omega) v129 y128 t119 _ _ _ (fun k_ => some k_ ≠ (.slice Ao32 t119.length co32 : Value).ownBlock) (fun _ => False) rfl rfl ?aO ?aR (fun _ _ h => h) (fun _ h => h.elim) ?aF ?aB ?aS ?aL ?_; (case aR => repeat (first | exact (Kd.R_reads' HO_1.out).2.2 | (with_reducible refine Kd.C_alloc ?_ _) | (with_reducible refine Kd.C_drewN ?_ _) | (with_reducible refine Kd.C_drew ?_))); (case aB => exact (by repeat (first | (with_reducible first | exact HB.out | apply below_alloc | apply pw_below_drewN | apply below_drew1) | exact HB.out))); (case aF => exact (fun k_ hk => Kd.fresh' (Kd.R_lt (by (with_reducible repeat (first | apply Kd.R_alloc | apply Kd.R_drewN | apply Kd.R_drew)); exact HO_1.out)) k_ hk)); (case aO => exact (by (with_reducible repeat (first | apply Kd.R_alloc | apply Kd.R_drewN | apply Kd.R_drew)); exact Kd.R_mono HO130.out (fun _ hk => hk.2))); (case aS => exact (below_size (by repeat (first | (with_reducible first | exact HB.out | apply below_alloc | apply pw_below_drewN | apply below_drew1) | exact HB.out)))); (case aL => have := LMc20.out; omega); intro v132 w31 ho hb hg hat; rw [← Ny131.out] at ho; have n0_ := Aside0.mk (Kd.R_after (ok := (fun _ => True)) (by (with_reducible repeat (first | apply Kd.R_alloc | apply Kd.R_drewN | apply Kd.R_drew)); exact HO_1.out) hg hat); have n1_ := Aside0.mk (hb); have n2_ := Aside0.mk (ho); clear HO_1; clear HB; clear HO130; have HO_1 := n0_; have HB := n1_; have HO133 := n2_; clear n0_ n1_ n2_; clear ho hb hg hat) | ((with_reducible refine gate_builtin (b := .append) (xs := #[.tmp 25, .tmp 27]) rfl ?_); at_builtin; refine Kd.R_append k30 (w0 := w) w.heap.size rfl (.tmp 25) (.tmp 27) 23 30 (.agg #[(.string ⟨#[]⟩), (.string ⟨#[]⟩), (.int .i64 0)]) 40 rfl Tryz.underlying23 info30 rfl (by decide) (by omega) v132 y131 (⟨(⟨#[42]⟩ : ByteArray), (⟨#[50]⟩ : ByteArray), 900⟩ : S30) [.string (⟨#[42]⟩ : ByteArray), .string (⟨#[50]⟩ : ByteArray), .int .i64 900] (fun k_ => some k_ ≠ (.slice Ao32 t119.length co32 : Value).ownBlock) (fun _ => False) rfl rfl ?aP (fun _ hk => hk.elim) ?aF ?aO ?aB ?aS ?aL ?_; (case aP => exact k30_mkM _ _ _ (⟨(⟨#[42]⟩ : ByteArray), (⟨#[50]⟩ : ByteArray), 900⟩ : S30)); (case aB => exact (by repeat (first | (with_reducible first | exact HB.out | apply below_alloc | apply pw_below_drewN | apply below_drew1) | exact HB.out))); (case aF => exact (fun k_ hk => Kd.fresh' (Kd.R_lt (by (with_reducible repeat (first | apply Kd.R_alloc | apply Kd.R_drewN | apply Kd.R_drew)); exact HO_1.out)) k_ hk)); (case aO => exact (by (with_reducible repeat (first | apply Kd.R_alloc | apply Kd.R_drewN | apply Kd.R_drew)); exact HO133.out)); (case aS => exact (below_size (by repeat (first | (with_reducible first | exact HB.out | apply below_alloc | apply pw_below_drewN | apply below_drew1) | exact HB.out)))); (case aL => have := LMc21.out; omega); intro v135 w33 ho hb hg hat; rw [← Ny134.out] at ho; have n0_ := Aside0.mk (Kd.R_after (ok := (fun _ => True)) (by (with_reducible repeat (first | apply Kd.R_alloc | apply Kd.R_drewN | apply Kd.R_drew)); exact HO_1.out) hg hat); have n1_ := Aside0.mk (hb); have n2_ := Aside0.mk (ho); clear HO_1; clear HB; clear HO133; have HO_1 := n0_; have HB := n1_; have HO136 := n2_; clear n0_ n1_ n2_; clear ho hb hg hat; obtain ⟨Ao34, co34, eo34⟩ := Kd.R_slice HO136.out; subst eo34) | ((with_reducible refine gate_callee (f := 22) rfl ?_); refine goesL_ (some 30) rfl rfl Tryz.func22 (by kernel_rfl) rfl #[.slice Ao34 y134.length co34, .string (⟨#[97, 98]⟩ : ByteArray), .string (⟨#[49, 46, 53]⟩ : ByteArray)] rfl (by (try simp only [List.map_toArray, List.map_cons, List.map_nil]); first | done | rfl | (simp only [List.length_drop, List.length_take]; rfl)) ?_; (with_reducible refine (pins_Priority.calls _ _ y134 (⟨#[97, 98]⟩ : ByteArray) (⟨#[49, 46, 53]⟩ : ByteArray) t137 _ ?side1 ?side2 A22.out).mono ?_); (case side1 => repeat (first | exact (Kd.R_reads' HO136.out).2.2 | (with_reducible refine Kd.C_alloc ?_ _) | (with_reducible refine Kd.C_drewN ?_ _) | (with_reducible refine Kd.C_drew ?_))); (case side2 => exact (Kd.R_reads' HO136.out).2.1); rintro e w35 ⟨rfl, hb⟩; refine ⟨_, rfl, ?_⟩; have n0_ := Aside0.mk (Kd.R_below (by (with_reducible repeat (first | apply Kd.R_alloc | apply Kd.R_drewN | apply Kd.R_drew)); exact HO_1.out) hb); have n1_ := Aside0.mk (Kd.R_below (by (with_reducible repeat (first | apply Kd.R_alloc | apply Kd.R_drewN | apply Kd.R_drew)); exact HO136.out) hb); have n2_ := Aside0.mk (below_step (by repeat (first | (with_reducible first | exact HB.out | apply below_alloc | apply pw_below_drewN | apply below_drew1) | exact HB.out)) hb); clear HO_1; clear HO136; clear HB; have HO_1 := n0_; have HO136 := n1_; have HB := n2_; clear n0_ n1_ n2_; (try clear hb); (try clear hb2); (try clear hk); (try clear hi)) | (go_at_call 22; (with_reducible refine (pins_Priority.calls _ _ y134 (⟨#[97, 98]⟩ : ByteArray) (⟨#[50]⟩ : ByteArray) t138 _ ?side1 ?side2 A24.out).mono ?_); (case side1 => repeat (first | exact (Kd.R_reads' HO136.out).2.2 | (with_reducible refine Kd.C_alloc ?_ _) | (with_reducible refine Kd.C_drewN ?_ _) | (with_reducible refine Kd.C_drew ?_))); (case side2 => exact (Kd.R_reads' HO136.out).2.1); rintro e w36 ⟨rfl, hb⟩; have n0_ := Aside0.mk (Kd.R_below (by (with_reducible repeat (first | apply Kd.R_alloc | apply Kd.R_drewN | apply Kd.R_drew)); exact HO_1.out) hb); have n1_ := Aside0.mk (Kd.R_below (by (with_reducible repeat (first | apply Kd.R_alloc | apply Kd.R_drewN | apply Kd.R_drew)); exact HO136.out) hb); have n2_ := Aside0.mk (below_step (by repeat (first | (with_reducible first | exact HB.out | apply below_alloc | apply pw_below_drewN | apply below_drew1) | exact HB.out)) hb); clear HO_1; clear HO136; clear HB; have HO_1 := n0_; have HO136 := n1_; have HB := n2_; clear n0_ n1_ n2_; (try clear hb); (try clear hb2); (try clear hk); (try clear hi)) | (go_at_call 22; (with_reducible refine (pins_Priority.calls _ _ y134 (⟨#[99, 100]⟩ : ByteArray) (⟨#[50]⟩ : ByteArray) t139 _ ?side1 ?side2 A26.out).mono ?_); (case side1 => repeat (first | exact (Kd.R_reads' HO136.out).2.2 | (with_reducible refine Kd.C_alloc ?_ _) | (with_reducible refine Kd.C_drewN ?_ _) | (with_reducible refine Kd.C_drew ?_))); (case side2 => exact (Kd.R_reads' HO136.out).2.1); rintro e w37 ⟨rfl, hb⟩; have n0_ := Aside0.mk (Kd.R_below (by (with_reducible repeat (first | apply Kd.R_alloc | apply Kd.R_drewN | apply Kd.R_drew)); exact HO_1.out) hb); have n1_ := Aside0.mk (Kd.R_below (by (with_reducible repeat (first | apply Kd.R_alloc | apply Kd.R_drewN | apply Kd.R_drew)); exact HO136.out) hb); have n2_ := Aside0.mk (below_step (by repeat (first | (with_reducible first | exact HB.out | apply below_alloc | apply pw_below_drewN | apply below_drew1) | exact HB.out)) hb); clear HO_1; clear HO136; clear HB; have HO_1 := n0_; have HO136 := n1_; have HB := n2_; clear n0_ n1_ n2_; (try clear hb); (try clear hb2); (try clear hk); (try clear hi)) | (go_at_call 22; (with_reducible refine (pins_Priority.calls _ _ y134 (⟨#[99, 100]⟩ : ByteArray) (⟨#[49]⟩ : ByteArray) t140 _ ?side1 ?side2 A28.out).mono ?_); (case side1 => repeat (first | exact (Kd.R_reads' HO136.out).2.2 | (with_reducible refine Kd.C_alloc ?_ _) | (with_reducible refine Kd.C_drewN ?_ _) | (with_reducible refine Kd.C_drew ?_))); (case side2 => exact (Kd.R_reads' HO136.out).2.1); rintro e w38 ⟨rfl, hb⟩; have n0_ := Aside0.mk (Kd.R_below (by (with_reducible repeat (first | apply Kd.R_alloc | apply Kd.R_drewN | apply Kd.R_drew)); exact HO_1.out) hb); have n1_ := Aside0.mk (Kd.R_below (by (with_reducible repeat (first | apply Kd.R_alloc | apply Kd.R_drewN | apply Kd.R_drew)); exact HO136.out) hb); have n2_ := Aside0.mk (below_step (by repeat (first | (with_reducible first | exact HB.out | apply below_alloc | apply pw_below_drewN | apply below_drew1) | exact HB.out)) hb); clear HO_1; clear HO136; clear HB; have HO_1 := n0_; have HO136 := n1_; have HB := n2_; clear n0_ n1_ n2_; (try clear hb); (try clear hb2); (try clear hk); (try clear hi)))
                  go_ret
                  exact ⟨by first | rfl | (simp [errW_none, errW_some] <;> rfl) | (simp [*, errW_none, errW_some] <;> rfl), by repeat (first | (with_reducible first | exact HB.out | apply below_alloc | apply pw_below_drewN | apply below_drew1) | exact HB.out)⟩
                · rw [if_neg c27] at H
                  exact absurd H (by simp)
              · rw [if_neg c25] at H
                exact absurd H (by simp)
            · rw [if_neg c23] at H
              exact absurd H (by simp)
          · rw [if_neg c21] at H
            exact absurd H (by simp)
        · rw [if_neg c20] at H
          exact absurd H (by simp)

end Go.Proofs.YtlcfpmdamehopaaGreatDoor.PA
/- keelsonlaw8's words: its examples hold; whether pins are small. No condition. -/
namespace Go.Proofs.YtlcfpmdamehopaaGreatDoor.PA
open Go.RowKit Go.Proofs.YtlcfpmdamehopaaGreatDoorW.PrintWords Go.Proofs.YtlcfpmdamehopaaGreatDoorW.PrintLast Go.Proofs.YtlcfpmdamehopaaGreatDoorW.PrintMore

def pinA : Pn := ⟨⟨#[97, 98]⟩, ⟨#[49, 46]⟩, -1⟩
theorem itoa_m1 : itoaB (-1) = ⟨#[45, 49]⟩ := by
  unfold itoaB Lib.itoa
  rw [if_pos (by decide), show (-1 : Int).natAbs = 1 from rfl, Lib.decDigits, dif_pos (by decide)]
  rfl
theorem parse_A : parseL [80, 97, 99, 107, 97, 103, 101, 58, 32, 97, 98, 10, 80, 105, 110, 58, 32, 118, 101, 114, 115, 105, 111, 110, 32, 49, 46, 42, 10, 80, 105, 110, 45, 80, 114, 105, 111, 114, 105, 116, 121, 58, 32, 45, 49] = ([stPin pinA], 0, 0) := by
  have e : stPin pinA = [⟨kPack, ⟨#[97, 98]⟩⟩, ⟨kPin, ⟨#[118, 101, 114, 115, 105, 111, 110, 32, 49, 46, 42]⟩⟩, ⟨kPrio, ⟨#[45, 49]⟩⟩] := by
    unfold stPin pinA
    rw [itoa_m1]
    have : pinV ⟨#[49, 46]⟩ = ⟨#[118, 101, 114, 115, 105, 111, 110, 32, 49, 46, 42]⟩ := bytes_injQ (by rw [pinV_list]; rfl)
    rw [this]
  rw [e]
  rfl
theorem right_A : rightQ pinA = true := by decide +kernel
theorem parsed_A : parseP (⟨#[80, 97, 99, 107, 97, 103, 101, 58, 32, 97, 98, 10, 80, 105, 110, 58, 32, 118, 101, 114, 115, 105, 111, 110, 32, 49, 46, 42, 10, 80, 105, 110, 45, 80, 114, 105, 111, 114, 105, 116, 121, 58, 32, 45, 49]⟩ : ByteArray).data.toList = ([pinA], 0, 0) := by
  unfold parseP
  rw [show (⟨#[80, 97, 99, 107, 97, 103, 101, 58, 32, 97, 98, 10, 80, 105, 110, 58, 32, 118, 101, 114, 115, 105, 111, 110, 32, 49, 46, 42, 10, 80, 105, 110, 45, 80, 114, 105, 111, 114, 105, 116, 121, 58, 32, 45, 49]⟩ : ByteArray).data.toList = [80, 97, 99, 107, 97, 103, 101, 58, 32, 97, 98, 10, 80, 105, 110, 58, 32, 118, 101, 114, 115, 105, 111, 110, 32, 49, 46, 42, 10, 80, 105, 110, 45, 80, 114, 105, 111, 114, 105, 116, 121, 58, 32, 45, 49] from rfl, parse_A]
  dsimp only
  rw [if_pos rfl, if_neg (by decide)]
  exact pinsG_back [pinA] 0 [] (fun p hp => by rw [List.mem_singleton.1 hp]; exact right_A)
theorem shown8_ev : Ev (fun k => keelsonlaw8_shown.f k) true := by
  unfold keelsonlaw8_shown.f
  refine Ev.bind (pparse_ev _) ?_
  rw [parsed_A]
  refine Ev.bind (same8_ev [pinA] (by decide)) (Ev.pos rfl (Ev.pos rfl (Ev.succ ?_)))
  simp only [keelsonlaw8_shown.j0]
  refine Ev.neg (by decide) (Ev.let (Ev.pos (by decide) (Ev.let (Ev.pos (by decide) (Ev.let ?_)))))
  refine Ev.call (show pins_Priority.f _ _ _ = some (-1) by decide +kernel) (Ev.pos rfl (Ev.call (show pins_Priority.f _ _ _ = some 900 by decide +kernel) (Ev.pos rfl (Ev.call (show pins_Priority.f _ _ _ = some 900 by decide +kernel) (Ev.pos rfl (Ev.call (show pins_Priority.f _ _ _ = some 500 by decide +kernel) (Ev.some rfl)))))))
end Go.Proofs.YtlcfpmdamehopaaGreatDoor.PA
-- Printed by gprint.py (wip/ of this repo), over the kit's print.
namespace Go.Proofs.YtlcfpmdamehopaaGreatDoor.PA
open Go.RowKit Go.Proofs.YtlcfpmdamehopaaGreatDoorW.PrintWords Go.Proofs.YtlcfpmdamehopaaGreatDoorW.PrintLast Go.Proofs.YtlcfpmdamehopaaGreatDoorW.PrintMore
attribute [local go_sem] max2_int min2_int max_two min_two max_three min_three max_four min_four   -- for this text's walks alone
set_option linter.unusedVariables false
set_option linter.unusedSimpArgs false

/-! ### keelsonlaw8_PinsParses: function 3 -/
def keelsonlaw8_PinsParses.j0 : Nat → ByteArray → Bool → Bool → Option (Bool)
  | 0, _, _, _ => none
  | k + 1, x0, x3, x17 => if x17 = true then (some x3) else ((pins_Parse.f k x0).bind fun bt184 => ((keelsonref8_Parse.f k x0).bind fun bt189 => ((keelsonlaw8_same.f k bt184.1 bt189.1).bind fun t194 => (if t194 = true then (if bt184.2.1 = bt189.2.1 then (some (bt184.2.2 == bt189.2.2)) else (none)) else (none)))))
def keelsonlaw8_PinsParses.f (k : Nat) (a0 : ByteArray) : Option (Bool) := (keelsonlaw8_shown.f k).bind fun t183 => (if t183 = true then (keelsonlaw8_PinsParses.j0 k a0 t183 (decide ((a0.size : Int) > 4000))) else (keelsonlaw8_PinsParses.j0 k a0 t183 true))
set_option maxHeartbeats 8000000 in
set_option maxRecDepth 100000 in
theorem keelsonlaw8_PinsParses.calls (k : Nat) (a0 : ByteArray) (r : Bool) (w : World) (hG_maxLen : GlobMaxLen w) (hG_numErr : GlobNumErr w) (hG_pow10 : GlobPow10 w) (h : keelsonlaw8_PinsParses.f k a0 = some r) :
    Calls Tryz.prog 3 #[.string a0] w fun e w' => e = .returned (.bool r) ∧ Below w.heap.size w w' := by
  have HG_maxLen := Aside0.mk hG_maxLen
  clear hG_maxLen
  have HG_numErr := Aside0.mk hG_numErr
  clear hG_numErr
  have HG_pow10 := Aside0.mk hG_pow10
  clear hG_pow10
  have HB := Aside0.mk (Below.refl w.heap.size w)
  have H : ((keelsonlaw8_shown.f k).bind fun t183 => (if t183 = true then (keelsonlaw8_PinsParses.j0 k a0 t183 (decide ((a0.size : Int) > 4000))) else (keelsonlaw8_PinsParses.j0 k a0 t183 true))) = some r := h
  clear h
  replace H := Option.bind_eq_some_iff.mp H
  obtain ⟨t183, A20, H⟩ := H
  replace H : (if t183 = true then (keelsonlaw8_PinsParses.j0 k a0 t183 (decide ((a0.size : Int) > 4000))) else (keelsonlaw8_PinsParses.j0 k a0 t183 true)) = some r := H
  have A2 := Aside0.mk A20
  clear A20
  have HC3 := Aside0.mk H
  clear H
  go_enter Tryz.func3, Tryz.ntmps3
  go_upto_region 2 with (first | ((with_reducible refine gate_callee (f := 7) rfl ?_); refine goesL_ (some 10) rfl rfl Tryz.func7 (by kernel_rfl) rfl #[] rfl (by (try simp only [List.map_toArray, List.map_cons, List.map_nil]); first | done | rfl | (simp only [List.length_drop, List.length_take]; rfl)) ?_; (with_reducible refine (keelsonlaw8_shown.calls k  t183 _ ?side1 ?side2 ?side3 A2.out).mono ?_); (case side1 => exact HG_maxLen.out.below (by repeat (first | (with_reducible first | exact HB.out | apply below_alloc | apply pw_below_drewN | apply below_drew1) | exact HB.out))); (case side2 => exact HG_numErr.out.below (by repeat (first | (with_reducible first | exact HB.out | apply below_alloc | apply pw_below_drewN | apply below_drew1) | exact HB.out))); (case side3 => exact HG_pow10.out.below (by repeat (first | (with_reducible first | exact HB.out | apply below_alloc | apply pw_below_drewN | apply below_drew1) | exact HB.out))); rintro e w4 ⟨rfl, hb⟩; refine ⟨_, rfl, ?_⟩; have n0_ := Aside0.mk (below_step (by repeat (first | (with_reducible first | exact HB.out | apply below_alloc | apply pw_below_drewN | apply below_drew1) | exact HB.out)) hb); clear HB; have HB := n0_; clear n0_; (try clear hb); (try clear hb2); (try clear hk); (try clear hi)))
  (try simp only [Act.put, List.setIfInBounds_toArray, List.set_cons_zero, List.set_cons_succ])
  go_cut [17] (fun v17 wc => ∃ (kq : Nat) (x17_2 : Bool), v17 = .bool x17_2 ∧ Aside0 (keelsonlaw8_PinsParses.j0 kq a0 t183 x17_2 = some r) ∧ Aside0 (kq ≤ k) ∧ Aside0 (Below w.heap.size w wc))
  case first => as_aux_lemma =>
    have H := HC3.out
    clear HC3
    by_cases c5 : t183 = true
    · subst c5
      have H1 : (keelsonlaw8_PinsParses.j0 k a0 true (decide ((a0.size : Int) > 4000))) = some r := by rw [if_pos rfl] at H; exact H
      clear H
      have H := H1
      clear H1
      have H' := Aside0.mk H
      clear H
      go_wp2
      go_meet
      case rel => exact ⟨_, (decide ((a0.size : Int) > 4000)), (by first | rfl | (simp; done) | (simp [*]; done)), H', ⟨by first | omega | exact Nat.le_refl _⟩, ⟨by repeat (first | (with_reducible first | exact HB.out | apply below_alloc | apply pw_below_drewN | apply below_drew1) | exact HB.out)⟩⟩
    · replace c5 := Bool.eq_false_iff.mpr c5
      subst c5
      have H1 : (keelsonlaw8_PinsParses.j0 k a0 false true) = some r := by rw [if_neg (show ¬ (false = true) by decide)] at H; exact H
      clear H
      have H := H1
      clear H1
      have H' := Aside0.mk H
      clear H
      go_wp2
      go_meet
      case rel => exact ⟨_, (true), (by first | rfl | (simp; done) | (simp [*]; done)), H', ⟨by first | omega | exact Nat.le_refl _⟩, ⟨by repeat (first | (with_reducible first | exact HB.out | apply below_alloc | apply pw_below_drewN | apply below_drew1) | exact HB.out)⟩⟩
  case rest => as_aux_lemma =>
    clear HC3
    try clear p2
    try clear c3
    try clear c5
    obtain ⟨kq, x17_2, rfl, HA, HJ2, HB⟩ := hcut
    cases kq with
    | zero => exact absurd HA.out (by simp [keelsonlaw8_PinsParses.j0])
    | succ kj2 =>
      have H := HA.out
      clear HA
      simp only [keelsonlaw8_PinsParses.j0] at H
      by_cases c6 : x17_2 = true
      · subst c6
        have H1 : (some t183) = some r := by rw [if_pos rfl] at H; exact H
        clear H
        have H := H1
        clear H1
        obtain rfl := Option.some.inj H
        go_wp2
        go_ret
        exact ⟨by first | rfl | (simp [errW_none, errW_some] <;> rfl) | (simp [*, errW_none, errW_some] <;> rfl), by repeat (first | (with_reducible first | exact HB.out | apply below_alloc | apply pw_below_drewN | apply below_drew1) | exact HB.out)⟩
      · replace c6 := Bool.eq_false_iff.mpr c6
        subst c6
        have H1 : ((pins_Parse.f kj2 a0).bind fun bt184 => ((keelsonref8_Parse.f kj2 a0).bind fun bt189 => ((keelsonlaw8_same.f kj2 bt184.1 bt189.1).bind fun t194 => (if t194 = true then (if bt184.2.1 = bt189.2.1 then (some (bt184.2.2 == bt189.2.2)) else (none)) else (none))))) = some r := by rw [if_neg (show ¬ (false = true) by decide)] at H; exact H
        clear H
        have H := H1
        clear H1
        replace H := Option.bind_eq_some_iff.mp H
        obtain ⟨⟨t184, t185, t186⟩, A70, H⟩ := H
        replace H : ((keelsonref8_Parse.f kj2 a0).bind fun bt189 => ((keelsonlaw8_same.f kj2 t184 bt189.1).bind fun t194 => (if t194 = true then (if t185 = bt189.2.1 then (some (t186 == bt189.2.2)) else (none)) else (none)))) = some r := H
        have A7 := Aside0.mk A70
        clear A70
        replace H := Option.bind_eq_some_iff.mp H
        obtain ⟨⟨t189, t190, t191⟩, A80, H⟩ := H
        replace H : ((keelsonlaw8_same.f kj2 t184 t189).bind fun t194 => (if t194 = true then (if t185 = t190 then (some (t186 == t191)) else (none)) else (none))) = some r := H
        have A8 := Aside0.mk A80
        clear A80
        replace H := Option.bind_eq_some_iff.mp H
        obtain ⟨t194, A90, H⟩ := H
        replace H : (if t194 = true then (if t185 = t190 then (some (t186 == t191)) else (none)) else (none)) = some r := H
        have A9 := Aside0.mk A90
        clear A90
        by_cases c10 : t194 = true
        · subst c10
          have H1 : (if t185 = t190 then (some (t186 == t191)) else (none)) = some r := by rw [if_pos rfl] at H; exact H
          clear H
          have H := H1
          clear H1
          by_cases c11 : t185 = t190
          · rw [if_pos c11] at H
            have c11b0 : (t185 == t190) = true := beq_iff_eq.mpr c11
            have c11b1 : (t185 != t190) = false := bne_eq_false_iff_eq.mpr c11
            clear c11
            obtain rfl := Option.some.inj H
            go_wp2_with (first | ((with_reducible refine gate_callee (f := 8) rfl ?_); refine goesL_ (some 21) rfl rfl Tryz.func8 (by kernel_rfl) rfl #[.string a0] rfl (by (try simp only [List.map_toArray, List.map_cons, List.map_nil]); first | done | rfl | (simp only [List.length_drop, List.length_take]; rfl)) ?_; (with_reducible refine (pins_Parse.calls kj2 a0 t184 t185 t186 _ ?side1 ?side2 ?side3 A7.out).mono ?_); (case side1 => exact HG_maxLen.out.below (by repeat (first | (with_reducible first | exact HB.out | apply below_alloc | apply pw_below_drewN | apply below_drew1) | exact HB.out))); (case side2 => exact HG_numErr.out.below (by repeat (first | (with_reducible first | exact HB.out | apply below_alloc | apply pw_below_drewN | apply below_drew1) | exact HB.out))); (case side3 => exact HG_pow10.out.below (by repeat (first | (with_reducible first | exact HB.out | apply below_alloc | apply pw_below_drewN | apply below_drew1) | exact HB.out))); rintro e w12 ⟨v187, rfl, ho0, hb⟩; refine ⟨_, rfl, ?_⟩; have n0_ := Aside0.mk (Kd.R_lower ho0 (below_size (by repeat (first | (with_reducible first | exact HB.out | apply below_alloc | apply pw_below_drewN | apply below_drew1) | exact HB.out)))); have n1_ := Aside0.mk (below_step (by repeat (first | (with_reducible first | exact HB.out | apply below_alloc | apply pw_below_drewN | apply below_drew1) | exact HB.out)) hb); clear HB; have HO188 := n0_; have HB := n1_; clear n0_ n1_; (try clear hb); (try clear hb2); (try clear hk); (try clear hi); (try clear ho0)) | ((with_reducible refine gate_callee (f := 9) rfl ?_); refine goesL_ (some 27) rfl rfl Tryz.func9 (by kernel_rfl) rfl #[.string a0] rfl (by (try simp only [List.map_toArray, List.map_cons, List.map_nil]); first | done | rfl | (simp only [List.length_drop, List.length_take]; rfl)) ?_; (with_reducible refine (keelsonref8_Parse.calls kj2 a0 t189 t190 t191 _ A8.out).mono ?_); rintro e w13 ⟨v192, rfl, ho0, hb⟩; refine ⟨_, rfl, ?_⟩; have n0_ := Aside0.mk (Kd.R_elder' (by (with_reducible repeat (first | apply Kd.R_alloc | apply Kd.R_drewN | apply Kd.R_drew)); exact HO188.out) (Kd.R_base ho0) hb); have n1_ := Aside0.mk (Kd.R_lower (Kd.R_new' ho0 (Kd.R_lt (by (with_reducible repeat (first | apply Kd.R_alloc | apply Kd.R_drewN | apply Kd.R_drew)); exact HO188.out))) (below_size (by repeat (first | (with_reducible first | exact HB.out | apply below_alloc | apply pw_below_drewN | apply below_drew1) | exact HB.out)))); have n2_ := Aside0.mk (below_step (by repeat (first | (with_reducible first | exact HB.out | apply below_alloc | apply pw_below_drewN | apply below_drew1) | exact HB.out)) hb); clear HO188; clear HB; have HO188 := n0_; have HO193 := n1_; have HB := n2_; clear n0_ n1_ n2_; (try clear hb); (try clear hb2); (try clear hk); (try clear hi); (try clear ho0); obtain ⟨Ao14, co14, eo14⟩ := Kd.R_slice HO188.out; subst eo14; obtain ⟨Ao15, co15, eo15⟩ := Kd.R_slice HO193.out; subst eo15) | ((with_reducible refine gate_callee (f := 10) rfl ?_); refine goesL_ (some 33) rfl rfl Tryz.func10 (by kernel_rfl) rfl #[.slice Ao14 t184.length co14, .slice Ao15 t189.length co15] rfl (by (try simp only [List.map_toArray, List.map_cons, List.map_nil]); first | done | rfl | (simp only [List.length_drop, List.length_take]; rfl)) ?_; (with_reducible refine (keelsonlaw8_same.calls kj2 _ _ t184 _ _ t189 true _ ?side1 ?side2 ?side3 ?side4 A9.out).mono ?_); (case side1 => repeat (first | exact (Kd.R_reads' HO188.out).2.2 | (with_reducible refine Kd.C_alloc ?_ _) | (with_reducible refine Kd.C_drewN ?_ _) | (with_reducible refine Kd.C_drew ?_))); (case side2 => exact (Kd.R_reads' HO188.out).2.1); (case side3 => repeat (first | exact (Kd.R_reads' HO193.out).2.2 | (with_reducible refine Kd.C_alloc ?_ _) | (with_reducible refine Kd.C_drewN ?_ _) | (with_reducible refine Kd.C_drew ?_))); (case side4 => exact (Kd.R_reads' HO193.out).2.1); rintro e w' ⟨rfl, ⟨nd, rfl⟩⟩; refine ⟨_, rfl, ?_⟩))
            go_ret
            exact ⟨by first | rfl | (simp [errW_none, errW_some] <;> rfl) | (simp [*, errW_none, errW_some] <;> rfl), by repeat (first | (with_reducible first | exact HB.out | apply below_alloc | apply pw_below_drewN | apply below_drew1) | exact HB.out)⟩
          · rw [if_neg c11] at H
            exact absurd H (by simp)
        · replace c10 := Bool.eq_false_iff.mpr c10
          subst c10
          have H1 : (none) = some r := by rw [if_neg (show ¬ (false = true) by decide)] at H; exact H
          clear H
          have H := H1
          clear H1
          exact absurd H (by simp)

end Go.Proofs.YtlcfpmdamehopaaGreatDoor.PA
/- PinsParses' plain law: program and reference read a text as the same pins. -/
namespace Go.Proofs.YtlcfpmdamehopaaGreatDoor.PA
open Go.RowKit Go.Proofs.YtlcfpmdamehopaaGreatDoorW.PrintWords Go.Proofs.YtlcfpmdamehopaaGreatDoorW.PrintLast Go.Proofs.YtlcfpmdamehopaaGreatDoorW.PrintMore

theorem PinsParses_pure {P0 : Prop} (s : ByteArray) (_ : P0) : ∃ k, keelsonlaw8_PinsParses.f k s = some true := by
  refine Ev.rounds (g := fun k => keelsonlaw8_PinsParses.f k s) ?_
  unfold keelsonlaw8_PinsParses.f
  refine Ev.bind shown8_ev (Ev.pos rfl (Ev.succ ?_))
  simp only [keelsonlaw8_PinsParses.j0]
  by_cases hl : (s.size : Int) > 4000
  · exact Ev.pos (decide_eq_true hl) (Ev.some rfl)
  have hp := parseP_len s.data.toList
  exact Ev.neg (by simpa using hl) (Ev.bind (pparse_ev s) (Ev.bind (refparse8_ev s) (Ev.bind (same8_ev _ (by omega)) (Ev.pos rfl (Ev.pos rfl (Ev.some (by simp)))))))
end Go.Proofs.YtlcfpmdamehopaaGreatDoor.PA
namespace Go.Proofs.YtlcfpmdamehopaaGreatDoor.pinsParses
open Go.ChangeShapes Go.WideShapes Go.ChangeAt Go.RowKit Go.Proofs.YtlcfpmdamehopaaGreatDoor.PA Go.Proofs.YtlcfpmdamehopaaGreatDoorW.PrintWords
open Go.ChangeMaps (open_string shut_string)
theorem own : ownKnob Tryz.prog.godebug = none := by kernel_rfl
theorem laidOut : laidOutB Tryz.prog = true := by kernel_rfl
set_option maxRecDepth 100000 in
theorem lifted (os : Os) (started : os.Started) (H : Type) (enc : TypeId × Value → H) :
    ReturnsInHanded {} Tryz.checked os 3 .any (fun w args => (Rows.pinsParsesSpec.pre enc Tryz.prog Tryz.f3 [] false w args ∧ laidMet Tryz.prog Rows.pinsParsesRow.laid w) ∧ sizedMet enc Tryz.prog Tryz.f3 (OpenSpec.ofChange Rows.pinsParsesSpec) false w args) (Rows.pinsParsesSpec.post enc Tryz.prog Tryz.f3 false true false false) := by
  refine returns_laid_shaped (C := Tryz.checked) (X := fun w _ => laidMet Tryz.prog Rows.pinsParsesRow.laid w) (fun _ _ _ hh h => h.of_heap hh) own started (by kernel_rfl) Tryz.func3
    (ChangeSpec.witness_at (enc := enc) (C := Tryz.checked) (os := os) (X := fun w _ => laidMet Tryz.prog Rows.pinsParsesRow.laid w) false (laidWorld os) #[.string ByteArray.empty] 8 rfl (by kernel_rfl) (by kernel_rfl) (by kernel_rfl) (by kernel_rfl) (by kernel_rfl) (laid_met_deBruijn32tab_deBruijn64tab_uint64pow10_acceptRanges_ErrRange_ErrSyntax_first os _)) ?_
  intro W base args ds gs before hval0 hW hcnd hsz0 hL hSh _
  have hsz : (DataW.weightsEach Tryz.prog (Tryz.f3.params.toList ++ Rows.pinsParsesSpec.plain.varTypes Tryz.prog) (ds ++ gs)).all (· ≤ reachBytes) = true := hsz0
  have hval : ∀ (j : Nat) t v, Tryz.f3.params[j]? = some t → args[j]? = some v → Value.okWide Tryz.prog W .any base t v := hval0
  have hW' := hW
  obtain ⟨p, q, hA0, hV, rfl, hfz, hnd⟩ := hW
  have hA : DataW.TrodAll enc Tryz.prog W 0 (fun _ => true) true Tryz.f3.params.toList args.toList ds p := hA0
  rw [Tryz.params3] at hA hval hsz
  obtain ⟨v0, vs0, d0, ds0, p0, q0, hargs, rfl, rfl, h0, r0⟩ := trodAll_cons hA
  obtain ⟨rfl, rfl, rfl⟩ := trodAll_nil r0
  obtain rfl : args = #[v0] := by cases args; simp_all
  obtain ⟨rfl, rfl⟩ := trodVars_none hV
  have hwt : ∀ n ∈ DataW.weightsEach Tryz.prog (([9] : List TypeId) ++ []) (([d0] : List (DataW H)) ++ []), n ≤ reachBytes := fun n hn => of_decide_eq_true (List.all_eq_true.1 hsz n hn)
  obtain ⟨a0, rfl, rfl, rfl, y0⟩ := open_string Tryz.underlying9 (hval 0 9 v0 rfl rfl) h0
  have ok0 : okS a0 := by
    have z := sized_string hsz (j := 0) (t := 9) rfl rfl
    rw [Array.length_toList] at z
    exact z
  obtain ⟨k, hk⟩ := PinsParses_pure a0 ok0
  refine (keelsonlaw8_PinsParses.calls k a0 true W  (maxLen_of_shape hSh) (numErr_of_laid hL) (pow10_of_laid hL) hk).mono fun e W' ⟨he, bel⟩ => ?_
  subst he
  exact ⟨_, rfl, _, _, _, [], _, [], hW', trodAll_mk1 (shut_bool Tryz.underlying4 _), (trodAll_cons_mk (shut_string Tryz.underlying9 y0) trodAll_mk0), rfl, bel.frame _, fun h => by cases h⟩
theorem over : Rows.pinsParsesRow.holds Tryz.pinned (OpenSpec.ofChange Rows.pinsParsesSpec) :=
  OpenClaim.holds_of_wide 3 Tryz.f3 rfl rfl rfl rfl rfl rfl rfl ⟨rfl, rfl, rfl, rfl, rfl⟩ rfl rfl rfl rfl rfl (by kernel_rfl) Tryz.func3 (by kernel_rfl)
    (of_decide_eq_true (by kernel_rfl)) (by unfold Func.isWrapper; first | (rw [if_pos (by decide +kernel)]; kernel_rfl) | (rw [if_neg (by decide +kernel)]; exact ⟨rfl, rfl⟩))
    (fun os started H enc _ => lifted os started H enc)
theorem said : Rows.PinsParsesSaid := over
theorem proved : Rows.PinsParsesCardSaid :=
  Claim7.holds_tied_plain_at .later [] [.data, .data, .data, .data, .sentinel, .sentinel, .pinned] true (true, "ae8b5f4508b27d05baee40571132509b03caa991d8903e13fecbf2c179cc327a") true
    said (fun _ h => by cases h) (by kernel_rfl) (fun _ h => by cases h) pinsParses_row_tie rfl ⟨rfl, rfl⟩ (by kernel_rfl) rfl
    (fun f fn hf hfn => by
      obtain rfl : f = 3 := Option.some.inj ((show Tryz.prog.funcNamed "keelson/keelsonlaw8.PinsParses" = some 3 by kernel_rfl).symm.trans hf) |>.symm
      obtain rfl : fn = Tryz.f3 := (Option.some.inj (Tryz.func3.symm.trans hfn)).symm
      exact ⟨by kernel_rfl, fun j t ht => by
        rw [Tryz.params3] at ht
        have hm : t ∈ ([9] : List TypeId) := List.mem_of_getElem? (by simpa using ht)
        have hall : ([9] : List TypeId).all (fun t => !Tryz.prog.wantsStandIn t) = true := by kernel_rfl
        have := List.all_eq_true.1 hall t hm
        exact (show Tryz.prog.wantsStandIn t = false by simpa using this)⟩)
    (by kernel_rfl)
#print axioms proved
end Go.Proofs.YtlcfpmdamehopaaGreatDoor.pinsParses
namespace Go.Proofs.YtlcfpmdamehopaaGreatDoor
/-- The statement, under a short name, for the claim. -/
theorem pinsParses_holds : Rows.PinsParsesCardSaid := pinsParses.proved
end Go.Proofs.YtlcfpmdamehopaaGreatDoor
