/- keelson/stanza.Parse: what it comes to. The one premise on the world: the library's own number stands in its variable. -/
import Derived.Test.YtekplcjgmnahmaaDoorGField5
import Derived.Defers
import Derived.Recover
import Derived.Stop.Asserts
import Derived.RowKitTokens
import Derived.WalkLawsBesides
/- keelson/stanza's reader: line, with its recover: what it comes to. Conditions: the reader lies as GRead says. -/
namespace Go.Proofs.YtekplcjgmnahmaaDoor.PA
open Go.RowKit Go.Proofs.YtekplcjgmnahmaaDoorW.PrintWords Go.Proofs.YtekplcjgmnahmaaDoorW.PrintLast Go.Proofs.YtekplcjgmnahmaaDoorW.PrintMore Go.Extern.Stop Go.Stop Go.Extern

theorem assertE (q : Int) (xT : TypeId) (w : World) : (Instr.typeAssert (.iface 24 (.int .i64 q)) xT 24 true).run Tryd.prog w = .ok (.tuple #[.int .i64 q, .bool true]) w := by kernel_rfl
theorem assertN (xT : TypeId) (w : World) : (Instr.typeAssert .nilIface xT 24 true).run Tryd.prog w = .ok (.tuple #[.int .i64 0, .bool false]) w := by kernel_rfl

set_option maxRecDepth 100000 in
set_option maxHeartbeats 1000000 in
theorem catch_err (p : Addr) (x q : Int) (w : World) (hp : w.cell? p = some (.int .i64 x)) (fp : w.frozen? p = false) :
    CallsD Tryd.prog 50 #[.pointer (some p)] (.panicking (panE q)) w fun e u' w' =>
      e = .returned (.tuple #[]) ∧ u' = .panicking [{ v := .iface 24 (.int .i64 q), recovered := true }] ∧ w' = w.setCell p (.int .i64 q) := by
  have hta := assertE q
  refine callsD_of_wpS Tryd.func50 rfl fun c₀ cs hu => ?_
  apply wpS_seq
  apply wpS_region
  simp [wpOpsS, go_sem, recoverD, hu, Tryd.ntmps50, Exit.thenS, panE, hta]
  have hT : ∀ (E T a1 : Value) (b1 : Bool), #[Value.pointer (some p)] ++ (((((((Array.replicate 9 undef).setIfInBounds 3 E).setIfInBounds 4 T).setIfInBounds 2 T).setIfInBounds 5 a1).setIfInBounds 6 (Value.bool b1)).setIfInBounds 0 a1).setIfInBounds 1 (Value.bool b1)
      = #[.pointer (some p), a1, .bool b1, T, E, T, a1, .bool b1, undef, undef] := by
    intro E T a1 b1
    have e : Array.replicate 9 undef = #[undef, undef, undef, undef, undef, undef, undef, undef, undef] := by simp [Array.replicate, List.replicate]
    rw [e]
    simp
  rw [hT]
  clear hT
  refine wpS_of_wp ?_
  clear hta
  have HU := Lib.hid hu
  clear hu
  go_wp2_with fail
  simp [bodyPostS, results, Tryd.results50]

set_option maxRecDepth 100000 in
set_option maxHeartbeats 1000000 in
theorem catch_none (p : Addr) (w : World) :
    CallsD Tryd.prog 50 #[.pointer (some p)] .returning w fun e u' w' => e = .returned (.tuple #[]) ∧ u' = .returning ∧ w' = w := by
  have hta := assertN
  refine callsD_of_wpS Tryd.func50 rfl fun c₀ cs hu => ?_
  apply wpS_seq
  apply wpS_region
  simp [wpOpsS, go_sem, recoverD, hu, Tryd.ntmps50, Exit.thenS, hta]
  have hT : ∀ (E T a1 : Value) (b1 : Bool), #[Value.pointer (some p)] ++ (((((((Array.replicate 9 undef).setIfInBounds 3 E).setIfInBounds 4 T).setIfInBounds 2 T).setIfInBounds 5 a1).setIfInBounds 6 (Value.bool b1)).setIfInBounds 0 a1).setIfInBounds 1 (Value.bool b1)
      = #[.pointer (some p), a1, .bool b1, T, E, T, a1, .bool b1, undef, undef] := by
    intro E T a1 b1
    have e : Array.replicate 9 undef = #[undef, undef, undef, undef, undef, undef, undef, undef, undef] := by simp [Array.replicate, List.replicate]
    rw [e]
    simp
  rw [hT]
  clear hT
  refine wpS_of_wp ?_
  clear hta
  have HU := Lib.hid hu
  clear hu
  go_wp2_with fail
  cases c₀
  have hu := HU.out
  simp_all [bodyPostS, results, Tryd.results50]
theorem below_clean (s : ByteArray) : belowF s 32 = !(cleanL s.data.toList) := by
  unfold belowF bytesOf cleanL
  rw [List.any_map, List.not_all_eq_any_not]
  congr 1
  funext c
  show decide ((c.toNat : Int) < 32) = !decide (32 ≤ c.toNat)
  by_cases h : 32 ≤ c.toNat
  · rw [decide_eq_true h, decide_eq_false (by omega)]; rfl
  · rw [decide_eq_false h, decide_eq_true (by omega)]; rfl
def guestE (W : World) (gs : List Guest) : List Guest := ⟨W.heap.size, #[.int .i64 0], 24⟩ :: gs
theorem RdP.withErr {B : Nat} {w0 W : World} {rb : Nat} {gs : List Guest} {v : Value} {vs : List Value} {l : List (List Fd)} {o : Bool} (h : RdP 36 57 B w0 W rb gs v vs l o) : RdP 36 57 B w0 (W.alloc (.cells #[.int .i64 0] 24)) rb (guestE W gs) v vs l o :=
  have h1 := h.move (alloc_below W (.cells #[.int .i64 0] 24))
  ⟨h1.bel, h1.base, h1.hrb, h1.cell, h1.row, h1.rows, h1.apart, fun q hq => by
    rcases List.mem_cons.1 hq with hq | hq
    · subst hq
      exact ⟨heap_alloc_new W _, (show 36 ≠ 24 by decide), (show 57 ≠ 24 by decide), (show 49 ≠ 24 by decide)⟩
    · exact h1.guest q hq⟩
section
variable {TS TR B : Nat} {w0 W W0 : World} {rb : Nat} {gs : List Guest} {v : Value} {vs : List Value} {l : List (List Fd)} {o : Bool}
theorem RdP.err (h : RdP TS TR B w0 W rb (guestE W0 gs) v vs l o) : W.heap[W0.heap.size]? = some (.cells #[.int .i64 0] 24 (0, 0)) := (h.guest _ List.mem_cons_self).1
theorem RdP.errCell (h : RdP TS TR B w0 W rb (guestE W0 gs) v vs l o) : W.cell? ⟨W0.heap.size, 0, none⟩ = some (.int .i64 0) ∧ W.frozen? ⟨W0.heap.size, 0, none⟩ = false :=
  ⟨by rw [cell_of_row W _ 0 _ _ _ h.err]; rfl, frozen_of_row W _ 0 _ _ h.err⟩
/-- The error's cell is written: the reader is as it was. -/
theorem RdP.setErr (h : RdP TS TR B w0 W rb (guestE W0 gs) v vs l o) (hgs : ∀ q ∈ gs, q.t ≠ 24) (hB : B ≤ W0.heap.size) (q : Int) : RdP TS TR B w0 (W.setCell ⟨W0.heap.size, 0, none⟩ (.int .i64 q)) rb gs v vs l o := by
  obtain ⟨g1, g2, g3, g4⟩ := h.guest _ List.mem_cons_self
  have hne : rb ≠ W0.heap.size := fun e => guest_ne g1 h.cell g3 e.symm
  refine ⟨h.bel.setCell hB _, by simpa using h.base, h.hrb, ?_, ?_, ?_, h.apart, fun q hq => ?_⟩
  · rw [heap_set_ne _ _ _ rb hne]; exact h.cell
  · exact own_setCell h.row (own_ne h.row g1 g2) _
  · refine h.rows.move fun u hu k hk _ => heap_set_ne _ _ _ k ?_
    obtain ⟨x, hx⟩ := h.rows.mem hu
    have := own_ne hx g1 g4
    rw [hk] at this
    rintro rfl
    exact this rfl
  · obtain ⟨q1, q2⟩ := h.guest q (List.mem_cons_of_mem _ hq)
    exact ⟨by rw [heap_set_ne _ _ _ q.b (guest_ne q1 g1 (Ne.symm (hgs q hq)))]; exact q1, q2⟩
end
theorem RdP.lastField {TS TR B : Nat} {w0 W : World} {rb : Nat} {gs : List Guest} {v : Value} {vs us : List Value} {z : Value} {l : List (List Fd)} {o : Bool} {x : List Fd} {f : Fd} {g cap : Nat} (h : RdP TS TR B w0 W rb gs v vs l o) (hl : l ≠ []) (hvs : vs = us ++ [z]) (hx : lastS l = x ++ [f]) (hz : z = .slice (some ⟨g, 0, none⟩) (x.length + 1) cap) :
    W.cell? ⟨g, x.length * 2 + 1, none⟩ = some (.string f.f1) ∧ W.frozen? ⟨g, x.length * 2 + 1, none⟩ = false := by
  have hO := lastOwn h hl hvs hx
  have hl2 : (x ++ [f]).length = x.length + 1 := by simp
  unfold OwnF at hO
  rw [hz, hl2] at hO
  refine ⟨?_, World.ownsRow.frozenAt hO _⟩
  have := World.ownsRow.cells hO (g := g) rfl (x.length * 2 + 1) (.string f.f1) (by
    rw [fcells_app, List.getElem?_append_right (by rw [fcells_len]; omega), fcells_len, show x.length * 2 + 1 - x.length * 2 = 1 by omega]; rfl)
  rwa [show (⟨g, 0, none⟩ : Addr).add (x.length * 2 + 1) = ⟨g, x.length * 2 + 1, none⟩ from by unfold Addr.add; split <;> simp_all] at this
theorem bytes_inj9 {a b : ByteArray} (h : a.data.toList = b.data.toList) : a = b := by rw [← mk_toList a, ← mk_toList b, h]

set_option maxRecDepth 20000 in
set_option maxHeartbeats 4000000 in
theorem line_calls (w0 W : World) (rb : Nat) (gs : List Guest) (hgs : ∀ q ∈ gs, q.t ≠ 24) (v : Value) (vs : List Value) (l : List (List Fd)) (o : Bool) (s : ByteArray) (N : Nat) (hs : s.size < 4294967281) (hG : GlobMaxLen w0) (hF : FineR l o) (hN : ValsLe N l) (hNs : N + s.size ≤ 4611686018427387904)
    (h : RdP 36 57 w0.heap.size w0 W rb gs v vs l o) :
    Calls Tryd.prog 30 #[.pointer (some ⟨rb, 0, none⟩), .string s] W fun e w' =>
      match lineG l o s.data.toList with
      | .error q => e = .returned (.int .i64 q) ∧ Below w0.heap.size w0 w'
      | .ok p => e = .returned (.int .i64 0) ∧ ∃ v' vs', RdP 36 57 w0.heap.size w0 w' rb gs v' vs' p.1 p.2 := by
  have h1 := h.withErr
  have hB := h.base
  clear h
  obtain ⟨r, hr⟩ : ∃ r, lineG l o s.data.toList = r := ⟨_, rfl⟩
  rw [hr]
  unfold lineG at hr
  have hbl := stanza_below.calls s 32 (W.alloc (.cells #[.int .i64 0] 24)) (by omega)
  rw [below_clean] at hbl
  have my := must_yes
  have mn := must_no
  have hmf := makeFunc_run
  have hmv := fun w1 (hb : Below (W.alloc (.cells #[.int .i64 0] 24)).heap.size (W.alloc (.cells #[.int .i64 0] 24)) w1) => h1.move hb
  cases hc : cleanL s.data.toList with
  | false =>
    rw [hc] at hr hbl
    rw [if_neg (by decide)] at hr
    subst hr
    clear h1
    go_enter_defers Tryd.func30, Tryd.ntmps30
    go_wp2_with (first | (go_at_call 52; with_reducible refine hbl.mono ?_; rintro e w1 ⟨rfl, hb1⟩; have H1 := Lib.hid (hmv _ hb1)) | (go_at_call 51; with_reducible refine (mn _ _).mono ?_; rintro e w' ⟨rfl, rfl⟩))
    refine leaves_cons (f := 50) (args := #[.pointer (some ⟨W.heap.size, 0, none⟩)]) (by simp) (by simp [go_sem]) ?_
    refine (catch_err ⟨W.heap.size, 0, none⟩ 0 5 _ H1.out.errCell.1 H1.out.errCell.2).mono ?_
    rintro e u' w'' ⟨rfl, rfl, rfl⟩
    have HE := H1.out.errCell.1
    simp [Leaves, settle, results, Tryd.results30, go_sem, HE]
    exact (H1.out.setErr hgs hB 5).bel
  | true =>
    rw [hc] at hr hbl
    rw [if_pos rfl] at hr
    cases hl : s.data.toList with
    | nil =>
      rw [hl] at hr
      dsimp only at hr
      subst hr
      obtain rfl : s = ⟨#[]⟩ := by cases s with | mk d => cases d with | mk l => cases hl; rfl
      clear h1
      go_enter_defers Tryd.func30, Tryd.ntmps30
      go_wp2_with (first | (go_at_call 52; with_reducible refine hbl.mono ?_; rintro e w1 ⟨rfl, hb1⟩; have H1 := Lib.hid (hmv _ hb1); have k0 := H1.out.cell1; have k1 := H1.out.frozen 1; have H2 := Lib.hid (H1.out.flag (by decide) (by decide) false); have E2 := H2.out.errCell; have e1 := E2.1; have e2 := E2.2) | (go_at_call 51; with_reducible refine (my _ _).mono ?_; rintro e w' ⟨rfl, rfl⟩))
      refine leaves_cons (f := 50) (args := #[.pointer (some ⟨W.heap.size, 0, none⟩)]) (by simp) (by simp [go_sem]) ?_
      refine (catch_none ⟨W.heap.size, 0, none⟩ _).mono ?_
      rintro e u' w'' ⟨rfl, rfl, rfl⟩
      have HE := H2.out.errCell.1
      simp [Leaves, settle, results, Tryd.results30, go_sem, HE]
      exact ⟨_, _, H2.out.setErr hgs hB 0⟩
    | cons c t =>
      rw [hl] at hr
      dsimp only at hr
      have hsz : s.size = t.length + 1 := by rw [← data_length, hl]; rfl
      have hne2 : (s.toList = []) = False := by rw [ByteArray.toList_eq, hl]; simp
      have hne3 : s.toList.isEmpty = false := by rw [ByteArray.toList_eq, hl]; rfl
      have q1 : ((0 : Int) < (s.size : Int)) = True := eq_true (by omega)
      have q3 : (0 < s.size) = True := eq_true (by omega)
      have hx : ∀ h : 0 < s.size, ((s[0]'h).toNat : Int) = (c.toNat : Int) := by
        intro h
        congr 2
        show s.data[0] = c
        have : s.data.toList[0]'(by rw [hl]; exact Nat.succ_pos _) = c := by simp [hl]
        simpa using this
      by_cases h32 : c.toNat ≠ 32
      · rw [if_pos h32] at hr
        have hci : ¬ (c.toNat : Int) = 32 := by omega
        have hci2 : ((c.toNat : Int) != 32) = true := bne_iff_ne.2 hci
        have hci3 : ((c.toNat : Int) == 32) = false := beq_eq_false_iff_ne.2 hci
        have hfc := fun w1 H => field_calls w0 w1 rb (guestE W gs) v vs l o s hs hG hF H
        rw [hl] at hfc
        generalize (c.toNat : Int) = ci at hx hci hci2 hci3
        cases hfg : fieldG l o (c :: t) with
        | error q =>
          rw [hfg] at hr hfc
          subst hr
          dsimp only at hfc
          have HSZ := Lib.hid hsz
          clear h1 hsz hl
          go_enter_defers Tryd.func30, Tryd.ntmps30
          go_wp2_with (first | (go_at_call 52; with_reducible refine hbl.mono ?_; rintro e w1 ⟨rfl, hb1⟩; have H1 := Lib.hid (hmv _ hb1); have k0 := H1.out.cell1; have k00 := H1.out.cell0) | (go_at_call 51; with_reducible refine (my _ _).mono ?_; rintro e w' ⟨rfl, rfl⟩) | (go_at_call 53; with_reducible refine (hfc _ H1.out).mono ?_; rintro e w3 ⟨rfl, v3, vs3, l3, o3, h3⟩; have H3 := Lib.hid h3; clear h3))
          refine leaves_cons (f := 50) (args := #[.pointer (some ⟨W.heap.size, 0, none⟩)]) (by simp) (by simp [go_sem]) ?_
          refine (catch_err ⟨W.heap.size, 0, none⟩ 0 q _ H3.out.errCell.1 H3.out.errCell.2).mono ?_
          rintro e u' w'' ⟨rfl, rfl, rfl⟩
          have HE := H3.out.errCell.1
          simp [Leaves, settle, results, Tryd.results30, go_sem, HE]
          exact (H3.out.setErr hgs hB q).bel
        | ok p =>
          rw [hfg] at hr hfc
          subst hr
          dsimp only at hfc ⊢
          have HSZ := Lib.hid hsz
          clear h1 hsz hl
          go_enter_defers Tryd.func30, Tryd.ntmps30
          go_wp2_with (first | (go_at_call 52; with_reducible refine hbl.mono ?_; rintro e w1 ⟨rfl, hb1⟩; have H1 := Lib.hid (hmv _ hb1); have k0 := H1.out.cell1; have k00 := H1.out.cell0) | (go_at_call 51; with_reducible refine (my _ _).mono ?_; rintro e w' ⟨rfl, rfl⟩) | (go_at_call 53; with_reducible refine (hfc _ H1.out).mono ?_; rintro e w3 ⟨rfl, v3, vs3, h3⟩; have H3 := Lib.hid h3; have E3 := h3.errCell; have e1 := E3.1; have e2 := E3.2; clear h3 E3))
          refine leaves_cons (f := 50) (args := #[.pointer (some ⟨W.heap.size, 0, none⟩)]) (by simp) (by simp [go_sem]) ?_
          refine (catch_none ⟨W.heap.size, 0, none⟩ _).mono ?_
          rintro e u' w'' ⟨rfl, rfl, rfl⟩
          have HE := H3.out.errCell.1
          simp [Leaves, settle, results, Tryd.results30, go_sem, HE]
          exact ⟨_, _, H3.out.setErr hgs hB 0⟩
      · rw [if_neg h32] at hr
        have hci : (c.toNat : Int) = 32 := by omega
        rw [hci] at hx
        cases o with
        | false =>
          rw [Bool.false_and, if_neg (by decide)] at hr
          subst hr
          have HSZ := Lib.hid hsz
          clear h1 hsz hl
          go_enter_defers Tryd.func30, Tryd.ntmps30
          go_wp2_with (first | (go_at_call 52; with_reducible refine hbl.mono ?_; rintro e w1 ⟨rfl, hb1⟩; have H1 := Lib.hid (hmv _ hb1); have k0 := H1.out.cell1; have k00 := H1.out.cell0) | (go_at_call 51; with_reducible refine (my _ _).mono ?_; rintro e w' ⟨rfl, rfl⟩) | (go_at_call 51; with_reducible refine (mn _ _).mono ?_; rintro e w' ⟨rfl, rfl⟩))
          refine leaves_cons (f := 50) (args := #[.pointer (some ⟨W.heap.size, 0, none⟩)]) (by simp) (by simp [go_sem]) ?_
          refine (catch_err ⟨W.heap.size, 0, none⟩ 0 5 _ H1.out.errCell.1 H1.out.errCell.2).mono ?_
          rintro e u' w'' ⟨rfl, rfl, rfl⟩
          have HE := H1.out.errCell.1
          simp [Leaves, settle, results, Tryd.results30, go_sem, HE]
          exact (H1.out.setErr hgs hB 5).bel
        | true =>
        cases t with
        | nil =>
          rw [Bool.true_and, if_neg (by decide)] at hr
          subst hr
          have hsz1 : (s.size : Int) = 1 := by rw [hsz]; rfl
          clear h1 hl hsz q1
          go_enter_defers Tryd.func30, Tryd.ntmps30
          go_wp2_with (first | (go_at_call 52; with_reducible refine hbl.mono ?_; rintro e w1 ⟨rfl, hb1⟩; have H1 := Lib.hid (hmv _ hb1); have k0 := H1.out.cell1; have k00 := H1.out.cell0) | (go_at_call 51; with_reducible refine (my _ _).mono ?_; rintro e w' ⟨rfl, rfl⟩) | (go_at_call 51; with_reducible refine (mn _ _).mono ?_; rintro e w' ⟨rfl, rfl⟩))
          refine leaves_cons (f := 50) (args := #[.pointer (some ⟨W.heap.size, 0, none⟩)]) (by simp) (by simp [go_sem]) ?_
          refine (catch_err ⟨W.heap.size, 0, none⟩ 0 5 _ H1.out.errCell.1 H1.out.errCell.2).mono ?_
          rintro e u' w'' ⟨rfl, rfl, rfl⟩
          have HE := H1.out.errCell.1
          simp [Leaves, settle, results, Tryd.results30, go_sem, HE]
          exact (H1.out.setErr hgs hB 5).bel
        | cons c1 t1 =>
          rw [Bool.true_and, if_pos (by rfl)] at hr
          subst hr
          have hl0 := hF.2.2 rfl
          obtain ⟨g, cap, hv, _, _⟩ := h1.slice hl0
          obtain ⟨us, z, hvs, _, hz, hlen⟩ := h1.last hl0
          have hne := (hF.2.1 _ (lastS_mem hl0)).1
          obtain ⟨x, f, hx9⟩ : ∃ x f, lastS l = x ++ [f] := ⟨_, _, (List.dropLast_concat_getLast hne).symm⟩
          have hsz9 : f.f1.size ≤ N := hN _ (lastS_mem hl0) f (by rw [hx9]; simp)
          have hmore : moreS (c1 :: t1) (lastS l) = x ++ [⟨f.f0, mkB (f.f1.data.toList ++ 10 :: c1 :: t1)⟩] := by rw [hx9]; simp [moreS, moreF]
          obtain ⟨gz, cz, hzv⟩ : ∃ gz cz, z = .slice (some ⟨gz, 0, none⟩) (x.length + 1) cz := by
            rcases hz.2 with ⟨_, e⟩ | ⟨gz, cz, cur, e, _⟩
            · rw [hx9] at e; simp at e
            · exact ⟨gz, cz, by rw [e, hx9]; simp⟩
          have hrl := fun w1 (H : RdP 36 57 w0.heap.size w0 w1 rb (guestE W gs) v vs l true) => (H.lastAt hv hvs hlen).1
          have hrf := fun w1 (H : RdP 36 57 w0.heap.size w0 w1 rb (guestE W gs) v vs l true) => H.lastField hl0 hvs hx9 hzv
          have hrv := fun w1 (H : RdP 36 57 w0.heap.size w0 w1 rb (guestE W gs) v vs l true) => H.value hl0 (by decide) (by decide) hvs hx9 hzv (mkB (f.f1.data.toList ++ 10 :: c1 :: t1))
          rw [hmore]
          rw [← hlen] at hv
          subst hv hzv
          have hlu : us.length < 9223372036854775807 := by have := hF.1; omega
          have hxu : x.length < 9223372036854775807 := by
            have := (hF.2.1 _ (lastS_mem hl0)).2
            rw [hx9] at this; simp at this; omega
          have i1 : IntKind.i64.wrap ((us.length : Int) + 1 - 1) = (us.length : Int) := by
            rw [i64_w]; unfold wrap64; omega
          have i1b : IntKind.i64.wrap (us.length : Int) = (us.length : Int) := by
            rw [i64_w]; unfold wrap64; omega
          have i2 : (0 ≤ (us.length : Int)) = True := eq_true (by omega)
          have i3 : ((us.length : Int) < (us.length : Int) + 1) = True := eq_true (by omega)
          have x1 : IntKind.i64.wrap ((x.length : Int) + 1 - 1) = (x.length : Int) := by
            rw [i64_w]; unfold wrap64; omega
          have x1b : IntKind.i64.wrap (x.length : Int) = (x.length : Int) := by
            rw [i64_w]; unfold wrap64; omega
          have x2 : (0 ≤ (x.length : Int)) = True := eq_true (by omega)
          have x3 : ((x.length : Int) < (x.length : Int) + 1) = True := eq_true (by omega)
          have hs1 : ((1 : Int) < (s.size : Int)) = True := eq_true (by rw [hsz]; simp only [List.length_cons]; omega)
          have hs2 : ((1 : Int) ≤ (s.size : Int)) = True := eq_true (by rw [hsz]; simp only [List.length_cons]; omega)
          have hex : s.extract 1 s.size = mkB (c1 :: t1) := by
            refine bytes_inj9 ?_
            rw [Lib.extract_to_end, hl]; rfl
          have hts : (mkB (c1 :: t1)).size = s.size - 1 := by rw [mkB_size, hsz]; simp
          have e1 := fun w => run_string_add_sum (P := Tryd.prog) (w := w) ⟨#[10]⟩ (mkB (c1 :: t1)) (by rw [hts, show (⟨#[10]⟩ : ByteArray).size = 1 from rfl]; omega)
          have e2 := fun w => run_string_add_sum (P := Tryd.prog) (w := w) f.f1 (⟨#[10]⟩ ++ mkB (c1 :: t1)) (by rw [ByteArray.size_append, hts, show (⟨#[10]⟩ : ByteArray).size = 1 from rfl]; omega)
          have heq : f.f1 ++ (⟨#[10]⟩ ++ mkB (c1 :: t1)) = mkB (f.f1.data.toList ++ 10 :: c1 :: t1) := by
            refine bytes_inj9 ?_
            rw [ByteArray.data_append, ByteArray.data_append, Array.toList_append, Array.toList_append]; rfl
          have HLN := Lib.hid hlen
          generalize mkB (f.f1.data.toList ++ 10 :: c1 :: t1) = fv at heq hrv ⊢
          generalize mkB (c1 :: t1) = uv at e1 e2 heq hex
          clear h1 hl hsz hlen hz hne hx9 hmore hlu hxu hF hN hts hsz9
          go_enter_defers Tryd.func30, Tryd.ntmps30
          go_wp2_with (first | (go_at_call 52; with_reducible refine hbl.mono ?_; rintro e w1 ⟨rfl, hb1⟩; have H1 := Lib.hid (hmv _ hb1); have k0 := H1.out.cell1; have k00 := H1.out.cell0; have k2 := hrl _ H1.out; have F3 := hrf _ H1.out; have k3 := F3.1; have k4 := F3.2; clear F3) | (go_at_call 51; with_reducible refine (my _ _).mono ?_; rintro e w' ⟨rfl, rfl⟩))
          go_quiet (fail)
          have H5 := Lib.hid (hrv _ (H1.out.move (pw_below_drewN (Below.refl w1.heap.size w1) (nq + 1))))
          have E5 := H5.out.errCell
          have e51 := E5.1
          have e52 := E5.2
          clear E5 hrv hrl hrf hmv
          go_wp2
          go_region
          go_wp2
          refine leaves_cons (f := 50) (args := #[.pointer (some ⟨W.heap.size, 0, none⟩)]) (by simp) (by simp [go_sem]) ?_
          refine (catch_none ⟨W.heap.size, 0, none⟩ _).mono ?_
          rintro e u' w'' ⟨rfl, rfl, rfl⟩
          have HE := H5.out.errCell.1
          simp [Leaves, settle, results, Tryd.results30, go_sem, HE]
          exact ⟨_, _, H5.out.setErr hgs hB 0⟩
end Go.Proofs.YtekplcjgmnahmaaDoor.PA
namespace Go.Proofs.YtekplcjgmnahmaaDoor.PA
open Go.RowKit Go.Proofs.YtekplcjgmnahmaaDoorW.PrintWords Go.Proofs.YtekplcjgmnahmaaDoorW.PrintLast Go.Proofs.YtekplcjgmnahmaaDoorW.PrintMore

theorem lines_len : ∀ s : List UInt8, (linesL s).length ≤ s.length + 1 := by
  intro s
  induction s with
  | nil => exact Nat.le_refl _
  | cons c s ih =>
    unfold linesL
    split
    · simp only [List.length_cons]; omega
    · split
      · rename_i e; rw [e] at ih; simp only [List.length_cons] at ih ⊢; omega
      · simp
theorem line_len1 : ∀ s : List UInt8, ∀ x ∈ linesL s, x.length ≤ s.length := by
  intro s
  induction s with
  | nil => intro x hx; simp [linesL] at hx; subst hx; exact Nat.le_refl _
  | cons c s ih =>
    intro x hx
    unfold linesL at hx
    split at hx
    · rcases List.mem_cons.1 hx with h | h
      · subst h; exact Nat.zero_le _
      · exact Nat.le_trans (ih x h) (Nat.le_succ _)
    · split at hx
      · rename_i l ls e
        rcases List.mem_cons.1 hx with h | h
        · subst h
          have := ih l (by rw [e]; exact List.mem_cons_self)
          simp only [List.length_cons]; omega
        · exact Nat.le_trans (ih x (by rw [e]; exact List.mem_cons_of_mem _ h)) (Nat.le_succ _)
      · rw [List.mem_singleton] at hx; subst hx; simp
theorem ValsLe.mono {N M : Nat} {l : List (List Fd)} (h : ValsLe N l) (hm : N ≤ M) : ValsLe M l := fun st hst f hf => Nat.le_trans (h st hst f hf) hm
theorem S_nil (w : World) (base : Nat) : Kd.S (Kd.slice 49 k49) 36 w base (fun _ => True) (.slice none 0 0) [] := ⟨fun _ => 0, Kd.R_nil _ _ _ _ _⟩
theorem read_step (ss : List (List UInt8)) (kk : Nat) (l : List (List Fd)) (o : Bool) (hk : kk < ss.length) : readG (ss.drop kk) kk l o = match lineG l o ss[kk] with
    | .error e => ([], (kk : Int) + 1, e)
    | .ok (l', o') => readG (ss.drop (kk + 1)) (kk + 1) l' o' := by
  rw [List.drop_eq_getElem_cons hk, readG]
  cases lineG l o ss[kk] <;> rfl
def lineCells (ls : List (List UInt8)) : Array Value := ((ls.map mkB).map Value.string).toArray
theorem lineCells_at (ls : List (List UInt8)) (k : Nat) (hk : k < ls.length) : (lineCells ls)[k]? = some (.string (mkB ls[k])) := by
  simp [lineCells, hk]
def stanza_Parse.f (a0 : ByteArray) : Option (List (List Fd) × Int × Int) := some (parseL a0.data.toList)

set_option maxRecDepth 20000 in
set_option maxHeartbeats 4000000 in
theorem stanza_Parse.calls (a0 : ByteArray) (r1 : List (List Fd)) (r2 r3 : Int) (w : World) (hG : GlobMaxLen w) (h : stanza_Parse.f a0 = some (r1, r2, r3)) :
    Calls Tryd.prog 10 #[.string a0] w fun e w' => ∃ v0_ : Value, e = .returned (.tuple #[v0_, .int .i64 r2, .int .i64 r3]) ∧ Kd.S (Kd.slice 49 k49) 36 w' w.heap.size (fun _ => True) v0_ r1 ∧ Below w.heap.size w w' := by
  have h := Option.some.inj h
  have hsz : a0.size = a0.data.toList.length := (data_length a0).symm
  unfold parseL at h
  split at h
  case isTrue hbig =>
    cases h
    have q1 : (60000 : Int) < (a0.size : Int) := by omega
    clear hbig hsz
    go_enter Tryd.func10, Tryd.ntmps10
    go_wp2
    go_ret3
    exact ⟨_, rfl, S_nil _ _, Below.refl _ _⟩
  case isFalse hbig =>
    have q1 : ¬ (60000 : Int) < (a0.size : Int) := by omega
    have hb1 := alloc_below w (.cells #[.slice none 0 0, .bool false] 57)
    obtain ⟨m, hm⟩ := hG.below hb1
    have hsp := Tryd.strings_Split a0 ⟨#[10]⟩ m _ (by omega) hm (by decide)
    rw [splitB_lines, splitB_len, show (w.alloc (.cells #[.slice none 0 0, .bool false] 57)).heap.size = w.heap.size + 1 by simp] at hsp
    have hll := lines_len a0.data.toList
    have hl1 := line_len1 a0.data.toList
    generalize linesL a0.data.toList = ls at h hsp hll hl1
    change Calls _ _ _ _ fun e w' => _ ∧ w' = (w.alloc (.cells #[.slice none 0 0, .bool false] 57)).alloc (.cells (lineCells ls) 9) at hsp
    have hst : RdP 36 57 w.heap.size w ((w.alloc (.cells #[.slice none 0 0, .bool false] 57)).alloc (.cells (lineCells ls) 9)) w.heap.size [⟨w.heap.size + 1, lineCells ls, 9⟩] (.slice none 0 0) [] [] false := by
      have h1 := (RdP.start (TS := 36) hb1 hb1.size (Nat.le_refl _) (heap_alloc_new w _)).move (alloc_below (w.alloc (.cells #[.slice none 0 0, .bool false] 57)) (.cells (lineCells ls) 9))
      refine ⟨h1.bel, h1.base, h1.hrb, h1.cell, h1.row, h1.rows, h1.apart, fun q hq => ?_⟩
      rw [List.mem_singleton] at hq
      subst hq
      refine ⟨?_, (show 36 ≠ 9 by decide), (show 57 ≠ 9 by decide), (show 49 ≠ 9 by decide)⟩
      have := heap_alloc_new (w.alloc (.cells #[.slice none 0 0, .bool false] 57)) (.cells (lineCells ls) 9)
      rw [show (w.alloc (.cells #[.slice none 0 0, .bool false] 57)).heap.size = w.heap.size + 1 by simp] at this
      exact this
    have HS := Lib.hid hst
    have HG := Lib.hid hG
    have HR := Lib.hid h
    have HL1 := Lib.hid hl1
    clear hst hm hb1 h hl1 hsz hG
    go_enter Tryd.func10, Tryd.ntmps10
    go_wp2_with (go_at_call 29; with_reducible refine hsp.mono ?_; rintro e w1 ⟨rfl, rfl⟩)
    have hn : ls.length < 9223372036854775807 := by omega
    clear hsp q1
    go_loopg [6, 7, 8, 15] ls.length (fun gg _ _ _ s15 wr => ∃ (kk : Nat) (l : List (List Fd)) (o : Bool) (v : Value) (vs : List Value), kk ≤ ls.length ∧ ls.length - kk ≤ gg ∧ s15 = .int .i64 kk ∧ Aside (RdP 36 57 w.heap.size w wr w.heap.size [⟨w.heap.size + 1, lineCells ls, 9⟩] v vs l o) ∧ Aside (FineR l o) ∧ Aside (ValsLe (kk * 60000) l) ∧ Aside (readG (ls.drop kk) kk l o = (r1, r2, r3)))
    case atStart => exact ⟨0, [], false, _, _, Nat.zero_le _, by omega, rfl, HS.out, fine_start, vals_start _, by rw [List.drop_zero]; exact HR.out⟩
    case round =>
      obtain ⟨kk, l, o, v, vs, hkk, hg, rfl, RP, RF, RV, RR⟩ := hrel
      by_cases hlt : kk < ls.length
      · have hltz : (kk : Int) < (ls.length : Int) := by omega
        have hcell : wr.cell? ⟨w.heap.size + 1, kk, none⟩ = some (.string (mkB ls[kk])) := by
          rw [cell_of_row wr _ kk _ _ _ (RP.out.guest _ (List.mem_singleton.2 rfl)).1, lineCells_at ls kk hlt]
        have hlk := HL1.out ls[kk] (List.getElem_mem hlt)
        have hlc := line_calls w wr w.heap.size [⟨w.heap.size + 1, lineCells ls, 9⟩] (by intro q hq; rw [List.mem_singleton] at hq; subst hq; exact (show 9 ≠ 24 by decide)) v vs l o (mkB ls[kk]) (kk * 60000) (by rw [mkB_size]; omega) HG.out RF.out RV.out (by rw [mkB_size]; omega) RP.out
        have hrs := RR.out
        rw [read_step ls kk l o hlt] at hrs
        have hfl := fun l' o' => fine_line (l' := l') (o' := o') (s := ls[kk]) RF.out
        have hvl := fun l' o' => vals_line (l' := l') (o' := o') (s := ls[kk]) RV.out RF.out.2.2
        rw [show (mkB ls[kk]).data.toList = ls[kk] from rfl] at hlc
        cases hq : lineG l o ls[kk] with
        | error q =>
          have hq0 := line_err hq
          rw [hq] at hlc hrs
          have hq1 : (q != 0) = true := bne_iff_ne.2 hq0
          cases hrs
          dsimp only at hlc
          have hwr : IntKind.i64.wrap ((kk : Int) + 1) = (kk : Int) + 1 := by rw [i64_w]; unfold wrap64; omega
          clear hfl hvl RF RV RR
          go_wp2_with (go_at_call 30; with_reducible refine hlc.mono ?_; rintro e w3 ⟨rfl, hb3⟩)
          go_ret3
          exact ⟨_, rfl, S_nil _ _, hb3⟩
        | ok p =>
          rw [hq] at hlc hrs
          dsimp only at hlc hrs
          have HF := Lib.hid (hfl p.1 p.2 hq)
          have HV := Lib.hid ((hvl p.1 p.2 hq).mono (show kk * 60000 + ls[kk].length ≤ (kk + 1) * 60000 by omega))
          have HRR := Lib.hid hrs
          clear hfl hvl RF RV RR hrs
          go_wp2_with (go_at_call 30; with_reducible refine hlc.mono ?_; rintro e w3 ⟨rfl, v3, vs3, h3⟩; have H3 := Lib.hid h3; clear h3)
          go_roundg (ls.length - (kk + 1))
          case measure => omega
          case rel => exact ⟨kk + 1, p.1, p.2, v3, vs3, by omega, by omega, by go_num, H3.out, HF.out, HV.out, HRR.out⟩
      · have hltz : ¬ (kk : Int) < (ls.length : Int) := by omega
        have hrs := RR.out
        rw [List.drop_eq_nil_of_le (by omega)] at hrs
        cases hrs
        have k0 := RP.out.cell0
        have HSS := Lib.hid (RP.out.S (by decide))
        have HBB := Lib.hid RP.out.bel
        clear RF RV RR RP
        go_wp2
        go_ret3
        exact ⟨_, rfl, HSS.out, HBB.out⟩
end Go.Proofs.YtekplcjgmnahmaaDoor.PA
