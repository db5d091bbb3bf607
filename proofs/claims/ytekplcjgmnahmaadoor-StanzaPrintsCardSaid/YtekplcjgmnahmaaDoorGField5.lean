/- keelson/stanza's reader: must, field: what they come to. Conditions: the reader lies as GRead says; a line has at most 2^32 bytes or so. -/
import Derived.Test.YtekplcjgmnahmaaDoorGRead
import Derived.Test.YtekplcjgmnahmaaDoorMStanzaL
import Derived.Test.YtekplcjgmnahmaaDoorGName5
import Derived.Test.YtekplcjgmnahmaaDoorPAstanza1
import Derived.Test.YtekplcjgmnahmaaDoorGClone5
import Derived.StillTailTactics
import Derived.Deep.RegionHeld3
import Derived.Deep.AppendLies
import Derived.Deep.RegionLaw
namespace Go.Proofs.YtekplcjgmnahmaaDoor.PA
open Go.RowKit Go.Proofs.YtekplcjgmnahmaaDoorW.PrintWords Go.Proofs.YtekplcjgmnahmaaDoorW.PrintLast Go.Proofs.YtekplcjgmnahmaaDoorW.PrintMore

/-- The library's own number stands in its variable. -/
def GlobMaxLen (w : World) : Prop := ∃ m, w.cell? ⟨0, 0, none⟩ = some (.int .i64 m)
theorem GlobMaxLen.below {w W : World} (h : GlobMaxLen w) (hb : Below w.heap.size w W) : GlobMaxLen W := by
  obtain ⟨m, h⟩ := h
  exact ⟨m, pw_cell_below hb h⟩
def panE (q : Int) : List PanicEntry := [{ v := .iface 24 (.int .i64 q), recovered := false }]
theorem must_yes (q : Int) (w : World) : Calls Tryd.prog 51 #[.bool true, .int .i64 q] w fun e w' => e = .returned (.tuple #[]) ∧ w = w' := by
  go_enter Tryd.func51, Tryd.ntmps51
  go_wp2
  simp [bodyPost, results, Tryd.results51]
theorem must_no (q : Int) (w : World) : Calls Tryd.prog 51 #[.bool false, .int .i64 q] w fun e w' => e = .panicked (panE q) ∧ w = w' := by
  go_enter Tryd.func51, Tryd.ntmps51
  go_wp2
  exact ⟨rfl, rfl, rfl⟩
theorem get_is (st : List Fd) (n : ByteArray) : stanza_Get.f st n = some ((getG st n).getD ⟨#[]⟩, (getG st n).isSome) := by
  have hp : stanza_place.f st n = some (idxP (isName n) st) := rfl
  unfold stanza_Get.f
  rw [hp, Option.bind_some]
  unfold idxP getG
  cases e : st.findIdx? (isName n) with
  | none =>
    have : st.find? (fun f => decide (f.f0 = n)) = none := by
      rw [List.findIdx?_eq_none_iff] at e
      rw [List.find?_eq_none]
      intro x hx
      have := e x hx
      unfold isName at this
      rw [this]; decide
    rw [this]; rfl
  | some k =>
    obtain ⟨hk, h1, h2⟩ := List.findIdx?_eq_some_iff_getElem.1 e
    have : st.find? (fun f => decide (f.f0 = n)) = some st[k] := by
      rw [List.find?_eq_some_iff_getElem]
      exact ⟨h1, k, hk, rfl, fun j hj => by have := h2 j hj; unfold isName at this; simpa using this⟩
    rw [this]
    dsimp only
    rw [if_neg (by omega), if_pos (by omega), if_pos (by omega)]
    simp [rd_T49, List.getD_eq_getElem?_getD, List.getElem?_eq_getElem hk]
theorem fcells_C {B : Nat} {W : World} {z : Value} {x : List Fd} (h : OwnF B W z x) : ∃ A c, z = .slice A x.length c ∧ x.length ≤ c ∧ Kd.C k49 W A x.length x :=
  Kd.R_reads (d := k49) (e := 49) (base := B) (ok := fun _ => True) ⟨fun _ _ => trivial, _, h, fcells_reps _ _ _ x⟩
theorem RdP.lastAt {TS TR B : Nat} {w0 W : World} {rb : Nat} {gs : List Guest} {v : Value} {vs us : List Value} {z : Value} {l : List (List Fd)} {o : Bool} {g cap : Nat} (h : RdP TS TR B w0 W rb gs v vs l o) (hv : v = .slice (some ⟨g, 0, none⟩) l.length cap) (hvs : vs = us ++ [z]) (hl : us.length + 1 = l.length) :
    W.cell? ⟨g, us.length, none⟩ = some z ∧ W.frozen? ⟨g, us.length, none⟩ = false := by
  have hr := h.row
  rw [hv] at hr
  refine ⟨?_, World.ownsRow.frozenAt hr _⟩
  have := World.ownsRow.cells hr (g := g) rfl us.length z (by rw [hvs, List.getElem?_append_right (Nat.le_refl _), Nat.sub_self]; rfl)
  rwa [show (⟨g, 0, none⟩ : Addr).add us.length = ⟨g, us.length, none⟩ from by unfold Addr.add; split <;> simp_all] at this

theorem lastOwn {TS TR B : Nat} {w0 W : World} {rb : Nat} {gs : List Guest} {v : Value} {vs us : List Value} {z : Value} {l : List (List Fd)} {o : Bool} {x : List Fd} (h : RdP TS TR B w0 W rb gs v vs l o) (hl : l ≠ []) (hvs : vs = us ++ [z]) (hx : lastS l = x) : OwnF B W z x := by
  obtain ⟨us', z', hvs', _, hz', _⟩ := h.last hl
  obtain ⟨rfl, e2⟩ := List.append_inj' (hvs.symm.trans hvs') rfl
  cases e2
  rw [← hx]; exact hz'
theorem RdP.keptAt {TS TR B : Nat} {w0 W w4 : World} {rb : Nat} {gs : List Guest} {v : Value} {vs : List Value} {l : List (List Fd)} {o : Bool} (h : RdP TS TR B w0 W rb gs v vs l o) (hTS : TS ≠ TR) (hg : W.grownBy w4 v.ownBlock) :
    w4.cell? ⟨rb, 0, none⟩ = some v ∧ w4.cell? ⟨rb, 1, none⟩ = some (.bool o) ∧ w4.frozen? ⟨rb, 0, none⟩ = false ∧ w4.frozen? ⟨rb, 1, none⟩ = false := by
  have hb := hg.block rb h.lt (own_ne h.row h.cell hTS)
  exact ⟨(World.cell?_of_block hb).trans h.cell0, (World.cell?_of_block hb).trans h.cell1, (World.frozen?_of_block hb).trans (h.frozen 0), (World.frozen?_of_block hb).trans (h.frozen 1)⟩
theorem grown_drew {W w7 : World} {row : Option Nat} (h : W.drew.grownBy w7 row) : W.grownBy w7 row := ⟨h.os, h.tape, h.output, h.size, h.block⟩
/-- The last stanza has grown by a field, and its slice stands in its place. -/
theorem RdP.appended {TS TR B : Nat} {w0 W w7 : World} {rb : Nat} {gs : List Guest} {v : Value} {vs us : List Value} {z : Value} {l : List (List Fd)} {o : Bool} {x : List Fd} {f : Fd} {g cap g7 cap7 : Nat} {ob : Obj} (h : RdP TS TR B w0 W rb gs v vs l o) (hl : l ≠ []) (hTS : TS ≠ TR) (hTF : 49 ≠ TR) (hFS : 49 ≠ TS) (hv : v = .slice (some ⟨g, 0, none⟩) l.length cap) (hvs : vs = us ++ [z]) (hlen : us.length + 1 = l.length) (hx : lastS l = x)
    (ho : w7.ownsRow B 49 2 (.slice (some ⟨g7, 0, none⟩) (x.length + 1) cap7) (x.length + 1) (fcells x ++ [.string f.f0, .string f.f1])) (hg : (W.alloc ob).drew.grownBy w7 z.ownBlock) (hat : z.ownBlock = some g7 ∨ g7 = W.heap.size + 1) :
    RdP TS TR B w0 (w7.setCell ⟨g, us.length, none⟩ (.slice (some ⟨g7, 0, none⟩) (x.length + 1) cap7)) rb gs v (us ++ [.slice (some ⟨g7, 0, none⟩) (x.length + 1) cap7]) (l.dropLast ++ [x ++ [f]]) o := by
  have hO := lastOwn h hl hvs hx
  have hb : Below B w0 w7 := (h.bel.alloc h.base ob).grown (grown_drew hg) (Nat.le_trans h.base (by simp)) (own_base hO)
  have h1 : OwnF B w7 (.slice (some ⟨g7, 0, none⟩) (x.length + 1) cap7) (x ++ [f]) := by
    show w7.ownsRow _ _ _ _ (x ++ [f]).length _
    rw [List.length_append, List.length_singleton, fcells_app]
    exact ho
  have := h.put hl hTS hTF hFS hv hvs hb ((World.grownBy_alloc W ob _).trans (grown_drew hg)) h1 (by
    rcases hat with e | e
    · exact .inl (by rw [e]; rfl)
    · exact .inr ⟨g7, rfl, by omega⟩)
  rw [show l.length - 1 = us.length by omega] at this
  exact this
theorem RdP.stay {TS TR B : Nat} {w0 W w7 : World} {rb : Nat} {gs : List Guest} {vs : List Value} {z : Value} {l : List (List Fd)} {o : Bool} {x : List Fd} {g n cap : Nat} {ob : Obj} (h : RdP TS TR B w0 W rb gs (.slice (some ⟨g, 0, none⟩) n cap) vs l o) (hz : OwnF B W z x) (hFS : 49 ≠ TS) (hg : (W.alloc ob).drew.grownBy w7 z.ownBlock) (j : Nat) :
    w7.cell? ⟨g, j, none⟩ = W.cell? ⟨g, j, none⟩ ∧ w7.frozen? ⟨g, j, none⟩ = W.frozen? ⟨g, j, none⟩ := by
  have hlt : g < W.heap.size := own_lt h.row g rfl
  have hne : some g ≠ z.ownBlock := by
    rcases own_type_ne h.row hz (Ne.symm hFS) with e | e
    · cases e
    · exact e
  have hb := (World.grownBy_alloc W ob z.ownBlock).trans (grown_drew hg)
  exact ⟨World.cell?_of_block (hb.block g hlt hne), World.frozen?_of_block (hb.block g hlt hne)⟩
set_option maxRecDepth 20000 in
set_option maxHeartbeats 4000000 in
theorem field_calls (w0 W : World) (rb : Nat) (gs : List Guest) (v : Value) (vs : List Value) (l : List (List Fd)) (o : Bool) (s : ByteArray) (hs : s.size < 4294967281) (hG : GlobMaxLen w0) (hF : FineR l o)
    (h : RdP 36 57 w0.heap.size w0 W rb gs v vs l o) :
    Calls Tryd.prog 53 #[.pointer (some ⟨rb, 0, none⟩), .string s] W fun e w' =>
      match fieldG l o s.data.toList with
      | .error q => e = .panicked (panE q) ∧ ∃ v' vs' l' o', RdP 36 57 w0.heap.size w0 w' rb gs v' vs' l' o'
      | .ok p => e = .returned (.tuple #[]) ∧ ∃ v' vs', RdP 36 57 w0.heap.size w0 w' rb gs v' vs' p.1 p.2 := by
  obtain ⟨m, hm⟩ := hG.below h.bel
  have hcut := Tryd.strings_Cut s ⟨#[58]⟩ m W hs hm
  rw [show (⟨#[58]⟩ : ByteArray).data.toList = [58] from rfl, cut_colon] at hcut
  have hname := fun w => stanza_Name.calls (mkB (colonL s.data.toList).1) (nameL (colonL s.data.toList).1) w rfl
  have htrim := Tryd.strings_TrimLeft_one (mkB (colonL s.data.toList).2.1) 32 (by decide)
  rw [show (mkB (colonL s.data.toList).2.1).data.toList = (colonL s.data.toList).2.1 from rfl, trim_space] at htrim
  change Calls _ _ _ _ fun e w' => e = .returned (.tuple #[.string (mkB (colonL s.data.toList).1), .string (mkB (colonL s.data.toList).2.1), .bool (colonL s.data.toList).2.2]) ∧ _ at hcut
  change ∀ w, Calls _ _ _ _ fun e w' => e = .returned (.string (mkB (trimL (colonL s.data.toList).2.1))) ∧ _ at htrim
  obtain ⟨r, hr⟩ : ∃ r, fieldG l o s.data.toList = r := ⟨_, rfl⟩
  rw [hr]
  unfold fieldG at hr
  generalize colonL s.data.toList = c at hcut hname htrim hr
  obtain ⟨a, b, is⟩ := c
  dsimp only at hcut hname htrim hr
  generalize trimL b = tb at htrim hr
  have my := must_yes
  have mn := must_no
  have hFl := hF.2.2
  have hF1 := hF.1
  clear hm hs hF
  have hmv : ∀ (n : Nat) (w1 : World), Below (W.drewN n).heap.size (W.drewN n) w1 → RdP 36 57 w0.heap.size w0 w1 rb gs v vs l o := fun n w1 hb => (h.move (pw_below_drewN (Below.refl W.heap.size W) n)).move hb
  cases is with
  | false =>
    rw [Bool.false_and, if_neg (by decide)] at hr
    subst hr
    clear h
    go_enter Tryd.func53, Tryd.ntmps53
    go_wp2_with (first | (go_at_call 73; with_reducible refine hcut.mono ?_; rintro e w' ⟨rfl, n, rfl⟩) | (go_at_call 51; with_reducible refine (mn _ _).mono ?_; rintro e w' ⟨rfl, rfl⟩))
    exact ⟨rfl, rfl, _, _, _, _, hmv _ _ (Below.refl _ _)⟩
  | true =>
  cases hn : nameL a with
  | false =>
    rw [hn] at hname hr
    rw [Bool.and_false, if_neg (by decide)] at hr
    subst hr
    clear h
    go_enter Tryd.func53, Tryd.ntmps53
    go_wp2_with (first | (go_at_call 73; with_reducible refine hcut.mono ?_; rintro e w' ⟨rfl, n, rfl⟩) | (go_at_call 23; with_reducible refine (hname _).mono ?_; rintro e w1 ⟨rfl, hb1⟩) | (go_at_call 51; with_reducible refine (mn _ _).mono ?_; rintro e w' ⟨rfl, rfl⟩))
    exact ⟨rfl, rfl, _, _, _, _, hmv _ _ hb1⟩
  | true =>
  rw [hn] at hname hr
  rw [Bool.and_true, if_pos rfl] at hr
  cases o with
  | true =>
    have hl := hFl rfl
    rw [if_pos rfl] at hr
    obtain ⟨g, cap, hv, hBg, _⟩ := h.slice hl
    obtain ⟨us, z, hvs, _, hz, hlen⟩ := h.last hl
    obtain ⟨Az, cz, hzv, hcz, _⟩ := fcells_C hz
    have hrl : ∀ w1, RdP 36 57 w0.heap.size w0 w1 rb gs v vs l true → w1.cell? ⟨g, us.length, none⟩ = some z := fun w1 H => (H.lastAt hv hvs hlen).1
    have hrz : ∀ w1, RdP 36 57 w0.heap.size w0 w1 rb gs v vs l true → Kd.C k49 w1 Az (lastS l).length (lastS l) := by
      intro w1 H
      obtain ⟨us', z', hvs', _, hz', _⟩ := H.last hl
      obtain ⟨rfl, e2⟩ := List.append_inj' (hvs.symm.trans hvs') rfl
      cases e2
      obtain ⟨A', c', e, _, hC⟩ := fcells_C hz'
      rw [hzv] at e
      cases e
      exact hC
    have hget := fun (w1 : World) (H : RdP 36 57 w0.heap.size w0 w1 rb gs v vs l true) => stanza_Get.calls Az cz (lastS l) (mkB a) _ _ w1 (hrz w1 H) hcz (get_is (lastS l) (mkB a))
    rw [← hlen] at hv
    have i1 : IntKind.i64.wrap ((us.length : Int) + 1 - 1) = (us.length : Int) := by
      rw [i64_w]; unfold wrap64; omega
    have i1b : IntKind.i64.wrap (us.length : Int) = (us.length : Int) := by
      rw [i64_w]; unfold wrap64; omega
    have i2 : (0 ≤ (us.length : Int)) = True := eq_true (by omega)
    have i3 : ((us.length : Int) < (us.length : Int) + 1) = True := eq_true (by omega)
    generalize hx : lastS l = x at hr hget hrz hzv
    subst hv hzv
    have HL := Lib.hid hlen
    clear hz hcz hrz hlen
    cases hgn : getG x (mkB a) with
    | some y =>
      rw [hgn] at hr hget
      dsimp only [Option.isSome, Option.getD] at hr hget
      rw [if_pos rfl] at hr
      subst hr
      clear h
      go_enter Tryd.func53, Tryd.ntmps53
      go_wp2_with (first | (go_at_call 73; with_reducible refine hcut.mono ?_; rintro e w' ⟨rfl, n, rfl⟩) | (go_at_call 23; with_reducible refine (hname _).mono ?_; rintro e w1 ⟨rfl, hb1⟩; have H1 := Lib.hid (hmv _ _ hb1); have c0 := H1.out.cell0; have c1 := H1.out.cell1; have c2 := hrl _ H1.out) | (go_at_call 51; with_reducible refine (my _ _).mono ?_; rintro e w' ⟨rfl, rfl⟩))
      go_quiet (fail)
      have G6 := Lib.hid (hget _ (H1.out.move (pw_below_drewN (Below.refl w1.heap.size w1) nq)))
      have D6 := Lib.hid (fun w6 (hb : Below (w1.drewN nq).heap.size (w1.drewN nq) w6) => (H1.out.move (pw_below_drewN (Below.refl w1.heap.size w1) nq)).move hb)
      go_wp2_with (first | (go_at_call 16; with_reducible refine G6.out.mono ?_; rintro e w6 ⟨rfl, hb6⟩) | (go_at_call 51; with_reducible refine (mn _ _).mono ?_; rintro e w' ⟨rfl, rfl⟩))
      exact ⟨rfl, rfl, _, _, _, _, D6.out _ hb6⟩
    | none =>
      rw [hgn] at hr hget
      dsimp only [Option.isSome, Option.getD] at hr hget
      rw [if_neg (by decide)] at hr
      by_cases h40 : x.length < 40
      case neg =>
        rw [if_neg h40] at hr
        subst hr
        clear h
        have j1 : decide ((x.length : Int) < 40) = false := decide_eq_false (by omega)
        go_enter Tryd.func53, Tryd.ntmps53
        go_wp2_with (first | (go_at_call 73; with_reducible refine hcut.mono ?_; rintro e w' ⟨rfl, n, rfl⟩) | (go_at_call 23; with_reducible refine (hname _).mono ?_; rintro e w1 ⟨rfl, hb1⟩; have H1 := Lib.hid (hmv _ _ hb1); have c0 := H1.out.cell0; have c1 := H1.out.cell1; have c2 := hrl _ H1.out) | (go_at_call 51; with_reducible refine (my _ _).mono ?_; rintro e w' ⟨rfl, rfl⟩))
        go_quiet (fail)
        have G6 := Lib.hid (hget _ (H1.out.move (pw_below_drewN (Below.refl w1.heap.size w1) nq)))
        have D6 := Lib.hid (fun w6 (hb : Below (w1.drewN nq).heap.size (w1.drewN nq) w6) => ((H1.out.move (pw_below_drewN (Below.refl w1.heap.size w1) nq)).move hb))
        go_wp2_with (first | (go_at_call 16; with_reducible refine G6.out.mono ?_; rintro e w6 ⟨rfl, hb6⟩; have H6 := Lib.hid (D6.out _ hb6); have d2 := hrl _ H6.out) | (go_at_call 51; with_reducible refine (my _ _).mono ?_; rintro e w' ⟨rfl, rfl⟩) | (go_at_call 51; with_reducible refine (mn _ _).mono ?_; rintro e w' ⟨rfl, rfl⟩))
        exact ⟨rfl, rfl, _, _, _, _, H6.out⟩
      case pos =>
        rw [if_pos h40] at hr
        subst hr
        have j1 : (x.length : Int) < 40 := by omega
        clear h
        go_enter Tryd.func53, Tryd.ntmps53
        go_wp2_with (first | (go_at_call 73; with_reducible refine hcut.mono ?_; rintro e w' ⟨rfl, n, rfl⟩) | (go_at_call 23; with_reducible refine (hname _).mono ?_; rintro e w1 ⟨rfl, hb1⟩; have H1 := Lib.hid (hmv _ _ hb1); have c0 := H1.out.cell0; have c1 := H1.out.cell1; have c2 := hrl _ H1.out) | (go_at_call 51; with_reducible refine (my _ _).mono ?_; rintro e w' ⟨rfl, rfl⟩))
        go_quiet (fail)
        have G6 := Lib.hid (hget _ (H1.out.move (pw_below_drewN (Below.refl w1.heap.size w1) nq)))
        have D6 := Lib.hid (fun w6 (hb : Below (w1.drewN nq).heap.size (w1.drewN nq) w6) => ((H1.out.move (pw_below_drewN (Below.refl w1.heap.size w1) nq)).move hb))
        go_wp2_with (first | (go_at_call 16; with_reducible refine G6.out.mono ?_; rintro e w6 ⟨rfl, hb6⟩; have H6 := Lib.hid (D6.out _ hb6); have d2 := hrl _ H6.out) | (go_at_call 51; with_reducible refine (my _ _).mono ?_; rintro e w' ⟨rfl, rfl⟩))
        have F6 := Lib.hid (H6.out.lastAt (by rw [HL.out]) hvs HL.out).2
        have O6 := Lib.hid (lastOwn H6.out hl hvs hx)
        have d3 : ∀ ob, (w6.alloc ob).cell? ⟨g, us.length, none⟩ = some (.slice Az x.length cz) := fun ob => pw_cell_below (alloc_below w6 ob) d2
        obtain ⟨i49, hi49, hz49⟩ := Option.map_eq_some_iff.1 info49
        simp only [Prod.mk.injEq] at hz49
        obtain ⟨hi1, hi2, hi3⟩ := hz49
        have hne6 := own_type_ne O6.out H6.out.row (show 49 ≠ 36 by decide)
        have n6 : ∀ (j : Nat) u, ([.string (mkB a), .string (mkB tb)] : List Value)[j]? = some u → (w6.alloc (.cells #[.string (mkB a), .string (mkB tb)] 49)).drew.cell? ((⟨w6.heap.size, 0, none⟩ : Addr).add j) = some u := by simpa using World.news_of_block (cs := #[.string (mkB a), .string (mkB tb)]) (t := 49) (fr := (0, 0)) (heap_alloc_new w6 (.cells #[.string (mkB a), .string (mkB tb)] 49))
        have o6 : ∀ u ∈ ([.string (mkB a), .string (mkB tb)] : List Value), u.oneCell' = true := by
          intro u hu
          simp only [List.mem_cons, List.not_mem_nil, or_false] at hu
          rcases hu with rfl | rfl <;> rfl
        have s6 : w0.heap.size ≤ (w6.alloc (.cells #[.string (mkB a), .string (mkB tb)] 49)).drew.heap.size := Nat.le_trans H6.out.base (alloc_base w6 _)
        have z6 : (w6.alloc (.cells #[.string (mkB a), .string (mkB tb)] 49)).drew.heap.size = w6.heap.size + 1 := by simp
        have m6 : x.length + 1 ≤ maxLen := by simp only [maxLen]; omega
        have b6 : (x.length + 1) * 32 ≤ 140737488355328 := by omega
        have k7 : ∀ w7 : World, (w6.alloc (.cells #[.string (mkB a), .string (mkB tb)] 49)).drew.grownBy w7 (Value.slice Az x.length cz).ownBlock → w7.cell? ⟨g, us.length, none⟩ = some (.slice Az x.length cz) := fun w7 hg => (H6.out.stay O6.out (by decide) hg _).1.trans d2
        have k8 : ∀ w7 : World, (w6.alloc (.cells #[.string (mkB a), .string (mkB tb)] 49)).drew.grownBy w7 (Value.slice Az x.length cz).ownBlock → w7.frozen? ⟨g, us.length, none⟩ = false := fun w7 hg => (H6.out.stay O6.out (by decide) hg _).2.trans F6.out
        go_region_law (first | (go_simp; go_at_call 74; refine (htrim _).mono ?_; rintro e w' ⟨rfl, rfl⟩) | (refine step_append_lies _ rfl (.tmp 77) (.tmp 82) 36 rfl w0.heap.size 49 i49 _ 2 32 Tryd.underlying36 hi49 hi1 hi2 hi3 rfl (by decide) (.slice Az x.length cz) x.length (fcells x) rfl (O6.out.alloc _) ⟨w6.heap.size, 0, none⟩ 1 1 [.string (mkB a), .string (mkB tb)] rfl rfl n6 o6 (by decide) m6 b6 s6 (w6.heap.size + 1) z6 ?_; intro g7 cap7 w7 hown7 hg7 hat7 hlt7; have e7 := k7 w7 hg7; have e8 := k8 w7 hg7))
        all_goals
          have h8 := H6.out.appended (f := ⟨mkB a, mkB tb⟩) hl (by decide) (by decide) (by decide) (by rw [HL.out]) hvs HL.out hx hown7 hg7 hat7
          go_wp2
          simp only [bodyPost, results, Tryd.results53]
          exact ⟨trivial, .tuple #[], (by first | rfl | simp [go_sem]), rfl, _, _, h8⟩
  | false =>
    rw [if_neg (by decide)] at hr
    obtain ⟨A1, cap1, hv1⟩ := h.anySlice
    subst hv1
    by_cases h200 : l.length < 200
    case neg =>
      rw [if_neg h200] at hr
      subst hr
      have j1 : decide ((l.length : Int) < 200) = false := decide_eq_false (by omega)
      clear h
      go_enter Tryd.func53, Tryd.ntmps53
      go_wp2_with (first | (go_at_call 73; with_reducible refine hcut.mono ?_; rintro e w' ⟨rfl, n, rfl⟩) | (go_at_call 23; with_reducible refine (hname _).mono ?_; rintro e w1 ⟨rfl, hb1⟩; have H1 := Lib.hid (hmv _ _ hb1); have c0 := H1.out.cell0; have c1 := H1.out.cell1) | (go_at_call 51; with_reducible refine (my _ _).mono ?_; rintro e w' ⟨rfl, rfl⟩) | (go_at_call 51; with_reducible refine (mn _ _).mono ?_; rintro e w' ⟨rfl, rfl⟩))
      exact ⟨rfl, rfl, _, _, _, _, H1.out⟩
    case pos =>
      rw [if_pos h200] at hr
      subst hr
      have j1 : (l.length : Int) < 200 := by omega
      have b1 : (l.length + 1) * 24 ≤ 140737488355328 := by omega
      have o1 : ∀ u ∈ ([.slice none 0 0] : List Value), u.oneCell' = true := by
        intro u hu
        rw [List.mem_singleton] at hu
        subst hu; rfl
      clear h
      go_enter Tryd.func53, Tryd.ntmps53
      go_wp2_with (first | (go_at_call 73; with_reducible refine hcut.mono ?_; rintro e w' ⟨rfl, n, rfl⟩) | (go_at_call 23; with_reducible refine (hname _).mono ?_; rintro e w1 ⟨rfl, hb1⟩; have H1 := Lib.hid (hmv _ _ hb1); have c0 := H1.out.cell0; have c1 := H1.out.cell1) | (go_at_call 51; with_reducible refine (my _ _).mono ?_; rintro e w' ⟨rfl, rfl⟩) | ((with_reducible refine gate_builtin (b := .append) (xs := #[.tmp 39, .tmp 40]) rfl ?_); (try (refine gate_guard (by rfl) ?_; dsimp only)); at_builtin; refine print_append_cells (w0 := w0) w0.heap.size rfl (.tmp 39) (.tmp 40) 23 36 _ 1 24 rfl Tryd.underlying23 info36 rfl (by decide) (by decide) (.slice A1 l.length cap1) l.length vs [.slice none 0 0] rfl rfl rfl o1 H1.out.row H1.out.bel H1.out.base b1 ?_; intro v4 w4 hown4 hb4 hg4 hat4; obtain ⟨A4, cap4, rfl⟩ := own_slice hown4; have K4 := Lib.hid (H1.out.keptAt (by decide) hg4); have k40 := K4.out.1; have k41 := K4.out.2.1; have k42 := K4.out.2.2.1; have k43 := K4.out.2.2.2; have P4 := Lib.hid (H1.out.pushed (by decide) (by decide) (by decide) hown4 hb4 hg4); clear hown4 hb4 hg4 hat4))
      have hvl : l.length = vs.length := H1.out.rows.1.symm
      clear k40 k41 k42 k43 K4 c0 c1 H1 hb1 hmv b1 o1 j1
      generalize ((w4.setCell ⟨rb, 0, none⟩ (.slice A4 (l.length + 1) cap4)).setCell ⟨rb, 1, none⟩ (.bool true)) = w5 at P4 ⊢
      obtain ⟨g, cap, hv5, _, _⟩ := P4.out.slice (by simp)
      obtain ⟨rfl, _, _⟩ : A4 = some ⟨g, 0, none⟩ ∧ True ∧ True := by injection hv5 with h1 _ _; exact ⟨h1, trivial, trivial⟩
      clear hv5
      rw [hvl] at P4 ⊢
      have hl5 : l ++ [([] : List Fd)] ≠ [] := by simp
      have HL := Lib.hid (show vs.length + 1 = (l ++ [([] : List Fd)]).length by rw [List.length_append, hvl]; rfl)
      have hrl : ∀ w1, RdP 36 57 w0.heap.size w0 w1 rb gs (.slice (some ⟨g, 0, none⟩) (vs.length + 1) cap4) (vs ++ [.slice none 0 0]) (l ++ [[]]) true → w1.cell? ⟨g, vs.length, none⟩ = some (.slice none 0 0) := fun w1 H => (H.lastAt (by rw [HL.out]) rfl HL.out).1
      have hget : ∀ w1, Calls Tryd.prog 16 #[.slice none 0 0, .string (mkB a)] w1 fun e w' => e = .returned (.tuple #[.string ⟨#[]⟩, .bool false]) ∧ Below w1.heap.size w1 w' := fun w1 => stanza_Get.calls none 0 [] (mkB a) _ _ w1 (C_nil _ _ _) (Nat.le_refl _) (get_is [] (mkB a))
      have i1 : IntKind.i64.wrap ((vs.length : Int) + 1 - 1) = (vs.length : Int) := by
        rw [i64_w]; unfold wrap64; omega
      have i1b : IntKind.i64.wrap (vs.length : Int) = (vs.length : Int) := by
        rw [i64_w]; unfold wrap64; omega
      have i2 : (0 ≤ (vs.length : Int)) = True := eq_true (by omega)
      have i3 : ((vs.length : Int) < (vs.length : Int) + 1) = True := eq_true (by omega)
      have HV := Lib.hid hvl
      clear hvl h200 hF1 hFl
      have c0 := P4.out.cell0
      have c2 := hrl _ P4.out
      go_quiet (fail)
      have D6 := Lib.hid (fun w6 (hb : Below (w5.drewN nq).heap.size (w5.drewN nq) w6) => ((P4.out.move (pw_below_drewN (Below.refl w5.heap.size w5) nq)).move hb))
      go_wp2_with (first | (go_at_call 16; with_reducible refine (hget _).mono ?_; rintro e w6 ⟨rfl, hb6⟩; have H6 := Lib.hid (D6.out _ hb6); have d2 := hrl _ H6.out) | (go_at_call 51; with_reducible refine (my _ _).mono ?_; rintro e w' ⟨rfl, rfl⟩))
      have F6 := Lib.hid (H6.out.lastAt (by rw [HL.out]) rfl HL.out).2
      have O6 := Lib.hid (show OwnF w0.heap.size w6 (.slice none 0 0) [] from own_nil _ _ _ _)
      have d3 : ∀ ob, (w6.alloc ob).cell? ⟨g, vs.length, none⟩ = some (.slice none 0 0) := fun ob => pw_cell_below (alloc_below w6 ob) d2
      obtain ⟨i49, hi49, hz49⟩ := Option.map_eq_some_iff.1 info49
      simp only [Prod.mk.injEq] at hz49
      obtain ⟨hi1, hi2, hi3⟩ := hz49
      have n6 : ∀ (j : Nat) u, ([.string (mkB a), .string (mkB tb)] : List Value)[j]? = some u → (w6.alloc (.cells #[.string (mkB a), .string (mkB tb)] 49)).drew.cell? ((⟨w6.heap.size, 0, none⟩ : Addr).add j) = some u := by simpa using World.news_of_block (cs := #[.string (mkB a), .string (mkB tb)]) (t := 49) (fr := (0, 0)) (heap_alloc_new w6 (.cells #[.string (mkB a), .string (mkB tb)] 49))
      have o6 : ∀ u ∈ ([.string (mkB a), .string (mkB tb)] : List Value), u.oneCell' = true := by
        intro u hu
        simp only [List.mem_cons, List.not_mem_nil, or_false] at hu
        rcases hu with rfl | rfl <;> rfl
      have s6 : w0.heap.size ≤ (w6.alloc (.cells #[.string (mkB a), .string (mkB tb)] 49)).drew.heap.size := Nat.le_trans H6.out.base (alloc_base w6 _)
      have z6 : (w6.alloc (.cells #[.string (mkB a), .string (mkB tb)] 49)).drew.heap.size = w6.heap.size + 1 := by simp
      have k7 : ∀ w7 : World, (w6.alloc (.cells #[.string (mkB a), .string (mkB tb)] 49)).drew.grownBy w7 (Value.slice none 0 0).ownBlock → w7.cell? ⟨g, vs.length, none⟩ = some (.slice none 0 0) := fun w7 hg => (H6.out.stay O6.out (by decide) hg _).1.trans d2
      have k8 : ∀ w7 : World, (w6.alloc (.cells #[.string (mkB a), .string (mkB tb)] 49)).drew.grownBy w7 (Value.slice none 0 0).ownBlock → w7.frozen? ⟨g, vs.length, none⟩ = false := fun w7 hg => (H6.out.stay O6.out (by decide) hg _).2.trans F6.out
      go_region_law (first | (go_simp; go_at_call 74; refine (htrim _).mono ?_; rintro e w' ⟨rfl, rfl⟩) | (refine step_append_lies _ rfl (.tmp 77) (.tmp 82) 36 rfl w0.heap.size 49 i49 _ 2 32 Tryd.underlying36 hi49 hi1 hi2 hi3 rfl (by decide) (.slice none 0 0) 0 [] rfl (own_nil _ _ _ _) ⟨w6.heap.size, 0, none⟩ 1 1 [.string (mkB a), .string (mkB tb)] rfl rfl n6 o6 (by decide) (by decide) (by decide) s6 (w6.heap.size + 1) z6 ?_; intro g7 cap7 w7 hown7 hg7 hat7 hlt7; have e7 := k7 w7 hg7; have e8 := k8 w7 hg7))
      all_goals
        have h8 := H6.out.appended (x := []) (f := ⟨mkB a, mkB tb⟩) hl5 (by decide) (by decide) (by decide) (by rw [HL.out]) rfl HL.out (by simp [lastS]) hown7 hg7 hat7
        rw [List.dropLast_concat] at h8
        go_wp2
        simp only [bodyPost, results, Tryd.results53]
        exact ⟨trivial, .tuple #[], (by first | rfl | simp [go_sem]), rfl, _, _, h8⟩
end Go.Proofs.YtekplcjgmnahmaaDoor.PA
