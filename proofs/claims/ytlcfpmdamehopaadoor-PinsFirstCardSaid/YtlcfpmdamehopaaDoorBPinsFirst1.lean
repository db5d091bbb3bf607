/- PinsFirst returns true, whatever it is given, and leaves it as it was: a pin that is put ahead of all others, of the name itself, says what priority the versions have of which it speaks. Conditions: those of the given row alone. -/
import Derived.Test.YtlcfpmdamehopaaDoorBPinsFirst0
import Derived.Laws.EntriesVeiled
import Derived.Test.YtlcfpmdamehopaaDoorTie
import Derived.Test.YtlcfpmdamehopaaDoorCards
import Derived.SevenTiedAt
import Derived.OpenShut
import Derived.ShutString
import Derived.WideWitness
/- Pins' texts in program and reference: what is parsed and printed; what was printed is parsed as it was; as plain functions. Conditions: sizes that fit. -/
namespace Go.Proofs.YtlcfpmdamehopaaDoor.PA
open Go.RowKit Go.Proofs.YtlcfpmdamehopaaDoorW.PrintWords Go.Proofs.YtlcfpmdamehopaaDoorW.PrintLast Go.Proofs.YtlcfpmdamehopaaDoorW.PrintMore

theorem lines_consP (c : UInt8) (s : List UInt8) : linesL (c :: s) = if c.toNat = 10 then [] :: linesL s else match linesL s with | l :: ls => (c :: l) :: ls | [] => [[c]] := by rw [linesL]; rfl
theorem lines_total : ∀ s : List UInt8, ((linesL s).map List.length).sum ≤ s.length := by
  intro s
  induction s with
  | nil => simp [linesL]
  | cons c s ih =>
    rw [lines_consP]
    split
    · simp only [List.map_cons, List.sum_cons, List.length_nil, List.length_cons]; omega
    · cases h : linesL s with
      | nil => exact absurd h (lines_ne s)
      | cons l ls =>
        rw [h] at ih
        simp only [List.map_cons, List.sum_cons, List.length_cons] at ih ⊢; omega
theorem read_vals : ∀ (ss : List (List UInt8)) (i : Nat) (l : List (List Fd)) (o : Bool) (N : Nat), FineR l o → ValsLe N l → ValsLe (N + (ss.map List.length).sum) (readG ss i l o).1 := by
  intro ss
  induction ss with
  | nil => intro i l o N _ h; exact h
  | cons s ss ih =>
    intro i l o N hF h
    unfold readG
    cases e : lineG l o s with
    | error q => exact fun st hst => by cases hst
    | ok p =>
      have := ih (i + 1) p.1 p.2 (N + s.length) (fine_line hF e) (vals_line h hF.2.2 e)
      rw [Nat.add_assoc] at this
      exact this
theorem parse_vals (s : List UInt8) : ValsLe 60000 (parseL s).1 := by
  unfold parseL
  split
  · exact fun st hst => by cases hst
  · rename_i h
    intro st hst f hf
    have := read_vals (linesL s) 0 [] false 0 fine_start (vals_start 0) st hst f hf
    have := lines_total s
    omega
abbrev Pn := S24
def pinS (q : ByteArray × ByteArray × Int × Int) : Pn := ⟨q.1, q.2.1, q.2.2.1⟩
def pinsG : List (List Fd) → Nat → List Pn → List Pn × Int × Int
  | [], _, acc => (acc, 0, 0)
  | st :: r, i, acc => if (pinG st).2.2.2 = 0 then pinsG r (i + 1) (acc ++ [pinS (pinG st)]) else ([], (i : Int) + 1, (pinG st).2.2.2)
def parseP (s : List UInt8) : List Pn × Int × Int := if (parseL s).2.2 = 0 then (if (parseL s).1.length > 64 then ([], 0, 8) else pinsG (parseL s).1 0 []) else ([], (parseL s).2.1, (parseL s).2.2)
theorem pparse_loop (l : List (List Fd)) (hl : l.length ≤ 200) (hv : ∀ st ∈ l, ∀ f ∈ st, f.f1.size ≤ 1000000) (d : Nat) : ∀ (i : Nat) (acc : List Pn), i + d = l.length → acc.length = i → Ev (fun k => pins_Parse.l0 k acc l (l.length : Int) (i : Int)) (pinsG (l.drop i) i acc) := by
  induction d with
  | zero =>
    intro i acc hi ha
    refine Ev.succ ?_
    simp only [pins_Parse.l0]
    rw [List.drop_eq_nil_of_le (by omega)]
    exact Ev.neg (by omega) (Ev.some rfl)
  | succ d ih =>
    intro i acc hi ha
    have hil : i < l.length := by omega
    refine Ev.succ ?_
    simp only [pins_Parse.l0]
    rw [wrap_step hil (by omega), rdL_nat l i hil, List.drop_eq_getElem_cons hil, pinsG]
    refine Ev.pos (by omega) (Ev.pos (by omega) (Ev.pos (by omega) (Ev.call (read_is _ (hv _ (List.getElem_mem hil))) ?_)))
    by_cases h : (pinG l[i]).2.2.2 = 0
    · rw [if_pos h]
      exact Ev.pos h (Ev.pos (by omega) (ih (i + 1) _ (by omega) (by simp [ha])))
    · rw [if_neg h]
      exact Ev.neg h (Ev.some (by rw [show ((i + 1 : Nat) : Int) = (i : Int) + 1 from by omega]))
theorem pparse_ev (s : ByteArray) : Ev (fun k => pins_Parse.f k s) (parseP s.data.toList) := by
  have h1 : stanza_Parse.f s = some (parseL s.data.toList) := rfl
  have hf := parse_fine s.data.toList
  have hv := parse_vals s.data.toList
  unfold pins_Parse.f parseP
  refine Ev.call h1 ?_
  generalize parseL s.data.toList = p at *
  by_cases h0 : p.2.2 = 0
  · rw [if_pos h0]
    refine Ev.pos h0 ?_
    by_cases h64 : p.1.length > 64
    · rw [if_pos h64]; exact Ev.pos (by omega) (Ev.some rfl)
    · rw [if_neg h64]
      have := pparse_loop p.1 (by omega) (fun st hst f hf => by have := hv st hst f hf; omega) p.1.length 0 [] (by omega) rfl
      rw [List.drop_zero] at this
      exact Ev.neg (by omega) this
  · rw [if_neg h0]; exact Ev.neg h0 (Ev.some rfl)
theorem rdP_nat (l : List Pn) (i : Nat) (h : i < l.length) : rd_T24 l (i : Int) = l[i] := by
  unfold rd_T24; simp [List.getD_eq_getElem?_getD, List.getElem?_eq_getElem h]
theorem same8_loop (a : List Pn) (hn : a.length ≤ 1000000) (d : Nat) : ∀ i : Nat, i + d = a.length → Ev (fun k => keelsonlaw8_same.l0 k a a (i : Int)) true := by
  induction d with
  | zero =>
    intro i hi
    refine Ev.succ ?_
    simp only [keelsonlaw8_same.l0]
    exact Ev.neg (by omega) (Ev.some rfl)
  | succ d ih =>
    intro i hi
    have hil : i < a.length := by omega
    refine Ev.succ ?_
    simp only [keelsonlaw8_same.l0]
    rw [wrap_step hil (by omega)]
    exact Ev.pos (by omega) (Ev.pos (by omega) (Ev.pos (by omega) (Ev.neg (by simp) (ih (i + 1) (by omega)))))
theorem same8_ev (a : List Pn) (hn : a.length ≤ 1000000) : Ev (fun k => keelsonlaw8_same.f k a a) true := by
  unfold keelsonlaw8_same.f
  exact Ev.pos rfl (same8_loop a hn a.length 0 (by omega))
def rightQ (p : Pn) : Bool := rightP p.f0 p.f1 p.f2
end Go.Proofs.YtlcfpmdamehopaaDoor.PA
/- A pin's stanza is read as that pin; as plain functions. No condition. -/
namespace Go.Proofs.YtlcfpmdamehopaaDoor.PA
open Go.RowKit Go.Proofs.YtlcfpmdamehopaaDoorW.PrintWords Go.Proofs.YtlcfpmdamehopaaDoorW.PrintLast Go.Proofs.YtlcfpmdamehopaaDoorW.PrintMore

def pinV (y : ByteArray) : ByteArray := (headB ++ y) ++ starB
def stPin (p : Pn) : List Fd := [⟨kPack, p.f0⟩, ⟨kPin, pinV p.f1⟩, ⟨kPrio, itoaB p.f2⟩]
theorem right_parts {x y : ByteArray} {z : Int} (h : rightP x y z = true) : (∀ c ∈ y.data.toList, oddC (c.toNat : Int) = false) ∧ (x = starB ∨ relL x.data.toList = true) ∧ y.size ≤ 60 ∧ -1000 ≤ z ∧ z ≤ 1000 := by
  rw [right_split] at h
  unfold okTail at h
  simp only [Bool.and_eq_true, Bool.or_eq_true, decide_eq_true_iff, Bool.not_eq_true', List.any_eq_false] at h
  obtain ⟨h1, ⟨⟨h2, h3⟩, h4⟩, h5⟩ := h
  exact ⟨fun c hc => Bool.eq_false_iff.2 (h1 c hc), h2, h3, h4, h5⟩
theorem pinV_size (y : ByteArray) : (pinV y).size = 9 + y.size := by
  unfold pinV
  rw [ByteArray.size_append, ByteArray.size_append, show headB.size = 8 from rfl, show starB.size = 1 from rfl]; omega
theorem pinV_list (y : ByteArray) : (pinV y).data.toList = headB.data.toList ++ y.data.toList ++ [42] := by
  unfold pinV
  rw [ByteArray.data_append, ByteArray.data_append, Array.toList_append, Array.toList_append]; rfl
theorem pack_pin : ¬ kPack = kPin := by decide
theorem pack_prio : ¬ kPack = kPrio := by decide
theorem pin_prio : ¬ kPin = kPrio := by decide
theorem getG_hit (f : Fd) (r : List Fd) (n : ByteArray) (h : f.f0 = n) : getG (f :: r) n = some f.f1 := by rw [getG_cons, if_pos h]
theorem getG_miss (f : Fd) (r : List Fd) (n : ByteArray) (h : ¬ f.f0 = n) : getG (f :: r) n = getG r n := by rw [getG_cons, if_neg h]
theorem pin_back (p : Pn) (h : rightQ p = true) : pinG (stPin p) = (p.f0, p.f1, p.f2, 0) := by
  obtain ⟨h1, h2, h3, h4⟩ := right_parts h
  have e1 : getG (stPin p) kPack = some p.f0 := getG_hit _ _ _ rfl
  have e2 : getG (stPin p) kPin = some (pinV p.f1) := by unfold stPin; rw [getG_miss _ _ _ pack_pin, getG_hit _ _ _ rfl]
  have e3 : getG (stPin p) kPrio = some (itoaB p.f2) := by unfold stPin; rw [getG_miss _ _ _ pack_prio, getG_miss _ _ _ pin_prio, getG_hit _ _ _ rfl]
  unfold pinG valG
  rw [e1, e2, e3]
  simp only [Option.isSome_some, Bool.and_self, if_true, Option.getD_some]
  have hl := pinV_list p.f1
  have hs := pinV_size p.f1
  have hfit : fitsV (pinV p.f1) = true := by
    unfold fitsV
    have t8 : (headB.data.toList ++ p.f1.data.toList ++ [42]).take 8 = headB.data.toList := by
      rw [List.append_assoc, List.take_append_of_le_length (by decide)]; rfl
    rw [hl, t8, List.getLast?_append]
    rw [decide_eq_true (show 9 ≤ (pinV p.f1).size by omega)]
    simp
  have hcut : cutV (pinV p.f1) = p.f1 := by
    refine bytes_injQ ?_
    rw [cut_is, hl, hs, List.append_assoc, List.drop_append_of_le_length (by decide)]
    rw [show headB.data.toList.drop 8 = [] from rfl, List.nil_append]
    rw [show 9 + p.f1.size - 1 - 8 = p.f1.data.toList.length by rw [data_length]; omega]
    exact List.take_left
  rw [readF_is, hcut, prio_hit p.f2 h4.1 h4.2]
  exact if_pos ⟨hfit, rfl, h⟩
theorem pinsG_back : ∀ (l : List Pn) (i : Nat) (acc : List Pn), (∀ p ∈ l, rightQ p = true) → pinsG (l.map stPin) i acc = (acc ++ l, 0, 0) := by
  intro l
  induction l with
  | nil => intro i acc _; rw [List.map_nil, pinsG, List.append_nil]
  | cons p r ih =>
    intro i acc h
    rw [List.map_cons, pinsG, pin_back p (h p List.mem_cons_self)]
    rw [if_pos rfl, ih _ _ (fun q hq => h q (List.mem_cons_of_mem _ hq)), List.append_assoc]
    rfl
end Go.Proofs.YtlcfpmdamehopaaDoor.PA
/- keelson/pins.first, Priority, Matches: what they come to. No condition. -/
namespace Go.Proofs.YtlcfpmdamehopaaDoor.PA
open Go.RowKit Go.Proofs.YtlcfpmdamehopaaDoorW.PrintWords Go.Proofs.YtlcfpmdamehopaaDoorW.PrintLast Go.Proofs.YtlcfpmdamehopaaDoorW.PrintMore

def namedB (n v : ByteArray) (p : S24) : Bool := decide (p.f0 = n) && Lib.hasPrefix v.data.toList p.f1.data.toList
def wideB (v : ByteArray) (p : S24) : Bool := decide (p.f0 = starB) && Lib.hasPrefix v.data.toList p.f1.data.toList
theorem named_any (n v : ByteArray) (p : S24) (W : World) : Calls Tryd.prog 20 #[.agg #[.string p.f0, .string p.f1, .int .i64 p.f2], .string n, .string v] W fun e w' => e = .returned (.bool (namedB n v p)) ∧ Below W.heap.size W w' := by
  obtain ⟨x, y, z⟩ := p
  unfold namedB
  dsimp only
  have hp := Tryd.strings_HasPrefix v y
  have hse := str_eqB x n
  generalize Lib.hasPrefix v.data.toList y.data.toList = b at hp ⊢
  generalize decide (x = n) = c at hse ⊢
  cases c with
  | false =>
    go_enter Tryd.func20, Tryd.ntmps20
    go_wp2_with (go_at_call 48; with_reducible refine (hp _).mono ?_; rintro e w' ⟨rfl, rfl⟩)
    go_ret
    exact ⟨rfl, (Below.refl _ W).alloc (Nat.le_refl _) _⟩
  | true =>
    go_enter Tryd.func20, Tryd.ntmps20
    go_wp2_with (go_at_call 48; with_reducible refine (hp _).mono ?_; rintro e w' ⟨rfl, rfl⟩)
    go_ret
    exact ⟨rfl, (Below.refl _ W).alloc (Nat.le_refl _) _⟩
theorem wide_any (n v : ByteArray) (p : S24) (W : World) : Calls Tryd.prog 21 #[.agg #[.string p.f0, .string p.f1, .int .i64 p.f2], .string n, .string v] W fun e w' => e = .returned (.bool (wideB v p)) ∧ Below W.heap.size W w' := by
  obtain ⟨x, y, z⟩ := p
  unfold wideB
  dsimp only
  have hp := Tryd.strings_HasPrefix v y
  have hse := star_eq x
  generalize Lib.hasPrefix v.data.toList y.data.toList = b at hp ⊢
  generalize decide (x = starB) = c at hse ⊢
  cases c with
  | false =>
    go_enter Tryd.func21, Tryd.ntmps21
    go_wp2_with (go_at_call 48; with_reducible refine (hp _).mono ?_; rintro e w' ⟨rfl, rfl⟩)
    go_ret
    exact ⟨rfl, (Below.refl _ W).alloc (Nat.le_refl _) _⟩
  | true =>
    go_enter Tryd.func21, Tryd.ntmps21
    go_wp2_with (go_at_call 48; with_reducible refine (hp _).mono ?_; rintro e w' ⟨rfl, rfl⟩)
    go_ret
    exact ⟨rfl, (Below.refl _ W).alloc (Nat.le_refl _) _⟩
/-- A function value of those two, and what it says. -/
def SaysP (g : Nat) (n v : ByteArray) (q : S24 → Bool) : Prop := (∀ args w, (callFunc g args).run Tryd.prog w = .ok (.enter g args) w) ∧ ∀ (p : S24) (W : World), Calls Tryd.prog g #[.agg #[.string p.f0, .string p.f1, .int .i64 p.f2], .string n, .string v] W fun e w' => e = .returned (.bool (q p)) ∧ Below W.heap.size W w'
theorem named_says (n v : ByteArray) : SaysP 20 n v (namedB n v) := ⟨enters_of Tryd.func20 (by kernel_rfl) rfl, named_any n v⟩
theorem wide_says (n v : ByteArray) : SaysP 21 n v (wideB v) := ⟨enters_of Tryd.func21 (by kernel_rfl) rfl, wide_any n v⟩
theorem first1_enters : ∀ args w, (callFunc 47 args).run Tryd.prog w = .ok (.enter 47 args) w := enters_of Tryd.func47 (by kernel_rfl) rfl
set_option maxHeartbeats 400000 in
theorem first1_any (g : Nat) (n v : ByteArray) (q : S24 → Bool) (hg : SaysP g n v q) (p : S24) (ps pn pv : Addr) (W : World) (h1 : W.cell? ps = some (.func (.func g) #[] #[])) (h2 : W.cell? pn = some (.string n)) (h3 : W.cell? pv = some (.string v)) :
    Calls Tryd.prog 47 #[.agg #[.string p.f0, .string p.f1, .int .i64 p.f2], .pointer (some ps), .pointer (some pn), .pointer (some pv)] W fun e w' => e = .returned (.bool (q p)) ∧ Below W.heap.size W w' := by
  have hb1 : Below W.heap.size W (W.alloc (.cells #[.string p.f0, .string p.f1, .int .i64 p.f2] 24)) := (Below.refl _ W).alloc (Nat.le_refl _) _
  have k1 := pw_cell_below hb1 h1
  have k2 := pw_cell_below hb1 h2
  have k3 := pw_cell_below hb1 h3
  obtain ⟨eg, hc⟩ := hg
  have hc2 := fun w1 => (hc p w1)
  generalize q p = r at hc2 ⊢
  obtain ⟨x, y, z⟩ := p
  dsimp only at *
  have HB := Lib.hid hb1
  clear hb1 h1 h2 h3 hc
  go_enter Tryd.func47, Tryd.ntmps47
  go_wp2_with (go_at_fn g; with_reducible refine (hc2 _).mono ?_; rintro e w' ⟨rfl, hb⟩)
  go_ret
  exact ⟨rfl, HB.out.trans (hb.mono HB.out.size)⟩
def firstI (l : List S24) (i : Int) : Int × Bool := if i < 0 then (0, false) else ((rd_T24 l i).f2, true)
def firstF (q : S24 → Bool) (l : List S24) : Int × Bool := firstI l (idxP q l)
theorem idxP_lt {α : Type} (p : α → Bool) (xs : List α) : idxP p xs < xs.length := by
  unfold idxP
  cases e : xs.findIdx? p with
  | none => show (-1 : Int) < _; omega
  | some k => obtain ⟨hk, _, _⟩ := List.findIdx?_eq_some_iff_getElem.1 e; show (k : Int) < _; omega
set_option maxHeartbeats 1000000 in
theorem first_any (g : Nat) (n v : ByteArray) (q : S24 → Bool) (hg : SaysP g n v q) (A0 : Option Addr) (c0 : Nat) (l0 : List S24) (w : World) (hr0 : Kd.C k24 w A0 l0.length l0) :
    Calls Tryd.prog 19 #[.slice A0 l0.length c0, .string n, .string v, .func (.func g) #[] #[]] w fun e w' => e = .returned (.tuple #[.int .i64 (firstF q l0).1, .bool (firstF q l0).2]) ∧ Below w.heap.size w w' := by
  obtain ⟨W, hW⟩ : ∃ W, W = ((w.alloc (.cells #[.string n] 9)).alloc (.cells #[.string v] 9)).alloc (.cells #[.func (.func g) #[] #[]] 52) := ⟨_, rfl⟩
  have hb1 : Below w.heap.size w W := by rw [hW]; exact (((Below.refl _ w).alloc (Nat.le_refl _) _).alloc (by simp) _).alloc (by simp; omega) _
  have c1 : W.cell? ⟨w.heap.size, 0, none⟩ = some (.string n) := by rw [hW]; simp [go_sem]
  have c2 : W.cell? ⟨w.heap.size + 1, 0, none⟩ = some (.string v) := by rw [hW]; simp [go_sem]
  have c3 : W.cell? ⟨w.heap.size + 1 + 1, 0, none⟩ = some (.func (.func g) #[] #[]) := by rw [hW]; simp [go_sem]
  have hi := (idx46 k24 rfl 47 #[.pointer (some ⟨w.heap.size + 1 + 1, 0, none⟩), .pointer (some ⟨w.heap.size, 0, none⟩), .pointer (some ⟨w.heap.size + 1, 0, none⟩)] first1_enters A0 c0 l0 q W (Kd.C_below hr0 hb1) (by
    intro x _ cs W' hb' hK
    obtain rfl := k24_open hK
    exact first1_any g n v q hg x _ _ _ W' (pw_cell_below hb' c3) (pw_cell_below hb' c1) (pw_cell_below hb' c2))).mono fun e w' h => (⟨h.1, hb1.trans (h.2.mono hb1.size)⟩ : e = .returned (.int .i64 (idxP q l0)) ∧ Below w.heap.size w w')
  have hlt := idxP_lt q l0
  unfold firstF
  generalize idxP q l0 = i at hi hlt ⊢
  have hmf := makeFunc_run
  clear c1 c2 c3 hb1
  subst hW
  by_cases h0 : i < 0
  · have e : firstI l0 i = (0, false) := if_pos h0
    rw [e]
    clear hr0 e
    go_enter Tryd.func19, Tryd.ntmps19
    go_wp2_with (go_at_call 46; with_reducible refine hi.mono ?_; rintro e w' ⟨rfl, hb⟩)
    go_ret2
    exact ⟨rfl, hb⟩
  · have e : firstI l0 i = ((rd_T24 l0 i).f2, true) := if_neg h0
    rw [e]
    have h00 : 0 ≤ i := by omega
    obtain ⟨ad, ha, d0, d1, d2⟩ := at_T24 hr0 i h00 hlt
    have hd2 := fun w' (hb : Below w.heap.size w w') => pw_cell_below hb d2
    generalize (rd_T24 l0 i).f2 = z at hd2 ⊢
    subst ha
    clear hr0 e d0 d1 d2
    go_enter Tryd.func19, Tryd.ntmps19
    go_wp2_with (go_at_call 46; with_reducible refine hi.mono ?_; rintro e w' ⟨rfl, hb⟩; have e2 := hd2 _ hb)
    go_ret2
    exact ⟨rfl, hb⟩
def prioF (n v : ByteArray) (l : List S24) : Int := if (firstF (namedB n v) l).2 then (firstF (namedB n v) l).1 else if (firstF (wideB v) l).2 then (firstF (wideB v) l).1 else 500
def pins_Priority.f (l0 : List S24) (n v : ByteArray) : Option Int := some (prioF n v l0)
theorem pins_Priority.calls (A0 : Option Addr) (c0 : Nat) (l0 : List S24) (n v : ByteArray) (r : Int) (w : World) (hr0 : Kd.C k24 w A0 l0.length l0) (_hc0 : l0.length ≤ c0) (h : pins_Priority.f l0 n v = some r) :
    Calls Tryd.prog 7 #[.slice A0 l0.length c0, .string n, .string v] w fun e w' => e = .returned (.int .i64 r) ∧ Below w.heap.size w w' := by
  obtain rfl := Option.some.inj h
  clear h
  have f1 := first_any _ n v _ (named_says n v) A0 c0 l0 w hr0
  have f2 := fun w1 (hb : Below w.heap.size w w1) => (first_any _ n v _ (wide_says n v) A0 c0 l0 w1 (Kd.C_below hr0 hb)).mono fun e w' h => (⟨h.1, hb.trans (h.2.mono hb.size)⟩ : _ ∧ Below w.heap.size w w')
  unfold prioF
  generalize firstF (namedB n v) l0 = a at f1 ⊢
  generalize firstF (wideB v) l0 = b at f2 ⊢
  obtain ⟨a1, a2⟩ := a
  obtain ⟨b1, b2⟩ := b
  clear hr0
  cases a2 with
  | true =>
    go_enter Tryd.func7, Tryd.ntmps7
    go_wp2_with (go_at_call 19; with_reducible refine f1.mono ?_; rintro e w' ⟨rfl, hb⟩)
    go_ret
    exact ⟨rfl, hb⟩
  | false =>
    cases b2 with
    | true =>
      go_enter Tryd.func7, Tryd.ntmps7
      go_wp2_with fail
      with_reducible refine f1.mono ?_
      rintro e w1 ⟨rfl, hb1⟩
      go_wp2_with fail
      with_reducible refine (f2 _ hb1).mono ?_
      rintro e w2 ⟨rfl, hb2⟩
      go_wp2
      go_ret
      exact ⟨rfl, hb2⟩
    | false =>
      go_enter Tryd.func7, Tryd.ntmps7
      go_wp2_with fail
      with_reducible refine f1.mono ?_
      rintro e w1 ⟨rfl, hb1⟩
      go_wp2_with fail
      with_reducible refine (f2 _ hb1).mono ?_
      rintro e w2 ⟨rfl, hb2⟩
      go_wp2
      go_ret
      exact ⟨rfl, hb2⟩
def matchesF (n v : ByteArray) (p : S24) : Bool := namedB n v p || wideB v p
def pins_Matches.f (x y : ByteArray) (z : Int) (n v : ByteArray) : Option Bool := some (matchesF n v ⟨x, y, z⟩)
set_option maxHeartbeats 1000000 in
theorem pins_Matches.calls (x y : ByteArray) (z : Int) (n v : ByteArray) (r : Bool) (w : World) (h : pins_Matches.f x y z n v = some r) :
    Calls Tryd.prog 8 #[.agg #[.string x, .string y, .int .i64 z], .string n, .string v] w fun e w' => e = .returned (.bool r) ∧ Below w.heap.size w w' := by
  obtain rfl := Option.some.inj h
  clear h
  have hal : Below w.heap.size w (w.alloc (.cells #[.string x, .string y, .int .i64 z] 24)) := (Below.refl _ w).alloc (Nat.le_refl _) _
  have hR := heap_alloc_new w (.cells #[.string x, .string y, .int .i64 z] 24)
  have f1 := (named_any n v ⟨x, y, z⟩ (w.alloc (.cells #[.string x, .string y, .int .i64 z] 24))).mono fun e w' h => (⟨h.1, hal.trans (h.2.mono hal.size), row_up h.2 hR⟩ : _ ∧ Below w.heap.size w w' ∧ _)
  have f2 := fun w1 (hb : Below w.heap.size w w1) => (wide_any n v ⟨x, y, z⟩ w1).mono fun e w' h => (⟨h.1, hb.trans (h.2.mono hb.size)⟩ : _ ∧ Below w.heap.size w w')
  unfold matchesF
  dsimp only at f1 f2
  generalize namedB n v ⟨x, y, z⟩ = a at f1 ⊢
  generalize wideB v ⟨x, y, z⟩ = b at f2 ⊢
  clear hal hR
  cases a with
  | true =>
    go_enter Tryd.func8, Tryd.ntmps8
    go_wp2_with (go_at_call 20; with_reducible refine f1.mono ?_; rintro e w1 ⟨rfl, hb, hr⟩)
    go_ret
    exact ⟨rfl, hb⟩
  | false =>
    go_enter Tryd.func8, Tryd.ntmps8
    go_wp2_with fail
    with_reducible refine f1.mono ?_
    rintro e w1 ⟨rfl, hb, hr⟩
    have k0 : w1.cell? ⟨w.heap.size, 0, none⟩ = some (.string x) := by rw [cell_of_row _ _ _ _ _ _ hr]; rfl
    have k1 : w1.cell? ⟨w.heap.size, 1, none⟩ = some (.string y) := by rw [cell_of_row _ _ _ _ _ _ hr]; rfl
    have k2 : w1.cell? ⟨w.heap.size, 2, none⟩ = some (.int .i64 z) := by rw [cell_of_row _ _ _ _ _ _ hr]; rfl
    go_wp2_with fail
    with_reducible refine (f2 _ hb).mono ?_
    rintro e w2 ⟨rfl, hb2⟩
    go_wp2
    go_ret
    exact ⟨rfl, hb2⟩
end Go.Proofs.YtlcfpmdamehopaaDoor.PA
-- Printed by gprint.py (wip/ of this repo), over the kit's print.
namespace Go.Proofs.YtlcfpmdamehopaaDoor.PA
open Go.RowKit Go.Proofs.YtlcfpmdamehopaaDoorW.PrintWords Go.Proofs.YtlcfpmdamehopaaDoorW.PrintLast Go.Proofs.YtlcfpmdamehopaaDoorW.PrintMore
attribute [local go_sem] max2_int min2_int max_two min_two max_three min_three max_four min_four   -- for this text's walks alone
set_option linter.unusedVariables false
set_option linter.unusedSimpArgs false

/-! ### keelsonlaw8_shown: function 5 -/
def keelsonlaw8_shown.j0 : Nat → List (S24) → Bool → Option (Bool)
  | 0, _, _ => none
  | k + 1, x1, x22 => if x22 = true then (some false) else ((some (([] : List (S24)) : List (S24))).bind fun y128 => (if y128.length + x1.length < 3518437208883 then ((some (y128 ++ x1 : List (S24))).bind fun y131 => (if y131.length < 3518437208883 then ((some (y131 ++ [(⟨(⟨#[42]⟩ : ByteArray), (⟨#[50]⟩ : ByteArray), 900⟩ : S24)] : List (S24))).bind fun y134 => ((pins_Priority.f y134 (⟨#[97, 98]⟩ : ByteArray) (⟨#[49, 46, 53]⟩ : ByteArray)).bind fun t137 => (if t137 = (-1) then ((pins_Priority.f y134 (⟨#[97, 98]⟩ : ByteArray) (⟨#[50]⟩ : ByteArray)).bind fun t138 => (if t138 = 900 then ((pins_Priority.f y134 (⟨#[99, 100]⟩ : ByteArray) (⟨#[50]⟩ : ByteArray)).bind fun t139 => (if t139 = 900 then ((pins_Priority.f y134 (⟨#[99, 100]⟩ : ByteArray) (⟨#[49]⟩ : ByteArray)).bind fun t140 => (some (t140 == 500))) else (none))) else (none))) else (none)))) else (none))) else (none)))
def keelsonlaw8_shown.f (k : Nat)  : Option (Bool) := (pins_Parse.f k (⟨#[80, 97, 99, 107, 97, 103, 101, 58, 32, 97, 98, 10, 80, 105, 110, 58, 32, 118, 101, 114, 115, 105, 111, 110, 32, 49, 46, 42, 10, 80, 105, 110, 45, 80, 114, 105, 111, 114, 105, 116, 121, 58, 32, 45, 49]⟩ : ByteArray)).bind fun bt119 => ((keelsonlaw8_same.f k bt119.1 (([(⟨(⟨#[97, 98]⟩ : ByteArray), (⟨#[49, 46]⟩ : ByteArray), (-1)⟩ : S24)] : List (S24)))).bind fun t127 => (if t127 = true then (if bt119.2.1 = 0 then (keelsonlaw8_shown.j0 k bt119.1 (bt119.2.2 != 0)) else (keelsonlaw8_shown.j0 k bt119.1 true)) else (keelsonlaw8_shown.j0 k bt119.1 true)))
set_option maxHeartbeats 8000000 in
set_option maxRecDepth 100000 in
theorem keelsonlaw8_shown.calls (k : Nat)  (r : Bool) (w : World) (hG_maxLen : GlobMaxLen w) (hG_numErr : GlobNumErr w) (hG_pow10 : GlobPow10 w) (h : keelsonlaw8_shown.f k  = some r) :
    Calls Tryd.prog 5 #[] w fun e w' => e = .returned (.bool r) ∧ Below w.heap.size w w' := by
  have hu24 := Tryd.underlying24
  have HG_maxLen := Aside0.mk hG_maxLen
  clear hG_maxLen
  have HG_numErr := Aside0.mk hG_numErr
  clear hG_numErr
  have HG_pow10 := Aside0.mk hG_pow10
  clear hG_pow10
  have HB := Aside0.mk (Below.refl w.heap.size w)
  have H : ((pins_Parse.f k (⟨#[80, 97, 99, 107, 97, 103, 101, 58, 32, 97, 98, 10, 80, 105, 110, 58, 32, 118, 101, 114, 115, 105, 111, 110, 32, 49, 46, 42, 10, 80, 105, 110, 45, 80, 114, 105, 111, 114, 105, 116, 121, 58, 32, 45, 49]⟩ : ByteArray)).bind fun bt119 => ((keelsonlaw8_same.f k bt119.1 (([(⟨(⟨#[97, 98]⟩ : ByteArray), (⟨#[49, 46]⟩ : ByteArray), (-1)⟩ : S24)] : List (S24)))).bind fun t127 => (if t127 = true then (if bt119.2.1 = 0 then (keelsonlaw8_shown.j0 k bt119.1 (bt119.2.2 != 0)) else (keelsonlaw8_shown.j0 k bt119.1 true)) else (keelsonlaw8_shown.j0 k bt119.1 true)))) = some r := h
  clear h
  replace H := Option.bind_eq_some_iff.mp H
  obtain ⟨⟨t119, t120, t121⟩, A10, H⟩ := H
  replace H : ((keelsonlaw8_same.f k t119 (([(⟨(⟨#[97, 98]⟩ : ByteArray), (⟨#[49, 46]⟩ : ByteArray), (-1)⟩ : S24)] : List (S24)))).bind fun t127 => (if t127 = true then (if t120 = 0 then (keelsonlaw8_shown.j0 k t119 (t121 != 0)) else (keelsonlaw8_shown.j0 k t119 true)) else (keelsonlaw8_shown.j0 k t119 true))) = some r := H
  have A1 := Aside0.mk A10
  clear A10
  have HC2 := Aside0.mk H
  clear H
  go_enter Tryd.func5, Tryd.ntmps5
  go_upto_region 2 with (first | ((with_reducible refine gate_callee (f := 17) rfl ?_); refine goesL_ (some 6) rfl rfl Tryd.func17 (by kernel_rfl) rfl #[.string (⟨#[80, 97, 99, 107, 97, 103, 101, 58, 32, 97, 98, 10, 80, 105, 110, 58, 32, 118, 101, 114, 115, 105, 111, 110, 32, 49, 46, 42, 10, 80, 105, 110, 45, 80, 114, 105, 111, 114, 105, 116, 121, 58, 32, 45, 49]⟩ : ByteArray)] rfl (by (try simp only [List.map_toArray, List.map_cons, List.map_nil]); first | done | rfl | (simp only [List.length_drop, List.length_take]; rfl)) ?_; (with_reducible refine (pins_Parse.calls k (⟨#[80, 97, 99, 107, 97, 103, 101, 58, 32, 97, 98, 10, 80, 105, 110, 58, 32, 118, 101, 114, 115, 105, 111, 110, 32, 49, 46, 42, 10, 80, 105, 110, 45, 80, 114, 105, 111, 114, 105, 116, 121, 58, 32, 45, 49]⟩ : ByteArray) t119 t120 t121 _ ?side1 ?side2 ?side3 A1.out).mono ?_); (case side1 => exact HG_maxLen.out.below (by repeat (first | (with_reducible first | exact HB.out | apply below_alloc | apply pw_below_drewN | apply below_drew1) | exact HB.out))); (case side2 => exact HG_numErr.out.below (by repeat (first | (with_reducible first | exact HB.out | apply below_alloc | apply pw_below_drewN | apply below_drew1) | exact HB.out))); (case side3 => exact HG_pow10.out.below (by repeat (first | (with_reducible first | exact HB.out | apply below_alloc | apply pw_below_drewN | apply below_drew1) | exact HB.out))); rintro e w3 ⟨v122, rfl, ho0, hb⟩; refine ⟨_, rfl, ?_⟩; have n0_ := Aside0.mk (Kd.R_lower ho0 (below_size (by repeat (first | (with_reducible first | exact HB.out | apply below_alloc | apply pw_below_drewN | apply below_drew1) | exact HB.out)))); have n1_ := Aside0.mk (below_step (by repeat (first | (with_reducible first | exact HB.out | apply below_alloc | apply pw_below_drewN | apply below_drew1) | exact HB.out)) hb); clear HB; have HO123 := n0_; have HB := n1_; clear n0_ n1_; (try clear hb); (try clear hb2); (try clear hk); (try clear hi); (try clear ho0)))
  (try simp only [Act.put, List.setIfInBounds_toArray, List.set_cons_zero, List.set_cons_succ])
  go_cut [22] (fun v22 wc => ∃ (kq : Nat) (x22_1 : Bool), v22 = .bool x22_1 ∧ Aside0 (keelsonlaw8_shown.j0 kq t119 x22_1 = some r) ∧ Aside0 (kq ≤ k) ∧ Aside0 (Kd.R k24 24 wc w.heap.size (fun _ => True) v122 t119) ∧ Aside0 (Below w.heap.size w wc))
  case first =>
    have H := HC2.out
    clear HC2
    obtain ⟨y124, hy124⟩ : ∃ y_ : List (S24), y_ = (([(⟨(⟨#[97, 98]⟩ : ByteArray), (⟨#[49, 46]⟩ : ByteArray), (-1)⟩ : S24)] : List (S24))) := ⟨_, rfl⟩
    replace H : ((keelsonlaw8_same.f k t119 y124).bind fun t127 => (if t127 = true then (if t120 = 0 then (keelsonlaw8_shown.j0 k t119 (t121 != 0)) else (keelsonlaw8_shown.j0 k t119 true)) else (keelsonlaw8_shown.j0 k t119 true))) = some r := by first | (rw [hy124]; with_reducible exact H) | (have H2_ := (Option.bind_some _ _).symm.trans H; rw [hy124]; with_reducible exact H2_) | (have H2_ := (Option.bind_some _ _).symm.trans H; with_reducible exact H2_) | with_reducible exact H | (rw [hy124]; exact H) | exact H
    have Ny124 := Aside0.mk hy124
    clear hy124
    replace H := Option.bind_eq_some_iff.mp H
    obtain ⟨t127, A40, H⟩ := H
    replace H : (if t127 = true then (if t120 = 0 then (keelsonlaw8_shown.j0 k t119 (t121 != 0)) else (keelsonlaw8_shown.j0 k t119 true)) else (keelsonlaw8_shown.j0 k t119 true)) = some r := H
    have A4 := Aside0.mk A40
    clear A40
    by_cases c5 : t127 = true
    · subst c5
      have H1 : (if t120 = 0 then (keelsonlaw8_shown.j0 k t119 (t121 != 0)) else (keelsonlaw8_shown.j0 k t119 true)) = some r := by rw [if_pos rfl] at H; exact H
      clear H
      have H := H1
      clear H1
      by_cases c6 : t120 = 0
      · rw [if_pos c6] at H
        have c6b0 : (t120 == 0) = true := beq_iff_eq.mpr c6
        have c6b1 : (t120 != 0) = false := bne_eq_false_iff_eq.mpr c6
        clear c6
        (first | rw [c6b0] | (simp only [i64_w, i32_w]; rw [c6b0]) | rw [c6b1] | skip)
        have H' := Aside0.mk H
        clear H
        go_wp2_with (first | ((with_reducible refine gate_dst (N := 12) rfl ?_); refine Kd.R_lit k24 _ 24 ?hg (N := 12) ?hd (xs := ([(⟨(⟨#[97, 98]⟩ : ByteArray), (⟨#[49, 46]⟩ : ByteArray), (-1)⟩ : S24)] : List (S24))) (inner := [.string (⟨#[97, 98]⟩ : ByteArray), .string (⟨#[49, 46]⟩ : ByteArray), .int .i64 (-1)]) (ok := fun _ => True) (okp := fun _ => True) ?hr ?hp (fun _ hk => hk) trivial (Below.refl _ _) (Nat.le_refl _) (by simp) ?_; (case hd => rfl); (case hg => rfl); (case hr => first | (go_simp; done) | (go_simp; rfl)); (case hp => exact (Reps.c3 (show Kd.M k24 _ _ _ (⟨(⟨#[97, 98]⟩ : ByteArray), (⟨#[49, 46]⟩ : ByteArray), (-1)⟩ : S24) [.string (⟨#[97, 98]⟩ : ByteArray), .string (⟨#[49, 46]⟩ : ByteArray), .int .i64 (-1)] from (k24_mkM _ _ _ (⟨(⟨#[97, 98]⟩ : ByteArray), (⟨#[49, 46]⟩ : ByteArray), (-1)⟩ : S24) )) (Reps.none _ _))); intro v125 w7 ho8 hb hg_ hnew_; clear hg_ hnew_; (first | rw [← Ny124.out] at ho8 | (simp only [Int.reduceToNat] at ho8; rw [← Ny124.out] at ho8)); have n0_ := Aside0.mk (Kd.R_elder' (by (with_reducible repeat (first | apply Kd.R_alloc | apply Kd.R_drewN | apply Kd.R_drew)); exact HO123.out) (Kd.R_base ho8) hb); have n1_ := Aside0.mk (Kd.R_lower (Kd.R_new' ho8 (Kd.R_lt (by (with_reducible repeat (first | apply Kd.R_alloc | apply Kd.R_drewN | apply Kd.R_drew)); exact HO123.out))) (below_size (by repeat (first | (with_reducible first | exact HB.out | apply below_alloc | apply pw_below_drewN | apply below_drew1) | exact HB.out)))); have n2_ := Aside0.mk (below_step (by repeat (first | (with_reducible first | exact HB.out | apply below_alloc | apply pw_below_drewN | apply below_drew1) | exact HB.out)) hb); clear HO123; clear HB; have HO123 := n0_; have HO126 := n1_; have HB := n2_; clear n0_ n1_ n2_; clear hb ho8; obtain ⟨Ao9, co9, eo9⟩ := Kd.R_slice HO123.out; subst eo9; obtain ⟨Ao10, co10, eo10⟩ := Kd.R_slice HO126.out; subst eo10) | ((with_reducible refine gate_callee (f := 18) rfl ?_); refine goesL_ (some 13) rfl rfl Tryd.func18 (by kernel_rfl) rfl #[.slice Ao9 t119.length co9, .slice Ao10 y124.length co10] rfl (by (try simp only [List.map_toArray, List.map_cons, List.map_nil]); first | done | rfl | (simp only [List.length_drop, List.length_take]; rfl)) ?_; (with_reducible refine (keelsonlaw8_same.calls k _ _ t119 _ _ y124 true _ ?side1 ?side2 ?side3 ?side4 A4.out).mono ?_); (case side1 => repeat (first | exact (Kd.R_reads' HO123.out).2.2 | (with_reducible refine Kd.C_alloc ?_ _) | (with_reducible refine Kd.C_drewN ?_ _) | (with_reducible refine Kd.C_drew ?_))); (case side2 => exact (Kd.R_reads' HO123.out).2.1); (case side3 => repeat (first | exact (Kd.R_reads' HO126.out).2.2 | (with_reducible refine Kd.C_alloc ?_ _) | (with_reducible refine Kd.C_drewN ?_ _) | (with_reducible refine Kd.C_drew ?_))); (case side4 => exact (Kd.R_reads' HO126.out).2.1); rintro e w' ⟨rfl, ⟨nd, rfl⟩⟩; refine ⟨_, rfl, ?_⟩))
        go_meet
        case rel => exact ⟨_, ((t121 != 0)), (by first | rfl | (simp; done) | (simp [*]; done)), H', ⟨by first | omega | exact Nat.le_refl _⟩, ⟨by (with_reducible repeat (first | apply Kd.R_alloc | apply Kd.R_drewN | apply Kd.R_drew)); exact Kd.R_mono HO123.out (fun _ hk => trivial)⟩, ⟨by repeat (first | (with_reducible first | exact HB.out | apply below_alloc | apply pw_below_drewN | apply below_drew1) | exact HB.out)⟩⟩
      · rw [if_neg c6] at H
        have c6b0 : (t120 == 0) = false := beq_eq_false_iff_ne.mpr c6
        have c6b1 : (t120 != 0) = true := bne_iff_ne.mpr c6
        (first | rw [c6b0] | (simp only [i64_w, i32_w]; rw [c6b0]) | rw [c6b1] | skip)
        have H' := Aside0.mk H
        clear H
        go_wp2_with (first | ((with_reducible refine gate_dst (N := 12) rfl ?_); refine Kd.R_lit k24 _ 24 ?hg (N := 12) ?hd (xs := ([(⟨(⟨#[97, 98]⟩ : ByteArray), (⟨#[49, 46]⟩ : ByteArray), (-1)⟩ : S24)] : List (S24))) (inner := [.string (⟨#[97, 98]⟩ : ByteArray), .string (⟨#[49, 46]⟩ : ByteArray), .int .i64 (-1)]) (ok := fun _ => True) (okp := fun _ => True) ?hr ?hp (fun _ hk => hk) trivial (Below.refl _ _) (Nat.le_refl _) (by simp) ?_; (case hd => rfl); (case hg => rfl); (case hr => first | (go_simp; done) | (go_simp; rfl)); (case hp => exact (Reps.c3 (show Kd.M k24 _ _ _ (⟨(⟨#[97, 98]⟩ : ByteArray), (⟨#[49, 46]⟩ : ByteArray), (-1)⟩ : S24) [.string (⟨#[97, 98]⟩ : ByteArray), .string (⟨#[49, 46]⟩ : ByteArray), .int .i64 (-1)] from (k24_mkM _ _ _ (⟨(⟨#[97, 98]⟩ : ByteArray), (⟨#[49, 46]⟩ : ByteArray), (-1)⟩ : S24) )) (Reps.none _ _))); intro v125 w11 ho12 hb hg_ hnew_; clear hg_ hnew_; (first | rw [← Ny124.out] at ho12 | (simp only [Int.reduceToNat] at ho12; rw [← Ny124.out] at ho12)); have n0_ := Aside0.mk (Kd.R_elder' (by (with_reducible repeat (first | apply Kd.R_alloc | apply Kd.R_drewN | apply Kd.R_drew)); exact HO123.out) (Kd.R_base ho12) hb); have n1_ := Aside0.mk (Kd.R_lower (Kd.R_new' ho12 (Kd.R_lt (by (with_reducible repeat (first | apply Kd.R_alloc | apply Kd.R_drewN | apply Kd.R_drew)); exact HO123.out))) (below_size (by repeat (first | (with_reducible first | exact HB.out | apply below_alloc | apply pw_below_drewN | apply below_drew1) | exact HB.out)))); have n2_ := Aside0.mk (below_step (by repeat (first | (with_reducible first | exact HB.out | apply below_alloc | apply pw_below_drewN | apply below_drew1) | exact HB.out)) hb); clear HO123; clear HB; have HO123 := n0_; have HO126 := n1_; have HB := n2_; clear n0_ n1_ n2_; clear hb ho12; obtain ⟨Ao13, co13, eo13⟩ := Kd.R_slice HO123.out; subst eo13; obtain ⟨Ao14, co14, eo14⟩ := Kd.R_slice HO126.out; subst eo14) | ((with_reducible refine gate_callee (f := 18) rfl ?_); refine goesL_ (some 13) rfl rfl Tryd.func18 (by kernel_rfl) rfl #[.slice Ao13 t119.length co13, .slice Ao14 y124.length co14] rfl (by (try simp only [List.map_toArray, List.map_cons, List.map_nil]); first | done | rfl | (simp only [List.length_drop, List.length_take]; rfl)) ?_; (with_reducible refine (keelsonlaw8_same.calls k _ _ t119 _ _ y124 true _ ?side1 ?side2 ?side3 ?side4 A4.out).mono ?_); (case side1 => repeat (first | exact (Kd.R_reads' HO123.out).2.2 | (with_reducible refine Kd.C_alloc ?_ _) | (with_reducible refine Kd.C_drewN ?_ _) | (with_reducible refine Kd.C_drew ?_))); (case side2 => exact (Kd.R_reads' HO123.out).2.1); (case side3 => repeat (first | exact (Kd.R_reads' HO126.out).2.2 | (with_reducible refine Kd.C_alloc ?_ _) | (with_reducible refine Kd.C_drewN ?_ _) | (with_reducible refine Kd.C_drew ?_))); (case side4 => exact (Kd.R_reads' HO126.out).2.1); rintro e w' ⟨rfl, ⟨nd, rfl⟩⟩; refine ⟨_, rfl, ?_⟩))
        go_meet
        case rel => exact ⟨_, (true), (by first | rfl | (simp; done) | (simp [*]; done)), H', ⟨by first | omega | exact Nat.le_refl _⟩, ⟨by (with_reducible repeat (first | apply Kd.R_alloc | apply Kd.R_drewN | apply Kd.R_drew)); exact Kd.R_mono HO123.out (fun _ hk => trivial)⟩, ⟨by repeat (first | (with_reducible first | exact HB.out | apply below_alloc | apply pw_below_drewN | apply below_drew1) | exact HB.out)⟩⟩
    · replace c5 := Bool.eq_false_iff.mpr c5
      subst c5
      have H1 : (keelsonlaw8_shown.j0 k t119 true) = some r := by rw [if_neg (show ¬ (false = true) by decide)] at H; exact H
      clear H
      have H := H1
      clear H1
      have H' := Aside0.mk H
      clear H
      go_wp2_with (first | ((with_reducible refine gate_dst (N := 12) rfl ?_); refine Kd.R_lit k24 _ 24 ?hg (N := 12) ?hd (xs := ([(⟨(⟨#[97, 98]⟩ : ByteArray), (⟨#[49, 46]⟩ : ByteArray), (-1)⟩ : S24)] : List (S24))) (inner := [.string (⟨#[97, 98]⟩ : ByteArray), .string (⟨#[49, 46]⟩ : ByteArray), .int .i64 (-1)]) (ok := fun _ => True) (okp := fun _ => True) ?hr ?hp (fun _ hk => hk) trivial (Below.refl _ _) (Nat.le_refl _) (by simp) ?_; (case hd => rfl); (case hg => rfl); (case hr => first | (go_simp; done) | (go_simp; rfl)); (case hp => exact (Reps.c3 (show Kd.M k24 _ _ _ (⟨(⟨#[97, 98]⟩ : ByteArray), (⟨#[49, 46]⟩ : ByteArray), (-1)⟩ : S24) [.string (⟨#[97, 98]⟩ : ByteArray), .string (⟨#[49, 46]⟩ : ByteArray), .int .i64 (-1)] from (k24_mkM _ _ _ (⟨(⟨#[97, 98]⟩ : ByteArray), (⟨#[49, 46]⟩ : ByteArray), (-1)⟩ : S24) )) (Reps.none _ _))); intro v125 w15 ho16 hb hg_ hnew_; clear hg_ hnew_; (first | rw [← Ny124.out] at ho16 | (simp only [Int.reduceToNat] at ho16; rw [← Ny124.out] at ho16)); have n0_ := Aside0.mk (Kd.R_elder' (by (with_reducible repeat (first | apply Kd.R_alloc | apply Kd.R_drewN | apply Kd.R_drew)); exact HO123.out) (Kd.R_base ho16) hb); have n1_ := Aside0.mk (Kd.R_lower (Kd.R_new' ho16 (Kd.R_lt (by (with_reducible repeat (first | apply Kd.R_alloc | apply Kd.R_drewN | apply Kd.R_drew)); exact HO123.out))) (below_size (by repeat (first | (with_reducible first | exact HB.out | apply below_alloc | apply pw_below_drewN | apply below_drew1) | exact HB.out)))); have n2_ := Aside0.mk (below_step (by repeat (first | (with_reducible first | exact HB.out | apply below_alloc | apply pw_below_drewN | apply below_drew1) | exact HB.out)) hb); clear HO123; clear HB; have HO123 := n0_; have HO126 := n1_; have HB := n2_; clear n0_ n1_ n2_; clear hb ho16; obtain ⟨Ao17, co17, eo17⟩ := Kd.R_slice HO123.out; subst eo17; obtain ⟨Ao18, co18, eo18⟩ := Kd.R_slice HO126.out; subst eo18) | ((with_reducible refine gate_callee (f := 18) rfl ?_); refine goesL_ (some 13) rfl rfl Tryd.func18 (by kernel_rfl) rfl #[.slice Ao17 t119.length co17, .slice Ao18 y124.length co18] rfl (by (try simp only [List.map_toArray, List.map_cons, List.map_nil]); first | done | rfl | (simp only [List.length_drop, List.length_take]; rfl)) ?_; (with_reducible refine (keelsonlaw8_same.calls k _ _ t119 _ _ y124 false _ ?side1 ?side2 ?side3 ?side4 A4.out).mono ?_); (case side1 => repeat (first | exact (Kd.R_reads' HO123.out).2.2 | (with_reducible refine Kd.C_alloc ?_ _) | (with_reducible refine Kd.C_drewN ?_ _) | (with_reducible refine Kd.C_drew ?_))); (case side2 => exact (Kd.R_reads' HO123.out).2.1); (case side3 => repeat (first | exact (Kd.R_reads' HO126.out).2.2 | (with_reducible refine Kd.C_alloc ?_ _) | (with_reducible refine Kd.C_drewN ?_ _) | (with_reducible refine Kd.C_drew ?_))); (case side4 => exact (Kd.R_reads' HO126.out).2.1); rintro e w' ⟨rfl, ⟨nd, rfl⟩⟩; refine ⟨_, rfl, ?_⟩))
      go_meet
      case rel => exact ⟨_, (true), (by first | rfl | (simp; done) | (simp [*]; done)), H', ⟨by first | omega | exact Nat.le_refl _⟩, ⟨by (with_reducible repeat (first | apply Kd.R_alloc | apply Kd.R_drewN | apply Kd.R_drew)); exact Kd.R_mono HO123.out (fun _ hk => trivial)⟩, ⟨by repeat (first | (with_reducible first | exact HB.out | apply below_alloc | apply pw_below_drewN | apply below_drew1) | exact HB.out)⟩⟩
  case rest =>
    clear HC2
    try clear c1
    try clear p2
    try clear c3
    try clear c5
    try clear c6
    try clear c6b0
    try clear c6b1
    try clear c17
    try clear c18
    obtain ⟨kq, x22_1, rfl, HA, HJ1, HO_1, HB⟩ := hcut
    cases kq with
    | zero => exact absurd HA.out (by simp [keelsonlaw8_shown.j0])
    | succ kj1 =>
      have H := HA.out
      clear HA
      simp only [keelsonlaw8_shown.j0] at H
      by_cases c19 : x22_1 = true
      · subst c19
        have H1 : (some false) = some r := by rw [if_pos rfl] at H; exact H
        clear H
        have H := H1
        clear H1
        obtain rfl := Option.some.inj H
        go_wp2
        go_ret
        exact ⟨by first | rfl | (simp [errW_none, errW_some] <;> rfl) | (simp [*, errW_none, errW_some] <;> rfl), by repeat (first | (with_reducible first | exact HB.out | apply below_alloc | apply pw_below_drewN | apply below_drew1) | exact HB.out)⟩
      · replace c19 := Bool.eq_false_iff.mpr c19
        subst c19
        have H1 : ((some (([] : List (S24)) : List (S24))).bind fun y128 => (if y128.length + t119.length < 3518437208883 then ((some (y128 ++ t119 : List (S24))).bind fun y131 => (if y131.length < 3518437208883 then ((some (y131 ++ [(⟨(⟨#[42]⟩ : ByteArray), (⟨#[50]⟩ : ByteArray), 900⟩ : S24)] : List (S24))).bind fun y134 => ((pins_Priority.f y134 (⟨#[97, 98]⟩ : ByteArray) (⟨#[49, 46, 53]⟩ : ByteArray)).bind fun t137 => (if t137 = (-1) then ((pins_Priority.f y134 (⟨#[97, 98]⟩ : ByteArray) (⟨#[50]⟩ : ByteArray)).bind fun t138 => (if t138 = 900 then ((pins_Priority.f y134 (⟨#[99, 100]⟩ : ByteArray) (⟨#[50]⟩ : ByteArray)).bind fun t139 => (if t139 = 900 then ((pins_Priority.f y134 (⟨#[99, 100]⟩ : ByteArray) (⟨#[49]⟩ : ByteArray)).bind fun t140 => (some (t140 == 500))) else (none))) else (none))) else (none)))) else (none))) else (none))) = some r := by rw [if_neg (show ¬ (false = true) by decide)] at H; exact H
        clear H
        have H := H1
        clear H1
        obtain ⟨y128, hy128⟩ : ∃ y_ : List (S24), y_ = (([] : List (S24))) := ⟨_, rfl⟩
        replace H : (if y128.length + t119.length < 3518437208883 then ((some (y128 ++ t119 : List (S24))).bind fun y131 => (if y131.length < 3518437208883 then ((some (y131 ++ [(⟨(⟨#[42]⟩ : ByteArray), (⟨#[50]⟩ : ByteArray), 900⟩ : S24)] : List (S24))).bind fun y134 => ((pins_Priority.f y134 (⟨#[97, 98]⟩ : ByteArray) (⟨#[49, 46, 53]⟩ : ByteArray)).bind fun t137 => (if t137 = (-1) then ((pins_Priority.f y134 (⟨#[97, 98]⟩ : ByteArray) (⟨#[50]⟩ : ByteArray)).bind fun t138 => (if t138 = 900 then ((pins_Priority.f y134 (⟨#[99, 100]⟩ : ByteArray) (⟨#[50]⟩ : ByteArray)).bind fun t139 => (if t139 = 900 then ((pins_Priority.f y134 (⟨#[99, 100]⟩ : ByteArray) (⟨#[49]⟩ : ByteArray)).bind fun t140 => (some (t140 == 500))) else (none))) else (none))) else (none)))) else (none))) else (none)) = some r := by first | (rw [hy128]; with_reducible exact H) | (have H2_ := (Option.bind_some _ _).symm.trans H; rw [hy128]; with_reducible exact H2_) | (have H2_ := (Option.bind_some _ _).symm.trans H; with_reducible exact H2_) | with_reducible exact H | (rw [hy128]; exact H) | exact H
        have Ny128 := Aside0.mk hy128
        clear hy128
        by_cases c20 : y128.length + t119.length < 3518437208883
        · rw [if_pos c20] at H
          have LMc20 := Aside0.mk c20
          clear c20
          obtain ⟨y131, hy131⟩ : ∃ y_ : List (S24), y_ = (y128 ++ t119) := ⟨_, rfl⟩
          replace H : (if y131.length < 3518437208883 then ((some (y131 ++ [(⟨(⟨#[42]⟩ : ByteArray), (⟨#[50]⟩ : ByteArray), 900⟩ : S24)] : List (S24))).bind fun y134 => ((pins_Priority.f y134 (⟨#[97, 98]⟩ : ByteArray) (⟨#[49, 46, 53]⟩ : ByteArray)).bind fun t137 => (if t137 = (-1) then ((pins_Priority.f y134 (⟨#[97, 98]⟩ : ByteArray) (⟨#[50]⟩ : ByteArray)).bind fun t138 => (if t138 = 900 then ((pins_Priority.f y134 (⟨#[99, 100]⟩ : ByteArray) (⟨#[50]⟩ : ByteArray)).bind fun t139 => (if t139 = 900 then ((pins_Priority.f y134 (⟨#[99, 100]⟩ : ByteArray) (⟨#[49]⟩ : ByteArray)).bind fun t140 => (some (t140 == 500))) else (none))) else (none))) else (none)))) else (none)) = some r := by first | (rw [hy131]; with_reducible exact H) | (have H2_ := (Option.bind_some _ _).symm.trans H; rw [hy131]; with_reducible exact H2_) | (have H2_ := (Option.bind_some _ _).symm.trans H; with_reducible exact H2_) | with_reducible exact H | (rw [hy131]; exact H) | exact H
          have Ny131 := Aside0.mk hy131
          clear hy131
          by_cases c21 : y131.length < 3518437208883
          · rw [if_pos c21] at H
            have LMc21 := Aside0.mk c21
            clear c21
            obtain ⟨y134, hy134⟩ : ∃ y_ : List (S24), y_ = (y131 ++ [(⟨(⟨#[42]⟩ : ByteArray), (⟨#[50]⟩ : ByteArray), 900⟩ : S24)]) := ⟨_, rfl⟩
            replace H : ((pins_Priority.f y134 (⟨#[97, 98]⟩ : ByteArray) (⟨#[49, 46, 53]⟩ : ByteArray)).bind fun t137 => (if t137 = (-1) then ((pins_Priority.f y134 (⟨#[97, 98]⟩ : ByteArray) (⟨#[50]⟩ : ByteArray)).bind fun t138 => (if t138 = 900 then ((pins_Priority.f y134 (⟨#[99, 100]⟩ : ByteArray) (⟨#[50]⟩ : ByteArray)).bind fun t139 => (if t139 = 900 then ((pins_Priority.f y134 (⟨#[99, 100]⟩ : ByteArray) (⟨#[49]⟩ : ByteArray)).bind fun t140 => (some (t140 == 500))) else (none))) else (none))) else (none))) = some r := by first | (rw [hy134]; with_reducible exact H) | (have H2_ := (Option.bind_some _ _).symm.trans H; rw [hy134]; with_reducible exact H2_) | (have H2_ := (Option.bind_some _ _).symm.trans H; with_reducible exact H2_) | with_reducible exact H | (rw [hy134]; exact H) | exact H
            have Ny134 := Aside0.mk hy134
            clear hy134
            replace H := Option.bind_eq_some_iff.mp H
            obtain ⟨t137, A220, H⟩ := H
            replace H : (if t137 = (-1) then ((pins_Priority.f y134 (⟨#[97, 98]⟩ : ByteArray) (⟨#[50]⟩ : ByteArray)).bind fun t138 => (if t138 = 900 then ((pins_Priority.f y134 (⟨#[99, 100]⟩ : ByteArray) (⟨#[50]⟩ : ByteArray)).bind fun t139 => (if t139 = 900 then ((pins_Priority.f y134 (⟨#[99, 100]⟩ : ByteArray) (⟨#[49]⟩ : ByteArray)).bind fun t140 => (some (t140 == 500))) else (none))) else (none))) else (none)) = some r := H
            have A22 := Aside0.mk A220
            clear A220
            by_cases c23 : t137 = (-1)
            · rw [if_pos c23] at H
              have c23b0 : (t137 == (-1)) = true := beq_iff_eq.mpr c23
              have c23b1 : (t137 != (-1)) = false := bne_eq_false_iff_eq.mpr c23
              clear c23
              replace H := Option.bind_eq_some_iff.mp H
              obtain ⟨t138, A240, H⟩ := H
              replace H : (if t138 = 900 then ((pins_Priority.f y134 (⟨#[99, 100]⟩ : ByteArray) (⟨#[50]⟩ : ByteArray)).bind fun t139 => (if t139 = 900 then ((pins_Priority.f y134 (⟨#[99, 100]⟩ : ByteArray) (⟨#[49]⟩ : ByteArray)).bind fun t140 => (some (t140 == 500))) else (none))) else (none)) = some r := H
              have A24 := Aside0.mk A240
              clear A240
              by_cases c25 : t138 = 900
              · rw [if_pos c25] at H
                have c25b0 : (t138 == 900) = true := beq_iff_eq.mpr c25
                have c25b1 : (t138 != 900) = false := bne_eq_false_iff_eq.mpr c25
                clear c25
                replace H := Option.bind_eq_some_iff.mp H
                obtain ⟨t139, A260, H⟩ := H
                replace H : (if t139 = 900 then ((pins_Priority.f y134 (⟨#[99, 100]⟩ : ByteArray) (⟨#[49]⟩ : ByteArray)).bind fun t140 => (some (t140 == 500))) else (none)) = some r := H
                have A26 := Aside0.mk A260
                clear A260
                by_cases c27 : t139 = 900
                · rw [if_pos c27] at H
                  have c27b0 : (t139 == 900) = true := beq_iff_eq.mpr c27
                  have c27b1 : (t139 != 900) = false := bne_eq_false_iff_eq.mpr c27
                  clear c27
                  replace H := Option.bind_eq_some_iff.mp H
                  obtain ⟨t140, A280, H⟩ := H
                  replace H : (some (t140 == 500)) = some r := H
                  have A28 := Aside0.mk A280
                  clear A280
                  obtain rfl := Option.some.inj H
                  go_wp2_with (first | ((with_reducible refine gate_dst (N := 23) rfl ?_); refine Kd.R_lit k24 _ 24 ?hg (N := 23) ?hd (xs := ([] : List (S24))) (inner := []) (ok := fun _ => True) (okp := fun _ => True) ?hr ?hp (fun _ hk => hk) trivial (Below.refl _ _) (Nat.le_refl _) (by simp) ?_; (case hd => rfl); (case hg => rfl); (case hr => first | (go_simp; done) | (go_simp; rfl)); (case hp => exact (Reps.none _ _)); intro v129 w29 ho30 hb hg_ hnew_; clear hg_ hnew_; (first | rw [← Ny128.out] at ho30 | (simp only [Int.reduceToNat] at ho30; rw [← Ny128.out] at ho30)); have n0_ := Aside0.mk (Kd.R_elder' (by (with_reducible repeat (first | apply Kd.R_alloc | apply Kd.R_drewN | apply Kd.R_drew)); exact HO_1.out) (Kd.R_base ho30) hb); have n1_ := Aside0.mk (Kd.R_lower (Kd.R_new' ho30 (Kd.R_lt (by (with_reducible repeat (first | apply Kd.R_alloc | apply Kd.R_drewN | apply Kd.R_drew)); exact HO_1.out))) (below_size (by repeat (first | (with_reducible first | exact HB.out | apply below_alloc | apply pw_below_drewN | apply below_drew1) | exact HB.out)))); have n2_ := Aside0.mk (below_step (by repeat (first | (with_reducible first | exact HB.out | apply below_alloc | apply pw_below_drewN | apply below_drew1) | exact HB.out)) hb); clear HO_1; clear HB; have HO_1 := n0_; have HO130 := n1_; have HB := n2_; clear n0_ n1_ n2_; clear hb ho30; obtain ⟨Ao32, co32, eo32⟩ := Kd.R_slice HO_1.out; subst eo32) | ((with_reducible refine gate_builtin (b := .append) (xs := #[.tmp 23, .tmp 24]) rfl ?_); at_builtin; refine Kd.R_append_rows k24 (w0 := w) w.heap.size rfl (.tmp 23) (.tmp 24) 22 24 (.agg #[(.string ⟨#[]⟩), (.string ⟨#[]⟩), (.int .i64 0)]) 40 rfl Tryd.underlying22 info24 rfl (by decide) (by omega) v129 y128 t119 _ _ _ (fun k_ => some k_ ≠ (.slice Ao32 t119.length co32 : Value).ownBlock) (fun _ => False) rfl rfl ?aO ?aR (fun _ _ h => h) (fun _ h => h.elim) ?aF ?aB ?aS ?aL ?_; (case aR => repeat (first | exact (Kd.R_reads' HO_1.out).2.2 | (with_reducible refine Kd.C_alloc ?_ _) | (with_reducible refine Kd.C_drewN ?_ _) | (with_reducible refine Kd.C_drew ?_))); (case aB => exact (by repeat (first | (with_reducible first | exact HB.out | apply below_alloc | apply pw_below_drewN | apply below_drew1) | exact HB.out))); (case aF => exact (fun k_ hk => Kd.fresh' (Kd.R_lt (by (with_reducible repeat (first | apply Kd.R_alloc | apply Kd.R_drewN | apply Kd.R_drew)); exact HO_1.out)) k_ hk)); (case aO => exact (by (with_reducible repeat (first | apply Kd.R_alloc | apply Kd.R_drewN | apply Kd.R_drew)); exact Kd.R_mono HO130.out (fun _ hk => hk.2))); (case aS => exact (below_size (by repeat (first | (with_reducible first | exact HB.out | apply below_alloc | apply pw_below_drewN | apply below_drew1) | exact HB.out)))); (case aL => have := LMc20.out; omega); intro v132 w31 ho hb hg hat; rw [← Ny131.out] at ho; have n0_ := Aside0.mk (Kd.R_after (ok := (fun _ => True)) (by (with_reducible repeat (first | apply Kd.R_alloc | apply Kd.R_drewN | apply Kd.R_drew)); exact HO_1.out) hg hat); have n1_ := Aside0.mk (hb); have n2_ := Aside0.mk (ho); clear HO_1; clear HB; clear HO130; have HO_1 := n0_; have HB := n1_; have HO133 := n2_; clear n0_ n1_ n2_; clear ho hb hg hat) | ((with_reducible refine gate_builtin (b := .append) (xs := #[.tmp 25, .tmp 27]) rfl ?_); at_builtin; refine Kd.R_append k24 (w0 := w) w.heap.size rfl (.tmp 25) (.tmp 27) 22 24 (.agg #[(.string ⟨#[]⟩), (.string ⟨#[]⟩), (.int .i64 0)]) 40 rfl Tryd.underlying22 info24 rfl (by decide) (by omega) v132 y131 (⟨(⟨#[42]⟩ : ByteArray), (⟨#[50]⟩ : ByteArray), 900⟩ : S24) [.string (⟨#[42]⟩ : ByteArray), .string (⟨#[50]⟩ : ByteArray), .int .i64 900] (fun k_ => some k_ ≠ (.slice Ao32 t119.length co32 : Value).ownBlock) (fun _ => False) rfl rfl ?aP (fun _ hk => hk.elim) ?aF ?aO ?aB ?aS ?aL ?_; (case aP => exact k24_mkM _ _ _ (⟨(⟨#[42]⟩ : ByteArray), (⟨#[50]⟩ : ByteArray), 900⟩ : S24)); (case aB => exact (by repeat (first | (with_reducible first | exact HB.out | apply below_alloc | apply pw_below_drewN | apply below_drew1) | exact HB.out))); (case aF => exact (fun k_ hk => Kd.fresh' (Kd.R_lt (by (with_reducible repeat (first | apply Kd.R_alloc | apply Kd.R_drewN | apply Kd.R_drew)); exact HO_1.out)) k_ hk)); (case aO => exact (by (with_reducible repeat (first | apply Kd.R_alloc | apply Kd.R_drewN | apply Kd.R_drew)); exact HO133.out)); (case aS => exact (below_size (by repeat (first | (with_reducible first | exact HB.out | apply below_alloc | apply pw_below_drewN | apply below_drew1) | exact HB.out)))); (case aL => have := LMc21.out; omega); intro v135 w33 ho hb hg hat; rw [← Ny134.out] at ho; have n0_ := Aside0.mk (Kd.R_after (ok := (fun _ => True)) (by (with_reducible repeat (first | apply Kd.R_alloc | apply Kd.R_drewN | apply Kd.R_drew)); exact HO_1.out) hg hat); have n1_ := Aside0.mk (hb); have n2_ := Aside0.mk (ho); clear HO_1; clear HB; clear HO133; have HO_1 := n0_; have HB := n1_; have HO136 := n2_; clear n0_ n1_ n2_; clear ho hb hg hat; obtain ⟨Ao34, co34, eo34⟩ := Kd.R_slice HO136.out; subst eo34) | ((with_reducible refine gate_callee (f := 7) rfl ?_); refine goesL_ (some 30) rfl rfl Tryd.func7 (by kernel_rfl) rfl #[.slice Ao34 y134.length co34, .string (⟨#[97, 98]⟩ : ByteArray), .string (⟨#[49, 46, 53]⟩ : ByteArray)] rfl (by (try simp only [List.map_toArray, List.map_cons, List.map_nil]); first | done | rfl | (simp only [List.length_drop, List.length_take]; rfl)) ?_; (with_reducible refine (pins_Priority.calls _ _ y134 (⟨#[97, 98]⟩ : ByteArray) (⟨#[49, 46, 53]⟩ : ByteArray) t137 _ ?side1 ?side2 A22.out).mono ?_); (case side1 => repeat (first | exact (Kd.R_reads' HO136.out).2.2 | (with_reducible refine Kd.C_alloc ?_ _) | (with_reducible refine Kd.C_drewN ?_ _) | (with_reducible refine Kd.C_drew ?_))); (case side2 => exact (Kd.R_reads' HO136.out).2.1); rintro e w35 ⟨rfl, hb⟩; refine ⟨_, rfl, ?_⟩; have n0_ := Aside0.mk (Kd.R_below (by (with_reducible repeat (first | apply Kd.R_alloc | apply Kd.R_drewN | apply Kd.R_drew)); exact HO_1.out) hb); have n1_ := Aside0.mk (Kd.R_below (by (with_reducible repeat (first | apply Kd.R_alloc | apply Kd.R_drewN | apply Kd.R_drew)); exact HO136.out) hb); have n2_ := Aside0.mk (below_step (by repeat (first | (with_reducible first | exact HB.out | apply below_alloc | apply pw_below_drewN | apply below_drew1) | exact HB.out)) hb); clear HO_1; clear HO136; clear HB; have HO_1 := n0_; have HO136 := n1_; have HB := n2_; clear n0_ n1_ n2_; (try clear hb); (try clear hb2); (try clear hk); (try clear hi)) | (go_at_call 7; (with_reducible refine (pins_Priority.calls _ _ y134 (⟨#[97, 98]⟩ : ByteArray) (⟨#[50]⟩ : ByteArray) t138 _ ?side1 ?side2 A24.out).mono ?_); (case side1 => repeat (first | exact (Kd.R_reads' HO136.out).2.2 | (with_reducible refine Kd.C_alloc ?_ _) | (with_reducible refine Kd.C_drewN ?_ _) | (with_reducible refine Kd.C_drew ?_))); (case side2 => exact (Kd.R_reads' HO136.out).2.1); rintro e w36 ⟨rfl, hb⟩; have n0_ := Aside0.mk (Kd.R_below (by (with_reducible repeat (first | apply Kd.R_alloc | apply Kd.R_drewN | apply Kd.R_drew)); exact HO_1.out) hb); have n1_ := Aside0.mk (Kd.R_below (by (with_reducible repeat (first | apply Kd.R_alloc | apply Kd.R_drewN | apply Kd.R_drew)); exact HO136.out) hb); have n2_ := Aside0.mk (below_step (by repeat (first | (with_reducible first | exact HB.out | apply below_alloc | apply pw_below_drewN | apply below_drew1) | exact HB.out)) hb); clear HO_1; clear HO136; clear HB; have HO_1 := n0_; have HO136 := n1_; have HB := n2_; clear n0_ n1_ n2_; (try clear hb); (try clear hb2); (try clear hk); (try clear hi)) | (go_at_call 7; (with_reducible refine (pins_Priority.calls _ _ y134 (⟨#[99, 100]⟩ : ByteArray) (⟨#[50]⟩ : ByteArray) t139 _ ?side1 ?side2 A26.out).mono ?_); (case side1 => repeat (first | exact (Kd.R_reads' HO136.out).2.2 | (with_reducible refine Kd.C_alloc ?_ _) | (with_reducible refine Kd.C_drewN ?_ _) | (with_reducible refine Kd.C_drew ?_))); (case side2 => exact (Kd.R_reads' HO136.out).2.1); rintro e w37 ⟨rfl, hb⟩; have n0_ := Aside0.mk (Kd.R_below (by (with_reducible repeat (first | apply Kd.R_alloc | apply Kd.R_drewN | apply Kd.R_drew)); exact HO_1.out) hb); have n1_ := Aside0.mk (Kd.R_below (by (with_reducible repeat (first | apply Kd.R_alloc | apply Kd.R_drewN | apply Kd.R_drew)); exact HO136.out) hb); have n2_ := Aside0.mk (below_step (by repeat (first | (with_reducible first | exact HB.out | apply below_alloc | apply pw_below_drewN | apply below_drew1) | exact HB.out)) hb); clear HO_1; clear HO136; clear HB; have HO_1 := n0_; have HO136 := n1_; have HB := n2_; clear n0_ n1_ n2_; (try clear hb); (try clear hb2); (try clear hk); (try clear hi)) | (go_at_call 7; (with_reducible refine (pins_Priority.calls _ _ y134 (⟨#[99, 100]⟩ : ByteArray) (⟨#[49]⟩ : ByteArray) t140 _ ?side1 ?side2 A28.out).mono ?_); (case side1 => repeat (first | exact (Kd.R_reads' HO136.out).2.2 | (with_reducible refine Kd.C_alloc ?_ _) | (with_reducible refine Kd.C_drewN ?_ _) | (with_reducible refine Kd.C_drew ?_))); (case side2 => exact (Kd.R_reads' HO136.out).2.1); rintro e w38 ⟨rfl, hb⟩; have n0_ := Aside0.mk (Kd.R_below (by (with_reducible repeat (first | apply Kd.R_alloc | apply Kd.R_drewN | apply Kd.R_drew)); exact HO_1.out) hb); have n1_ := Aside0.mk (Kd.R_below (by (with_reducible repeat (first | apply Kd.R_alloc | apply Kd.R_drewN | apply Kd.R_drew)); exact HO136.out) hb); have n2_ := Aside0.mk (below_step (by repeat (first | (with_reducible first | exact HB.out | apply below_alloc | apply pw_below_drewN | apply below_drew1) | exact HB.out)) hb); clear HO_1; clear HO136; clear HB; have HO_1 := n0_; have HO136 := n1_; have HB := n2_; clear n0_ n1_ n2_; (try clear hb); (try clear hb2); (try clear hk); (try clear hi)))
                  go_ret
                  exact ⟨by first | rfl | (simp [errW_none, errW_some] <;> rfl) | (simp [*, errW_none, errW_some] <;> rfl), by repeat (first | (with_reducible first | exact HB.out | apply below_alloc | apply pw_below_drewN | apply below_drew1) | exact HB.out)⟩
                · rw [if_neg c27] at H
                  exact absurd H (by simp)
              · rw [if_neg c25] at H
                exact absurd H (by simp)
            · rw [if_neg c23] at H
              exact absurd H (by simp)
          · rw [if_neg c21] at H
            exact absurd H (by simp)
        · rw [if_neg c20] at H
          exact absurd H (by simp)

end Go.Proofs.YtlcfpmdamehopaaDoor.PA
/- keelsonlaw8's words: its examples hold; whether pins are small. No condition. -/
namespace Go.Proofs.YtlcfpmdamehopaaDoor.PA
open Go.RowKit Go.Proofs.YtlcfpmdamehopaaDoorW.PrintWords Go.Proofs.YtlcfpmdamehopaaDoorW.PrintLast Go.Proofs.YtlcfpmdamehopaaDoorW.PrintMore

def pinA : Pn := ⟨⟨#[97, 98]⟩, ⟨#[49, 46]⟩, -1⟩
theorem itoa_m1 : itoaB (-1) = ⟨#[45, 49]⟩ := by
  unfold itoaB Lib.itoa
  rw [if_pos (by decide), show (-1 : Int).natAbs = 1 from rfl, Lib.decDigits, dif_pos (by decide)]
  rfl
theorem parse_A : parseL [80, 97, 99, 107, 97, 103, 101, 58, 32, 97, 98, 10, 80, 105, 110, 58, 32, 118, 101, 114, 115, 105, 111, 110, 32, 49, 46, 42, 10, 80, 105, 110, 45, 80, 114, 105, 111, 114, 105, 116, 121, 58, 32, 45, 49] = ([stPin pinA], 0, 0) := by
  have e : stPin pinA = [⟨kPack, ⟨#[97, 98]⟩⟩, ⟨kPin, ⟨#[118, 101, 114, 115, 105, 111, 110, 32, 49, 46, 42]⟩⟩, ⟨kPrio, ⟨#[45, 49]⟩⟩] := by
    unfold stPin pinA
    rw [itoa_m1]
    have : pinV ⟨#[49, 46]⟩ = ⟨#[118, 101, 114, 115, 105, 111, 110, 32, 49, 46, 42]⟩ := bytes_injQ (by rw [pinV_list]; rfl)
    rw [this]
  rw [e]
  rfl
theorem right_A : rightQ pinA = true := by decide +kernel
theorem parsed_A : parseP (⟨#[80, 97, 99, 107, 97, 103, 101, 58, 32, 97, 98, 10, 80, 105, 110, 58, 32, 118, 101, 114, 115, 105, 111, 110, 32, 49, 46, 42, 10, 80, 105, 110, 45, 80, 114, 105, 111, 114, 105, 116, 121, 58, 32, 45, 49]⟩ : ByteArray).data.toList = ([pinA], 0, 0) := by
  unfold parseP
  rw [show (⟨#[80, 97, 99, 107, 97, 103, 101, 58, 32, 97, 98, 10, 80, 105, 110, 58, 32, 118, 101, 114, 115, 105, 111, 110, 32, 49, 46, 42, 10, 80, 105, 110, 45, 80, 114, 105, 111, 114, 105, 116, 121, 58, 32, 45, 49]⟩ : ByteArray).data.toList = [80, 97, 99, 107, 97, 103, 101, 58, 32, 97, 98, 10, 80, 105, 110, 58, 32, 118, 101, 114, 115, 105, 111, 110, 32, 49, 46, 42, 10, 80, 105, 110, 45, 80, 114, 105, 111, 114, 105, 116, 121, 58, 32, 45, 49] from rfl, parse_A]
  dsimp only
  rw [if_pos rfl, if_neg (by decide)]
  exact pinsG_back [pinA] 0 [] (fun p hp => by rw [List.mem_singleton.1 hp]; exact right_A)
theorem shown8_ev : Ev (fun k => keelsonlaw8_shown.f k) true := by
  unfold keelsonlaw8_shown.f
  refine Ev.bind (pparse_ev _) ?_
  rw [parsed_A]
  refine Ev.bind (same8_ev [pinA] (by decide)) (Ev.pos rfl (Ev.pos rfl (Ev.succ ?_)))
  simp only [keelsonlaw8_shown.j0]
  refine Ev.neg (by decide) (Ev.let (Ev.pos (by decide) (Ev.let (Ev.pos (by decide) (Ev.let ?_)))))
  refine Ev.call (show pins_Priority.f _ _ _ = some (-1) by decide +kernel) (Ev.pos rfl (Ev.call (show pins_Priority.f _ _ _ = some 900 by decide +kernel) (Ev.pos rfl (Ev.call (show pins_Priority.f _ _ _ = some 900 by decide +kernel) (Ev.pos rfl (Ev.call (show pins_Priority.f _ _ _ = some 500 by decide +kernel) (Ev.some rfl)))))))
def smallP (l : List Pn) : Bool := decide (l.length ≤ 70) && l.all fun p => decide (p.f0.size ≤ 100) && decide (p.f1.size ≤ 100)
theorem small8_loop (a : List Pn) (hn : a.length ≤ 1000000) (d : Nat) : ∀ i : Nat, i + d = a.length → Ev (fun k => keelsonlaw8_small.l0 k a (i : Int)) ((a.drop i).all fun p => decide (p.f0.size ≤ 100) && decide (p.f1.size ≤ 100)) := by
  induction d with
  | zero =>
    intro i hi
    rw [List.drop_eq_nil_of_le (by omega)]
    refine Ev.succ ?_
    simp only [keelsonlaw8_small.l0]
    exact Ev.neg (by omega) (Ev.some rfl)
  | succ d ih =>
    intro i hi
    have hil : i < a.length := by omega
    have hn := ih (i + 1) (by omega)
    refine Ev.succ ?_
    simp only [keelsonlaw8_small.l0]
    rw [wrap_step hil (by omega), rdP_nat a i hil, List.drop_eq_getElem_cons hil, List.all_cons]
    refine Ev.pos (by omega) (Ev.pos (by omega) (Ev.ite2 (fun h => Ev.some ?_) (fun h => Ev.ite2 (fun h2 => Ev.some ?_) (fun h2 => ?_))))
    · rw [decide_eq_false (show ¬ a[i].f0.size ≤ 100 by omega)]; rfl
    · rw [decide_eq_false (show ¬ a[i].f1.size ≤ 100 by omega), Bool.and_false]; rfl
    · rw [decide_eq_true (show a[i].f0.size ≤ 100 by omega), decide_eq_true (show a[i].f1.size ≤ 100 by omega)]; exact hn
theorem small8_ev (a : List Pn) (hn : a.length ≤ 140737488351232) : Ev (fun k => keelsonlaw8_small.f k a) (smallP a) := by
  unfold keelsonlaw8_small.f smallP
  by_cases h : a.length ≤ 70
  · rw [decide_eq_true h, Bool.true_and]
    have := small8_loop a (by omega) a.length 0 (by omega)
    rw [List.drop_zero] at this
    exact Ev.neg (by omega) this
  · rw [decide_eq_false h]
    exact Ev.pos (by omega) (Ev.some rfl)
theorem smallP_sizes {l : List Pn} (h : smallP l = true) : l.length ≤ 70 ∧ ∀ p ∈ l, p.f0.size ≤ 100 ∧ p.f1.size ≤ 100 := by
  unfold smallP at h
  simp only [Bool.and_eq_true, decide_eq_true_iff, List.all_eq_true] at h
  exact h
end Go.Proofs.YtlcfpmdamehopaaDoor.PA
-- Printed by gprint.py (wip/ of this repo), over the kit's print.
namespace Go.Proofs.YtlcfpmdamehopaaDoor.PA
open Go.RowKit Go.Proofs.YtlcfpmdamehopaaDoorW.PrintWords Go.Proofs.YtlcfpmdamehopaaDoorW.PrintLast Go.Proofs.YtlcfpmdamehopaaDoorW.PrintMore
attribute [local go_sem] max2_int min2_int max_two min_two max_three min_three max_four min_four   -- for this text's walks alone
set_option linter.unusedVariables false
set_option linter.unusedSimpArgs false

/-! ### keelsonlaw8_PinsFirst: function 3 -/
mutual
def keelsonlaw8_PinsFirst.j0 : Nat → List (S24) → ByteArray → ByteArray → Bool → Bool → ByteArray → ByteArray → Int → Option (Bool)
  | 0, _, _, _, _, _, _, _, _ => none
  | k + 1, x0, x1, x2, x9, x44, x144000, x144001, x144002 => if x44 = true then (some x9) else ((pins_Priority.f x0 x1 x2).bind fun t158 => ((some (([(⟨x1, x144001, x144002⟩ : S24)] : List (S24)) : List (S24))).bind fun y159 => (if y159.length + x0.length < 3518437208883 then ((pins_Priority.f (y159 ++ x0) x1 x2).bind fun t165 => ((pins_Matches.f x1 x144001 x144002 x1 x2).bind fun t166 => (if t166 = true then (keelsonlaw8_PinsFirst.j1 k x0 x1 x2 t158 t165 x144002 x1 x144001 x144002) else (keelsonlaw8_PinsFirst.j1 k x0 x1 x2 t158 t165 t158 x1 x144001 x144002)))) else (none))))
def keelsonlaw8_PinsFirst.j1 : Nat → List (S24) → ByteArray → ByteArray → Int → Int → Int → ByteArray → ByteArray → Int → Option (Bool)
  | 0, _, _, _, _, _, _, _, _, _ => none
  | k + 1, x0, x1, x2, x11, x12, x13, x144000, x144001, x144002 => keelsonlaw8_PinsFirst.l0 k x0 x1 x2 x11 x12 x13 false 0 x144000 x144001 x144002
def keelsonlaw8_PinsFirst.l0 : Nat → List (S24) → ByteArray → ByteArray → Int → Int → Int → Bool → Int → ByteArray → ByteArray → Int → Option (Bool)
  | 0, _, _, _, _, _, _, _, _, _, _, _ => none
  | k + 1, x0, x1, x2, x11, x12, x13, x14, x15, x144000, x144001, x144002 => if x15 < (x0.length : Int) then (if x14 = true then (keelsonlaw8_PinsFirst.l0 k x0 x1 x2 x11 x12 x13 true (wrap64 (x15 + 1)) x144000 x144001 x144002) else (if 0 ≤ x15 then (if ((rd_T24 x0 x15).f0).toList = x1.toList then ((pins_Matches.f ((rd_T24 x0 x15).f0) ((rd_T24 x0 x15).f1) ((rd_T24 x0 x15).f2) x1 x2).bind fun t169 => (keelsonlaw8_PinsFirst.l0 k x0 x1 x2 x11 x12 x13 t169 (wrap64 (x15 + 1)) x144000 x144001 x144002)) else (keelsonlaw8_PinsFirst.l0 k x0 x1 x2 x11 x12 x13 false (wrap64 (x15 + 1)) x144000 x144001 x144002)) else (none))) else ((some (([] : List (S24)) : List (S24))).bind fun y170 => (if y170.length + x0.length < 3518437208883 then ((some (y170 ++ x0 : List (S24))).bind fun y173 => ((some (([(⟨x144000, x144001, x144002⟩ : S24)] : List (S24)) : List (S24))).bind fun y176 => (if y173.length + y176.length < 3518437208883 then ((pins_Priority.f (y173 ++ y176) x1 x2).bind fun t182 => (if x12 = x13 then (if x14 = true then (some (t182 == x11)) else (some true)) else (none))) else (none)))) else (none)))
end
def keelsonlaw8_PinsFirst.f (k : Nat) (l0 : List (S24)) (a1 : ByteArray) (a2 : ByteArray) (a3_0 : ByteArray) (a3_1 : ByteArray) (a3_2 : Int) : Option (Bool) := (keelsonlaw8_shown.f k).bind fun t144 => ((some (([] : List (S24)) : List (S24))).bind fun y145 => (if y145.length + l0.length < 3518437208883 then ((some (y145 ++ l0 : List (S24))).bind fun y148 => ((some (([(⟨a3_0, a3_1, a3_2⟩ : S24)] : List (S24)) : List (S24))).bind fun y151 => (if y148.length + y151.length < 3518437208883 then ((keelsonlaw8_small.f k (y148 ++ y151)).bind fun t157 => (if t144 = true then (if t157 = true then (if (a1.size : Int) > 100 then (keelsonlaw8_PinsFirst.j0 k l0 a1 a2 t144 true a3_0 a3_1 a3_2) else (if (a2.size : Int) > 100 then (keelsonlaw8_PinsFirst.j0 k l0 a1 a2 t144 true a3_0 a3_1 a3_2) else (keelsonlaw8_PinsFirst.j0 k l0 a1 a2 t144 (a1.toList == ([42] : List UInt8)) a3_0 a3_1 a3_2))) else (keelsonlaw8_PinsFirst.j0 k l0 a1 a2 t144 true a3_0 a3_1 a3_2)) else (keelsonlaw8_PinsFirst.j0 k l0 a1 a2 t144 true a3_0 a3_1 a3_2))) else (none)))) else (none)))
def keelsonlaw8_PinsFirst.T2 : Bool × List (List Nat × List Nat) := (true, [([], []), ([], []), ([0, 1], [0, 1]), ([], []), ([3], [3]), ([2, 4, 2], [2, 4]), ([5, 5], [5]), ([6, 6, 0, 1, 2, 3, 4, 5, 6], [6])])
def keelsonlaw8_PinsFirst.B2 : List Nat := [0, 0, 3, 0, 8, 31, 63, 127]
theorem keelsonlaw8_PinsFirst.tab2 : rtab .any (opsOf Tryd.f3 2) = keelsonlaw8_PinsFirst.T2 := by kernel_rfl
theorem keelsonlaw8_PinsFirst.bits2 : waitsOk keelsonlaw8_PinsFirst.T2.2 keelsonlaw8_PinsFirst.B2 = true := by kernel_rfl
def keelsonlaw8_PinsFirst.T16 : Bool × List (List Nat × List Nat) := (true, [([], []), ([], []), ([0, 1], [0, 1]), ([], []), ([3], [3]), ([2, 4, 2], [2, 4]), ([], []), ([], []), ([5, 6, 7, 5], [5, 6, 7]), ([8, 8, 0, 1, 2, 3, 4, 5, 6, 7, 8], [8])])
def keelsonlaw8_PinsFirst.B16 : List Nat := [0, 0, 3, 0, 8, 31, 0, 0, 255, 511]
theorem keelsonlaw8_PinsFirst.tab16 : rtab .any (opsOf Tryd.f3 16) = keelsonlaw8_PinsFirst.T16 := by kernel_rfl
theorem keelsonlaw8_PinsFirst.bits16 : waitsOk keelsonlaw8_PinsFirst.T16.2 keelsonlaw8_PinsFirst.B16 = true := by kernel_rfl
set_option maxHeartbeats 8000000 in
set_option maxRecDepth 100000 in
theorem keelsonlaw8_PinsFirst.calls (k : Nat) (A0 : Option Addr) (c0 : Nat) (l0 : List (S24)) (a1 : ByteArray) (a2 : ByteArray) (a3_0 : ByteArray) (a3_1 : ByteArray) (a3_2 : Int) (r : Bool) (w : World) (hr0 : Kd.C k24 w A0 l0.length l0) (hc0 : l0.length ≤ c0) (hG_maxLen : GlobMaxLen w) (hG_numErr : GlobNumErr w) (hG_pow10 : GlobPow10 w) (h : keelsonlaw8_PinsFirst.f k l0 a1 a2 a3_0 a3_1 a3_2 = some r) :
    Calls Tryd.prog 3 #[.slice A0 l0.length c0, .string a1, .string a2, .agg #[.string a3_0, .string a3_1, .int .i64 a3_2]] w fun e w' => e = .returned (.bool r) ∧ Below w.heap.size w w' := by
  have hu24 := Tryd.underlying24
  have HG_maxLen := Aside0.mk hG_maxLen
  clear hG_maxLen
  have HG_numErr := Aside0.mk hG_numErr
  clear hG_numErr
  have HG_pow10 := Aside0.mk hG_pow10
  clear hG_pow10
  have HR0 := Aside0.mk hr0
  have HC0 := Aside0.mk hc0
  clear hr0 hc0
  have HB := Aside0.mk (Below.refl w.heap.size w)
  have H : ((keelsonlaw8_shown.f k).bind fun t144 => ((some (([] : List (S24)) : List (S24))).bind fun y145 => (if y145.length + l0.length < 3518437208883 then ((some (y145 ++ l0 : List (S24))).bind fun y148 => ((some (([(⟨a3_0, a3_1, a3_2⟩ : S24)] : List (S24)) : List (S24))).bind fun y151 => (if y148.length + y151.length < 3518437208883 then ((keelsonlaw8_small.f k (y148 ++ y151)).bind fun t157 => (if t144 = true then (if t157 = true then (if (a1.size : Int) > 100 then (keelsonlaw8_PinsFirst.j0 k l0 a1 a2 t144 true a3_0 a3_1 a3_2) else (if (a2.size : Int) > 100 then (keelsonlaw8_PinsFirst.j0 k l0 a1 a2 t144 true a3_0 a3_1 a3_2) else (keelsonlaw8_PinsFirst.j0 k l0 a1 a2 t144 (a1.toList == ([42] : List UInt8)) a3_0 a3_1 a3_2))) else (keelsonlaw8_PinsFirst.j0 k l0 a1 a2 t144 true a3_0 a3_1 a3_2)) else (keelsonlaw8_PinsFirst.j0 k l0 a1 a2 t144 true a3_0 a3_1 a3_2))) else (none)))) else (none)))) = some r := h
  clear h
  replace H := Option.bind_eq_some_iff.mp H
  obtain ⟨t144, A50, H⟩ := H
  replace H : ((some (([] : List (S24)) : List (S24))).bind fun y145 => (if y145.length + l0.length < 3518437208883 then ((some (y145 ++ l0 : List (S24))).bind fun y148 => ((some (([(⟨a3_0, a3_1, a3_2⟩ : S24)] : List (S24)) : List (S24))).bind fun y151 => (if y148.length + y151.length < 3518437208883 then ((keelsonlaw8_small.f k (y148 ++ y151)).bind fun t157 => (if t144 = true then (if t157 = true then (if (a1.size : Int) > 100 then (keelsonlaw8_PinsFirst.j0 k l0 a1 a2 t144 true a3_0 a3_1 a3_2) else (if (a2.size : Int) > 100 then (keelsonlaw8_PinsFirst.j0 k l0 a1 a2 t144 true a3_0 a3_1 a3_2) else (keelsonlaw8_PinsFirst.j0 k l0 a1 a2 t144 (a1.toList == ([42] : List UInt8)) a3_0 a3_1 a3_2))) else (keelsonlaw8_PinsFirst.j0 k l0 a1 a2 t144 true a3_0 a3_1 a3_2)) else (keelsonlaw8_PinsFirst.j0 k l0 a1 a2 t144 true a3_0 a3_1 a3_2))) else (none)))) else (none))) = some r := H
  have A5 := Aside0.mk A50
  clear A50
  obtain ⟨y145, hy145⟩ : ∃ y_ : List (S24), y_ = (([] : List (S24))) := ⟨_, rfl⟩
  replace H : (if y145.length + l0.length < 3518437208883 then ((some (y145 ++ l0 : List (S24))).bind fun y148 => ((some (([(⟨a3_0, a3_1, a3_2⟩ : S24)] : List (S24)) : List (S24))).bind fun y151 => (if y148.length + y151.length < 3518437208883 then ((keelsonlaw8_small.f k (y148 ++ y151)).bind fun t157 => (if t144 = true then (if t157 = true then (if (a1.size : Int) > 100 then (keelsonlaw8_PinsFirst.j0 k l0 a1 a2 t144 true a3_0 a3_1 a3_2) else (if (a2.size : Int) > 100 then (keelsonlaw8_PinsFirst.j0 k l0 a1 a2 t144 true a3_0 a3_1 a3_2) else (keelsonlaw8_PinsFirst.j0 k l0 a1 a2 t144 (a1.toList == ([42] : List UInt8)) a3_0 a3_1 a3_2))) else (keelsonlaw8_PinsFirst.j0 k l0 a1 a2 t144 true a3_0 a3_1 a3_2)) else (keelsonlaw8_PinsFirst.j0 k l0 a1 a2 t144 true a3_0 a3_1 a3_2))) else (none)))) else (none)) = some r := by first | (rw [hy145]; with_reducible exact H) | (have H2_ := (Option.bind_some _ _).symm.trans H; rw [hy145]; with_reducible exact H2_) | (have H2_ := (Option.bind_some _ _).symm.trans H; with_reducible exact H2_) | with_reducible exact H | (rw [hy145]; exact H) | exact H
  have Ny145 := Aside0.mk hy145
  clear hy145
  by_cases c6 : y145.length + l0.length < 3518437208883
  · rw [if_pos c6] at H
    have LMc6 := Aside0.mk c6
    clear c6
    obtain ⟨y148, hy148⟩ : ∃ y_ : List (S24), y_ = (y145 ++ l0) := ⟨_, rfl⟩
    replace H : ((some (([(⟨a3_0, a3_1, a3_2⟩ : S24)] : List (S24)) : List (S24))).bind fun y151 => (if y148.length + y151.length < 3518437208883 then ((keelsonlaw8_small.f k (y148 ++ y151)).bind fun t157 => (if t144 = true then (if t157 = true then (if (a1.size : Int) > 100 then (keelsonlaw8_PinsFirst.j0 k l0 a1 a2 t144 true a3_0 a3_1 a3_2) else (if (a2.size : Int) > 100 then (keelsonlaw8_PinsFirst.j0 k l0 a1 a2 t144 true a3_0 a3_1 a3_2) else (keelsonlaw8_PinsFirst.j0 k l0 a1 a2 t144 (a1.toList == ([42] : List UInt8)) a3_0 a3_1 a3_2))) else (keelsonlaw8_PinsFirst.j0 k l0 a1 a2 t144 true a3_0 a3_1 a3_2)) else (keelsonlaw8_PinsFirst.j0 k l0 a1 a2 t144 true a3_0 a3_1 a3_2))) else (none))) = some r := by first | (rw [hy148]; with_reducible exact H) | (have H2_ := (Option.bind_some _ _).symm.trans H; rw [hy148]; with_reducible exact H2_) | (have H2_ := (Option.bind_some _ _).symm.trans H; with_reducible exact H2_) | with_reducible exact H | (rw [hy148]; exact H) | exact H
    have Ny148 := Aside0.mk hy148
    clear hy148
    obtain ⟨y151, hy151⟩ : ∃ y_ : List (S24), y_ = (([(⟨a3_0, a3_1, a3_2⟩ : S24)] : List (S24))) := ⟨_, rfl⟩
    replace H : (if y148.length + y151.length < 3518437208883 then ((keelsonlaw8_small.f k (y148 ++ y151)).bind fun t157 => (if t144 = true then (if t157 = true then (if (a1.size : Int) > 100 then (keelsonlaw8_PinsFirst.j0 k l0 a1 a2 t144 true a3_0 a3_1 a3_2) else (if (a2.size : Int) > 100 then (keelsonlaw8_PinsFirst.j0 k l0 a1 a2 t144 true a3_0 a3_1 a3_2) else (keelsonlaw8_PinsFirst.j0 k l0 a1 a2 t144 (a1.toList == ([42] : List UInt8)) a3_0 a3_1 a3_2))) else (keelsonlaw8_PinsFirst.j0 k l0 a1 a2 t144 true a3_0 a3_1 a3_2)) else (keelsonlaw8_PinsFirst.j0 k l0 a1 a2 t144 true a3_0 a3_1 a3_2))) else (none)) = some r := by first | (rw [hy151]; with_reducible exact H) | (have H2_ := (Option.bind_some _ _).symm.trans H; rw [hy151]; with_reducible exact H2_) | (have H2_ := (Option.bind_some _ _).symm.trans H; with_reducible exact H2_) | with_reducible exact H | (rw [hy151]; exact H) | exact H
    have Ny151 := Aside0.mk hy151
    clear hy151
    by_cases c7 : y148.length + y151.length < 3518437208883
    · rw [if_pos c7] at H
      have LMc7 := Aside0.mk c7
      clear c7
      obtain ⟨y154, hy154⟩ : ∃ y_ : List (S24), y_ = (y148 ++ y151) := ⟨_, rfl⟩
      replace H : ((keelsonlaw8_small.f k y154).bind fun t157 => (if t144 = true then (if t157 = true then (if (a1.size : Int) > 100 then (keelsonlaw8_PinsFirst.j0 k l0 a1 a2 t144 true a3_0 a3_1 a3_2) else (if (a2.size : Int) > 100 then (keelsonlaw8_PinsFirst.j0 k l0 a1 a2 t144 true a3_0 a3_1 a3_2) else (keelsonlaw8_PinsFirst.j0 k l0 a1 a2 t144 (a1.toList == ([42] : List UInt8)) a3_0 a3_1 a3_2))) else (keelsonlaw8_PinsFirst.j0 k l0 a1 a2 t144 true a3_0 a3_1 a3_2)) else (keelsonlaw8_PinsFirst.j0 k l0 a1 a2 t144 true a3_0 a3_1 a3_2))) = some r := by first | (rw [hy154]; with_reducible exact H) | (have H2_ := (Option.bind_some _ _).symm.trans H; rw [hy154]; with_reducible exact H2_) | (have H2_ := (Option.bind_some _ _).symm.trans H; with_reducible exact H2_) | with_reducible exact H | (rw [hy154]; exact H) | exact H
      have Ny154 := Aside0.mk hy154
      clear hy154
      replace H := Option.bind_eq_some_iff.mp H
      obtain ⟨t157, A80, H⟩ := H
      replace H : (if t144 = true then (if t157 = true then (if (a1.size : Int) > 100 then (keelsonlaw8_PinsFirst.j0 k l0 a1 a2 t144 true a3_0 a3_1 a3_2) else (if (a2.size : Int) > 100 then (keelsonlaw8_PinsFirst.j0 k l0 a1 a2 t144 true a3_0 a3_1 a3_2) else (keelsonlaw8_PinsFirst.j0 k l0 a1 a2 t144 (a1.toList == ([42] : List UInt8)) a3_0 a3_1 a3_2))) else (keelsonlaw8_PinsFirst.j0 k l0 a1 a2 t144 true a3_0 a3_1 a3_2)) else (keelsonlaw8_PinsFirst.j0 k l0 a1 a2 t144 true a3_0 a3_1 a3_2)) = some r := H
      have A8 := Aside0.mk A80
      clear A80
      have HC9 := Aside0.mk H
      clear H
      go_enter Tryd.func3, Tryd.ntmps3
      try go_wp2_with (first | ((with_reducible refine gate_dst (N := 7) rfl ?_); (try (refine gate_guard (by rfl) ?_; dsimp only)); refine box_event ?hg (N := 7) ?hd (cs := #[.string a3_0, .string a3_1, .int .i64 a3_2]) (t := 24) ?hr ?_; (case hd => rfl); (case hg => rfl); (case hr => first | (go_simp; done) | (go_simp; rfl)); intro gb143 hg w10 hbox hb; have n0_ := Aside0.mk (below_step (by repeat (first | (with_reducible first | exact HB.out | apply below_alloc | apply pw_below_drewN | apply below_drew1) | exact HB.out)) hb); have n1_ := Aside0.mk (hbox); have n2_ := Aside0.mk ((by rw [hg]; exact (below_size (by repeat (first | (with_reducible first | exact HB.out | apply below_alloc | apply pw_below_drewN | apply below_drew1) | exact HB.out))) : w.heap.size ≤ gb143)); have n3_ := Aside0.mk ((by rw [hg]; exact (below_size (by repeat (first | (with_reducible first | exact HB.out | apply below_alloc | apply pw_below_drewN | apply below_drew1) | exact HB.out))) : w.heap.size ≤ gb143)); clear HB; have HB := n0_; have BK143 := n1_; have GW143 := n2_; have GE143 := n3_; clear n0_ n1_ n2_ n3_; clear hb hbox hg) | ((with_reducible refine gate_callee (f := 5) rfl ?_); refine goesL_ (some 17) rfl rfl Tryd.func5 (by kernel_rfl) rfl #[] rfl (by (try simp only [List.map_toArray, List.map_cons, List.map_nil]); first | done | rfl | (simp only [List.length_drop, List.length_take]; rfl)) ?_; (with_reducible refine (keelsonlaw8_shown.calls k  t144 _ ?side1 ?side2 ?side3 A5.out).mono ?_); (case side1 => exact HG_maxLen.out.below (by repeat (first | (with_reducible first | exact HB.out | apply below_alloc | apply pw_below_drewN | apply below_drew1 | refine below_set ?_ GE143.out) | exact HB.out))); (case side2 => exact HG_numErr.out.below (by repeat (first | (with_reducible first | exact HB.out | apply below_alloc | apply pw_below_drewN | apply below_drew1 | refine below_set ?_ GE143.out) | exact HB.out))); (case side3 => exact HG_pow10.out.below (by repeat (first | (with_reducible first | exact HB.out | apply below_alloc | apply pw_below_drewN | apply below_drew1 | refine below_set ?_ GE143.out) | exact HB.out))); rintro e w11 ⟨rfl, hb⟩; refine ⟨_, rfl, ?_⟩; have n0_ := Aside0.mk (blk_below (g := gb143) (o := .cells #[.string a3_0, .string a3_1, .int .i64 a3_2] 24 (0, 0)) (by (with_reducible repeat (first | refine blk_drewN ?_ _ | refine blk_drew ?_ | refine blk_alloc ?_ _)); exact BK143.out) hb); have n1_ := Aside0.mk (below_step (by repeat (first | (with_reducible first | exact HB.out | apply below_alloc | apply pw_below_drewN | apply below_drew1 | refine below_set ?_ GE143.out) | exact HB.out)) hb); clear BK143; clear HB; have BK143 := n0_; have HB := n1_; clear n0_ n1_; (try clear hb); (try clear hb2); (try clear hk); (try clear hi)))
      have n0_ := Aside0.mk (blk_drew BK143.out)
      have n1_ := Aside0.mk (below_drew1 HB.out)
      clear BK143
      clear HB
      have BK143 := n0_
      have HB := n1_
      clear n0_ n1_
      refine start_ (n := 8) (S := fun w' => w'.cell? ⟨gb143, 0, none⟩ = some (.string a3_0) ∧ w'.cell? ⟨gb143, 1, none⟩ = some (.string a3_1) ∧ w'.cell? ⟨gb143, 2, none⟩ = some (.int .i64 a3_2)) (ds := []) #[false, false, false, false, false, false, false, false] (by kernel_rfl) rfl rfl ⟨(blk_cell BK143.out 0).trans rfl, (blk_cell BK143.out 1).trans rfl, (blk_cell BK143.out 2).trans rfl⟩ (fun hHeld => ?_); refine with_tabW keelsonlaw8_PinsFirst.tab2 keelsonlaw8_PinsFirst.bits2 (fun HT_ HW_ => ?_)
      generalize w11.drew = w12 at BK143 HB hHeld ⊢
      refine pure_ (i := 1) (N := some 19) (v := ?_) (a' := ?_) #[false, true, false, false, false, false, false, false] rfl rfl (any_of HT_.out (by kernel_rfl)) (fun _ _ _ h => h) (Or.inl ⟨by rfl, ?_⟩) ?_ ?_
      rotate_left
      · intro w'
        go_simp
        with_reducible rfl
      rotate_left
      · simp only [Act.put, List.setIfInBounds_toArray, List.set_cons_zero, List.set_cons_succ, i64_w, i32_w]
        rfl
      refine take_ (i := 3) (N := some 21) (v := ?_) (a' := ?_) #[false, true, false, true, false, false, false, false] rfl rfl (take_ofW HT_.out HW_.out (by kernel_rfl)) (fun _ _ _ h => h) (Or.inl ⟨by rfl, ?_⟩) hHeld ?_ ?_
      rotate_left
      · rintro w' ⟨s0, s1, s2⟩
        go_simp
        with_reducible rfl
      rotate_left
      · simp only [Act.put, List.setIfInBounds_toArray, List.set_cons_zero, List.set_cons_succ, i64_w, i32_w]
        rfl
      refine join_ (σ := Value × Value × Value) 3 #[true, true, true, true, true, false, false, false] (fun s_ => [(18, s_.1), (20, s_.2.1), (22, s_.2.2)]) (fun s_ w' => (w'.cell? ⟨gb143, 0, none⟩ = some (.string a3_0) ∧ w'.cell? ⟨gb143, 1, none⟩ = some (.string a3_1) ∧ w'.cell? ⟨gb143, 2, none⟩ = some (.int .i64 a3_2)) ∧ (Kd.R k24 24 w' w.heap.size (fun k_ => some k_ ≠ (s_.2.2 : Value).ownBlock ∧ k_ ≠ gb143) s_.2.1 y148) ∧ (Kd.R k24 24 w' w.heap.size (fun k_ => some k_ ≠ (s_.2.1 : Value).ownBlock ∧ k_ ≠ gb143) s_.2.2 y151) ∧ (w'.heap[gb143]? = some (.cells #[.string a3_0, .string a3_1, .int .i64 a3_2] 24 (0, 0))) ∧ (Below w.heap.size w w')) ?_ ?_
      rotate_left
      · intro hCont
        refine two_ (i := 0) (j := 4) (Ni := some 18) (Nj := some 22) #[true, true, false, true, false, false, false, false] #[false, true, false, true, true, false, false, false] rfl rfl rfl rfl (two_of HT_.out (by kernel_rfl)) (by decide) (by decide) (fun K hK => ?_) (fun K hK => ?_)
        · skip
          refine Kd.R_lit_step k24 _ 24 ?hg (N := 18) ?hd (xs := ([] : List (S24))) (inner := []) (ok := fun _ => True) (okp := fun _ => True) ?hr ?hp (fun _ hk => hk) trivial (Below.refl _ _) (Nat.le_refl _) (by simp) ?_; (case hd => rfl); (case hg => rfl); (case hr => first | (go_simp; done) | (go_simp; rfl)); (case hp => exact (Reps.none _ _))
          intro v146 w13 ho14 hb hg_ hnew_
          clear hg_ hnew_
          (first | rw [← Ny145.out] at ho14 | (simp only [Int.reduceToNat] at ho14; rw [← Ny145.out] at ho14))
          have n0_ := Aside0.mk (Kd.R_lower (Kd.R_newB ho14 (g := gb143) (o := .cells #[.string a3_0, .string a3_1, .int .i64 a3_2] 24 (0, 0)) (by (with_reducible repeat (first | refine blk_drewN ?_ _ | refine blk_drew ?_ | refine blk_alloc ?_ _)); exact BK143.out)) (below_size (by repeat (first | (with_reducible first | exact HB.out | apply below_alloc | apply pw_below_drewN | apply below_drew1 | refine below_set ?_ GE143.out) | exact HB.out))))
          have n1_ := Aside0.mk (blk_below (g := gb143) (o := .cells #[.string a3_0, .string a3_1, .int .i64 a3_2] 24 (0, 0)) (by (with_reducible repeat (first | refine blk_drewN ?_ _ | refine blk_drew ?_ | refine blk_alloc ?_ _)); exact BK143.out) hb)
          have n2_ := Aside0.mk (below_step (by repeat (first | (with_reducible first | exact HB.out | apply below_alloc | apply pw_below_drewN | apply below_drew1 | refine below_set ?_ GE143.out) | exact HB.out)) hb)
          clear BK143
          clear HB
          have HO147 := n0_
          have BK143 := n1_
          have HB := n2_
          clear n0_ n1_ n2_
          clear hb ho14
          refine hK.out _ _ ⟨(blk_cell BK143.out 0).trans rfl, (blk_cell BK143.out 1).trans rfl, (blk_cell BK143.out 2).trans rfl⟩ (fun hHeld => ?_)
          clear hK K
          refine norm_ (a' := ?_) ?_ ?_
          rotate_left
          · show Act.put _ (some 18) _ = _
            simp only [Act.put, List.setIfInBounds_toArray, List.set_cons_zero, List.set_cons_succ, i64_w, i32_w]
            rfl
          refine two_ (i := 2) (j := 4) (Ni := some 20) (Nj := some 22) #[true, true, true, true, false, false, false, false] #[true, true, false, true, true, false, false, false] rfl rfl rfl rfl (two_of HT_.out (by kernel_rfl)) (by decide) (by decide) (fun K hK => ?_) (fun K hK => ?_)
          · skip
            refine Kd.R_append_rows_step k24 (w0 := w) w.heap.size (by rfl) (.tmp 18) (.tmp 19) 22 24 (.agg #[(.string ⟨#[]⟩), (.string ⟨#[]⟩), (.int .i64 0)]) 40 rfl Tryd.underlying22 info24 rfl (by decide) (by omega) v146 y145 l0 _ _ _ (fun k_ => k_ ≠ gb143) (fun _ => False) rfl rfl ?aO ?aR (fun _ _ h => h) (fun _ h => h.elim) ?aF ?aB ?aS ?aL ?_
            (case aR => repeat (first | exact (Kd.C_below HR0.out HB.out) | (with_reducible refine Kd.C_alloc ?_ _) | (with_reducible refine Kd.C_drewN ?_ _) | (with_reducible refine Kd.C_drew ?_)))
            (case aB => exact (by repeat (first | (with_reducible first | exact HB.out | apply below_alloc | apply pw_below_drewN | apply below_drew1 | refine below_set ?_ GE143.out) | exact HB.out)))
            (case aF => exact (fun k_ hk => Kd.freshB (g := gb143) (o := .cells #[.string a3_0, .string a3_1, .int .i64 a3_2] 24 (0, 0)) (by (with_reducible repeat (first | refine blk_drewN ?_ _ | refine blk_drew ?_ | refine blk_alloc ?_ _)); exact BK143.out) k_ hk))
            (case aO => exact (by (with_reducible repeat (first | apply Kd.R_alloc | apply Kd.R_drewN | apply Kd.R_drew)); exact Kd.R_mono HO147.out (fun _ hk => hk.2)))
            (case aS => exact (below_size (by repeat (first | (with_reducible first | exact HB.out | apply below_alloc | apply pw_below_drewN | apply below_drew1 | refine below_set ?_ GE143.out) | exact HB.out))))
            (case aL => have := LMc6.out; omega)
            intro v149 w15 ho hb hg hat
            rw [← Ny148.out] at ho
            have n0_ := Aside0.mk (blk_grown (g := gb143) (o := .cells #[.string a3_0, .string a3_1, .int .i64 a3_2] 24 (0, 0)) (by (with_reducible repeat (first | refine blk_drewN ?_ _ | refine blk_drew ?_ | refine blk_alloc ?_ _)); exact BK143.out) hg (Kd.R_away HO147.out (fun _ hk => hk.2)))
            have n1_ := Aside0.mk (hb)
            have n2_ := Aside0.mk (ho)
            clear BK143
            clear HB
            clear HO147
            have BK143 := n0_
            have HB := n1_
            have HO150 := n2_
            clear n0_ n1_ n2_
            clear ho hb hg hat
            refine hK.out _ _ ⟨(blk_cell BK143.out 0).trans rfl, (blk_cell BK143.out 1).trans rfl, (blk_cell BK143.out 2).trans rfl⟩ (fun hHeld => ?_)
            clear hK K
            refine norm_ (a' := ?_) ?_ ?_
            rotate_left
            · show Act.put _ (some 20) _ = _
              simp only [Act.put, List.setIfInBounds_toArray, List.set_cons_zero, List.set_cons_succ, i64_w, i32_w]
              rfl
            refine one_ (i := 4) (N := some 22) #[true, true, true, true, true, false, false, false] rfl rfl (one_of HT_.out (by kernel_rfl)) (by decide) (fun K hK => ?_)
            refine Kd.R_lit_step k24 _ 24 ?hg (N := 22) ?hd (xs := ([(⟨a3_0, a3_1, a3_2⟩ : S24)] : List (S24))) (inner := [.string a3_0, .string a3_1, .int .i64 a3_2]) (ok := fun _ => True) (okp := fun _ => True) ?hr ?hp (fun _ hk => hk) trivial (Below.refl _ _) (Nat.le_refl _) (by simp) ?_; (case hd => rfl); (case hg => rfl); (case hr => first | (go_simp; done) | (go_simp; rfl)); (case hp => exact (Reps.c3 (show Kd.M k24 _ _ _ (⟨a3_0, a3_1, a3_2⟩ : S24) [.string a3_0, .string a3_1, .int .i64 a3_2] from (k24_mkM _ _ _ (⟨a3_0, a3_1, a3_2⟩ : S24) )) (Reps.none _ _)))
            intro v152 w16 ho17 hb hg_ hnew_
            clear hg_ hnew_
            (first | rw [← Ny151.out] at ho17 | (simp only [Int.reduceToNat] at ho17; rw [← Ny151.out] at ho17))
            have n0_ := Aside0.mk (Kd.R_elder' (by (with_reducible repeat (first | apply Kd.R_alloc | apply Kd.R_drewN | apply Kd.R_drew)); exact HO150.out) (Kd.R_base ho17) hb)
            have n1_ := Aside0.mk (Kd.R_lower (Kd.R_newB (Kd.R_new' ho17 (Kd.R_lt (by (with_reducible repeat (first | apply Kd.R_alloc | apply Kd.R_drewN | apply Kd.R_drew)); exact HO150.out))) (g := gb143) (o := .cells #[.string a3_0, .string a3_1, .int .i64 a3_2] 24 (0, 0)) (by (with_reducible repeat (first | refine blk_drewN ?_ _ | refine blk_drew ?_ | refine blk_alloc ?_ _)); exact BK143.out)) (below_size (by repeat (first | (with_reducible first | exact HB.out | apply below_alloc | apply pw_below_drewN | apply below_drew1 | refine below_set ?_ GE143.out) | exact HB.out))))
            have n2_ := Aside0.mk (blk_below (g := gb143) (o := .cells #[.string a3_0, .string a3_1, .int .i64 a3_2] 24 (0, 0)) (by (with_reducible repeat (first | refine blk_drewN ?_ _ | refine blk_drew ?_ | refine blk_alloc ?_ _)); exact BK143.out) hb)
            have n3_ := Aside0.mk (below_step (by repeat (first | (with_reducible first | exact HB.out | apply below_alloc | apply pw_below_drewN | apply below_drew1 | refine below_set ?_ GE143.out) | exact HB.out)) hb)
            clear HO150
            clear BK143
            clear HB
            have HO150 := n0_
            have HO153 := n1_
            have BK143 := n2_
            have HB := n3_
            clear n0_ n1_ n2_ n3_
            clear hb ho17
            refine hK.out _ _ ⟨(blk_cell BK143.out 0).trans rfl, (blk_cell BK143.out 1).trans rfl, (blk_cell BK143.out 2).trans rfl⟩ (fun hHeld => ?_)
            clear hK K
            refine norm_ (a' := ?_) ?_ ?_
            rotate_left
            · show Act.put _ (some 22) _ = _
              simp only [Act.put, List.setIfInBounds_toArray, List.set_cons_zero, List.set_cons_succ, i64_w, i32_w]
              rfl
            exact norm_ (by simp only [putAll, Act.put, List.setIfInBounds_toArray, List.set_cons_zero, List.set_cons_succ]) (hCont (v146, v149, v152) _ ⟨hHeld, (by (with_reducible repeat (first | apply Kd.R_alloc | apply Kd.R_drewN | apply Kd.R_drew)); exact Kd.R_mono HO150.out (fun _ hk => ⟨hk.2, hk.1⟩)), (by (with_reducible repeat (first | apply Kd.R_alloc | apply Kd.R_drewN | apply Kd.R_drew)); exact Kd.R_mono HO153.out (fun _ hk => ⟨hk.1.2, hk.2⟩)), (by (with_reducible repeat (first | refine blk_drewN ?_ _ | refine blk_drew ?_ | refine blk_alloc ?_ _)); exact BK143.out), (by repeat (first | (with_reducible first | exact HB.out | apply below_alloc | apply pw_below_drewN | apply below_drew1 | refine below_set ?_ GE143.out) | exact HB.out))⟩)
          · skip
            refine Kd.R_lit_step k24 _ 24 ?hg (N := 22) ?hd (xs := ([(⟨a3_0, a3_1, a3_2⟩ : S24)] : List (S24))) (inner := [.string a3_0, .string a3_1, .int .i64 a3_2]) (ok := fun _ => True) (okp := fun _ => True) ?hr ?hp (fun _ hk => hk) trivial (Below.refl _ _) (Nat.le_refl _) (by simp) ?_; (case hd => rfl); (case hg => rfl); (case hr => first | (go_simp; done) | (go_simp; rfl)); (case hp => exact (Reps.c3 (show Kd.M k24 _ _ _ (⟨a3_0, a3_1, a3_2⟩ : S24) [.string a3_0, .string a3_1, .int .i64 a3_2] from (k24_mkM _ _ _ (⟨a3_0, a3_1, a3_2⟩ : S24) )) (Reps.none _ _)))
            intro v152 w15 ho16 hb hg_ hnew_
            clear hg_ hnew_
            (first | rw [← Ny151.out] at ho16 | (simp only [Int.reduceToNat] at ho16; rw [← Ny151.out] at ho16))
            have n0_ := Aside0.mk (Kd.R_elder' (by (with_reducible repeat (first | apply Kd.R_alloc | apply Kd.R_drewN | apply Kd.R_drew)); exact HO147.out) (Kd.R_base ho16) hb)
            have n1_ := Aside0.mk (Kd.R_lower (Kd.R_newB (Kd.R_new' ho16 (Kd.R_lt (by (with_reducible repeat (first | apply Kd.R_alloc | apply Kd.R_drewN | apply Kd.R_drew)); exact HO147.out))) (g := gb143) (o := .cells #[.string a3_0, .string a3_1, .int .i64 a3_2] 24 (0, 0)) (by (with_reducible repeat (first | refine blk_drewN ?_ _ | refine blk_drew ?_ | refine blk_alloc ?_ _)); exact BK143.out)) (below_size (by repeat (first | (with_reducible first | exact HB.out | apply below_alloc | apply pw_below_drewN | apply below_drew1 | refine below_set ?_ GE143.out) | exact HB.out))))
            have n2_ := Aside0.mk (blk_below (g := gb143) (o := .cells #[.string a3_0, .string a3_1, .int .i64 a3_2] 24 (0, 0)) (by (with_reducible repeat (first | refine blk_drewN ?_ _ | refine blk_drew ?_ | refine blk_alloc ?_ _)); exact BK143.out) hb)
            have n3_ := Aside0.mk (below_step (by repeat (first | (with_reducible first | exact HB.out | apply below_alloc | apply pw_below_drewN | apply below_drew1 | refine below_set ?_ GE143.out) | exact HB.out)) hb)
            clear HO147
            clear BK143
            clear HB
            have HO147 := n0_
            have HO153 := n1_
            have BK143 := n2_
            have HB := n3_
            clear n0_ n1_ n2_ n3_
            clear hb ho16
            refine hK.out _ _ ⟨(blk_cell BK143.out 0).trans rfl, (blk_cell BK143.out 1).trans rfl, (blk_cell BK143.out 2).trans rfl⟩ (fun hHeld => ?_)
            clear hK K
            refine norm_ (a' := ?_) ?_ ?_
            rotate_left
            · show Act.put _ (some 22) _ = _
              simp only [Act.put, List.setIfInBounds_toArray, List.set_cons_zero, List.set_cons_succ, i64_w, i32_w]
              rfl
            refine one_ (i := 2) (N := some 20) #[true, true, true, true, true, false, false, false] rfl rfl (one_of HT_.out (by kernel_rfl)) (by decide) (fun K hK => ?_)
            refine Kd.R_append_rows_step k24 (w0 := w) w.heap.size (by rfl) (.tmp 18) (.tmp 19) 22 24 (.agg #[(.string ⟨#[]⟩), (.string ⟨#[]⟩), (.int .i64 0)]) 40 rfl Tryd.underlying22 info24 rfl (by decide) (by omega) v146 y145 l0 _ _ _ (fun k_ => some k_ ≠ (v152 : Value).ownBlock ∧ k_ ≠ gb143) (fun _ => False) rfl rfl ?aO ?aR (fun _ _ h => h) (fun _ h => h.elim) ?aF ?aB ?aS ?aL ?_
            (case aR => repeat (first | exact (Kd.C_below HR0.out HB.out) | (with_reducible refine Kd.C_alloc ?_ _) | (with_reducible refine Kd.C_drewN ?_ _) | (with_reducible refine Kd.C_drew ?_)))
            (case aB => exact (by repeat (first | (with_reducible first | exact HB.out | apply below_alloc | apply pw_below_drewN | apply below_drew1 | refine below_set ?_ GE143.out) | exact HB.out)))
            (case aF => exact (fun k_ hk => ⟨Kd.fresh' (Kd.R_lt (by (with_reducible repeat (first | apply Kd.R_alloc | apply Kd.R_drewN | apply Kd.R_drew)); exact HO153.out)) k_ hk, Kd.freshB (g := gb143) (o := .cells #[.string a3_0, .string a3_1, .int .i64 a3_2] 24 (0, 0)) (by (with_reducible repeat (first | refine blk_drewN ?_ _ | refine blk_drew ?_ | refine blk_alloc ?_ _)); exact BK143.out) k_ hk⟩))
            (case aO => exact (by (with_reducible repeat (first | apply Kd.R_alloc | apply Kd.R_drewN | apply Kd.R_drew)); exact Kd.R_mono HO147.out (fun _ hk => ⟨hk.2, hk.1.2⟩)))
            (case aS => exact (below_size (by repeat (first | (with_reducible first | exact HB.out | apply below_alloc | apply pw_below_drewN | apply below_drew1 | refine below_set ?_ GE143.out) | exact HB.out))))
            (case aL => have := LMc6.out; omega)
            intro v149 w17 ho hb hg hat
            rw [← Ny148.out] at ho
            have n0_ := Aside0.mk (blk_grown (g := gb143) (o := .cells #[.string a3_0, .string a3_1, .int .i64 a3_2] 24 (0, 0)) (by (with_reducible repeat (first | refine blk_drewN ?_ _ | refine blk_drew ?_ | refine blk_alloc ?_ _)); exact BK143.out) hg (Kd.R_away HO147.out (fun _ hk => hk.1.2)))
            have n1_ := Aside0.mk (Kd.R_after (ok := (fun k_ => k_ ≠ gb143)) (by (with_reducible repeat (first | apply Kd.R_alloc | apply Kd.R_drewN | apply Kd.R_drew)); exact Kd.R_mono HO153.out (fun _ hk => ⟨hk.2, hk.1.2⟩)) hg hat)
            have n2_ := Aside0.mk (hb)
            have n3_ := Aside0.mk (ho)
            clear BK143
            clear HO153
            clear HB
            clear HO147
            have BK143 := n0_
            have HO153 := n1_
            have HB := n2_
            have HO150 := n3_
            clear n0_ n1_ n2_ n3_
            clear ho hb hg hat
            refine hK.out _ _ ⟨(blk_cell BK143.out 0).trans rfl, (blk_cell BK143.out 1).trans rfl, (blk_cell BK143.out 2).trans rfl⟩ (fun hHeld => ?_)
            clear hK K
            refine norm_ (a' := ?_) ?_ ?_
            rotate_left
            · show Act.put _ (some 20) _ = _
              simp only [Act.put, List.setIfInBounds_toArray, List.set_cons_zero, List.set_cons_succ, i64_w, i32_w]
              rfl
            exact norm_ (by simp only [putAll, Act.put, List.setIfInBounds_toArray, List.set_cons_zero, List.set_cons_succ]) (hCont (v146, v149, v152) _ ⟨hHeld, (by (with_reducible repeat (first | apply Kd.R_alloc | apply Kd.R_drewN | apply Kd.R_drew)); exact HO150.out), (by (with_reducible repeat (first | apply Kd.R_alloc | apply Kd.R_drewN | apply Kd.R_drew)); exact Kd.R_mono HO153.out (fun _ hk => ⟨hk.2, hk.1⟩)), (by (with_reducible repeat (first | refine blk_drewN ?_ _ | refine blk_drew ?_ | refine blk_alloc ?_ _)); exact BK143.out), (by repeat (first | (with_reducible first | exact HB.out | apply below_alloc | apply pw_below_drewN | apply below_drew1 | refine below_set ?_ GE143.out) | exact HB.out))⟩)
        · skip
          refine Kd.R_lit_step k24 _ 24 ?hg (N := 22) ?hd (xs := ([(⟨a3_0, a3_1, a3_2⟩ : S24)] : List (S24))) (inner := [.string a3_0, .string a3_1, .int .i64 a3_2]) (ok := fun _ => True) (okp := fun _ => True) ?hr ?hp (fun _ hk => hk) trivial (Below.refl _ _) (Nat.le_refl _) (by simp) ?_; (case hd => rfl); (case hg => rfl); (case hr => first | (go_simp; done) | (go_simp; rfl)); (case hp => exact (Reps.c3 (show Kd.M k24 _ _ _ (⟨a3_0, a3_1, a3_2⟩ : S24) [.string a3_0, .string a3_1, .int .i64 a3_2] from (k24_mkM _ _ _ (⟨a3_0, a3_1, a3_2⟩ : S24) )) (Reps.none _ _)))
          intro v152 w13 ho14 hb hg_ hnew_
          clear hg_ hnew_
          (first | rw [← Ny151.out] at ho14 | (simp only [Int.reduceToNat] at ho14; rw [← Ny151.out] at ho14))
          have n0_ := Aside0.mk (Kd.R_lower (Kd.R_newB ho14 (g := gb143) (o := .cells #[.string a3_0, .string a3_1, .int .i64 a3_2] 24 (0, 0)) (by (with_reducible repeat (first | refine blk_drewN ?_ _ | refine blk_drew ?_ | refine blk_alloc ?_ _)); exact BK143.out)) (below_size (by repeat (first | (with_reducible first | exact HB.out | apply below_alloc | apply pw_below_drewN | apply below_drew1 | refine below_set ?_ GE143.out) | exact HB.out))))
          have n1_ := Aside0.mk (blk_below (g := gb143) (o := .cells #[.string a3_0, .string a3_1, .int .i64 a3_2] 24 (0, 0)) (by (with_reducible repeat (first | refine blk_drewN ?_ _ | refine blk_drew ?_ | refine blk_alloc ?_ _)); exact BK143.out) hb)
          have n2_ := Aside0.mk (below_step (by repeat (first | (with_reducible first | exact HB.out | apply below_alloc | apply pw_below_drewN | apply below_drew1 | refine below_set ?_ GE143.out) | exact HB.out)) hb)
          clear BK143
          clear HB
          have HO153 := n0_
          have BK143 := n1_
          have HB := n2_
          clear n0_ n1_ n2_
          clear hb ho14
          refine hK.out _ _ ⟨(blk_cell BK143.out 0).trans rfl, (blk_cell BK143.out 1).trans rfl, (blk_cell BK143.out 2).trans rfl⟩ (fun hHeld => ?_)
          clear hK K
          refine norm_ (a' := ?_) ?_ ?_
          rotate_left
          · show Act.put _ (some 22) _ = _
            simp only [Act.put, List.setIfInBounds_toArray, List.set_cons_zero, List.set_cons_succ, i64_w, i32_w]
            rfl
          refine one_ (i := 0) (N := some 18) #[true, true, false, true, true, false, false, false] rfl rfl (one_of HT_.out (by kernel_rfl)) (by decide) (fun K hK => ?_)
          refine Kd.R_lit_step k24 _ 24 ?hg (N := 18) ?hd (xs := ([] : List (S24))) (inner := []) (ok := fun _ => True) (okp := fun _ => True) ?hr ?hp (fun _ hk => hk) trivial (Below.refl _ _) (Nat.le_refl _) (by simp) ?_; (case hd => rfl); (case hg => rfl); (case hr => first | (go_simp; done) | (go_simp; rfl)); (case hp => exact (Reps.none _ _))
          intro v146 w15 ho16 hb hg_ hnew_
          clear hg_ hnew_
          (first | rw [← Ny145.out] at ho16 | (simp only [Int.reduceToNat] at ho16; rw [← Ny145.out] at ho16))
          have n0_ := Aside0.mk (Kd.R_elder' (by (with_reducible repeat (first | apply Kd.R_alloc | apply Kd.R_drewN | apply Kd.R_drew)); exact HO153.out) (Kd.R_base ho16) hb)
          have n1_ := Aside0.mk (Kd.R_lower (Kd.R_newB (Kd.R_new' ho16 (Kd.R_lt (by (with_reducible repeat (first | apply Kd.R_alloc | apply Kd.R_drewN | apply Kd.R_drew)); exact HO153.out))) (g := gb143) (o := .cells #[.string a3_0, .string a3_1, .int .i64 a3_2] 24 (0, 0)) (by (with_reducible repeat (first | refine blk_drewN ?_ _ | refine blk_drew ?_ | refine blk_alloc ?_ _)); exact BK143.out)) (below_size (by repeat (first | (with_reducible first | exact HB.out | apply below_alloc | apply pw_below_drewN | apply below_drew1 | refine below_set ?_ GE143.out) | exact HB.out))))
          have n2_ := Aside0.mk (blk_below (g := gb143) (o := .cells #[.string a3_0, .string a3_1, .int .i64 a3_2] 24 (0, 0)) (by (with_reducible repeat (first | refine blk_drewN ?_ _ | refine blk_drew ?_ | refine blk_alloc ?_ _)); exact BK143.out) hb)
          have n3_ := Aside0.mk (below_step (by repeat (first | (with_reducible first | exact HB.out | apply below_alloc | apply pw_below_drewN | apply below_drew1 | refine below_set ?_ GE143.out) | exact HB.out)) hb)
          clear HO153
          clear BK143
          clear HB
          have HO153 := n0_
          have HO147 := n1_
          have BK143 := n2_
          have HB := n3_
          clear n0_ n1_ n2_ n3_
          clear hb ho16
          refine hK.out _ _ ⟨(blk_cell BK143.out 0).trans rfl, (blk_cell BK143.out 1).trans rfl, (blk_cell BK143.out 2).trans rfl⟩ (fun hHeld => ?_)
          clear hK K
          refine norm_ (a' := ?_) ?_ ?_
          rotate_left
          · show Act.put _ (some 18) _ = _
            simp only [Act.put, List.setIfInBounds_toArray, List.set_cons_zero, List.set_cons_succ, i64_w, i32_w]
            rfl
          refine one_ (i := 2) (N := some 20) #[true, true, true, true, true, false, false, false] rfl rfl (one_of HT_.out (by kernel_rfl)) (by decide) (fun K hK => ?_)
          refine Kd.R_append_rows_step k24 (w0 := w) w.heap.size (by rfl) (.tmp 18) (.tmp 19) 22 24 (.agg #[(.string ⟨#[]⟩), (.string ⟨#[]⟩), (.int .i64 0)]) 40 rfl Tryd.underlying22 info24 rfl (by decide) (by omega) v146 y145 l0 _ _ _ (fun k_ => some k_ ≠ (v152 : Value).ownBlock ∧ k_ ≠ gb143) (fun _ => False) rfl rfl ?aO ?aR (fun _ _ h => h) (fun _ h => h.elim) ?aF ?aB ?aS ?aL ?_
          (case aR => repeat (first | exact (Kd.C_below HR0.out HB.out) | (with_reducible refine Kd.C_alloc ?_ _) | (with_reducible refine Kd.C_drewN ?_ _) | (with_reducible refine Kd.C_drew ?_)))
          (case aB => exact (by repeat (first | (with_reducible first | exact HB.out | apply below_alloc | apply pw_below_drewN | apply below_drew1 | refine below_set ?_ GE143.out) | exact HB.out)))
          (case aF => exact (fun k_ hk => ⟨Kd.fresh' (Kd.R_lt (by (with_reducible repeat (first | apply Kd.R_alloc | apply Kd.R_drewN | apply Kd.R_drew)); exact HO153.out)) k_ hk, Kd.freshB (g := gb143) (o := .cells #[.string a3_0, .string a3_1, .int .i64 a3_2] 24 (0, 0)) (by (with_reducible repeat (first | refine blk_drewN ?_ _ | refine blk_drew ?_ | refine blk_alloc ?_ _)); exact BK143.out) k_ hk⟩))
          (case aO => exact (by (with_reducible repeat (first | apply Kd.R_alloc | apply Kd.R_drewN | apply Kd.R_drew)); exact Kd.R_mono HO147.out (fun _ hk => ⟨hk.1.2, hk.2⟩)))
          (case aS => exact (below_size (by repeat (first | (with_reducible first | exact HB.out | apply below_alloc | apply pw_below_drewN | apply below_drew1 | refine below_set ?_ GE143.out) | exact HB.out))))
          (case aL => have := LMc6.out; omega)
          intro v149 w17 ho hb hg hat
          rw [← Ny148.out] at ho
          have n0_ := Aside0.mk (blk_grown (g := gb143) (o := .cells #[.string a3_0, .string a3_1, .int .i64 a3_2] 24 (0, 0)) (by (with_reducible repeat (first | refine blk_drewN ?_ _ | refine blk_drew ?_ | refine blk_alloc ?_ _)); exact BK143.out) hg (Kd.R_away HO147.out (fun _ hk => hk.2)))
          have n1_ := Aside0.mk (Kd.R_after (ok := (fun k_ => k_ ≠ gb143)) (by (with_reducible repeat (first | apply Kd.R_alloc | apply Kd.R_drewN | apply Kd.R_drew)); exact Kd.R_mono HO153.out (fun _ hk => ⟨hk.1.2, hk.2⟩)) hg hat)
          have n2_ := Aside0.mk (hb)
          have n3_ := Aside0.mk (ho)
          clear BK143
          clear HO153
          clear HB
          clear HO147
          have BK143 := n0_
          have HO153 := n1_
          have HB := n2_
          have HO150 := n3_
          clear n0_ n1_ n2_ n3_
          clear ho hb hg hat
          refine hK.out _ _ ⟨(blk_cell BK143.out 0).trans rfl, (blk_cell BK143.out 1).trans rfl, (blk_cell BK143.out 2).trans rfl⟩ (fun hHeld => ?_)
          clear hK K
          refine norm_ (a' := ?_) ?_ ?_
          rotate_left
          · show Act.put _ (some 20) _ = _
            simp only [Act.put, List.setIfInBounds_toArray, List.set_cons_zero, List.set_cons_succ, i64_w, i32_w]
            rfl
          exact norm_ (by simp only [putAll, Act.put, List.setIfInBounds_toArray, List.set_cons_zero, List.set_cons_succ]) (hCont (v146, v149, v152) _ ⟨hHeld, (by (with_reducible repeat (first | apply Kd.R_alloc | apply Kd.R_drewN | apply Kd.R_drew)); exact HO150.out), (by (with_reducible repeat (first | apply Kd.R_alloc | apply Kd.R_drewN | apply Kd.R_drew)); exact Kd.R_mono HO153.out (fun _ hk => ⟨hk.2, hk.1⟩)), (by (with_reducible repeat (first | refine blk_drewN ?_ _ | refine blk_drew ?_ | refine blk_alloc ?_ _)); exact BK143.out), (by repeat (first | (with_reducible first | exact HB.out | apply below_alloc | apply pw_below_drewN | apply below_drew1 | refine below_set ?_ GE143.out) | exact HB.out))⟩)
      rintro ⟨v146, v149, v152⟩ w18 ⟨hS_, h0_, h1_, h2_, h3_⟩
      have n0_ : Aside0 (Kd.R k24 24 w18 w.heap.size (fun k_ => some k_ ≠ (v152 : Value).ownBlock ∧ k_ ≠ gb143) v149 y148) := ⟨h0_⟩
      have n1_ : Aside0 (Kd.R k24 24 w18 w.heap.size (fun k_ => some k_ ≠ (v149 : Value).ownBlock ∧ k_ ≠ gb143) v152 y151) := ⟨h1_⟩
      have n2_ : Aside0 (w18.heap[gb143]? = some (.cells #[.string a3_0, .string a3_1, .int .i64 a3_2] 24 (0, 0))) := ⟨h2_⟩
      have n3_ : Aside0 (Below w.heap.size w w18) := ⟨h3_⟩
      clear BK143
      clear HB
      clear h0_ h1_ h2_ h3_
      have HO150 := n0_
      have HO153 := n1_
      have BK143 := n2_
      have HB := n3_
      clear n0_ n1_ n2_ n3_
      have hHeld : w18.cell? ⟨gb143, 0, none⟩ = some (.string a3_0) ∧ w18.cell? ⟨gb143, 1, none⟩ = some (.string a3_1) ∧ w18.cell? ⟨gb143, 2, none⟩ = some (.int .i64 a3_2) := hS_
      obtain ⟨Ao20, co20, eo20⟩ := Kd.R_slice HO153.out
      (first | subst eo20 | (injection eo20 with f1_ f2_ f3_; have f4_ := f1_.symm; have f5_ := f3_.symm; clear f1_ f2_ f3_; subst f4_; subst f5_))
      refine norm_ (a' := ?_) ?_ ?_
      rotate_left
      · simp only [putAll, Act.put, List.setIfInBounds_toArray, List.set_cons_zero, List.set_cons_succ]
        rfl
      refine one_ (i := 5) (N := some 23) #[true, true, true, true, true, true, false, false] rfl rfl (one_of HT_.out (by kernel_rfl)) (by decide) (fun K hK => ?_)
      refine Kd.R_append_rows_step k24 (w0 := w) w.heap.size (by rfl) (.tmp 20) (.tmp 22) 22 24 (.agg #[(.string ⟨#[]⟩), (.string ⟨#[]⟩), (.int .i64 0)]) 40 rfl Tryd.underlying22 info24 rfl (by decide) (by omega) v149 y148 y151 _ _ _ (fun k_ => some k_ ≠ (.slice Ao20 y151.length co20 : Value).ownBlock ∧ k_ ≠ gb143) (fun _ => False) rfl rfl ?aO ?aR (fun _ _ h => h) (fun _ h => h.elim) ?aF ?aB ?aS ?aL ?_
      (case aR => repeat (first | exact (Kd.R_reads' HO153.out).2.2 | (with_reducible refine Kd.C_alloc ?_ _) | (with_reducible refine Kd.C_drewN ?_ _) | (with_reducible refine Kd.C_drew ?_)))
      (case aB => exact (by repeat (first | (with_reducible first | exact HB.out | apply below_alloc | apply pw_below_drewN | apply below_drew1 | refine below_set ?_ GE143.out) | exact HB.out)))
      (case aF => exact (fun k_ hk => ⟨Kd.fresh' (Kd.R_lt (by (with_reducible repeat (first | apply Kd.R_alloc | apply Kd.R_drewN | apply Kd.R_drew)); exact HO153.out)) k_ hk, Kd.freshB (g := gb143) (o := .cells #[.string a3_0, .string a3_1, .int .i64 a3_2] 24 (0, 0)) (by (with_reducible repeat (first | refine blk_drewN ?_ _ | refine blk_drew ?_ | refine blk_alloc ?_ _)); exact BK143.out) k_ hk⟩))
      (case aO => exact (by (with_reducible repeat (first | apply Kd.R_alloc | apply Kd.R_drewN | apply Kd.R_drew)); exact HO150.out))
      (case aS => exact (below_size (by repeat (first | (with_reducible first | exact HB.out | apply below_alloc | apply pw_below_drewN | apply below_drew1 | refine below_set ?_ GE143.out) | exact HB.out))))
      (case aL => have := LMc7.out; omega)
      intro v155 w19 ho hb hg hat
      rw [← Ny154.out] at ho
      have n0_ := Aside0.mk (blk_grown (g := gb143) (o := .cells #[.string a3_0, .string a3_1, .int .i64 a3_2] 24 (0, 0)) (by (with_reducible repeat (first | refine blk_drewN ?_ _ | refine blk_drew ?_ | refine blk_alloc ?_ _)); exact BK143.out) hg (Kd.R_away HO150.out (fun _ hk => hk.2)))
      have n1_ := Aside0.mk (Kd.R_after (ok := (fun k_ => k_ ≠ gb143)) (by (with_reducible repeat (first | apply Kd.R_alloc | apply Kd.R_drewN | apply Kd.R_drew)); exact Kd.R_mono HO153.out (fun _ hk => ⟨hk.2, hk.1⟩)) hg hat)
      have n2_ := Aside0.mk (hb)
      have n3_ := Aside0.mk (ho)
      clear BK143
      clear HO153
      clear HB
      clear HO150
      have BK143 := n0_
      have HO153 := n1_
      have HB := n2_
      have HO156 := n3_
      clear n0_ n1_ n2_ n3_
      clear ho hb hg hat
      obtain ⟨Ao21, co21, eo21⟩ := Kd.R_slice HO156.out
      (first | subst eo21 | (injection eo21 with f1_ f2_ f3_; have f4_ := f1_.symm; have f5_ := f3_.symm; clear f1_ f2_ f3_; subst f4_; subst f5_))
      refine hK.out _ _ ⟨(blk_cell BK143.out 0).trans rfl, (blk_cell BK143.out 1).trans rfl, (blk_cell BK143.out 2).trans rfl⟩ (fun hHeld => ?_)
      clear hK K
      refine norm_ (a' := ?_) ?_ ?_
      rotate_left
      · show Act.put _ (some 23) _ = _
        simp only [Act.put, List.setIfInBounds_toArray, List.set_cons_zero, List.set_cons_succ, i64_w, i32_w]
        rfl
      refine one_ (i := 6) (N := some 24) #[true, true, true, true, true, true, true, false] rfl rfl (one_of HT_.out (by kernel_rfl)) (by decide) (fun K hK => ?_)
      refine goes_ Tryd.func6 (by kernel_rfl) rfl #[.slice Ao21 y154.length co21] (by rfl) rfl rfl (by (try simp only [List.map_toArray, List.map_cons, List.map_nil]); first | done | rfl | (simp only [List.length_drop, List.length_take]; rfl)) ?_
      with_reducible refine (keelsonlaw8_small.calls k _ _ y154 t157 _ ?side1 ?side2 A8.out).mono ?_
      (case side1 => repeat (first | exact (Kd.R_reads' HO156.out).2.2 | (with_reducible refine Kd.C_alloc ?_ _) | (with_reducible refine Kd.C_drewN ?_ _) | (with_reducible refine Kd.C_drew ?_)))
      (case side2 => exact (Kd.R_reads' HO156.out).2.1)
      rintro e w' ⟨rfl, ⟨nd, rfl⟩⟩
      refine ⟨_, rfl, ?_⟩
      refine hK.out _ _ ⟨(blk_cell BK143.out 0).trans rfl, (blk_cell BK143.out 1).trans rfl, (blk_cell BK143.out 2).trans rfl⟩ (fun hHeld => ?_)
      clear hK K
      refine norm_ (a' := ?_) ?_ ?_
      rotate_left
      · show Act.put _ (some 24) _ = _
        simp only [Act.put, List.setIfInBounds_toArray, List.set_cons_zero, List.set_cons_succ, i64_w, i32_w]
        rfl
      refine pure_ (i := 7) (N := some 10) (v := ?_) (a' := ?_) #[true, true, true, true, true, true, true, true] rfl rfl (any_of HT_.out (by kernel_rfl)) (fun _ _ _ h => h) (Or.inl ⟨by rfl, ?_⟩) ?_ ?_
      rotate_left
      · intro w'
        go_simp
        with_reducible rfl
      rotate_left
      · simp only [Act.put, List.setIfInBounds_toArray, List.set_cons_zero, List.set_cons_succ, i64_w, i32_w]
        rfl
      refine done_ (done_of HT_.out (by kernel_rfl)) ?_
      go_upto_region 3 with (fail)
      go_cut [44] (fun v44 wc => ∃ (kq : Nat) (x44_8 : Bool), v44 = .bool x44_8 ∧ Aside0 (keelsonlaw8_PinsFirst.j0 kq l0 a1 a2 t144 x44_8 a3_0 a3_1 a3_2 = some r) ∧ Aside0 (kq ≤ k) ∧ Aside0 (wc.heap[gb143]? = some (.cells #[.string a3_0, .string a3_1, .int .i64 a3_2] 24 (0, 0))) ∧ Aside0 (Below w.heap.size w wc))
      case first => as_aux_lemma =>
        have H := HC9.out
        clear HC9
        by_cases c22 : t144 = true
        · subst c22
          have H1 : (if t157 = true then (if (a1.size : Int) > 100 then (keelsonlaw8_PinsFirst.j0 k l0 a1 a2 true true a3_0 a3_1 a3_2) else (if (a2.size : Int) > 100 then (keelsonlaw8_PinsFirst.j0 k l0 a1 a2 true true a3_0 a3_1 a3_2) else (keelsonlaw8_PinsFirst.j0 k l0 a1 a2 true (a1.toList == ([42] : List UInt8)) a3_0 a3_1 a3_2))) else (keelsonlaw8_PinsFirst.j0 k l0 a1 a2 true true a3_0 a3_1 a3_2)) = some r := by rw [if_pos rfl] at H; exact H
          clear H
          have H := H1
          clear H1
          by_cases c23 : t157 = true
          · subst c23
            have H1 : (if (a1.size : Int) > 100 then (keelsonlaw8_PinsFirst.j0 k l0 a1 a2 true true a3_0 a3_1 a3_2) else (if (a2.size : Int) > 100 then (keelsonlaw8_PinsFirst.j0 k l0 a1 a2 true true a3_0 a3_1 a3_2) else (keelsonlaw8_PinsFirst.j0 k l0 a1 a2 true (a1.toList == ([42] : List UInt8)) a3_0 a3_1 a3_2))) = some r := by rw [if_pos rfl] at H; exact H
            clear H
            have H := H1
            clear H1
            by_cases c24 : (a1.size : Int) > 100
            · rw [if_pos c24] at H
              have c24b0 : decide (100 < (a1.size : Int)) = true := decide_eq_true c24
              have c24b1 : decide (100 < a1.size) = true := decide_eq_true (by omega)
              clear c24
              (first | rw [c24b0] | (simp only [i64_w, i32_w]; rw [c24b0]) | rw [c24b1] | skip)
              have H' := Aside0.mk H
              clear H
              go_wp2
              go_meet
              case rel => exact ⟨_, (true), (by first | rfl | (simp; done) | (simp [*]; done)), H', ⟨by first | omega | exact Nat.le_refl _⟩, ⟨by (with_reducible repeat (first | refine blk_drewN ?_ _ | refine blk_drew ?_ | refine blk_alloc ?_ _)); exact BK143.out⟩, ⟨by repeat (first | (with_reducible first | exact HB.out | apply below_alloc | apply pw_below_drewN | apply below_drew1 | refine below_set ?_ GE143.out) | exact HB.out)⟩⟩
            · rw [if_neg c24] at H
              have c24b0 : decide (100 < (a1.size : Int)) = false := decide_eq_false c24
              have c24b1 : decide (100 < a1.size) = false := decide_eq_false (by omega)
              clear c24
              (first | rw [c24b0] | (simp only [i64_w, i32_w]; rw [c24b0]) | rw [c24b1] | skip)
              by_cases c25 : (a2.size : Int) > 100
              · rw [if_pos c25] at H
                have c25b0 : decide (100 < (a2.size : Int)) = true := decide_eq_true c25
                have c25b1 : decide (100 < a2.size) = true := decide_eq_true (by omega)
                clear c25
                have H' := Aside0.mk H
                clear H
                go_wp2
                go_meet
                case rel => exact ⟨_, (true), (by first | rfl | (simp; done) | (simp [*]; done)), H', ⟨by first | omega | exact Nat.le_refl _⟩, ⟨by (with_reducible repeat (first | refine blk_drewN ?_ _ | refine blk_drew ?_ | refine blk_alloc ?_ _)); exact BK143.out⟩, ⟨by repeat (first | (with_reducible first | exact HB.out | apply below_alloc | apply pw_below_drewN | apply below_drew1 | refine below_set ?_ GE143.out) | exact HB.out)⟩⟩
              · rw [if_neg c25] at H
                have c25b0 : decide (100 < (a2.size : Int)) = false := decide_eq_false c25
                have c25b1 : decide (100 < a2.size) = false := decide_eq_false (by omega)
                clear c25
                have H' := Aside0.mk H
                clear H
                go_wp2
                go_meet
                case rel => exact ⟨_, ((a1.toList == ([42] : List UInt8))), (by first | rfl | (simp; done) | (simp [*]; done)), H', ⟨by first | omega | exact Nat.le_refl _⟩, ⟨by (with_reducible repeat (first | refine blk_drewN ?_ _ | refine blk_drew ?_ | refine blk_alloc ?_ _)); exact BK143.out⟩, ⟨by repeat (first | (with_reducible first | exact HB.out | apply below_alloc | apply pw_below_drewN | apply below_drew1 | refine below_set ?_ GE143.out) | exact HB.out)⟩⟩
          · replace c23 := Bool.eq_false_iff.mpr c23
            subst c23
            have H1 : (keelsonlaw8_PinsFirst.j0 k l0 a1 a2 true true a3_0 a3_1 a3_2) = some r := by rw [if_neg (show ¬ (false = true) by decide)] at H; exact H
            clear H
            have H := H1
            clear H1
            have H' := Aside0.mk H
            clear H
            go_wp2
            go_meet
            case rel => exact ⟨_, (true), (by first | rfl | (simp; done) | (simp [*]; done)), H', ⟨by first | omega | exact Nat.le_refl _⟩, ⟨by (with_reducible repeat (first | refine blk_drewN ?_ _ | refine blk_drew ?_ | refine blk_alloc ?_ _)); exact BK143.out⟩, ⟨by repeat (first | (with_reducible first | exact HB.out | apply below_alloc | apply pw_below_drewN | apply below_drew1 | refine below_set ?_ GE143.out) | exact HB.out)⟩⟩
        · replace c22 := Bool.eq_false_iff.mpr c22
          subst c22
          have H1 : (keelsonlaw8_PinsFirst.j0 k l0 a1 a2 false true a3_0 a3_1 a3_2) = some r := by rw [if_neg (show ¬ (false = true) by decide)] at H; exact H
          clear H
          have H := H1
          clear H1
          have H' := Aside0.mk H
          clear H
          go_wp2
          go_meet
          case rel => exact ⟨_, (true), (by first | rfl | (simp; done) | (simp [*]; done)), H', ⟨by first | omega | exact Nat.le_refl _⟩, ⟨by (with_reducible repeat (first | refine blk_drewN ?_ _ | refine blk_drew ?_ | refine blk_alloc ?_ _)); exact BK143.out⟩, ⟨by repeat (first | (with_reducible first | exact HB.out | apply below_alloc | apply pw_below_drewN | apply below_drew1 | refine below_set ?_ GE143.out) | exact HB.out)⟩⟩
      case rest => as_aux_lemma =>
        clear HC9
        try clear c2
        try clear p2
        try clear c3
        try clear c5
        try clear c6
        try clear c7
        try clear c22
        try clear c23
        try clear c24
        try clear c24b0
        try clear c24b1
        try clear c25
        try clear c25b0
        try clear c25b1
        obtain ⟨kq, x44_8, rfl, HA, HJ8, BK143, HB⟩ := hcut
        cases kq with
        | zero => exact absurd HA.out (by simp [keelsonlaw8_PinsFirst.j0])
        | succ kj8 =>
          have H := HA.out
          clear HA
          simp only [keelsonlaw8_PinsFirst.j0] at H
          by_cases c26 : x44_8 = true
          · subst c26
            have H1 : (some t144) = some r := by rw [if_pos rfl] at H; exact H
            clear H
            have H := H1
            clear H1
            obtain rfl := Option.some.inj H
            go_wp2
            go_ret
            exact ⟨by first | rfl | (simp [errW_none, errW_some] <;> rfl) | (simp [*, errW_none, errW_some] <;> rfl), by repeat (first | (with_reducible first | exact HB.out | apply below_alloc | apply pw_below_drewN | apply below_drew1 | refine below_set ?_ GE143.out) | exact HB.out)⟩
          · replace c26 := Bool.eq_false_iff.mpr c26
            subst c26
            have H1 : ((pins_Priority.f l0 a1 a2).bind fun t158 => ((some (([(⟨a1, a3_1, a3_2⟩ : S24)] : List (S24)) : List (S24))).bind fun y159 => (if y159.length + l0.length < 3518437208883 then ((pins_Priority.f (y159 ++ l0) a1 a2).bind fun t165 => ((pins_Matches.f a1 a3_1 a3_2 a1 a2).bind fun t166 => (if t166 = true then (keelsonlaw8_PinsFirst.j1 kj8 l0 a1 a2 t158 t165 a3_2 a1 a3_1 a3_2) else (keelsonlaw8_PinsFirst.j1 kj8 l0 a1 a2 t158 t165 t158 a1 a3_1 a3_2)))) else (none)))) = some r := by rw [if_neg (show ¬ (false = true) by decide)] at H; exact H
            clear H
            have H := H1
            clear H1
            replace H := Option.bind_eq_some_iff.mp H
            obtain ⟨t158, A270, H⟩ := H
            replace H : ((some (([(⟨a1, a3_1, a3_2⟩ : S24)] : List (S24)) : List (S24))).bind fun y159 => (if y159.length + l0.length < 3518437208883 then ((pins_Priority.f (y159 ++ l0) a1 a2).bind fun t165 => ((pins_Matches.f a1 a3_1 a3_2 a1 a2).bind fun t166 => (if t166 = true then (keelsonlaw8_PinsFirst.j1 kj8 l0 a1 a2 t158 t165 a3_2 a1 a3_1 a3_2) else (keelsonlaw8_PinsFirst.j1 kj8 l0 a1 a2 t158 t165 t158 a1 a3_1 a3_2)))) else (none))) = some r := H
            have A27 := Aside0.mk A270
            clear A270
            obtain ⟨y159, hy159⟩ : ∃ y_ : List (S24), y_ = (([(⟨a1, a3_1, a3_2⟩ : S24)] : List (S24))) := ⟨_, rfl⟩
            replace H : (if y159.length + l0.length < 3518437208883 then ((pins_Priority.f (y159 ++ l0) a1 a2).bind fun t165 => ((pins_Matches.f a1 a3_1 a3_2 a1 a2).bind fun t166 => (if t166 = true then (keelsonlaw8_PinsFirst.j1 kj8 l0 a1 a2 t158 t165 a3_2 a1 a3_1 a3_2) else (keelsonlaw8_PinsFirst.j1 kj8 l0 a1 a2 t158 t165 t158 a1 a3_1 a3_2)))) else (none)) = some r := by first | (rw [hy159]; with_reducible exact H) | (have H2_ := (Option.bind_some _ _).symm.trans H; rw [hy159]; with_reducible exact H2_) | (have H2_ := (Option.bind_some _ _).symm.trans H; with_reducible exact H2_) | with_reducible exact H | (rw [hy159]; exact H) | exact H
            have Ny159 := Aside0.mk hy159
            clear hy159
            by_cases c28 : y159.length + l0.length < 3518437208883
            · rw [if_pos c28] at H
              have LMc28 := Aside0.mk c28
              clear c28
              obtain ⟨y162, hy162⟩ : ∃ y_ : List (S24), y_ = (y159 ++ l0) := ⟨_, rfl⟩
              replace H : ((pins_Priority.f y162 a1 a2).bind fun t165 => ((pins_Matches.f a1 a3_1 a3_2 a1 a2).bind fun t166 => (if t166 = true then (keelsonlaw8_PinsFirst.j1 kj8 l0 a1 a2 t158 t165 a3_2 a1 a3_1 a3_2) else (keelsonlaw8_PinsFirst.j1 kj8 l0 a1 a2 t158 t165 t158 a1 a3_1 a3_2)))) = some r := by first | (rw [hy162]; with_reducible exact H) | (have H2_ := (Option.bind_some _ _).symm.trans H; rw [hy162]; with_reducible exact H2_) | (have H2_ := (Option.bind_some _ _).symm.trans H; with_reducible exact H2_) | with_reducible exact H | (rw [hy162]; exact H) | exact H
              have Ny162 := Aside0.mk hy162
              clear hy162
              replace H := Option.bind_eq_some_iff.mp H
              obtain ⟨t165, A290, H⟩ := H
              replace H : ((pins_Matches.f a1 a3_1 a3_2 a1 a2).bind fun t166 => (if t166 = true then (keelsonlaw8_PinsFirst.j1 kj8 l0 a1 a2 t158 t165 a3_2 a1 a3_1 a3_2) else (keelsonlaw8_PinsFirst.j1 kj8 l0 a1 a2 t158 t165 t158 a1 a3_1 a3_2))) = some r := H
              have A29 := Aside0.mk A290
              clear A290
              replace H := Option.bind_eq_some_iff.mp H
              obtain ⟨t166, A300, H⟩ := H
              replace H : (if t166 = true then (keelsonlaw8_PinsFirst.j1 kj8 l0 a1 a2 t158 t165 a3_2 a1 a3_1 a3_2) else (keelsonlaw8_PinsFirst.j1 kj8 l0 a1 a2 t158 t165 t158 a1 a3_1 a3_2)) = some r := H
              have A30 := Aside0.mk A300
              clear A300
              have HC31 := Aside0.mk H
              clear H
              have hcz32_0 : wc.cell? ⟨gb143, 0, none⟩ = some (.string a3_0) := (blk_cell BK143.out 0).trans rfl
              have hcz32_1 : wc.cell? ⟨gb143, 1, none⟩ = some (.string a3_1) := (blk_cell BK143.out 1).trans rfl
              have hcz32_2 : wc.cell? ⟨gb143, 2, none⟩ = some (.int .i64 a3_2) := (blk_cell BK143.out 2).trans rfl
              have hfz32_0 := blk_frozen BK143.out 0
              have hfz32_1 := blk_frozen BK143.out 1
              have hfz32_2 := blk_frozen BK143.out 2
              go_upto_if 63 with (first | ((with_reducible refine gate_callee (f := 7) rfl ?_); refine goesL_ (some 51) rfl rfl Tryd.func7 (by kernel_rfl) rfl #[.slice A0 l0.length c0, .string a1, .string a2] rfl (by (try simp only [List.map_toArray, List.map_cons, List.map_nil]); first | done | rfl | (simp only [List.length_drop, List.length_take]; rfl)) ?_; (with_reducible refine (pins_Priority.calls _ _ l0 a1 a2 t158 _ ?side1 ?side2 A27.out).mono ?_); (case side1 => exact Kd.C_below HR0.out (by repeat (first | (with_reducible first | exact HB.out | apply below_alloc | apply pw_below_drewN | apply below_drew1 | refine below_set ?_ GE143.out) | exact HB.out))); (case side2 => exact HC0.out); rintro e w33 ⟨rfl, hb⟩; refine ⟨_, rfl, ?_⟩; have n0_ := Aside0.mk (blk_below (g := gb143) (o := .cells #[.string a1, .string a3_1, .int .i64 a3_2] 24 (0, 0)) (by (with_reducible repeat (first | refine blk_drewN ?_ _ | refine blk_drew ?_ | refine blk_alloc ?_ _)); refine blk_put (cs := #[.string a3_0, .string a3_1, .int .i64 a3_2]) ?_ 0 _ rfl; (with_reducible repeat (first | refine blk_drewN ?_ _ | refine blk_drew ?_ | refine blk_alloc ?_ _)); exact BK143.out) hb); have n1_ := Aside0.mk (below_step (by repeat (first | (with_reducible first | exact HB.out | apply below_alloc | apply pw_below_drewN | apply below_drew1 | refine below_set ?_ GE143.out) | exact HB.out)) hb); clear BK143; clear HB; have BK143 := n0_; have HB := n1_; clear n0_ n1_; (try clear hb); (try clear hb2); (try clear hk); (try clear hi); have hcz34_0 : w33.cell? ⟨gb143, 0, none⟩ = some (.string a1) := (blk_cell BK143.out 0).trans rfl; have hcz34_1 : w33.cell? ⟨gb143, 1, none⟩ = some (.string a3_1) := (blk_cell BK143.out 1).trans rfl; have hcz34_2 : w33.cell? ⟨gb143, 2, none⟩ = some (.int .i64 a3_2) := (blk_cell BK143.out 2).trans rfl; have hfz34_0 := blk_frozen BK143.out 0; have hfz34_1 := blk_frozen BK143.out 1; have hfz34_2 := blk_frozen BK143.out 2) | ((with_reducible refine gate_dst (N := 53) rfl ?_); (try (refine gate_guard (by rfl) ?_; dsimp only)); refine Kd.R_lit k24 _ 24 ?hg (N := 53) ?hd (xs := ([(⟨a1, a3_1, a3_2⟩ : S24)] : List (S24))) (inner := [.string a1, .string a3_1, .int .i64 a3_2]) (ok := fun _ => True) (okp := fun _ => True) ?hr ?hp (fun _ hk => hk) trivial (Below.refl _ _) (Nat.le_refl _) (by simp) ?_; (case hd => rfl); (case hg => rfl); (case hr => first | (go_simp; done) | (go_simp; rfl)); (case hp => exact (Reps.c3 (show Kd.M k24 _ _ _ (⟨a1, a3_1, a3_2⟩ : S24) [.string a1, .string a3_1, .int .i64 a3_2] from (k24_mkM _ _ _ (⟨a1, a3_1, a3_2⟩ : S24) )) (Reps.none _ _))); intro v160 w35 ho36 hb hg_ hnew_; clear hg_ hnew_; (first | rw [← Ny159.out] at ho36 | (simp only [Int.reduceToNat] at ho36; rw [← Ny159.out] at ho36)); have n0_ := Aside0.mk (Kd.R_lower (Kd.R_newB ho36 (g := gb143) (o := .cells #[.string a1, .string a3_1, .int .i64 a3_2] 24 (0, 0)) (by (with_reducible repeat (first | refine blk_drewN ?_ _ | refine blk_drew ?_ | refine blk_alloc ?_ _)); exact BK143.out)) (below_size (by repeat (first | (with_reducible first | exact HB.out | apply below_alloc | apply pw_below_drewN | apply below_drew1 | refine below_set ?_ GE143.out) | exact HB.out)))); have n1_ := Aside0.mk (blk_below (g := gb143) (o := .cells #[.string a1, .string a3_1, .int .i64 a3_2] 24 (0, 0)) (by (with_reducible repeat (first | refine blk_drewN ?_ _ | refine blk_drew ?_ | refine blk_alloc ?_ _)); exact BK143.out) hb); have n2_ := Aside0.mk (below_step (by repeat (first | (with_reducible first | exact HB.out | apply below_alloc | apply pw_below_drewN | apply below_drew1 | refine below_set ?_ GE143.out) | exact HB.out)) hb); clear BK143; clear HB; have HO161 := n0_; have BK143 := n1_; have HB := n2_; clear n0_ n1_ n2_; clear hb ho36) | ((with_reducible refine gate_builtin (b := .append) (xs := #[.tmp 53, .tmp 54]) rfl ?_); (try (refine gate_guard (by rfl) ?_; dsimp only)); at_builtin; refine Kd.R_append_rows k24 (w0 := w) w.heap.size rfl (.tmp 53) (.tmp 54) 22 24 (.agg #[(.string ⟨#[]⟩), (.string ⟨#[]⟩), (.int .i64 0)]) 40 rfl Tryd.underlying22 info24 rfl (by decide) (by omega) v160 y159 l0 _ _ _ (fun k_ => k_ ≠ gb143) (fun _ => False) rfl rfl ?aO ?aR (fun _ _ h => h) (fun _ h => h.elim) ?aF ?aB ?aS ?aL ?_; (case aR => repeat (first | exact (Kd.C_below HR0.out HB.out) | (with_reducible refine Kd.C_alloc ?_ _) | (with_reducible refine Kd.C_drewN ?_ _) | (with_reducible refine Kd.C_drew ?_))); (case aB => exact (by repeat (first | (with_reducible first | exact HB.out | apply below_alloc | apply pw_below_drewN | apply below_drew1 | refine below_set ?_ GE143.out) | exact HB.out))); (case aF => exact (fun k_ hk => Kd.freshB (g := gb143) (o := .cells #[.string a1, .string a3_1, .int .i64 a3_2] 24 (0, 0)) (by (with_reducible repeat (first | refine blk_drewN ?_ _ | refine blk_drew ?_ | refine blk_alloc ?_ _)); exact BK143.out) k_ hk)); (case aO => exact (by (with_reducible repeat (first | apply Kd.R_alloc | apply Kd.R_drewN | apply Kd.R_drew)); exact Kd.R_mono HO161.out (fun _ hk => hk.2))); (case aS => exact (below_size (by repeat (first | (with_reducible first | exact HB.out | apply below_alloc | apply pw_below_drewN | apply below_drew1 | refine below_set ?_ GE143.out) | exact HB.out)))); (case aL => have := LMc28.out; omega); intro v163 w37 ho hb hg hat; rw [← Ny162.out] at ho; have n0_ := Aside0.mk (blk_grown (g := gb143) (o := .cells #[.string a1, .string a3_1, .int .i64 a3_2] 24 (0, 0)) (by (with_reducible repeat (first | refine blk_drewN ?_ _ | refine blk_drew ?_ | refine blk_alloc ?_ _)); exact BK143.out) hg (Kd.R_away HO161.out (fun _ hk => hk.2))); have n1_ := Aside0.mk (hb); have n2_ := Aside0.mk (ho); clear BK143; clear HB; clear HO161; have BK143 := n0_; have HB := n1_; have HO164 := n2_; clear n0_ n1_ n2_; clear ho hb hg hat; obtain ⟨Ao38, co38, eo38⟩ := Kd.R_slice HO164.out; subst eo38) | ((with_reducible refine gate_callee (f := 7) rfl ?_); refine goesL_ (some 58) rfl rfl Tryd.func7 (by kernel_rfl) rfl #[.slice Ao38 y162.length co38, .string a1, .string a2] rfl (by (try simp only [List.map_toArray, List.map_cons, List.map_nil]); first | done | rfl | (simp only [List.length_drop, List.length_take]; rfl)) ?_; (with_reducible refine (pins_Priority.calls _ _ y162 a1 a2 t165 _ ?side1 ?side2 A29.out).mono ?_); (case side1 => repeat (first | exact (Kd.R_reads' HO164.out).2.2 | (with_reducible refine Kd.C_alloc ?_ _) | (with_reducible refine Kd.C_drewN ?_ _) | (with_reducible refine Kd.C_drew ?_))); (case side2 => exact (Kd.R_reads' HO164.out).2.1); rintro e w39 ⟨rfl, hb⟩; refine ⟨_, rfl, ?_⟩; have n0_ := Aside0.mk (Kd.R_below (by (with_reducible repeat (first | apply Kd.R_alloc | apply Kd.R_drewN | apply Kd.R_drew)); exact HO164.out) hb); have n1_ := Aside0.mk (blk_below (g := gb143) (o := .cells #[.string a1, .string a3_1, .int .i64 a3_2] 24 (0, 0)) (by (with_reducible repeat (first | refine blk_drewN ?_ _ | refine blk_drew ?_ | refine blk_alloc ?_ _)); exact BK143.out) hb); have n2_ := Aside0.mk (below_step (by repeat (first | (with_reducible first | exact HB.out | apply below_alloc | apply pw_below_drewN | apply below_drew1 | refine below_set ?_ GE143.out) | exact HB.out)) hb); clear HO164; clear BK143; clear HB; have HO164 := n0_; have BK143 := n1_; have HB := n2_; clear n0_ n1_ n2_; (try clear hb); (try clear hb2); (try clear hk); (try clear hi); have hcz40_0 : w39.cell? ⟨gb143, 0, none⟩ = some (.string a1) := (blk_cell BK143.out 0).trans rfl; have hcz40_1 : w39.cell? ⟨gb143, 1, none⟩ = some (.string a3_1) := (blk_cell BK143.out 1).trans rfl; have hcz40_2 : w39.cell? ⟨gb143, 2, none⟩ = some (.int .i64 a3_2) := (blk_cell BK143.out 2).trans rfl; have hfz40_0 := blk_frozen BK143.out 0; have hfz40_1 := blk_frozen BK143.out 1; have hfz40_2 := blk_frozen BK143.out 2) | ((with_reducible refine gate_callee (f := 8) rfl ?_); refine goesL_ (some 63) rfl rfl Tryd.func8 (by kernel_rfl) rfl #[.agg #[.string a1, .string a3_1, .int .i64 a3_2], .string a1, .string a2] rfl (by (try simp only [List.map_toArray, List.map_cons, List.map_nil]); first | done | rfl | (simp only [List.length_drop, List.length_take]; rfl)) ?_; (with_reducible refine (pins_Matches.calls a1 a3_1 a3_2 a1 a2 t166 _ A30.out).mono ?_); rintro e w41 ⟨rfl, hb⟩; refine ⟨_, rfl, ?_⟩; have n0_ := Aside0.mk (Kd.R_below (by (with_reducible repeat (first | apply Kd.R_alloc | apply Kd.R_drewN | apply Kd.R_drew)); exact HO164.out) hb); have n1_ := Aside0.mk (blk_below (g := gb143) (o := .cells #[.string a1, .string a3_1, .int .i64 a3_2] 24 (0, 0)) (by (with_reducible repeat (first | refine blk_drewN ?_ _ | refine blk_drew ?_ | refine blk_alloc ?_ _)); exact BK143.out) hb); have n2_ := Aside0.mk (below_step (by repeat (first | (with_reducible first | exact HB.out | apply below_alloc | apply pw_below_drewN | apply below_drew1 | refine below_set ?_ GE143.out) | exact HB.out)) hb); clear HO164; clear BK143; clear HB; have HO164 := n0_; have BK143 := n1_; have HB := n2_; clear n0_ n1_ n2_; (try clear hb); (try clear hb2); (try clear hk); (try clear hi)))
              (try simp only [Act.put, List.setIfInBounds_toArray, List.set_cons_zero, List.set_cons_succ])
              go_cut [13] (fun v13 wc => ∃ (kq : Nat) (x13_30 : Int), v13 = .int .i64 x13_30 ∧ Aside0 (keelsonlaw8_PinsFirst.j1 kq l0 a1 a2 t158 t165 x13_30 a1 a3_1 a3_2 = some r) ∧ Aside0 (kq ≤ kj8) ∧ Aside0 (wc.heap[gb143]? = some (.cells #[.string a1, .string a3_1, .int .i64 a3_2] 24 (0, 0))) ∧ Aside0 (Below w.heap.size w wc))
              case first => as_aux_lemma =>
                have H := HC31.out
                clear HC31
                by_cases c42 : t166 = true
                · subst c42
                  have H1 : (keelsonlaw8_PinsFirst.j1 kj8 l0 a1 a2 t158 t165 a3_2 a1 a3_1 a3_2) = some r := by rw [if_pos rfl] at H; exact H
                  clear H
                  have H := H1
                  clear H1
                  have H' := Aside0.mk H
                  clear H
                  have hcz43_0 : w41.cell? ⟨gb143, 0, none⟩ = some (.string a1) := (blk_cell BK143.out 0).trans rfl
                  have hcz43_1 : w41.cell? ⟨gb143, 1, none⟩ = some (.string a3_1) := (blk_cell BK143.out 1).trans rfl
                  have hcz43_2 : w41.cell? ⟨gb143, 2, none⟩ = some (.int .i64 a3_2) := (blk_cell BK143.out 2).trans rfl
                  have hfz43_0 := blk_frozen BK143.out 0
                  have hfz43_1 := blk_frozen BK143.out 1
                  have hfz43_2 := blk_frozen BK143.out 2
                  go_wp2
                  go_meet
                  case rel => exact ⟨_, (a3_2), (by first | rfl | (simp; done) | (simp [*]; done)), H', ⟨by have := HJ8.out; first | omega | exact Nat.le_refl _⟩, ⟨by (with_reducible repeat (first | refine blk_drewN ?_ _ | refine blk_drew ?_ | refine blk_alloc ?_ _)); exact BK143.out⟩, ⟨by repeat (first | (with_reducible first | exact HB.out | apply below_alloc | apply pw_below_drewN | apply below_drew1 | refine below_set ?_ GE143.out) | exact HB.out)⟩⟩
                · replace c42 := Bool.eq_false_iff.mpr c42
                  subst c42
                  have H1 : (keelsonlaw8_PinsFirst.j1 kj8 l0 a1 a2 t158 t165 t158 a1 a3_1 a3_2) = some r := by rw [if_neg (show ¬ (false = true) by decide)] at H; exact H
                  clear H
                  have H := H1
                  clear H1
                  have H' := Aside0.mk H
                  clear H
                  go_wp2
                  go_meet
                  case rel => exact ⟨_, (t158), (by first | rfl | (simp; done) | (simp [*]; done)), H', ⟨by have := HJ8.out; first | omega | exact Nat.le_refl _⟩, ⟨by (with_reducible repeat (first | refine blk_drewN ?_ _ | refine blk_drew ?_ | refine blk_alloc ?_ _)); exact BK143.out⟩, ⟨by repeat (first | (with_reducible first | exact HB.out | apply below_alloc | apply pw_below_drewN | apply below_drew1 | refine below_set ?_ GE143.out) | exact HB.out)⟩⟩
              case rest => as_aux_lemma =>
                clear HC31
                try clear c2
                try clear p2
                try clear c3
                try clear c4
                try clear c5
                try clear c6
                try clear c7
                try clear c8
                try clear c22
                try clear c23
                try clear c24
                try clear c24b0
                try clear c24b1
                try clear c25
                try clear c25b0
                try clear c25b1
                try clear c26
                try clear c28
                try clear c42
                try clear hcz32_0
                try clear hcz32_1
                try clear hcz32_2
                try clear hcz34_0
                try clear hcz34_1
                try clear hcz34_2
                try clear hcz40_0
                try clear hcz40_1
                try clear hcz40_2
                try clear hcz43_0
                try clear hcz43_1
                try clear hcz43_2
                try clear hfz32_0
                try clear hfz32_1
                try clear hfz32_2
                try clear hfz34_0
                try clear hfz34_1
                try clear hfz34_2
                try clear hfz40_0
                try clear hfz40_1
                try clear hfz40_2
                try clear hfz43_0
                try clear hfz43_1
                try clear hfz43_2
                try clear p2
                obtain ⟨kq, x13_30, rfl, HA, HJ30, BK143, HB⟩ := hcut
                cases kq with
                | zero => exact absurd HA.out (by simp [keelsonlaw8_PinsFirst.j1])
                | succ kj30 =>
                  have H := HA.out
                  clear HA
                  simp only [keelsonlaw8_PinsFirst.j1] at H
                  have H' := Aside0.mk H
                  clear H
                  go_wp2
                  go_loopg [14, 15] kj30 (fun kq v14 v15 w' => ∃ (x14_3 : Bool) (x15_3 : Int), v14 = .bool x14_3 ∧ v15 = .int .i64 x15_3 ∧ Aside0 (keelsonlaw8_PinsFirst.l0 kq l0 a1 a2 t158 t165 x13_30 x14_3 x15_3 a1 a3_1 a3_2 = some r) ∧ Aside0 (kq ≤ kj30) ∧ Aside0 (w'.heap[gb143]? = some (.cells #[.string a1, .string a3_1, .int .i64 a3_2] 24 (0, 0))) ∧ Aside0 (Below w.heap.size w w'))
                  case atStart => exact ⟨(false), (0), (by first | rfl | (simp; done) | (simp [*]; done)), (by first | rfl | (simp; done) | (simp [*]; done)), H', ⟨Nat.le_refl _⟩, ⟨by (with_reducible repeat (first | refine blk_drewN ?_ _ | refine blk_drew ?_ | refine blk_alloc ?_ _)); exact BK143.out⟩, ⟨by repeat (first | (with_reducible first | exact HB.out | apply below_alloc | apply pw_below_drewN | apply below_drew1 | refine below_set ?_ GE143.out) | exact HB.out)⟩⟩
                  case round => as_aux_lemma =>
                    clear H'
                    try clear c2
                    try clear p2
                    try clear c3
                    try clear c4
                    try clear c5
                    try clear c6
                    try clear c7
                    try clear c8
                    try clear c22
                    try clear c23
                    try clear c24
                    try clear c24b0
                    try clear c24b1
                    try clear c25
                    try clear c25b0
                    try clear c25b1
                    try clear c26
                    try clear c28
                    try clear c42
                    try clear hcz32_0
                    try clear hcz32_1
                    try clear hcz32_2
                    try clear hcz34_0
                    try clear hcz34_1
                    try clear hcz34_2
                    try clear hcz40_0
                    try clear hcz40_1
                    try clear hcz40_2
                    try clear hcz43_0
                    try clear hcz43_1
                    try clear hcz43_2
                    try clear hfz32_0
                    try clear hfz32_1
                    try clear hfz32_2
                    try clear hfz34_0
                    try clear hfz34_1
                    try clear hfz34_2
                    try clear hfz40_0
                    try clear hfz40_1
                    try clear hfz40_2
                    try clear hfz43_0
                    try clear hfz43_1
                    try clear hfz43_2
                    try clear p2
                    obtain ⟨x14_3, x15_3, rfl, rfl, HA, HK3, BK143, HB⟩ := hrel
                    cases gk with
                    | zero => exact absurd HA.out (by simp [keelsonlaw8_PinsFirst.l0])
                    | succ k3 =>
                      have H := HA.out
                      clear HA
                      simp only [keelsonlaw8_PinsFirst.l0] at H
                      by_cases c44 : x15_3 < (l0.length : Int)
                      · rw [if_pos c44] at H
                        have c44b0 : decide (x15_3 < (l0.length : Int)) = true := decide_eq_true c44
                        clear c44
                        by_cases c45 : x14_3 = true
                        · subst c45
                          have H1 : (keelsonlaw8_PinsFirst.l0 k3 l0 a1 a2 t158 t165 x13_30 true (wrap64 (x15_3 + 1)) a1 a3_1 a3_2) = some r := by rw [if_pos rfl] at H; exact H
                          clear H
                          have H := H1
                          clear H1
                          have H' := Aside0.mk H
                          clear H
                          go_wp2
                          go_roundg k3
                          case measure => have := HJ8.out; have := HJ30.out; have := HK3.out; omega
                          case rel => exact ⟨(true), (wrap64 (x15_3 + 1)), (by first | rfl | (simp; done) | (simp [*]; done)), (by first | rfl | (simp; done) | (simp [*]; done)), H', ⟨by have := HJ8.out; have := HJ30.out; have := HK3.out; omega⟩, ⟨by (with_reducible repeat (first | refine blk_drewN ?_ _ | refine blk_drew ?_ | refine blk_alloc ?_ _)); exact BK143.out⟩, ⟨by repeat (first | (with_reducible first | exact HB.out | apply below_alloc | apply pw_below_drewN | apply below_drew1 | refine below_set ?_ GE143.out) | exact HB.out)⟩⟩
                        · replace c45 := Bool.eq_false_iff.mpr c45
                          subst c45
                          have H1 : (if 0 ≤ x15_3 then (if ((rd_T24 l0 x15_3).f0).toList = a1.toList then ((pins_Matches.f ((rd_T24 l0 x15_3).f0) ((rd_T24 l0 x15_3).f1) ((rd_T24 l0 x15_3).f2) a1 a2).bind fun t169 => (keelsonlaw8_PinsFirst.l0 k3 l0 a1 a2 t158 t165 x13_30 t169 (wrap64 (x15_3 + 1)) a1 a3_1 a3_2)) else (keelsonlaw8_PinsFirst.l0 k3 l0 a1 a2 t158 t165 x13_30 false (wrap64 (x15_3 + 1)) a1 a3_1 a3_2)) else (none)) = some r := by rw [if_neg (show ¬ (false = true) by decide)] at H; exact H
                          clear H
                          have H := H1
                          clear H1
                          by_cases c46 : 0 ≤ x15_3
                          · rw [if_pos c46] at H
                            have c46b0 : decide (0 ≤ x15_3) = true := decide_eq_true c46
                            clear c46
                            by_cases c47 : ((rd_T24 l0 x15_3).f0).toList = a1.toList
                            · rw [if_pos c47] at H
                              have c47b0 : (((rd_T24 l0 x15_3).f0).toList == a1.toList) = true := beq_iff_eq.mpr c47
                              have c47b1 : (((rd_T24 l0 x15_3).f0).toList != a1.toList) = false := bne_eq_false_iff_eq.mpr c47
                              clear c47
                              replace H := Option.bind_eq_some_iff.mp H
                              obtain ⟨t169, A480, H⟩ := H
                              replace H : (keelsonlaw8_PinsFirst.l0 k3 l0 a1 a2 t158 t165 x13_30 t169 (wrap64 (x15_3 + 1)) a1 a3_1 a3_2) = some r := H
                              have A48 := Aside0.mk A480
                              clear A480
                              have H' := Aside0.mk H
                              clear H
                              have p167 : 0 ≤ (x15_3 : Int) := of_decide_eq_true (by first | (with_reducible assumption) | assumption)
                              have q167 : x15_3 < (l0.length : Int) := of_decide_eq_true (by first | (with_reducible assumption) | assumption)
                              obtain ⟨ad167, e167, hx167_0, hx167_1, hx167_2⟩ := at_T24 HR0.out x15_3 p167 q167
                              cases e167
                              replace hx167_0 := (HB.out.cell (World.block_lt_of_cell? w _ hx167_0)).trans hx167_0
                              replace hx167_1 := (HB.out.cell (World.block_lt_of_cell? w _ hx167_1)).trans hx167_1
                              replace hx167_2 := (HB.out.cell (World.block_lt_of_cell? w _ hx167_2)).trans hx167_2
                              replace p167 := eq_true p167
                              replace q167 := eq_true q167
                              have p168 : 0 ≤ (x15_3 : Int) := of_decide_eq_true (by first | (with_reducible assumption) | assumption)
                              have q168 : x15_3 < (l0.length : Int) := of_decide_eq_true (by first | (with_reducible assumption) | assumption)
                              obtain ⟨ad168, e168, hx168_0, hx168_1, hx168_2⟩ := at_T24 HR0.out x15_3 p168 q168
                              obtain rfl : ad167 = ad168 := (by injection e168)
                              replace hx168_0 := (HB.out.cell (World.block_lt_of_cell? w _ hx168_0)).trans hx168_0
                              replace hx168_1 := (HB.out.cell (World.block_lt_of_cell? w _ hx168_1)).trans hx168_1
                              replace hx168_2 := (HB.out.cell (World.block_lt_of_cell? w _ hx168_2)).trans hx168_2
                              replace p168 := eq_true p168
                              replace q168 := eq_true q168
                              go_wp2_with (first | (go_at_call 8; (with_reducible refine (pins_Matches.calls ((rd_T24 l0 x15_3).f0) ((rd_T24 l0 x15_3).f1) ((rd_T24 l0 x15_3).f2) a1 a2 t169 _ A48.out).mono ?_); rintro e w49 ⟨rfl, hb⟩; have n0_ := Aside0.mk (blk_below (g := gb143) (o := .cells #[.string a1, .string a3_1, .int .i64 a3_2] 24 (0, 0)) (by (with_reducible repeat (first | refine blk_drewN ?_ _ | refine blk_drew ?_ | refine blk_alloc ?_ _)); exact BK143.out) hb); have n1_ := Aside0.mk (below_step (by repeat (first | (with_reducible first | exact HB.out | apply below_alloc | apply pw_below_drewN | apply below_drew1 | refine below_set ?_ GE143.out) | exact HB.out)) hb); clear BK143; clear HB; have BK143 := n0_; have HB := n1_; clear n0_ n1_; (try clear hb); (try clear hb2); (try clear hk); (try clear hi)))
                              go_roundg k3
                              case measure => have := HJ8.out; have := HJ30.out; have := HK3.out; omega
                              case rel => exact ⟨(t169), (wrap64 (x15_3 + 1)), (by first | rfl | (simp; done) | (simp [*]; done)), (by first | rfl | (simp; done) | (simp [*]; done)), H', ⟨by have := HJ8.out; have := HJ30.out; have := HK3.out; omega⟩, ⟨by (with_reducible repeat (first | refine blk_drewN ?_ _ | refine blk_drew ?_ | refine blk_alloc ?_ _)); exact BK143.out⟩, ⟨by repeat (first | (with_reducible first | exact HB.out | apply below_alloc | apply pw_below_drewN | apply below_drew1 | refine below_set ?_ GE143.out) | exact HB.out)⟩⟩
                            · rw [if_neg c47] at H
                              have c47b0 : (((rd_T24 l0 x15_3).f0).toList == a1.toList) = false := beq_eq_false_iff_ne.mpr c47
                              have c47b1 : (((rd_T24 l0 x15_3).f0).toList != a1.toList) = true := bne_iff_ne.mpr c47
                              have H' := Aside0.mk H
                              clear H
                              have p167 : 0 ≤ (x15_3 : Int) := of_decide_eq_true (by first | (with_reducible assumption) | assumption)
                              have q167 : x15_3 < (l0.length : Int) := of_decide_eq_true (by first | (with_reducible assumption) | assumption)
                              obtain ⟨ad167, e167, hx167_0, hx167_1, hx167_2⟩ := at_T24 HR0.out x15_3 p167 q167
                              cases e167
                              replace hx167_0 := (HB.out.cell (World.block_lt_of_cell? w _ hx167_0)).trans hx167_0
                              replace hx167_1 := (HB.out.cell (World.block_lt_of_cell? w _ hx167_1)).trans hx167_1
                              replace hx167_2 := (HB.out.cell (World.block_lt_of_cell? w _ hx167_2)).trans hx167_2
                              replace p167 := eq_true p167
                              replace q167 := eq_true q167
                              go_wp2
                              go_roundg k3
                              case measure => have := HJ8.out; have := HJ30.out; have := HK3.out; omega
                              case rel => exact ⟨(false), (wrap64 (x15_3 + 1)), (by first | rfl | (simp; done) | (simp [*]; done)), (by first | rfl | (simp; done) | (simp [*]; done)), H', ⟨by have := HJ8.out; have := HJ30.out; have := HK3.out; omega⟩, ⟨by (with_reducible repeat (first | refine blk_drewN ?_ _ | refine blk_drew ?_ | refine blk_alloc ?_ _)); exact BK143.out⟩, ⟨by repeat (first | (with_reducible first | exact HB.out | apply below_alloc | apply pw_below_drewN | apply below_drew1 | refine below_set ?_ GE143.out) | exact HB.out)⟩⟩
                          · rw [if_neg c46] at H
                            exact absurd H (by simp)
                      · rw [if_neg c44] at H
                        have c44b0 : decide (x15_3 < (l0.length : Int)) = false := decide_eq_false c44
                        clear c44
                        obtain ⟨y170, hy170⟩ : ∃ y_ : List (S24), y_ = (([] : List (S24))) := ⟨_, rfl⟩
                        replace H : (if y170.length + l0.length < 3518437208883 then ((some (y170 ++ l0 : List (S24))).bind fun y173 => ((some (([(⟨a1, a3_1, a3_2⟩ : S24)] : List (S24)) : List (S24))).bind fun y176 => (if y173.length + y176.length < 3518437208883 then ((pins_Priority.f (y173 ++ y176) a1 a2).bind fun t182 => (if t165 = x13_30 then (if x14_3 = true then (some (t182 == t158)) else (some true)) else (none))) else (none)))) else (none)) = some r := by first | (rw [hy170]; with_reducible exact H) | (have H2_ := (Option.bind_some _ _).symm.trans H; rw [hy170]; with_reducible exact H2_) | (have H2_ := (Option.bind_some _ _).symm.trans H; with_reducible exact H2_) | with_reducible exact H | (rw [hy170]; exact H) | exact H
                        have Ny170 := Aside0.mk hy170
                        clear hy170
                        by_cases c50 : y170.length + l0.length < 3518437208883
                        · rw [if_pos c50] at H
                          have LMc50 := Aside0.mk c50
                          clear c50
                          obtain ⟨y173, hy173⟩ : ∃ y_ : List (S24), y_ = (y170 ++ l0) := ⟨_, rfl⟩
                          replace H : ((some (([(⟨a1, a3_1, a3_2⟩ : S24)] : List (S24)) : List (S24))).bind fun y176 => (if y173.length + y176.length < 3518437208883 then ((pins_Priority.f (y173 ++ y176) a1 a2).bind fun t182 => (if t165 = x13_30 then (if x14_3 = true then (some (t182 == t158)) else (some true)) else (none))) else (none))) = some r := by first | (rw [hy173]; with_reducible exact H) | (have H2_ := (Option.bind_some _ _).symm.trans H; rw [hy173]; with_reducible exact H2_) | (have H2_ := (Option.bind_some _ _).symm.trans H; with_reducible exact H2_) | with_reducible exact H | (rw [hy173]; exact H) | exact H
                          have Ny173 := Aside0.mk hy173
                          clear hy173
                          obtain ⟨y176, hy176⟩ : ∃ y_ : List (S24), y_ = (([(⟨a1, a3_1, a3_2⟩ : S24)] : List (S24))) := ⟨_, rfl⟩
                          replace H : (if y173.length + y176.length < 3518437208883 then ((pins_Priority.f (y173 ++ y176) a1 a2).bind fun t182 => (if t165 = x13_30 then (if x14_3 = true then (some (t182 == t158)) else (some true)) else (none))) else (none)) = some r := by first | (rw [hy176]; with_reducible exact H) | (have H2_ := (Option.bind_some _ _).symm.trans H; rw [hy176]; with_reducible exact H2_) | (have H2_ := (Option.bind_some _ _).symm.trans H; with_reducible exact H2_) | with_reducible exact H | (rw [hy176]; exact H) | exact H
                          have Ny176 := Aside0.mk hy176
                          clear hy176
                          by_cases c51 : y173.length + y176.length < 3518437208883
                          · rw [if_pos c51] at H
                            have LMc51 := Aside0.mk c51
                            clear c51
                            obtain ⟨y179, hy179⟩ : ∃ y_ : List (S24), y_ = (y173 ++ y176) := ⟨_, rfl⟩
                            replace H : ((pins_Priority.f y179 a1 a2).bind fun t182 => (if t165 = x13_30 then (if x14_3 = true then (some (t182 == t158)) else (some true)) else (none))) = some r := by first | (rw [hy179]; with_reducible exact H) | (have H2_ := (Option.bind_some _ _).symm.trans H; rw [hy179]; with_reducible exact H2_) | (have H2_ := (Option.bind_some _ _).symm.trans H; with_reducible exact H2_) | with_reducible exact H | (rw [hy179]; exact H) | exact H
                            have Ny179 := Aside0.mk hy179
                            clear hy179
                            replace H := Option.bind_eq_some_iff.mp H
                            obtain ⟨t182, A520, H⟩ := H
                            replace H : (if t165 = x13_30 then (if x14_3 = true then (some (t182 == t158)) else (some true)) else (none)) = some r := H
                            have A52 := Aside0.mk A520
                            clear A520
                            by_cases c53 : t165 = x13_30
                            · rw [if_pos c53] at H
                              have c53b0 : (t165 == x13_30) = true := beq_iff_eq.mpr c53
                              have c53b1 : (t165 != x13_30) = false := bne_eq_false_iff_eq.mpr c53
                              clear c53
                              by_cases c54 : x14_3 = true
                              · subst c54
                                have H1 : (some (t182 == t158)) = some r := by rw [if_pos rfl] at H; exact H
                                clear H
                                have H := H1
                                clear H1
                                obtain rfl := Option.some.inj H
                                try go_wp2
                                have n0_ := Aside0.mk (blk_drew BK143.out)
                                have n1_ := Aside0.mk (below_drew1 HB.out)
                                clear BK143
                                clear HB
                                have BK143 := n0_
                                have HB := n1_
                                clear n0_ n1_
                                refine start_ (n := 10) (S := fun w' => w'.cell? ⟨gb143, 0, none⟩ = some (.string a1) ∧ w'.cell? ⟨gb143, 1, none⟩ = some (.string a3_1) ∧ w'.cell? ⟨gb143, 2, none⟩ = some (.int .i64 a3_2)) (ds := []) #[false, false, false, false, false, false, false, false, false, false] (by kernel_rfl) rfl rfl ⟨(blk_cell BK143.out 0).trans rfl, (blk_cell BK143.out 1).trans rfl, (blk_cell BK143.out 2).trans rfl⟩ (fun hHeld => ?_); refine with_tabW keelsonlaw8_PinsFirst.tab16 keelsonlaw8_PinsFirst.bits16 (fun HT_ HW_ => ?_)
                                generalize wr.drew = w55 at BK143 HB hHeld ⊢
                                refine pure_ (i := 1) (N := some 92) (v := ?_) (a' := ?_) #[false, true, false, false, false, false, false, false, false, false] rfl rfl (any_of HT_.out (by kernel_rfl)) (fun _ _ _ h => h) (Or.inl ⟨by rfl, ?_⟩) ?_ ?_
                                rotate_left
                                · intro w'
                                  go_simp
                                  with_reducible rfl
                                rotate_left
                                · simp only [Act.put, List.setIfInBounds_toArray, List.set_cons_zero, List.set_cons_succ, i64_w, i32_w]
                                  rfl
                                refine pure_ (i := 6) (N := some 97) (v := ?_) (a' := ?_) #[false, true, false, false, false, false, true, false, false, false] rfl rfl (any_of HT_.out (by kernel_rfl)) (fun _ _ _ h => h) (Or.inl ⟨by rfl, ?_⟩) ?_ ?_
                                rotate_left
                                · intro w'
                                  go_simp
                                  with_reducible rfl
                                rotate_left
                                · simp only [Act.put, List.setIfInBounds_toArray, List.set_cons_zero, List.set_cons_succ, i64_w, i32_w]
                                  rfl
                                refine pure_ (i := 7) (N := some 98) (v := ?_) (a' := ?_) #[false, true, false, false, false, false, true, true, false, false] rfl rfl (any_of HT_.out (by kernel_rfl)) (fun _ _ _ h => h) (Or.inl ⟨by rfl, ?_⟩) ?_ ?_
                                rotate_left
                                · intro w'
                                  go_simp
                                  with_reducible rfl
                                rotate_left
                                · simp only [Act.put, List.setIfInBounds_toArray, List.set_cons_zero, List.set_cons_succ, i64_w, i32_w]
                                  rfl
                                refine take_ (i := 3) (N := some 94) (v := ?_) (a' := ?_) #[false, true, false, true, false, false, true, true, false, false] rfl rfl (take_ofW HT_.out HW_.out (by kernel_rfl)) (fun _ _ _ h => h) (Or.inl ⟨by rfl, ?_⟩) hHeld ?_ ?_
                                rotate_left
                                · rintro w' ⟨s0, s1, s2⟩
                                  go_simp
                                  with_reducible rfl
                                rotate_left
                                · simp only [Act.put, List.setIfInBounds_toArray, List.set_cons_zero, List.set_cons_succ, i64_w, i32_w]
                                  rfl
                                refine join_ (σ := Value × Value × Value) 3 #[true, true, true, true, true, false, true, true, false, false] (fun s_ => [(91, s_.1), (93, s_.2.1), (95, s_.2.2)]) (fun s_ w' => (w'.cell? ⟨gb143, 0, none⟩ = some (.string a1) ∧ w'.cell? ⟨gb143, 1, none⟩ = some (.string a3_1) ∧ w'.cell? ⟨gb143, 2, none⟩ = some (.int .i64 a3_2)) ∧ (Kd.R k24 24 w' w.heap.size (fun k_ => some k_ ≠ (s_.2.2 : Value).ownBlock ∧ k_ ≠ gb143) s_.2.1 y173) ∧ (Kd.R k24 24 w' w.heap.size (fun k_ => some k_ ≠ (s_.2.1 : Value).ownBlock ∧ k_ ≠ gb143) s_.2.2 y176) ∧ (w'.heap[gb143]? = some (.cells #[.string a1, .string a3_1, .int .i64 a3_2] 24 (0, 0))) ∧ (Below w.heap.size w w')) ?_ ?_
                                rotate_left
                                · intro hCont
                                  refine two_ (i := 0) (j := 4) (Ni := some 91) (Nj := some 95) #[true, true, false, true, false, false, true, true, false, false] #[false, true, false, true, true, false, true, true, false, false] rfl rfl rfl rfl (two_of HT_.out (by kernel_rfl)) (by decide) (by decide) (fun K hK => ?_) (fun K hK => ?_)
                                  · skip
                                    refine Kd.R_lit_step k24 _ 24 ?hg (N := 91) ?hd (xs := ([] : List (S24))) (inner := []) (ok := fun _ => True) (okp := fun _ => True) ?hr ?hp (fun _ hk => hk) trivial (Below.refl _ _) (Nat.le_refl _) (by simp) ?_; (case hd => rfl); (case hg => rfl); (case hr => first | (go_simp; done) | (go_simp; rfl)); (case hp => exact (Reps.none _ _))
                                    intro v171 w56 ho57 hb hg_ hnew_
                                    clear hg_ hnew_
                                    (first | rw [← Ny170.out] at ho57 | (simp only [Int.reduceToNat] at ho57; rw [← Ny170.out] at ho57))
                                    have n0_ := Aside0.mk (Kd.R_lower (Kd.R_newB ho57 (g := gb143) (o := .cells #[.string a1, .string a3_1, .int .i64 a3_2] 24 (0, 0)) (by (with_reducible repeat (first | refine blk_drewN ?_ _ | refine blk_drew ?_ | refine blk_alloc ?_ _)); exact BK143.out)) (below_size (by repeat (first | (with_reducible first | exact HB.out | apply below_alloc | apply pw_below_drewN | apply below_drew1 | refine below_set ?_ GE143.out) | exact HB.out))))
                                    have n1_ := Aside0.mk (blk_below (g := gb143) (o := .cells #[.string a1, .string a3_1, .int .i64 a3_2] 24 (0, 0)) (by (with_reducible repeat (first | refine blk_drewN ?_ _ | refine blk_drew ?_ | refine blk_alloc ?_ _)); exact BK143.out) hb)
                                    have n2_ := Aside0.mk (below_step (by repeat (first | (with_reducible first | exact HB.out | apply below_alloc | apply pw_below_drewN | apply below_drew1 | refine below_set ?_ GE143.out) | exact HB.out)) hb)
                                    clear BK143
                                    clear HB
                                    have HO172 := n0_
                                    have BK143 := n1_
                                    have HB := n2_
                                    clear n0_ n1_ n2_
                                    clear hb ho57
                                    refine hK.out _ _ ⟨(blk_cell BK143.out 0).trans rfl, (blk_cell BK143.out 1).trans rfl, (blk_cell BK143.out 2).trans rfl⟩ (fun hHeld => ?_)
                                    clear hK K
                                    refine norm_ (a' := ?_) ?_ ?_
                                    rotate_left
                                    · show Act.put _ (some 91) _ = _
                                      simp only [Act.put, List.setIfInBounds_toArray, List.set_cons_zero, List.set_cons_succ, i64_w, i32_w]
                                      rfl
                                    refine two_ (i := 2) (j := 4) (Ni := some 93) (Nj := some 95) #[true, true, true, true, false, false, true, true, false, false] #[true, true, false, true, true, false, true, true, false, false] rfl rfl rfl rfl (two_of HT_.out (by kernel_rfl)) (by decide) (by decide) (fun K hK => ?_) (fun K hK => ?_)
                                    · skip
                                      refine Kd.R_append_rows_step k24 (w0 := w) w.heap.size (by rfl) (.tmp 91) (.tmp 92) 22 24 (.agg #[(.string ⟨#[]⟩), (.string ⟨#[]⟩), (.int .i64 0)]) 40 rfl Tryd.underlying22 info24 rfl (by decide) (by omega) v171 y170 l0 _ _ _ (fun k_ => k_ ≠ gb143) (fun _ => False) rfl rfl ?aO ?aR (fun _ _ h => h) (fun _ h => h.elim) ?aF ?aB ?aS ?aL ?_
                                      (case aR => repeat (first | exact (Kd.C_below HR0.out HB.out) | (with_reducible refine Kd.C_alloc ?_ _) | (with_reducible refine Kd.C_drewN ?_ _) | (with_reducible refine Kd.C_drew ?_)))
                                      (case aB => exact (by repeat (first | (with_reducible first | exact HB.out | apply below_alloc | apply pw_below_drewN | apply below_drew1 | refine below_set ?_ GE143.out) | exact HB.out)))
                                      (case aF => exact (fun k_ hk => Kd.freshB (g := gb143) (o := .cells #[.string a1, .string a3_1, .int .i64 a3_2] 24 (0, 0)) (by (with_reducible repeat (first | refine blk_drewN ?_ _ | refine blk_drew ?_ | refine blk_alloc ?_ _)); exact BK143.out) k_ hk))
                                      (case aO => exact (by (with_reducible repeat (first | apply Kd.R_alloc | apply Kd.R_drewN | apply Kd.R_drew)); exact Kd.R_mono HO172.out (fun _ hk => hk.2)))
                                      (case aS => exact (below_size (by repeat (first | (with_reducible first | exact HB.out | apply below_alloc | apply pw_below_drewN | apply below_drew1 | refine below_set ?_ GE143.out) | exact HB.out))))
                                      (case aL => have := LMc50.out; omega)
                                      intro v174 w58 ho hb hg hat
                                      rw [← Ny173.out] at ho
                                      have n0_ := Aside0.mk (blk_grown (g := gb143) (o := .cells #[.string a1, .string a3_1, .int .i64 a3_2] 24 (0, 0)) (by (with_reducible repeat (first | refine blk_drewN ?_ _ | refine blk_drew ?_ | refine blk_alloc ?_ _)); exact BK143.out) hg (Kd.R_away HO172.out (fun _ hk => hk.2)))
                                      have n1_ := Aside0.mk (hb)
                                      have n2_ := Aside0.mk (ho)
                                      clear BK143
                                      clear HB
                                      clear HO172
                                      have BK143 := n0_
                                      have HB := n1_
                                      have HO175 := n2_
                                      clear n0_ n1_ n2_
                                      clear ho hb hg hat
                                      refine hK.out _ _ ⟨(blk_cell BK143.out 0).trans rfl, (blk_cell BK143.out 1).trans rfl, (blk_cell BK143.out 2).trans rfl⟩ (fun hHeld => ?_)
                                      clear hK K
                                      refine norm_ (a' := ?_) ?_ ?_
                                      rotate_left
                                      · show Act.put _ (some 93) _ = _
                                        simp only [Act.put, List.setIfInBounds_toArray, List.set_cons_zero, List.set_cons_succ, i64_w, i32_w]
                                        rfl
                                      refine one_ (i := 4) (N := some 95) #[true, true, true, true, true, false, true, true, false, false] rfl rfl (one_of HT_.out (by kernel_rfl)) (by decide) (fun K hK => ?_)
                                      refine Kd.R_lit_step k24 _ 24 ?hg (N := 95) ?hd (xs := ([(⟨a1, a3_1, a3_2⟩ : S24)] : List (S24))) (inner := [.string a1, .string a3_1, .int .i64 a3_2]) (ok := fun _ => True) (okp := fun _ => True) ?hr ?hp (fun _ hk => hk) trivial (Below.refl _ _) (Nat.le_refl _) (by simp) ?_; (case hd => rfl); (case hg => rfl); (case hr => first | (go_simp; done) | (go_simp; rfl)); (case hp => exact (Reps.c3 (show Kd.M k24 _ _ _ (⟨a1, a3_1, a3_2⟩ : S24) [.string a1, .string a3_1, .int .i64 a3_2] from (k24_mkM _ _ _ (⟨a1, a3_1, a3_2⟩ : S24) )) (Reps.none _ _)))
                                      intro v177 w59 ho60 hb hg_ hnew_
                                      clear hg_ hnew_
                                      (first | rw [← Ny176.out] at ho60 | (simp only [Int.reduceToNat] at ho60; rw [← Ny176.out] at ho60))
                                      have n0_ := Aside0.mk (Kd.R_elder' (by (with_reducible repeat (first | apply Kd.R_alloc | apply Kd.R_drewN | apply Kd.R_drew)); exact HO175.out) (Kd.R_base ho60) hb)
                                      have n1_ := Aside0.mk (Kd.R_lower (Kd.R_newB (Kd.R_new' ho60 (Kd.R_lt (by (with_reducible repeat (first | apply Kd.R_alloc | apply Kd.R_drewN | apply Kd.R_drew)); exact HO175.out))) (g := gb143) (o := .cells #[.string a1, .string a3_1, .int .i64 a3_2] 24 (0, 0)) (by (with_reducible repeat (first | refine blk_drewN ?_ _ | refine blk_drew ?_ | refine blk_alloc ?_ _)); exact BK143.out)) (below_size (by repeat (first | (with_reducible first | exact HB.out | apply below_alloc | apply pw_below_drewN | apply below_drew1 | refine below_set ?_ GE143.out) | exact HB.out))))
                                      have n2_ := Aside0.mk (blk_below (g := gb143) (o := .cells #[.string a1, .string a3_1, .int .i64 a3_2] 24 (0, 0)) (by (with_reducible repeat (first | refine blk_drewN ?_ _ | refine blk_drew ?_ | refine blk_alloc ?_ _)); exact BK143.out) hb)
                                      have n3_ := Aside0.mk (below_step (by repeat (first | (with_reducible first | exact HB.out | apply below_alloc | apply pw_below_drewN | apply below_drew1 | refine below_set ?_ GE143.out) | exact HB.out)) hb)
                                      clear HO175
                                      clear BK143
                                      clear HB
                                      have HO175 := n0_
                                      have HO178 := n1_
                                      have BK143 := n2_
                                      have HB := n3_
                                      clear n0_ n1_ n2_ n3_
                                      clear hb ho60
                                      refine hK.out _ _ ⟨(blk_cell BK143.out 0).trans rfl, (blk_cell BK143.out 1).trans rfl, (blk_cell BK143.out 2).trans rfl⟩ (fun hHeld => ?_)
                                      clear hK K
                                      refine norm_ (a' := ?_) ?_ ?_
                                      rotate_left
                                      · show Act.put _ (some 95) _ = _
                                        simp only [Act.put, List.setIfInBounds_toArray, List.set_cons_zero, List.set_cons_succ, i64_w, i32_w]
                                        rfl
                                      exact norm_ (by simp only [putAll, Act.put, List.setIfInBounds_toArray, List.set_cons_zero, List.set_cons_succ]) (hCont (v171, v174, v177) _ ⟨hHeld, (by (with_reducible repeat (first | apply Kd.R_alloc | apply Kd.R_drewN | apply Kd.R_drew)); exact Kd.R_mono HO175.out (fun _ hk => ⟨hk.2, hk.1⟩)), (by (with_reducible repeat (first | apply Kd.R_alloc | apply Kd.R_drewN | apply Kd.R_drew)); exact Kd.R_mono HO178.out (fun _ hk => ⟨hk.1.2, hk.2⟩)), (by (with_reducible repeat (first | refine blk_drewN ?_ _ | refine blk_drew ?_ | refine blk_alloc ?_ _)); exact BK143.out), (by repeat (first | (with_reducible first | exact HB.out | apply below_alloc | apply pw_below_drewN | apply below_drew1 | refine below_set ?_ GE143.out) | exact HB.out))⟩)
                                    · skip
                                      refine Kd.R_lit_step k24 _ 24 ?hg (N := 95) ?hd (xs := ([(⟨a1, a3_1, a3_2⟩ : S24)] : List (S24))) (inner := [.string a1, .string a3_1, .int .i64 a3_2]) (ok := fun _ => True) (okp := fun _ => True) ?hr ?hp (fun _ hk => hk) trivial (Below.refl _ _) (Nat.le_refl _) (by simp) ?_; (case hd => rfl); (case hg => rfl); (case hr => first | (go_simp; done) | (go_simp; rfl)); (case hp => exact (Reps.c3 (show Kd.M k24 _ _ _ (⟨a1, a3_1, a3_2⟩ : S24) [.string a1, .string a3_1, .int .i64 a3_2] from (k24_mkM _ _ _ (⟨a1, a3_1, a3_2⟩ : S24) )) (Reps.none _ _)))
                                      intro v177 w58 ho59 hb hg_ hnew_
                                      clear hg_ hnew_
                                      (first | rw [← Ny176.out] at ho59 | (simp only [Int.reduceToNat] at ho59; rw [← Ny176.out] at ho59))
                                      have n0_ := Aside0.mk (Kd.R_elder' (by (with_reducible repeat (first | apply Kd.R_alloc | apply Kd.R_drewN | apply Kd.R_drew)); exact HO172.out) (Kd.R_base ho59) hb)
                                      have n1_ := Aside0.mk (Kd.R_lower (Kd.R_newB (Kd.R_new' ho59 (Kd.R_lt (by (with_reducible repeat (first | apply Kd.R_alloc | apply Kd.R_drewN | apply Kd.R_drew)); exact HO172.out))) (g := gb143) (o := .cells #[.string a1, .string a3_1, .int .i64 a3_2] 24 (0, 0)) (by (with_reducible repeat (first | refine blk_drewN ?_ _ | refine blk_drew ?_ | refine blk_alloc ?_ _)); exact BK143.out)) (below_size (by repeat (first | (with_reducible first | exact HB.out | apply below_alloc | apply pw_below_drewN | apply below_drew1 | refine below_set ?_ GE143.out) | exact HB.out))))
                                      have n2_ := Aside0.mk (blk_below (g := gb143) (o := .cells #[.string a1, .string a3_1, .int .i64 a3_2] 24 (0, 0)) (by (with_reducible repeat (first | refine blk_drewN ?_ _ | refine blk_drew ?_ | refine blk_alloc ?_ _)); exact BK143.out) hb)
                                      have n3_ := Aside0.mk (below_step (by repeat (first | (with_reducible first | exact HB.out | apply below_alloc | apply pw_below_drewN | apply below_drew1 | refine below_set ?_ GE143.out) | exact HB.out)) hb)
                                      clear HO172
                                      clear BK143
                                      clear HB
                                      have HO172 := n0_
                                      have HO178 := n1_
                                      have BK143 := n2_
                                      have HB := n3_
                                      clear n0_ n1_ n2_ n3_
                                      clear hb ho59
                                      refine hK.out _ _ ⟨(blk_cell BK143.out 0).trans rfl, (blk_cell BK143.out 1).trans rfl, (blk_cell BK143.out 2).trans rfl⟩ (fun hHeld => ?_)
                                      clear hK K
                                      refine norm_ (a' := ?_) ?_ ?_
                                      rotate_left
                                      · show Act.put _ (some 95) _ = _
                                        simp only [Act.put, List.setIfInBounds_toArray, List.set_cons_zero, List.set_cons_succ, i64_w, i32_w]
                                        rfl
                                      refine one_ (i := 2) (N := some 93) #[true, true, true, true, true, false, true, true, false, false] rfl rfl (one_of HT_.out (by kernel_rfl)) (by decide) (fun K hK => ?_)
                                      refine Kd.R_append_rows_step k24 (w0 := w) w.heap.size (by rfl) (.tmp 91) (.tmp 92) 22 24 (.agg #[(.string ⟨#[]⟩), (.string ⟨#[]⟩), (.int .i64 0)]) 40 rfl Tryd.underlying22 info24 rfl (by decide) (by omega) v171 y170 l0 _ _ _ (fun k_ => some k_ ≠ (v177 : Value).ownBlock ∧ k_ ≠ gb143) (fun _ => False) rfl rfl ?aO ?aR (fun _ _ h => h) (fun _ h => h.elim) ?aF ?aB ?aS ?aL ?_
                                      (case aR => repeat (first | exact (Kd.C_below HR0.out HB.out) | (with_reducible refine Kd.C_alloc ?_ _) | (with_reducible refine Kd.C_drewN ?_ _) | (with_reducible refine Kd.C_drew ?_)))
                                      (case aB => exact (by repeat (first | (with_reducible first | exact HB.out | apply below_alloc | apply pw_below_drewN | apply below_drew1 | refine below_set ?_ GE143.out) | exact HB.out)))
                                      (case aF => exact (fun k_ hk => ⟨Kd.fresh' (Kd.R_lt (by (with_reducible repeat (first | apply Kd.R_alloc | apply Kd.R_drewN | apply Kd.R_drew)); exact HO178.out)) k_ hk, Kd.freshB (g := gb143) (o := .cells #[.string a1, .string a3_1, .int .i64 a3_2] 24 (0, 0)) (by (with_reducible repeat (first | refine blk_drewN ?_ _ | refine blk_drew ?_ | refine blk_alloc ?_ _)); exact BK143.out) k_ hk⟩))
                                      (case aO => exact (by (with_reducible repeat (first | apply Kd.R_alloc | apply Kd.R_drewN | apply Kd.R_drew)); exact Kd.R_mono HO172.out (fun _ hk => ⟨hk.2, hk.1.2⟩)))
                                      (case aS => exact (below_size (by repeat (first | (with_reducible first | exact HB.out | apply below_alloc | apply pw_below_drewN | apply below_drew1 | refine below_set ?_ GE143.out) | exact HB.out))))
                                      (case aL => have := LMc50.out; omega)
                                      intro v174 w60 ho hb hg hat
                                      rw [← Ny173.out] at ho
                                      have n0_ := Aside0.mk (blk_grown (g := gb143) (o := .cells #[.string a1, .string a3_1, .int .i64 a3_2] 24 (0, 0)) (by (with_reducible repeat (first | refine blk_drewN ?_ _ | refine blk_drew ?_ | refine blk_alloc ?_ _)); exact BK143.out) hg (Kd.R_away HO172.out (fun _ hk => hk.1.2)))
                                      have n1_ := Aside0.mk (Kd.R_after (ok := (fun k_ => k_ ≠ gb143)) (by (with_reducible repeat (first | apply Kd.R_alloc | apply Kd.R_drewN | apply Kd.R_drew)); exact Kd.R_mono HO178.out (fun _ hk => ⟨hk.2, hk.1.2⟩)) hg hat)
                                      have n2_ := Aside0.mk (hb)
                                      have n3_ := Aside0.mk (ho)
                                      clear BK143
                                      clear HO178
                                      clear HB
                                      clear HO172
                                      have BK143 := n0_
                                      have HO178 := n1_
                                      have HB := n2_
                                      have HO175 := n3_
                                      clear n0_ n1_ n2_ n3_
                                      clear ho hb hg hat
                                      refine hK.out _ _ ⟨(blk_cell BK143.out 0).trans rfl, (blk_cell BK143.out 1).trans rfl, (blk_cell BK143.out 2).trans rfl⟩ (fun hHeld => ?_)
                                      clear hK K
                                      refine norm_ (a' := ?_) ?_ ?_
                                      rotate_left
                                      · show Act.put _ (some 93) _ = _
                                        simp only [Act.put, List.setIfInBounds_toArray, List.set_cons_zero, List.set_cons_succ, i64_w, i32_w]
                                        rfl
                                      exact norm_ (by simp only [putAll, Act.put, List.setIfInBounds_toArray, List.set_cons_zero, List.set_cons_succ]) (hCont (v171, v174, v177) _ ⟨hHeld, (by (with_reducible repeat (first | apply Kd.R_alloc | apply Kd.R_drewN | apply Kd.R_drew)); exact HO175.out), (by (with_reducible repeat (first | apply Kd.R_alloc | apply Kd.R_drewN | apply Kd.R_drew)); exact Kd.R_mono HO178.out (fun _ hk => ⟨hk.2, hk.1⟩)), (by (with_reducible repeat (first | refine blk_drewN ?_ _ | refine blk_drew ?_ | refine blk_alloc ?_ _)); exact BK143.out), (by repeat (first | (with_reducible first | exact HB.out | apply below_alloc | apply pw_below_drewN | apply below_drew1 | refine below_set ?_ GE143.out) | exact HB.out))⟩)
                                  · skip
                                    refine Kd.R_lit_step k24 _ 24 ?hg (N := 95) ?hd (xs := ([(⟨a1, a3_1, a3_2⟩ : S24)] : List (S24))) (inner := [.string a1, .string a3_1, .int .i64 a3_2]) (ok := fun _ => True) (okp := fun _ => True) ?hr ?hp (fun _ hk => hk) trivial (Below.refl _ _) (Nat.le_refl _) (by simp) ?_; (case hd => rfl); (case hg => rfl); (case hr => first | (go_simp; done) | (go_simp; rfl)); (case hp => exact (Reps.c3 (show Kd.M k24 _ _ _ (⟨a1, a3_1, a3_2⟩ : S24) [.string a1, .string a3_1, .int .i64 a3_2] from (k24_mkM _ _ _ (⟨a1, a3_1, a3_2⟩ : S24) )) (Reps.none _ _)))
                                    intro v177 w56 ho57 hb hg_ hnew_
                                    clear hg_ hnew_
                                    (first | rw [← Ny176.out] at ho57 | (simp only [Int.reduceToNat] at ho57; rw [← Ny176.out] at ho57))
                                    have n0_ := Aside0.mk (Kd.R_lower (Kd.R_newB ho57 (g := gb143) (o := .cells #[.string a1, .string a3_1, .int .i64 a3_2] 24 (0, 0)) (by (with_reducible repeat (first | refine blk_drewN ?_ _ | refine blk_drew ?_ | refine blk_alloc ?_ _)); exact BK143.out)) (below_size (by repeat (first | (with_reducible first | exact HB.out | apply below_alloc | apply pw_below_drewN | apply below_drew1 | refine below_set ?_ GE143.out) | exact HB.out))))
                                    have n1_ := Aside0.mk (blk_below (g := gb143) (o := .cells #[.string a1, .string a3_1, .int .i64 a3_2] 24 (0, 0)) (by (with_reducible repeat (first | refine blk_drewN ?_ _ | refine blk_drew ?_ | refine blk_alloc ?_ _)); exact BK143.out) hb)
                                    have n2_ := Aside0.mk (below_step (by repeat (first | (with_reducible first | exact HB.out | apply below_alloc | apply pw_below_drewN | apply below_drew1 | refine below_set ?_ GE143.out) | exact HB.out)) hb)
                                    clear BK143
                                    clear HB
                                    have HO178 := n0_
                                    have BK143 := n1_
                                    have HB := n2_
                                    clear n0_ n1_ n2_
                                    clear hb ho57
                                    refine hK.out _ _ ⟨(blk_cell BK143.out 0).trans rfl, (blk_cell BK143.out 1).trans rfl, (blk_cell BK143.out 2).trans rfl⟩ (fun hHeld => ?_)
                                    clear hK K
                                    refine norm_ (a' := ?_) ?_ ?_
                                    rotate_left
                                    · show Act.put _ (some 95) _ = _
                                      simp only [Act.put, List.setIfInBounds_toArray, List.set_cons_zero, List.set_cons_succ, i64_w, i32_w]
                                      rfl
                                    refine one_ (i := 0) (N := some 91) #[true, true, false, true, true, false, true, true, false, false] rfl rfl (one_of HT_.out (by kernel_rfl)) (by decide) (fun K hK => ?_)
                                    refine Kd.R_lit_step k24 _ 24 ?hg (N := 91) ?hd (xs := ([] : List (S24))) (inner := []) (ok := fun _ => True) (okp := fun _ => True) ?hr ?hp (fun _ hk => hk) trivial (Below.refl _ _) (Nat.le_refl _) (by simp) ?_; (case hd => rfl); (case hg => rfl); (case hr => first | (go_simp; done) | (go_simp; rfl)); (case hp => exact (Reps.none _ _))
                                    intro v171 w58 ho59 hb hg_ hnew_
                                    clear hg_ hnew_
                                    (first | rw [← Ny170.out] at ho59 | (simp only [Int.reduceToNat] at ho59; rw [← Ny170.out] at ho59))
                                    have n0_ := Aside0.mk (Kd.R_elder' (by (with_reducible repeat (first | apply Kd.R_alloc | apply Kd.R_drewN | apply Kd.R_drew)); exact HO178.out) (Kd.R_base ho59) hb)
                                    have n1_ := Aside0.mk (Kd.R_lower (Kd.R_newB (Kd.R_new' ho59 (Kd.R_lt (by (with_reducible repeat (first | apply Kd.R_alloc | apply Kd.R_drewN | apply Kd.R_drew)); exact HO178.out))) (g := gb143) (o := .cells #[.string a1, .string a3_1, .int .i64 a3_2] 24 (0, 0)) (by (with_reducible repeat (first | refine blk_drewN ?_ _ | refine blk_drew ?_ | refine blk_alloc ?_ _)); exact BK143.out)) (below_size (by repeat (first | (with_reducible first | exact HB.out | apply below_alloc | apply pw_below_drewN | apply below_drew1 | refine below_set ?_ GE143.out) | exact HB.out))))
                                    have n2_ := Aside0.mk (blk_below (g := gb143) (o := .cells #[.string a1, .string a3_1, .int .i64 a3_2] 24 (0, 0)) (by (with_reducible repeat (first | refine blk_drewN ?_ _ | refine blk_drew ?_ | refine blk_alloc ?_ _)); exact BK143.out) hb)
                                    have n3_ := Aside0.mk (below_step (by repeat (first | (with_reducible first | exact HB.out | apply below_alloc | apply pw_below_drewN | apply below_drew1 | refine below_set ?_ GE143.out) | exact HB.out)) hb)
                                    clear HO178
                                    clear BK143
                                    clear HB
                                    have HO178 := n0_
                                    have HO172 := n1_
                                    have BK143 := n2_
                                    have HB := n3_
                                    clear n0_ n1_ n2_ n3_
                                    clear hb ho59
                                    refine hK.out _ _ ⟨(blk_cell BK143.out 0).trans rfl, (blk_cell BK143.out 1).trans rfl, (blk_cell BK143.out 2).trans rfl⟩ (fun hHeld => ?_)
                                    clear hK K
                                    refine norm_ (a' := ?_) ?_ ?_
                                    rotate_left
                                    · show Act.put _ (some 91) _ = _
                                      simp only [Act.put, List.setIfInBounds_toArray, List.set_cons_zero, List.set_cons_succ, i64_w, i32_w]
                                      rfl
                                    refine one_ (i := 2) (N := some 93) #[true, true, true, true, true, false, true, true, false, false] rfl rfl (one_of HT_.out (by kernel_rfl)) (by decide) (fun K hK => ?_)
                                    refine Kd.R_append_rows_step k24 (w0 := w) w.heap.size (by rfl) (.tmp 91) (.tmp 92) 22 24 (.agg #[(.string ⟨#[]⟩), (.string ⟨#[]⟩), (.int .i64 0)]) 40 rfl Tryd.underlying22 info24 rfl (by decide) (by omega) v171 y170 l0 _ _ _ (fun k_ => some k_ ≠ (v177 : Value).ownBlock ∧ k_ ≠ gb143) (fun _ => False) rfl rfl ?aO ?aR (fun _ _ h => h) (fun _ h => h.elim) ?aF ?aB ?aS ?aL ?_
                                    (case aR => repeat (first | exact (Kd.C_below HR0.out HB.out) | (with_reducible refine Kd.C_alloc ?_ _) | (with_reducible refine Kd.C_drewN ?_ _) | (with_reducible refine Kd.C_drew ?_)))
                                    (case aB => exact (by repeat (first | (with_reducible first | exact HB.out | apply below_alloc | apply pw_below_drewN | apply below_drew1 | refine below_set ?_ GE143.out) | exact HB.out)))
                                    (case aF => exact (fun k_ hk => ⟨Kd.fresh' (Kd.R_lt (by (with_reducible repeat (first | apply Kd.R_alloc | apply Kd.R_drewN | apply Kd.R_drew)); exact HO178.out)) k_ hk, Kd.freshB (g := gb143) (o := .cells #[.string a1, .string a3_1, .int .i64 a3_2] 24 (0, 0)) (by (with_reducible repeat (first | refine blk_drewN ?_ _ | refine blk_drew ?_ | refine blk_alloc ?_ _)); exact BK143.out) k_ hk⟩))
                                    (case aO => exact (by (with_reducible repeat (first | apply Kd.R_alloc | apply Kd.R_drewN | apply Kd.R_drew)); exact Kd.R_mono HO172.out (fun _ hk => ⟨hk.1.2, hk.2⟩)))
                                    (case aS => exact (below_size (by repeat (first | (with_reducible first | exact HB.out | apply below_alloc | apply pw_below_drewN | apply below_drew1 | refine below_set ?_ GE143.out) | exact HB.out))))
                                    (case aL => have := LMc50.out; omega)
                                    intro v174 w60 ho hb hg hat
                                    rw [← Ny173.out] at ho
                                    have n0_ := Aside0.mk (blk_grown (g := gb143) (o := .cells #[.string a1, .string a3_1, .int .i64 a3_2] 24 (0, 0)) (by (with_reducible repeat (first | refine blk_drewN ?_ _ | refine blk_drew ?_ | refine blk_alloc ?_ _)); exact BK143.out) hg (Kd.R_away HO172.out (fun _ hk => hk.2)))
                                    have n1_ := Aside0.mk (Kd.R_after (ok := (fun k_ => k_ ≠ gb143)) (by (with_reducible repeat (first | apply Kd.R_alloc | apply Kd.R_drewN | apply Kd.R_drew)); exact Kd.R_mono HO178.out (fun _ hk => ⟨hk.1.2, hk.2⟩)) hg hat)
                                    have n2_ := Aside0.mk (hb)
                                    have n3_ := Aside0.mk (ho)
                                    clear BK143
                                    clear HO178
                                    clear HB
                                    clear HO172
                                    have BK143 := n0_
                                    have HO178 := n1_
                                    have HB := n2_
                                    have HO175 := n3_
                                    clear n0_ n1_ n2_ n3_
                                    clear ho hb hg hat
                                    refine hK.out _ _ ⟨(blk_cell BK143.out 0).trans rfl, (blk_cell BK143.out 1).trans rfl, (blk_cell BK143.out 2).trans rfl⟩ (fun hHeld => ?_)
                                    clear hK K
                                    refine norm_ (a' := ?_) ?_ ?_
                                    rotate_left
                                    · show Act.put _ (some 93) _ = _
                                      simp only [Act.put, List.setIfInBounds_toArray, List.set_cons_zero, List.set_cons_succ, i64_w, i32_w]
                                      rfl
                                    exact norm_ (by simp only [putAll, Act.put, List.setIfInBounds_toArray, List.set_cons_zero, List.set_cons_succ]) (hCont (v171, v174, v177) _ ⟨hHeld, (by (with_reducible repeat (first | apply Kd.R_alloc | apply Kd.R_drewN | apply Kd.R_drew)); exact HO175.out), (by (with_reducible repeat (first | apply Kd.R_alloc | apply Kd.R_drewN | apply Kd.R_drew)); exact Kd.R_mono HO178.out (fun _ hk => ⟨hk.2, hk.1⟩)), (by (with_reducible repeat (first | refine blk_drewN ?_ _ | refine blk_drew ?_ | refine blk_alloc ?_ _)); exact BK143.out), (by repeat (first | (with_reducible first | exact HB.out | apply below_alloc | apply pw_below_drewN | apply below_drew1 | refine below_set ?_ GE143.out) | exact HB.out))⟩)
                                rintro ⟨v171, v174, v177⟩ w61 ⟨hS_, h0_, h1_, h2_, h3_⟩
                                have n0_ : Aside0 (Kd.R k24 24 w61 w.heap.size (fun k_ => some k_ ≠ (v177 : Value).ownBlock ∧ k_ ≠ gb143) v174 y173) := ⟨h0_⟩
                                have n1_ : Aside0 (Kd.R k24 24 w61 w.heap.size (fun k_ => some k_ ≠ (v174 : Value).ownBlock ∧ k_ ≠ gb143) v177 y176) := ⟨h1_⟩
                                have n2_ : Aside0 (w61.heap[gb143]? = some (.cells #[.string a1, .string a3_1, .int .i64 a3_2] 24 (0, 0))) := ⟨h2_⟩
                                have n3_ : Aside0 (Below w.heap.size w w61) := ⟨h3_⟩
                                clear BK143
                                clear HB
                                clear h0_ h1_ h2_ h3_
                                have HO175 := n0_
                                have HO178 := n1_
                                have BK143 := n2_
                                have HB := n3_
                                clear n0_ n1_ n2_ n3_
                                have hHeld : w61.cell? ⟨gb143, 0, none⟩ = some (.string a1) ∧ w61.cell? ⟨gb143, 1, none⟩ = some (.string a3_1) ∧ w61.cell? ⟨gb143, 2, none⟩ = some (.int .i64 a3_2) := hS_
                                obtain ⟨Ao63, co63, eo63⟩ := Kd.R_slice HO178.out
                                (first | subst eo63 | (injection eo63 with f1_ f2_ f3_; have f4_ := f1_.symm; have f5_ := f3_.symm; clear f1_ f2_ f3_; subst f4_; subst f5_))
                                refine norm_ (a' := ?_) ?_ ?_
                                rotate_left
                                · simp only [putAll, Act.put, List.setIfInBounds_toArray, List.set_cons_zero, List.set_cons_succ]
                                  rfl
                                refine one_ (i := 5) (N := some 96) #[true, true, true, true, true, true, true, true, false, false] rfl rfl (one_of HT_.out (by kernel_rfl)) (by decide) (fun K hK => ?_)
                                refine Kd.R_append_rows_step k24 (w0 := w) w.heap.size (by rfl) (.tmp 93) (.tmp 95) 22 24 (.agg #[(.string ⟨#[]⟩), (.string ⟨#[]⟩), (.int .i64 0)]) 40 rfl Tryd.underlying22 info24 rfl (by decide) (by omega) v174 y173 y176 _ _ _ (fun k_ => some k_ ≠ (.slice Ao63 y176.length co63 : Value).ownBlock ∧ k_ ≠ gb143) (fun _ => False) rfl rfl ?aO ?aR (fun _ _ h => h) (fun _ h => h.elim) ?aF ?aB ?aS ?aL ?_
                                (case aR => repeat (first | exact (Kd.R_reads' HO178.out).2.2 | (with_reducible refine Kd.C_alloc ?_ _) | (with_reducible refine Kd.C_drewN ?_ _) | (with_reducible refine Kd.C_drew ?_)))
                                (case aB => exact (by repeat (first | (with_reducible first | exact HB.out | apply below_alloc | apply pw_below_drewN | apply below_drew1 | refine below_set ?_ GE143.out) | exact HB.out)))
                                (case aF => exact (fun k_ hk => ⟨Kd.fresh' (Kd.R_lt (by (with_reducible repeat (first | apply Kd.R_alloc | apply Kd.R_drewN | apply Kd.R_drew)); exact HO178.out)) k_ hk, Kd.freshB (g := gb143) (o := .cells #[.string a1, .string a3_1, .int .i64 a3_2] 24 (0, 0)) (by (with_reducible repeat (first | refine blk_drewN ?_ _ | refine blk_drew ?_ | refine blk_alloc ?_ _)); exact BK143.out) k_ hk⟩))
                                (case aO => exact (by (with_reducible repeat (first | apply Kd.R_alloc | apply Kd.R_drewN | apply Kd.R_drew)); exact HO175.out))
                                (case aS => exact (below_size (by repeat (first | (with_reducible first | exact HB.out | apply below_alloc | apply pw_below_drewN | apply below_drew1 | refine below_set ?_ GE143.out) | exact HB.out))))
                                (case aL => have := LMc51.out; omega)
                                intro v180 w62 ho hb hg hat
                                rw [← Ny179.out] at ho
                                have n0_ := Aside0.mk (blk_grown (g := gb143) (o := .cells #[.string a1, .string a3_1, .int .i64 a3_2] 24 (0, 0)) (by (with_reducible repeat (first | refine blk_drewN ?_ _ | refine blk_drew ?_ | refine blk_alloc ?_ _)); exact BK143.out) hg (Kd.R_away HO175.out (fun _ hk => hk.2)))
                                have n1_ := Aside0.mk (Kd.R_after (ok := (fun k_ => k_ ≠ gb143)) (by (with_reducible repeat (first | apply Kd.R_alloc | apply Kd.R_drewN | apply Kd.R_drew)); exact Kd.R_mono HO178.out (fun _ hk => ⟨hk.2, hk.1⟩)) hg hat)
                                have n2_ := Aside0.mk (hb)
                                have n3_ := Aside0.mk (ho)
                                clear BK143
                                clear HO178
                                clear HB
                                clear HO175
                                have BK143 := n0_
                                have HO178 := n1_
                                have HB := n2_
                                have HO181 := n3_
                                clear n0_ n1_ n2_ n3_
                                clear ho hb hg hat
                                obtain ⟨Ao64, co64, eo64⟩ := Kd.R_slice HO181.out
                                (first | subst eo64 | (injection eo64 with f1_ f2_ f3_; have f4_ := f1_.symm; have f5_ := f3_.symm; clear f1_ f2_ f3_; subst f4_; subst f5_))
                                refine hK.out _ _ ⟨(blk_cell BK143.out 0).trans rfl, (blk_cell BK143.out 1).trans rfl, (blk_cell BK143.out 2).trans rfl⟩ (fun hHeld => ?_)
                                clear hK K
                                refine norm_ (a' := ?_) ?_ ?_
                                rotate_left
                                · show Act.put _ (some 96) _ = _
                                  simp only [Act.put, List.setIfInBounds_toArray, List.set_cons_zero, List.set_cons_succ, i64_w, i32_w]
                                  rfl
                                refine one_ (i := 8) (N := some 99) #[true, true, true, true, true, true, true, true, true, false] rfl rfl (one_of HT_.out (by kernel_rfl)) (by decide) (fun K hK => ?_)
                                refine goes_ Tryd.func7 (by kernel_rfl) rfl #[.slice Ao64 y179.length co64, .string a1, .string a2] (by rfl) rfl rfl (by (try simp only [List.map_toArray, List.map_cons, List.map_nil]); first | done | rfl | (simp only [List.length_drop, List.length_take]; rfl)) ?_
                                with_reducible refine (pins_Priority.calls _ _ y179 a1 a2 t182 _ ?side1 ?side2 A52.out).mono ?_
                                (case side1 => repeat (first | exact (Kd.R_reads' HO181.out).2.2 | (with_reducible refine Kd.C_alloc ?_ _) | (with_reducible refine Kd.C_drewN ?_ _) | (with_reducible refine Kd.C_drew ?_)))
                                (case side2 => exact (Kd.R_reads' HO181.out).2.1)
                                rintro e w65 ⟨rfl, hb⟩
                                refine ⟨_, rfl, ?_⟩
                                have n0_ := Aside0.mk (Kd.R_below (by (with_reducible repeat (first | apply Kd.R_alloc | apply Kd.R_drewN | apply Kd.R_drew)); exact HO178.out) hb)
                                have n1_ := Aside0.mk (Kd.R_below (by (with_reducible repeat (first | apply Kd.R_alloc | apply Kd.R_drewN | apply Kd.R_drew)); exact HO181.out) hb)
                                have n2_ := Aside0.mk (blk_below (g := gb143) (o := .cells #[.string a1, .string a3_1, .int .i64 a3_2] 24 (0, 0)) (by (with_reducible repeat (first | refine blk_drewN ?_ _ | refine blk_drew ?_ | refine blk_alloc ?_ _)); exact BK143.out) hb)
                                have n3_ := Aside0.mk (below_step (by repeat (first | (with_reducible first | exact HB.out | apply below_alloc | apply pw_below_drewN | apply below_drew1 | refine below_set ?_ GE143.out) | exact HB.out)) hb)
                                clear HO178
                                clear HO181
                                clear BK143
                                clear HB
                                have HO178 := n0_
                                have HO181 := n1_
                                have BK143 := n2_
                                have HB := n3_
                                clear n0_ n1_ n2_ n3_
                                (try clear hb)
                                (try clear hb2)
                                (try clear hk)
                                (try clear hi)
                                refine hK.out _ _ ⟨(blk_cell BK143.out 0).trans rfl, (blk_cell BK143.out 1).trans rfl, (blk_cell BK143.out 2).trans rfl⟩ (fun hHeld => ?_)
                                clear hK K
                                refine norm_ (a' := ?_) ?_ ?_
                                rotate_left
                                · show Act.put _ (some 99) _ = _
                                  simp only [Act.put, List.setIfInBounds_toArray, List.set_cons_zero, List.set_cons_succ, i64_w, i32_w]
                                  rfl
                                refine pure_ (i := 9) (N := some 16) (v := ?_) (a' := ?_) #[true, true, true, true, true, true, true, true, true, true] rfl rfl (any_of HT_.out (by kernel_rfl)) (fun _ _ _ h => h) (Or.inl ⟨by rfl, ?_⟩) ?_ ?_
                                rotate_left
                                · intro w'
                                  go_simp
                                  with_reducible rfl
                                rotate_left
                                · simp only [Act.put, List.setIfInBounds_toArray, List.set_cons_zero, List.set_cons_succ, i64_w, i32_w]
                                  rfl
                                refine done_ (done_of HT_.out (by kernel_rfl)) ?_
                                try go_wp2
                                go_ret
                                exact ⟨by first | rfl | (simp [errW_none, errW_some] <;> rfl) | (simp [*, errW_none, errW_some] <;> rfl), by repeat (first | (with_reducible first | exact HB.out | apply below_alloc | apply pw_below_drewN | apply below_drew1 | refine below_set ?_ GE143.out) | exact HB.out)⟩
                              · replace c54 := Bool.eq_false_iff.mpr c54
                                subst c54
                                have H1 : (some true) = some r := by rw [if_neg (show ¬ (false = true) by decide)] at H; exact H
                                clear H
                                have H := H1
                                clear H1
                                obtain rfl := Option.some.inj H
                                try go_wp2
                                have n0_ := Aside0.mk (blk_drew BK143.out)
                                have n1_ := Aside0.mk (below_drew1 HB.out)
                                clear BK143
                                clear HB
                                have BK143 := n0_
                                have HB := n1_
                                clear n0_ n1_
                                refine start_ (n := 10) (S := fun w' => w'.cell? ⟨gb143, 0, none⟩ = some (.string a1) ∧ w'.cell? ⟨gb143, 1, none⟩ = some (.string a3_1) ∧ w'.cell? ⟨gb143, 2, none⟩ = some (.int .i64 a3_2)) (ds := []) #[false, false, false, false, false, false, false, false, false, false] (by kernel_rfl) rfl rfl ⟨(blk_cell BK143.out 0).trans rfl, (blk_cell BK143.out 1).trans rfl, (blk_cell BK143.out 2).trans rfl⟩ (fun hHeld => ?_); refine with_tabW keelsonlaw8_PinsFirst.tab16 keelsonlaw8_PinsFirst.bits16 (fun HT_ HW_ => ?_)
                                generalize wr.drew = w66 at BK143 HB hHeld ⊢
                                refine pure_ (i := 1) (N := some 92) (v := ?_) (a' := ?_) #[false, true, false, false, false, false, false, false, false, false] rfl rfl (any_of HT_.out (by kernel_rfl)) (fun _ _ _ h => h) (Or.inl ⟨by rfl, ?_⟩) ?_ ?_
                                rotate_left
                                · intro w'
                                  go_simp
                                  with_reducible rfl
                                rotate_left
                                · simp only [Act.put, List.setIfInBounds_toArray, List.set_cons_zero, List.set_cons_succ, i64_w, i32_w]
                                  rfl
                                refine pure_ (i := 6) (N := some 97) (v := ?_) (a' := ?_) #[false, true, false, false, false, false, true, false, false, false] rfl rfl (any_of HT_.out (by kernel_rfl)) (fun _ _ _ h => h) (Or.inl ⟨by rfl, ?_⟩) ?_ ?_
                                rotate_left
                                · intro w'
                                  go_simp
                                  with_reducible rfl
                                rotate_left
                                · simp only [Act.put, List.setIfInBounds_toArray, List.set_cons_zero, List.set_cons_succ, i64_w, i32_w]
                                  rfl
                                refine pure_ (i := 7) (N := some 98) (v := ?_) (a' := ?_) #[false, true, false, false, false, false, true, true, false, false] rfl rfl (any_of HT_.out (by kernel_rfl)) (fun _ _ _ h => h) (Or.inl ⟨by rfl, ?_⟩) ?_ ?_
                                rotate_left
                                · intro w'
                                  go_simp
                                  with_reducible rfl
                                rotate_left
                                · simp only [Act.put, List.setIfInBounds_toArray, List.set_cons_zero, List.set_cons_succ, i64_w, i32_w]
                                  rfl
                                refine take_ (i := 3) (N := some 94) (v := ?_) (a' := ?_) #[false, true, false, true, false, false, true, true, false, false] rfl rfl (take_ofW HT_.out HW_.out (by kernel_rfl)) (fun _ _ _ h => h) (Or.inl ⟨by rfl, ?_⟩) hHeld ?_ ?_
                                rotate_left
                                · rintro w' ⟨s0, s1, s2⟩
                                  go_simp
                                  with_reducible rfl
                                rotate_left
                                · simp only [Act.put, List.setIfInBounds_toArray, List.set_cons_zero, List.set_cons_succ, i64_w, i32_w]
                                  rfl
                                refine join_ (σ := Value × Value × Value) 3 #[true, true, true, true, true, false, true, true, false, false] (fun s_ => [(91, s_.1), (93, s_.2.1), (95, s_.2.2)]) (fun s_ w' => (w'.cell? ⟨gb143, 0, none⟩ = some (.string a1) ∧ w'.cell? ⟨gb143, 1, none⟩ = some (.string a3_1) ∧ w'.cell? ⟨gb143, 2, none⟩ = some (.int .i64 a3_2)) ∧ (Kd.R k24 24 w' w.heap.size (fun k_ => some k_ ≠ (s_.2.2 : Value).ownBlock ∧ k_ ≠ gb143) s_.2.1 y173) ∧ (Kd.R k24 24 w' w.heap.size (fun k_ => some k_ ≠ (s_.2.1 : Value).ownBlock ∧ k_ ≠ gb143) s_.2.2 y176) ∧ (w'.heap[gb143]? = some (.cells #[.string a1, .string a3_1, .int .i64 a3_2] 24 (0, 0))) ∧ (Below w.heap.size w w')) ?_ ?_
                                rotate_left
                                · intro hCont
                                  refine two_ (i := 0) (j := 4) (Ni := some 91) (Nj := some 95) #[true, true, false, true, false, false, true, true, false, false] #[false, true, false, true, true, false, true, true, false, false] rfl rfl rfl rfl (two_of HT_.out (by kernel_rfl)) (by decide) (by decide) (fun K hK => ?_) (fun K hK => ?_)
                                  · skip
                                    refine Kd.R_lit_step k24 _ 24 ?hg (N := 91) ?hd (xs := ([] : List (S24))) (inner := []) (ok := fun _ => True) (okp := fun _ => True) ?hr ?hp (fun _ hk => hk) trivial (Below.refl _ _) (Nat.le_refl _) (by simp) ?_; (case hd => rfl); (case hg => rfl); (case hr => first | (go_simp; done) | (go_simp; rfl)); (case hp => exact (Reps.none _ _))
                                    intro v171 w67 ho68 hb hg_ hnew_
                                    clear hg_ hnew_
                                    (first | rw [← Ny170.out] at ho68 | (simp only [Int.reduceToNat] at ho68; rw [← Ny170.out] at ho68))
                                    have n0_ := Aside0.mk (Kd.R_lower (Kd.R_newB ho68 (g := gb143) (o := .cells #[.string a1, .string a3_1, .int .i64 a3_2] 24 (0, 0)) (by (with_reducible repeat (first | refine blk_drewN ?_ _ | refine blk_drew ?_ | refine blk_alloc ?_ _)); exact BK143.out)) (below_size (by repeat (first | (with_reducible first | exact HB.out | apply below_alloc | apply pw_below_drewN | apply below_drew1 | refine below_set ?_ GE143.out) | exact HB.out))))
                                    have n1_ := Aside0.mk (blk_below (g := gb143) (o := .cells #[.string a1, .string a3_1, .int .i64 a3_2] 24 (0, 0)) (by (with_reducible repeat (first | refine blk_drewN ?_ _ | refine blk_drew ?_ | refine blk_alloc ?_ _)); exact BK143.out) hb)
                                    have n2_ := Aside0.mk (below_step (by repeat (first | (with_reducible first | exact HB.out | apply below_alloc | apply pw_below_drewN | apply below_drew1 | refine below_set ?_ GE143.out) | exact HB.out)) hb)
                                    clear BK143
                                    clear HB
                                    have HO172 := n0_
                                    have BK143 := n1_
                                    have HB := n2_
                                    clear n0_ n1_ n2_
                                    clear hb ho68
                                    refine hK.out _ _ ⟨(blk_cell BK143.out 0).trans rfl, (blk_cell BK143.out 1).trans rfl, (blk_cell BK143.out 2).trans rfl⟩ (fun hHeld => ?_)
                                    clear hK K
                                    refine norm_ (a' := ?_) ?_ ?_
                                    rotate_left
                                    · show Act.put _ (some 91) _ = _
                                      simp only [Act.put, List.setIfInBounds_toArray, List.set_cons_zero, List.set_cons_succ, i64_w, i32_w]
                                      rfl
                                    refine two_ (i := 2) (j := 4) (Ni := some 93) (Nj := some 95) #[true, true, true, true, false, false, true, true, false, false] #[true, true, false, true, true, false, true, true, false, false] rfl rfl rfl rfl (two_of HT_.out (by kernel_rfl)) (by decide) (by decide) (fun K hK => ?_) (fun K hK => ?_)
                                    · skip
                                      refine Kd.R_append_rows_step k24 (w0 := w) w.heap.size (by rfl) (.tmp 91) (.tmp 92) 22 24 (.agg #[(.string ⟨#[]⟩), (.string ⟨#[]⟩), (.int .i64 0)]) 40 rfl Tryd.underlying22 info24 rfl (by decide) (by omega) v171 y170 l0 _ _ _ (fun k_ => k_ ≠ gb143) (fun _ => False) rfl rfl ?aO ?aR (fun _ _ h => h) (fun _ h => h.elim) ?aF ?aB ?aS ?aL ?_
                                      (case aR => repeat (first | exact (Kd.C_below HR0.out HB.out) | (with_reducible refine Kd.C_alloc ?_ _) | (with_reducible refine Kd.C_drewN ?_ _) | (with_reducible refine Kd.C_drew ?_)))
                                      (case aB => exact (by repeat (first | (with_reducible first | exact HB.out | apply below_alloc | apply pw_below_drewN | apply below_drew1 | refine below_set ?_ GE143.out) | exact HB.out)))
                                      (case aF => exact (fun k_ hk => Kd.freshB (g := gb143) (o := .cells #[.string a1, .string a3_1, .int .i64 a3_2] 24 (0, 0)) (by (with_reducible repeat (first | refine blk_drewN ?_ _ | refine blk_drew ?_ | refine blk_alloc ?_ _)); exact BK143.out) k_ hk))
                                      (case aO => exact (by (with_reducible repeat (first | apply Kd.R_alloc | apply Kd.R_drewN | apply Kd.R_drew)); exact Kd.R_mono HO172.out (fun _ hk => hk.2)))
                                      (case aS => exact (below_size (by repeat (first | (with_reducible first | exact HB.out | apply below_alloc | apply pw_below_drewN | apply below_drew1 | refine below_set ?_ GE143.out) | exact HB.out))))
                                      (case aL => have := LMc50.out; omega)
                                      intro v174 w69 ho hb hg hat
                                      rw [← Ny173.out] at ho
                                      have n0_ := Aside0.mk (blk_grown (g := gb143) (o := .cells #[.string a1, .string a3_1, .int .i64 a3_2] 24 (0, 0)) (by (with_reducible repeat (first | refine blk_drewN ?_ _ | refine blk_drew ?_ | refine blk_alloc ?_ _)); exact BK143.out) hg (Kd.R_away HO172.out (fun _ hk => hk.2)))
                                      have n1_ := Aside0.mk (hb)
                                      have n2_ := Aside0.mk (ho)
                                      clear BK143
                                      clear HB
                                      clear HO172
                                      have BK143 := n0_
                                      have HB := n1_
                                      have HO175 := n2_
                                      clear n0_ n1_ n2_
                                      clear ho hb hg hat
                                      refine hK.out _ _ ⟨(blk_cell BK143.out 0).trans rfl, (blk_cell BK143.out 1).trans rfl, (blk_cell BK143.out 2).trans rfl⟩ (fun hHeld => ?_)
                                      clear hK K
                                      refine norm_ (a' := ?_) ?_ ?_
                                      rotate_left
                                      · show Act.put _ (some 93) _ = _
                                        simp only [Act.put, List.setIfInBounds_toArray, List.set_cons_zero, List.set_cons_succ, i64_w, i32_w]
                                        rfl
                                      refine one_ (i := 4) (N := some 95) #[true, true, true, true, true, false, true, true, false, false] rfl rfl (one_of HT_.out (by kernel_rfl)) (by decide) (fun K hK => ?_)
                                      refine Kd.R_lit_step k24 _ 24 ?hg (N := 95) ?hd (xs := ([(⟨a1, a3_1, a3_2⟩ : S24)] : List (S24))) (inner := [.string a1, .string a3_1, .int .i64 a3_2]) (ok := fun _ => True) (okp := fun _ => True) ?hr ?hp (fun _ hk => hk) trivial (Below.refl _ _) (Nat.le_refl _) (by simp) ?_; (case hd => rfl); (case hg => rfl); (case hr => first | (go_simp; done) | (go_simp; rfl)); (case hp => exact (Reps.c3 (show Kd.M k24 _ _ _ (⟨a1, a3_1, a3_2⟩ : S24) [.string a1, .string a3_1, .int .i64 a3_2] from (k24_mkM _ _ _ (⟨a1, a3_1, a3_2⟩ : S24) )) (Reps.none _ _)))
                                      intro v177 w70 ho71 hb hg_ hnew_
                                      clear hg_ hnew_
                                      (first | rw [← Ny176.out] at ho71 | (simp only [Int.reduceToNat] at ho71; rw [← Ny176.out] at ho71))
                                      have n0_ := Aside0.mk (Kd.R_elder' (by (with_reducible repeat (first | apply Kd.R_alloc | apply Kd.R_drewN | apply Kd.R_drew)); exact HO175.out) (Kd.R_base ho71) hb)
                                      have n1_ := Aside0.mk (Kd.R_lower (Kd.R_newB (Kd.R_new' ho71 (Kd.R_lt (by (with_reducible repeat (first | apply Kd.R_alloc | apply Kd.R_drewN | apply Kd.R_drew)); exact HO175.out))) (g := gb143) (o := .cells #[.string a1, .string a3_1, .int .i64 a3_2] 24 (0, 0)) (by (with_reducible repeat (first | refine blk_drewN ?_ _ | refine blk_drew ?_ | refine blk_alloc ?_ _)); exact BK143.out)) (below_size (by repeat (first | (with_reducible first | exact HB.out | apply below_alloc | apply pw_below_drewN | apply below_drew1 | refine below_set ?_ GE143.out) | exact HB.out))))
                                      have n2_ := Aside0.mk (blk_below (g := gb143) (o := .cells #[.string a1, .string a3_1, .int .i64 a3_2] 24 (0, 0)) (by (with_reducible repeat (first | refine blk_drewN ?_ _ | refine blk_drew ?_ | refine blk_alloc ?_ _)); exact BK143.out) hb)
                                      have n3_ := Aside0.mk (below_step (by repeat (first | (with_reducible first | exact HB.out | apply below_alloc | apply pw_below_drewN | apply below_drew1 | refine below_set ?_ GE143.out) | exact HB.out)) hb)
                                      clear HO175
                                      clear BK143
                                      clear HB
                                      have HO175 := n0_
                                      have HO178 := n1_
                                      have BK143 := n2_
                                      have HB := n3_
                                      clear n0_ n1_ n2_ n3_
                                      clear hb ho71
                                      refine hK.out _ _ ⟨(blk_cell BK143.out 0).trans rfl, (blk_cell BK143.out 1).trans rfl, (blk_cell BK143.out 2).trans rfl⟩ (fun hHeld => ?_)
                                      clear hK K
                                      refine norm_ (a' := ?_) ?_ ?_
                                      rotate_left
                                      · show Act.put _ (some 95) _ = _
                                        simp only [Act.put, List.setIfInBounds_toArray, List.set_cons_zero, List.set_cons_succ, i64_w, i32_w]
                                        rfl
                                      exact norm_ (by simp only [putAll, Act.put, List.setIfInBounds_toArray, List.set_cons_zero, List.set_cons_succ]) (hCont (v171, v174, v177) _ ⟨hHeld, (by (with_reducible repeat (first | apply Kd.R_alloc | apply Kd.R_drewN | apply Kd.R_drew)); exact Kd.R_mono HO175.out (fun _ hk => ⟨hk.2, hk.1⟩)), (by (with_reducible repeat (first | apply Kd.R_alloc | apply Kd.R_drewN | apply Kd.R_drew)); exact Kd.R_mono HO178.out (fun _ hk => ⟨hk.1.2, hk.2⟩)), (by (with_reducible repeat (first | refine blk_drewN ?_ _ | refine blk_drew ?_ | refine blk_alloc ?_ _)); exact BK143.out), (by repeat (first | (with_reducible first | exact HB.out | apply below_alloc | apply pw_below_drewN | apply below_drew1 | refine below_set ?_ GE143.out) | exact HB.out))⟩)
                                    · skip
                                      refine Kd.R_lit_step k24 _ 24 ?hg (N := 95) ?hd (xs := ([(⟨a1, a3_1, a3_2⟩ : S24)] : List (S24))) (inner := [.string a1, .string a3_1, .int .i64 a3_2]) (ok := fun _ => True) (okp := fun _ => True) ?hr ?hp (fun _ hk => hk) trivial (Below.refl _ _) (Nat.le_refl _) (by simp) ?_; (case hd => rfl); (case hg => rfl); (case hr => first | (go_simp; done) | (go_simp; rfl)); (case hp => exact (Reps.c3 (show Kd.M k24 _ _ _ (⟨a1, a3_1, a3_2⟩ : S24) [.string a1, .string a3_1, .int .i64 a3_2] from (k24_mkM _ _ _ (⟨a1, a3_1, a3_2⟩ : S24) )) (Reps.none _ _)))
                                      intro v177 w69 ho70 hb hg_ hnew_
                                      clear hg_ hnew_
                                      (first | rw [← Ny176.out] at ho70 | (simp only [Int.reduceToNat] at ho70; rw [← Ny176.out] at ho70))
                                      have n0_ := Aside0.mk (Kd.R_elder' (by (with_reducible repeat (first | apply Kd.R_alloc | apply Kd.R_drewN | apply Kd.R_drew)); exact HO172.out) (Kd.R_base ho70) hb)
                                      have n1_ := Aside0.mk (Kd.R_lower (Kd.R_newB (Kd.R_new' ho70 (Kd.R_lt (by (with_reducible repeat (first | apply Kd.R_alloc | apply Kd.R_drewN | apply Kd.R_drew)); exact HO172.out))) (g := gb143) (o := .cells #[.string a1, .string a3_1, .int .i64 a3_2] 24 (0, 0)) (by (with_reducible repeat (first | refine blk_drewN ?_ _ | refine blk_drew ?_ | refine blk_alloc ?_ _)); exact BK143.out)) (below_size (by repeat (first | (with_reducible first | exact HB.out | apply below_alloc | apply pw_below_drewN | apply below_drew1 | refine below_set ?_ GE143.out) | exact HB.out))))
                                      have n2_ := Aside0.mk (blk_below (g := gb143) (o := .cells #[.string a1, .string a3_1, .int .i64 a3_2] 24 (0, 0)) (by (with_reducible repeat (first | refine blk_drewN ?_ _ | refine blk_drew ?_ | refine blk_alloc ?_ _)); exact BK143.out) hb)
                                      have n3_ := Aside0.mk (below_step (by repeat (first | (with_reducible first | exact HB.out | apply below_alloc | apply pw_below_drewN | apply below_drew1 | refine below_set ?_ GE143.out) | exact HB.out)) hb)
                                      clear HO172
                                      clear BK143
                                      clear HB
                                      have HO172 := n0_
                                      have HO178 := n1_
                                      have BK143 := n2_
                                      have HB := n3_
                                      clear n0_ n1_ n2_ n3_
                                      clear hb ho70
                                      refine hK.out _ _ ⟨(blk_cell BK143.out 0).trans rfl, (blk_cell BK143.out 1).trans rfl, (blk_cell BK143.out 2).trans rfl⟩ (fun hHeld => ?_)
                                      clear hK K
                                      refine norm_ (a' := ?_) ?_ ?_
                                      rotate_left
                                      · show Act.put _ (some 95) _ = _
                                        simp only [Act.put, List.setIfInBounds_toArray, List.set_cons_zero, List.set_cons_succ, i64_w, i32_w]
                                        rfl
                                      refine one_ (i := 2) (N := some 93) #[true, true, true, true, true, false, true, true, false, false] rfl rfl (one_of HT_.out (by kernel_rfl)) (by decide) (fun K hK => ?_)
                                      refine Kd.R_append_rows_step k24 (w0 := w) w.heap.size (by rfl) (.tmp 91) (.tmp 92) 22 24 (.agg #[(.string ⟨#[]⟩), (.string ⟨#[]⟩), (.int .i64 0)]) 40 rfl Tryd.underlying22 info24 rfl (by decide) (by omega) v171 y170 l0 _ _ _ (fun k_ => some k_ ≠ (v177 : Value).ownBlock ∧ k_ ≠ gb143) (fun _ => False) rfl rfl ?aO ?aR (fun _ _ h => h) (fun _ h => h.elim) ?aF ?aB ?aS ?aL ?_
                                      (case aR => repeat (first | exact (Kd.C_below HR0.out HB.out) | (with_reducible refine Kd.C_alloc ?_ _) | (with_reducible refine Kd.C_drewN ?_ _) | (with_reducible refine Kd.C_drew ?_)))
                                      (case aB => exact (by repeat (first | (with_reducible first | exact HB.out | apply below_alloc | apply pw_below_drewN | apply below_drew1 | refine below_set ?_ GE143.out) | exact HB.out)))
                                      (case aF => exact (fun k_ hk => ⟨Kd.fresh' (Kd.R_lt (by (with_reducible repeat (first | apply Kd.R_alloc | apply Kd.R_drewN | apply Kd.R_drew)); exact HO178.out)) k_ hk, Kd.freshB (g := gb143) (o := .cells #[.string a1, .string a3_1, .int .i64 a3_2] 24 (0, 0)) (by (with_reducible repeat (first | refine blk_drewN ?_ _ | refine blk_drew ?_ | refine blk_alloc ?_ _)); exact BK143.out) k_ hk⟩))
                                      (case aO => exact (by (with_reducible repeat (first | apply Kd.R_alloc | apply Kd.R_drewN | apply Kd.R_drew)); exact Kd.R_mono HO172.out (fun _ hk => ⟨hk.2, hk.1.2⟩)))
                                      (case aS => exact (below_size (by repeat (first | (with_reducible first | exact HB.out | apply below_alloc | apply pw_below_drewN | apply below_drew1 | refine below_set ?_ GE143.out) | exact HB.out))))
                                      (case aL => have := LMc50.out; omega)
                                      intro v174 w71 ho hb hg hat
                                      rw [← Ny173.out] at ho
                                      have n0_ := Aside0.mk (blk_grown (g := gb143) (o := .cells #[.string a1, .string a3_1, .int .i64 a3_2] 24 (0, 0)) (by (with_reducible repeat (first | refine blk_drewN ?_ _ | refine blk_drew ?_ | refine blk_alloc ?_ _)); exact BK143.out) hg (Kd.R_away HO172.out (fun _ hk => hk.1.2)))
                                      have n1_ := Aside0.mk (Kd.R_after (ok := (fun k_ => k_ ≠ gb143)) (by (with_reducible repeat (first | apply Kd.R_alloc | apply Kd.R_drewN | apply Kd.R_drew)); exact Kd.R_mono HO178.out (fun _ hk => ⟨hk.2, hk.1.2⟩)) hg hat)
                                      have n2_ := Aside0.mk (hb)
                                      have n3_ := Aside0.mk (ho)
                                      clear BK143
                                      clear HO178
                                      clear HB
                                      clear HO172
                                      have BK143 := n0_
                                      have HO178 := n1_
                                      have HB := n2_
                                      have HO175 := n3_
                                      clear n0_ n1_ n2_ n3_
                                      clear ho hb hg hat
                                      refine hK.out _ _ ⟨(blk_cell BK143.out 0).trans rfl, (blk_cell BK143.out 1).trans rfl, (blk_cell BK143.out 2).trans rfl⟩ (fun hHeld => ?_)
                                      clear hK K
                                      refine norm_ (a' := ?_) ?_ ?_
                                      rotate_left
                                      · show Act.put _ (some 93) _ = _
                                        simp only [Act.put, List.setIfInBounds_toArray, List.set_cons_zero, List.set_cons_succ, i64_w, i32_w]
                                        rfl
                                      exact norm_ (by simp only [putAll, Act.put, List.setIfInBounds_toArray, List.set_cons_zero, List.set_cons_succ]) (hCont (v171, v174, v177) _ ⟨hHeld, (by (with_reducible repeat (first | apply Kd.R_alloc | apply Kd.R_drewN | apply Kd.R_drew)); exact HO175.out), (by (with_reducible repeat (first | apply Kd.R_alloc | apply Kd.R_drewN | apply Kd.R_drew)); exact Kd.R_mono HO178.out (fun _ hk => ⟨hk.2, hk.1⟩)), (by (with_reducible repeat (first | refine blk_drewN ?_ _ | refine blk_drew ?_ | refine blk_alloc ?_ _)); exact BK143.out), (by repeat (first | (with_reducible first | exact HB.out | apply below_alloc | apply pw_below_drewN | apply below_drew1 | refine below_set ?_ GE143.out) | exact HB.out))⟩)
                                  · skip
                                    refine Kd.R_lit_step k24 _ 24 ?hg (N := 95) ?hd (xs := ([(⟨a1, a3_1, a3_2⟩ : S24)] : List (S24))) (inner := [.string a1, .string a3_1, .int .i64 a3_2]) (ok := fun _ => True) (okp := fun _ => True) ?hr ?hp (fun _ hk => hk) trivial (Below.refl _ _) (Nat.le_refl _) (by simp) ?_; (case hd => rfl); (case hg => rfl); (case hr => first | (go_simp; done) | (go_simp; rfl)); (case hp => exact (Reps.c3 (show Kd.M k24 _ _ _ (⟨a1, a3_1, a3_2⟩ : S24) [.string a1, .string a3_1, .int .i64 a3_2] from (k24_mkM _ _ _ (⟨a1, a3_1, a3_2⟩ : S24) )) (Reps.none _ _)))
                                    intro v177 w67 ho68 hb hg_ hnew_
                                    clear hg_ hnew_
                                    (first | rw [← Ny176.out] at ho68 | (simp only [Int.reduceToNat] at ho68; rw [← Ny176.out] at ho68))
                                    have n0_ := Aside0.mk (Kd.R_lower (Kd.R_newB ho68 (g := gb143) (o := .cells #[.string a1, .string a3_1, .int .i64 a3_2] 24 (0, 0)) (by (with_reducible repeat (first | refine blk_drewN ?_ _ | refine blk_drew ?_ | refine blk_alloc ?_ _)); exact BK143.out)) (below_size (by repeat (first | (with_reducible first | exact HB.out | apply below_alloc | apply pw_below_drewN | apply below_drew1 | refine below_set ?_ GE143.out) | exact HB.out))))
                                    have n1_ := Aside0.mk (blk_below (g := gb143) (o := .cells #[.string a1, .string a3_1, .int .i64 a3_2] 24 (0, 0)) (by (with_reducible repeat (first | refine blk_drewN ?_ _ | refine blk_drew ?_ | refine blk_alloc ?_ _)); exact BK143.out) hb)
                                    have n2_ := Aside0.mk (below_step (by repeat (first | (with_reducible first | exact HB.out | apply below_alloc | apply pw_below_drewN | apply below_drew1 | refine below_set ?_ GE143.out) | exact HB.out)) hb)
                                    clear BK143
                                    clear HB
                                    have HO178 := n0_
                                    have BK143 := n1_
                                    have HB := n2_
                                    clear n0_ n1_ n2_
                                    clear hb ho68
                                    refine hK.out _ _ ⟨(blk_cell BK143.out 0).trans rfl, (blk_cell BK143.out 1).trans rfl, (blk_cell BK143.out 2).trans rfl⟩ (fun hHeld => ?_)
                                    clear hK K
                                    refine norm_ (a' := ?_) ?_ ?_
                                    rotate_left
                                    · show Act.put _ (some 95) _ = _
                                      simp only [Act.put, List.setIfInBounds_toArray, List.set_cons_zero, List.set_cons_succ, i64_w, i32_w]
                                      rfl
                                    refine one_ (i := 0) (N := some 91) #[true, true, false, true, true, false, true, true, false, false] rfl rfl (one_of HT_.out (by kernel_rfl)) (by decide) (fun K hK => ?_)
                                    refine Kd.R_lit_step k24 _ 24 ?hg (N := 91) ?hd (xs := ([] : List (S24))) (inner := []) (ok := fun _ => True) (okp := fun _ => True) ?hr ?hp (fun _ hk => hk) trivial (Below.refl _ _) (Nat.le_refl _) (by simp) ?_; (case hd => rfl); (case hg => rfl); (case hr => first | (go_simp; done) | (go_simp; rfl)); (case hp => exact (Reps.none _ _))
                                    intro v171 w69 ho70 hb hg_ hnew_
                                    clear hg_ hnew_
                                    (first | rw [← Ny170.out] at ho70 | (simp only [Int.reduceToNat] at ho70; rw [← Ny170.out] at ho70))
                                    have n0_ := Aside0.mk (Kd.R_elder' (by (with_reducible repeat (first | apply Kd.R_alloc | apply Kd.R_drewN | apply Kd.R_drew)); exact HO178.out) (Kd.R_base ho70) hb)
                                    have n1_ := Aside0.mk (Kd.R_lower (Kd.R_newB (Kd.R_new' ho70 (Kd.R_lt (by (with_reducible repeat (first | apply Kd.R_alloc | apply Kd.R_drewN | apply Kd.R_drew)); exact HO178.out))) (g := gb143) (o := .cells #[.string a1, .string a3_1, .int .i64 a3_2] 24 (0, 0)) (by (with_reducible repeat (first | refine blk_drewN ?_ _ | refine blk_drew ?_ | refine blk_alloc ?_ _)); exact BK143.out)) (below_size (by repeat (first | (with_reducible first | exact HB.out | apply below_alloc | apply pw_below_drewN | apply below_drew1 | refine below_set ?_ GE143.out) | exact HB.out))))
                                    have n2_ := Aside0.mk (blk_below (g := gb143) (o := .cells #[.string a1, .string a3_1, .int .i64 a3_2] 24 (0, 0)) (by (with_reducible repeat (first | refine blk_drewN ?_ _ | refine blk_drew ?_ | refine blk_alloc ?_ _)); exact BK143.out) hb)
                                    have n3_ := Aside0.mk (below_step (by repeat (first | (with_reducible first | exact HB.out | apply below_alloc | apply pw_below_drewN | apply below_drew1 | refine below_set ?_ GE143.out) | exact HB.out)) hb)
                                    clear HO178
                                    clear BK143
                                    clear HB
                                    have HO178 := n0_
                                    have HO172 := n1_
                                    have BK143 := n2_
                                    have HB := n3_
                                    clear n0_ n1_ n2_ n3_
                                    clear hb ho70
                                    refine hK.out _ _ ⟨(blk_cell BK143.out 0).trans rfl, (blk_cell BK143.out 1).trans rfl, (blk_cell BK143.out 2).trans rfl⟩ (fun hHeld => ?_)
                                    clear hK K
                                    refine norm_ (a' := ?_) ?_ ?_
                                    rotate_left
                                    · show Act.put _ (some 91) _ = _
                                      simp only [Act.put, List.setIfInBounds_toArray, List.set_cons_zero, List.set_cons_succ, i64_w, i32_w]
                                      rfl
                                    refine one_ (i := 2) (N := some 93) #[true, true, true, true, true, false, true, true, false, false] rfl rfl (one_of HT_.out (by kernel_rfl)) (by decide) (fun K hK => ?_)
                                    refine Kd.R_append_rows_step k24 (w0 := w) w.heap.size (by rfl) (.tmp 91) (.tmp 92) 22 24 (.agg #[(.string ⟨#[]⟩), (.string ⟨#[]⟩), (.int .i64 0)]) 40 rfl Tryd.underlying22 info24 rfl (by decide) (by omega) v171 y170 l0 _ _ _ (fun k_ => some k_ ≠ (v177 : Value).ownBlock ∧ k_ ≠ gb143) (fun _ => False) rfl rfl ?aO ?aR (fun _ _ h => h) (fun _ h => h.elim) ?aF ?aB ?aS ?aL ?_
                                    (case aR => repeat (first | exact (Kd.C_below HR0.out HB.out) | (with_reducible refine Kd.C_alloc ?_ _) | (with_reducible refine Kd.C_drewN ?_ _) | (with_reducible refine Kd.C_drew ?_)))
                                    (case aB => exact (by repeat (first | (with_reducible first | exact HB.out | apply below_alloc | apply pw_below_drewN | apply below_drew1 | refine below_set ?_ GE143.out) | exact HB.out)))
                                    (case aF => exact (fun k_ hk => ⟨Kd.fresh' (Kd.R_lt (by (with_reducible repeat (first | apply Kd.R_alloc | apply Kd.R_drewN | apply Kd.R_drew)); exact HO178.out)) k_ hk, Kd.freshB (g := gb143) (o := .cells #[.string a1, .string a3_1, .int .i64 a3_2] 24 (0, 0)) (by (with_reducible repeat (first | refine blk_drewN ?_ _ | refine blk_drew ?_ | refine blk_alloc ?_ _)); exact BK143.out) k_ hk⟩))
                                    (case aO => exact (by (with_reducible repeat (first | apply Kd.R_alloc | apply Kd.R_drewN | apply Kd.R_drew)); exact Kd.R_mono HO172.out (fun _ hk => ⟨hk.1.2, hk.2⟩)))
                                    (case aS => exact (below_size (by repeat (first | (with_reducible first | exact HB.out | apply below_alloc | apply pw_below_drewN | apply below_drew1 | refine below_set ?_ GE143.out) | exact HB.out))))
                                    (case aL => have := LMc50.out; omega)
                                    intro v174 w71 ho hb hg hat
                                    rw [← Ny173.out] at ho
                                    have n0_ := Aside0.mk (blk_grown (g := gb143) (o := .cells #[.string a1, .string a3_1, .int .i64 a3_2] 24 (0, 0)) (by (with_reducible repeat (first | refine blk_drewN ?_ _ | refine blk_drew ?_ | refine blk_alloc ?_ _)); exact BK143.out) hg (Kd.R_away HO172.out (fun _ hk => hk.2)))
                                    have n1_ := Aside0.mk (Kd.R_after (ok := (fun k_ => k_ ≠ gb143)) (by (with_reducible repeat (first | apply Kd.R_alloc | apply Kd.R_drewN | apply Kd.R_drew)); exact Kd.R_mono HO178.out (fun _ hk => ⟨hk.1.2, hk.2⟩)) hg hat)
                                    have n2_ := Aside0.mk (hb)
                                    have n3_ := Aside0.mk (ho)
                                    clear BK143
                                    clear HO178
                                    clear HB
                                    clear HO172
                                    have BK143 := n0_
                                    have HO178 := n1_
                                    have HB := n2_
                                    have HO175 := n3_
                                    clear n0_ n1_ n2_ n3_
                                    clear ho hb hg hat
                                    refine hK.out _ _ ⟨(blk_cell BK143.out 0).trans rfl, (blk_cell BK143.out 1).trans rfl, (blk_cell BK143.out 2).trans rfl⟩ (fun hHeld => ?_)
                                    clear hK K
                                    refine norm_ (a' := ?_) ?_ ?_
                                    rotate_left
                                    · show Act.put _ (some 93) _ = _
                                      simp only [Act.put, List.setIfInBounds_toArray, List.set_cons_zero, List.set_cons_succ, i64_w, i32_w]
                                      rfl
                                    exact norm_ (by simp only [putAll, Act.put, List.setIfInBounds_toArray, List.set_cons_zero, List.set_cons_succ]) (hCont (v171, v174, v177) _ ⟨hHeld, (by (with_reducible repeat (first | apply Kd.R_alloc | apply Kd.R_drewN | apply Kd.R_drew)); exact HO175.out), (by (with_reducible repeat (first | apply Kd.R_alloc | apply Kd.R_drewN | apply Kd.R_drew)); exact Kd.R_mono HO178.out (fun _ hk => ⟨hk.2, hk.1⟩)), (by (with_reducible repeat (first | refine blk_drewN ?_ _ | refine blk_drew ?_ | refine blk_alloc ?_ _)); exact BK143.out), (by repeat (first | (with_reducible first | exact HB.out | apply below_alloc | apply pw_below_drewN | apply below_drew1 | refine below_set ?_ GE143.out) | exact HB.out))⟩)
                                rintro ⟨v171, v174, v177⟩ w72 ⟨hS_, h0_, h1_, h2_, h3_⟩
                                have n0_ : Aside0 (Kd.R k24 24 w72 w.heap.size (fun k_ => some k_ ≠ (v177 : Value).ownBlock ∧ k_ ≠ gb143) v174 y173) := ⟨h0_⟩
                                have n1_ : Aside0 (Kd.R k24 24 w72 w.heap.size (fun k_ => some k_ ≠ (v174 : Value).ownBlock ∧ k_ ≠ gb143) v177 y176) := ⟨h1_⟩
                                have n2_ : Aside0 (w72.heap[gb143]? = some (.cells #[.string a1, .string a3_1, .int .i64 a3_2] 24 (0, 0))) := ⟨h2_⟩
                                have n3_ : Aside0 (Below w.heap.size w w72) := ⟨h3_⟩
                                clear BK143
                                clear HB
                                clear h0_ h1_ h2_ h3_
                                have HO175 := n0_
                                have HO178 := n1_
                                have BK143 := n2_
                                have HB := n3_
                                clear n0_ n1_ n2_ n3_
                                have hHeld : w72.cell? ⟨gb143, 0, none⟩ = some (.string a1) ∧ w72.cell? ⟨gb143, 1, none⟩ = some (.string a3_1) ∧ w72.cell? ⟨gb143, 2, none⟩ = some (.int .i64 a3_2) := hS_
                                obtain ⟨Ao74, co74, eo74⟩ := Kd.R_slice HO178.out
                                (first | subst eo74 | (injection eo74 with f1_ f2_ f3_; have f4_ := f1_.symm; have f5_ := f3_.symm; clear f1_ f2_ f3_; subst f4_; subst f5_))
                                refine norm_ (a' := ?_) ?_ ?_
                                rotate_left
                                · simp only [putAll, Act.put, List.setIfInBounds_toArray, List.set_cons_zero, List.set_cons_succ]
                                  rfl
                                refine one_ (i := 5) (N := some 96) #[true, true, true, true, true, true, true, true, false, false] rfl rfl (one_of HT_.out (by kernel_rfl)) (by decide) (fun K hK => ?_)
                                refine Kd.R_append_rows_step k24 (w0 := w) w.heap.size (by rfl) (.tmp 93) (.tmp 95) 22 24 (.agg #[(.string ⟨#[]⟩), (.string ⟨#[]⟩), (.int .i64 0)]) 40 rfl Tryd.underlying22 info24 rfl (by decide) (by omega) v174 y173 y176 _ _ _ (fun k_ => some k_ ≠ (.slice Ao74 y176.length co74 : Value).ownBlock ∧ k_ ≠ gb143) (fun _ => False) rfl rfl ?aO ?aR (fun _ _ h => h) (fun _ h => h.elim) ?aF ?aB ?aS ?aL ?_
                                (case aR => repeat (first | exact (Kd.R_reads' HO178.out).2.2 | (with_reducible refine Kd.C_alloc ?_ _) | (with_reducible refine Kd.C_drewN ?_ _) | (with_reducible refine Kd.C_drew ?_)))
                                (case aB => exact (by repeat (first | (with_reducible first | exact HB.out | apply below_alloc | apply pw_below_drewN | apply below_drew1 | refine below_set ?_ GE143.out) | exact HB.out)))
                                (case aF => exact (fun k_ hk => ⟨Kd.fresh' (Kd.R_lt (by (with_reducible repeat (first | apply Kd.R_alloc | apply Kd.R_drewN | apply Kd.R_drew)); exact HO178.out)) k_ hk, Kd.freshB (g := gb143) (o := .cells #[.string a1, .string a3_1, .int .i64 a3_2] 24 (0, 0)) (by (with_reducible repeat (first | refine blk_drewN ?_ _ | refine blk_drew ?_ | refine blk_alloc ?_ _)); exact BK143.out) k_ hk⟩))
                                (case aO => exact (by (with_reducible repeat (first | apply Kd.R_alloc | apply Kd.R_drewN | apply Kd.R_drew)); exact HO175.out))
                                (case aS => exact (below_size (by repeat (first | (with_reducible first | exact HB.out | apply below_alloc | apply pw_below_drewN | apply below_drew1 | refine below_set ?_ GE143.out) | exact HB.out))))
                                (case aL => have := LMc51.out; omega)
                                intro v180 w73 ho hb hg hat
                                rw [← Ny179.out] at ho
                                have n0_ := Aside0.mk (blk_grown (g := gb143) (o := .cells #[.string a1, .string a3_1, .int .i64 a3_2] 24 (0, 0)) (by (with_reducible repeat (first | refine blk_drewN ?_ _ | refine blk_drew ?_ | refine blk_alloc ?_ _)); exact BK143.out) hg (Kd.R_away HO175.out (fun _ hk => hk.2)))
                                have n1_ := Aside0.mk (Kd.R_after (ok := (fun k_ => k_ ≠ gb143)) (by (with_reducible repeat (first | apply Kd.R_alloc | apply Kd.R_drewN | apply Kd.R_drew)); exact Kd.R_mono HO178.out (fun _ hk => ⟨hk.2, hk.1⟩)) hg hat)
                                have n2_ := Aside0.mk (hb)
                                have n3_ := Aside0.mk (ho)
                                clear BK143
                                clear HO178
                                clear HB
                                clear HO175
                                have BK143 := n0_
                                have HO178 := n1_
                                have HB := n2_
                                have HO181 := n3_
                                clear n0_ n1_ n2_ n3_
                                clear ho hb hg hat
                                obtain ⟨Ao75, co75, eo75⟩ := Kd.R_slice HO181.out
                                (first | subst eo75 | (injection eo75 with f1_ f2_ f3_; have f4_ := f1_.symm; have f5_ := f3_.symm; clear f1_ f2_ f3_; subst f4_; subst f5_))
                                refine hK.out _ _ ⟨(blk_cell BK143.out 0).trans rfl, (blk_cell BK143.out 1).trans rfl, (blk_cell BK143.out 2).trans rfl⟩ (fun hHeld => ?_)
                                clear hK K
                                refine norm_ (a' := ?_) ?_ ?_
                                rotate_left
                                · show Act.put _ (some 96) _ = _
                                  simp only [Act.put, List.setIfInBounds_toArray, List.set_cons_zero, List.set_cons_succ, i64_w, i32_w]
                                  rfl
                                refine one_ (i := 8) (N := some 99) #[true, true, true, true, true, true, true, true, true, false] rfl rfl (one_of HT_.out (by kernel_rfl)) (by decide) (fun K hK => ?_)
                                refine goes_ Tryd.func7 (by kernel_rfl) rfl #[.slice Ao75 y179.length co75, .string a1, .string a2] (by rfl) rfl rfl (by (try simp only [List.map_toArray, List.map_cons, List.map_nil]); first | done | rfl | (simp only [List.length_drop, List.length_take]; rfl)) ?_
                                with_reducible refine (pins_Priority.calls _ _ y179 a1 a2 t182 _ ?side1 ?side2 A52.out).mono ?_
                                (case side1 => repeat (first | exact (Kd.R_reads' HO181.out).2.2 | (with_reducible refine Kd.C_alloc ?_ _) | (with_reducible refine Kd.C_drewN ?_ _) | (with_reducible refine Kd.C_drew ?_)))
                                (case side2 => exact (Kd.R_reads' HO181.out).2.1)
                                rintro e w76 ⟨rfl, hb⟩
                                refine ⟨_, rfl, ?_⟩
                                have n0_ := Aside0.mk (Kd.R_below (by (with_reducible repeat (first | apply Kd.R_alloc | apply Kd.R_drewN | apply Kd.R_drew)); exact HO178.out) hb)
                                have n1_ := Aside0.mk (Kd.R_below (by (with_reducible repeat (first | apply Kd.R_alloc | apply Kd.R_drewN | apply Kd.R_drew)); exact HO181.out) hb)
                                have n2_ := Aside0.mk (blk_below (g := gb143) (o := .cells #[.string a1, .string a3_1, .int .i64 a3_2] 24 (0, 0)) (by (with_reducible repeat (first | refine blk_drewN ?_ _ | refine blk_drew ?_ | refine blk_alloc ?_ _)); exact BK143.out) hb)
                                have n3_ := Aside0.mk (below_step (by repeat (first | (with_reducible first | exact HB.out | apply below_alloc | apply pw_below_drewN | apply below_drew1 | refine below_set ?_ GE143.out) | exact HB.out)) hb)
                                clear HO178
                                clear HO181
                                clear BK143
                                clear HB
                                have HO178 := n0_
                                have HO181 := n1_
                                have BK143 := n2_
                                have HB := n3_
                                clear n0_ n1_ n2_ n3_
                                (try clear hb)
                                (try clear hb2)
                                (try clear hk)
                                (try clear hi)
                                refine hK.out _ _ ⟨(blk_cell BK143.out 0).trans rfl, (blk_cell BK143.out 1).trans rfl, (blk_cell BK143.out 2).trans rfl⟩ (fun hHeld => ?_)
                                clear hK K
                                refine norm_ (a' := ?_) ?_ ?_
                                rotate_left
                                · show Act.put _ (some 99) _ = _
                                  simp only [Act.put, List.setIfInBounds_toArray, List.set_cons_zero, List.set_cons_succ, i64_w, i32_w]
                                  rfl
                                refine pure_ (i := 9) (N := some 16) (v := ?_) (a' := ?_) #[true, true, true, true, true, true, true, true, true, true] rfl rfl (any_of HT_.out (by kernel_rfl)) (fun _ _ _ h => h) (Or.inl ⟨by rfl, ?_⟩) ?_ ?_
                                rotate_left
                                · intro w'
                                  go_simp
                                  with_reducible rfl
                                rotate_left
                                · simp only [Act.put, List.setIfInBounds_toArray, List.set_cons_zero, List.set_cons_succ, i64_w, i32_w]
                                  rfl
                                refine done_ (done_of HT_.out (by kernel_rfl)) ?_
                                try go_wp2
                                go_ret
                                exact ⟨by first | rfl | (simp [errW_none, errW_some] <;> rfl) | (simp [*, errW_none, errW_some] <;> rfl), by repeat (first | (with_reducible first | exact HB.out | apply below_alloc | apply pw_below_drewN | apply below_drew1 | refine below_set ?_ GE143.out) | exact HB.out)⟩
                            · rw [if_neg c53] at H
                              exact absurd H (by simp)
                          · rw [if_neg c51] at H
                            exact absurd H (by simp)
                        · rw [if_neg c50] at H
                          exact absurd H (by simp)
            · rw [if_neg c28] at H
              exact absurd H (by simp)
    · rw [if_neg c7] at H
      exact absurd H (by simp)
  · rw [if_neg c6] at H
    exact absurd H (by simp)

end Go.Proofs.YtlcfpmdamehopaaDoor.PA
/- PinsFirst's plain law: a pin put ahead of all others, of the name itself, says what priority the versions have of which it speaks. -/
namespace Go.Proofs.YtlcfpmdamehopaaDoor.PA
open Go.RowKit Go.Proofs.YtlcfpmdamehopaaDoorW.PrintWords Go.Proofs.YtlcfpmdamehopaaDoorW.PrintLast Go.Proofs.YtlcfpmdamehopaaDoorW.PrintMore

theorem firstF_cons (q : Pn → Bool) (a : Pn) (l : List Pn) : firstF q (a :: l) = if q a = true then (a.f2, true) else firstF q l := by
  unfold firstF firstI idxP
  rw [List.findIdx?_cons]
  by_cases h : q a = true
  · rw [if_pos h, if_pos h]; rfl
  · rw [if_neg h, if_neg h]
    cases e : l.findIdx? q with
    | none => rfl
    | some k =>
      simp only [Option.map_some]
      rw [if_neg (by omega), if_neg (by omega)]
      unfold rd_T24
      rw [show ((k + 1 : Nat) : Int).toNat = k + 1 from rfl, show ((k : Nat) : Int).toNat = k from rfl]
      rfl
theorem firstF_app (q : Pn → Bool) (p : Pn) : ∀ l : List Pn, (firstF q l).2 = true → firstF q (l ++ [p]) = firstF q l := by
  intro l
  induction l with
  | nil => intro h; cases h
  | cons a l ih =>
    intro h
    rw [List.cons_append, firstF_cons, firstF_cons] at *
    by_cases hq : q a = true
    · rw [if_pos hq, if_pos hq]
    · rw [if_neg hq] at h ⊢
      rw [if_neg hq]
      exact ih h
theorem firstF_any (q : Pn → Bool) : ∀ l : List Pn, (firstF q l).2 = l.any q := by
  intro l
  induction l with
  | nil => rfl
  | cons a l ih =>
    rw [firstF_cons, List.any_cons]
    by_cases hq : q a = true
    · rw [if_pos hq, hq, Bool.true_or]
    · rw [if_neg hq, ih, Bool.eq_false_iff.2 hq, Bool.false_or]
theorem prio_ahead (n v : ByteArray) (p : Pn) (l : List Pn) (hp : p.f0 = n) (hn : n ≠ starB) : prioF n v (p :: l) = if matchesF n v p = true then p.f2 else prioF n v l := by
  have hw : wideB v p = false := by unfold wideB; rw [decide_eq_false (by rw [hp]; exact hn), Bool.false_and]
  unfold prioF matchesF
  rw [firstF_cons, firstF_cons, hw, Bool.or_false, if_neg (by decide : ¬ (false = true))]
  by_cases h : namedB n v p = true
  · rw [if_pos h, if_pos h, if_pos rfl]
  · rw [if_neg h, if_neg h]
def speaks (n v : ByteArray) (p : Pn) : Bool := decide (p.f0 = n) && matchesF n v p
theorem prio_behind (n v : ByteArray) (p : Pn) (l : List Pn) (hn : n ≠ starB) (h : l.any (speaks n v) = true) : prioF n v (l ++ [p]) = prioF n v l := by
  have h2 : (firstF (namedB n v) l).2 = true := by
    rw [firstF_any]
    obtain ⟨x, hx, hs⟩ := List.any_eq_true.1 h
    refine List.any_eq_true.2 ⟨x, hx, ?_⟩
    unfold speaks matchesF at hs
    rw [Bool.and_eq_true, decide_eq_true_iff, Bool.or_eq_true] at hs
    rcases hs.2 with h | h
    · exact h
    · unfold wideB at h
      rw [Bool.and_eq_true, decide_eq_true_iff] at h
      exact absurd (hs.1.symm.trans h.1) hn
  unfold prioF
  rw [firstF_app _ _ _ h2, if_pos h2, if_pos h2]
theorem first_loop (l : List Pn) (n v x y : ByteArray) (z was : Int) (hl : l.length ≤ 1000) (hb : l.any (speaks n v) = true → prioF n v (l ++ [⟨x, y, z⟩]) = was) (now : Int) (d : Nat) : ∀ (i : Nat) (b : Bool), i + d = l.length → (l.take i).any (speaks n v) = b →
    Ev (fun k => keelsonlaw8_PinsFirst.l0 k l n v was now now b (i : Int) x y z) true := by
  induction d with
  | zero =>
    intro i b hi hs
    rw [List.take_of_length_le (by omega)] at hs
    refine Ev.succ ?_
    simp only [keelsonlaw8_PinsFirst.l0]
    refine Ev.neg (by omega) (Ev.let (Ev.pos (by simp; omega) (Ev.let (Ev.let (Ev.pos (by simp; omega) ?_)))))
    refine Ev.call (show pins_Priority.f _ _ _ = some (prioF n v (l ++ [⟨x, y, z⟩])) from rfl) (Ev.pos (by first | trivial | rfl) ?_)
    cases b with
    | true => exact Ev.pos rfl (Ev.some (by rw [hb hs]; simp))
    | false => exact Ev.neg (by decide) (Ev.some rfl)
  | succ d ih =>
    intro i b hi hs
    have hil : i < l.length := by omega
    have hstep : (l.take (i + 1)).any (speaks n v) = (b || speaks n v l[i]) := by rw [List.take_succ_eq_append_getElem hil, List.any_append, hs]; simp
    refine Ev.succ ?_
    simp only [keelsonlaw8_PinsFirst.l0]
    rw [wrap_step hil (by omega), rdP_nat l i hil]
    refine Ev.pos (by omega) ?_
    cases b with
    | true => exact Ev.pos rfl (ih (i + 1) true (by omega) (by rw [hstep]; rfl))
    | false =>
      refine Ev.neg (by decide) (Ev.pos (by omega) ?_)
      rw [Bool.false_or] at hstep
      by_cases h : l[i].f0 = n
      · refine Ev.pos (bstr.2 h) (Ev.call (show pins_Matches.f _ _ _ _ _ = some (matchesF n v l[i]) from rfl) (ih (i + 1) _ (by omega) ?_))
        rw [hstep]; unfold speaks; rw [decide_eq_true h, Bool.true_and]
      · refine Ev.neg (fun e => h (bstr.1 e)) (ih (i + 1) _ (by omega) ?_)
        rw [hstep]; unfold speaks; rw [decide_eq_false h, Bool.false_and]
theorem PinsFirst_pure {P0 P1 P2 : Prop} {Q : Pn → Prop} (l : List Pn) (hl : okL (Tryd.prog.bytesOf 24) Q l) (n : ByteArray) (_ : P0) (v : ByteArray) (_ : P1) (x y : ByteArray) (z : Int) (_ : P2) : ∃ k, keelsonlaw8_PinsFirst.f k l n v x y z = some true := by
  have hl := hl.1
  rw [show Tryd.prog.bytesOf 24 = 40 by kernel_rfl] at hl
  refine Ev.rounds (g := fun k => keelsonlaw8_PinsFirst.f k l n v x y z) ?_
  unfold keelsonlaw8_PinsFirst.f
  have done : Ev (fun k => keelsonlaw8_PinsFirst.j0 k l n v true true x y z) true := by
    refine Ev.succ ?_
    simp only [keelsonlaw8_PinsFirst.j0]
    exact Ev.pos (by first | trivial | rfl) (Ev.some rfl)
  refine Ev.bind shown8_ev (Ev.let (Ev.pos (by simp; omega) (Ev.let (Ev.let (Ev.pos (by simp; omega) (Ev.bind (small8_ev _ (by simp; omega)) (Ev.pos rfl ?_)))))))
  cases hs : smallP ([] ++ l ++ [(⟨x, y, z⟩ : Pn)]) with
  | false => exact Ev.neg (by decide) done
  | true =>
    obtain ⟨h1, _⟩ := smallP_sizes hs
    rw [List.nil_append, List.length_append, List.length_singleton] at h1
    refine Ev.pos rfl (Ev.ite2 (fun _ => done) (fun _ => Ev.ite2 (fun _ => done) (fun _ => ?_)))
    by_cases hn : n = starB
    · rw [show (n.toList == ([42] : List UInt8)) = true from by rw [star_eq, decide_eq_true hn]]; exact done
    · rw [show (n.toList == ([42] : List UInt8)) = false from by rw [star_eq, decide_eq_false hn]]
      refine Ev.succ ?_
      simp only [keelsonlaw8_PinsFirst.j0]
      refine Ev.neg (by decide) (Ev.call (show pins_Priority.f _ _ _ = some (prioF n v l) from rfl) (Ev.let (Ev.pos (by simp; omega) ?_)))
      refine Ev.call (show pins_Priority.f _ _ _ = some (prioF n v (⟨n, y, z⟩ :: l)) from rfl) (Ev.call (show pins_Matches.f _ _ _ _ _ = some (matchesF n v ⟨n, y, z⟩) from rfl) ?_)
      have ha := prio_ahead n v ⟨n, y, z⟩ l rfl hn
      have key : ∀ now : Int, Ev (fun k => keelsonlaw8_PinsFirst.j1 k l n v (prioF n v l) now now n y z) true := by
        intro now
        refine Ev.succ ?_
        simp only [keelsonlaw8_PinsFirst.j1]
        exact first_loop l n v n y z _ (by omega) (fun h => prio_behind n v _ l hn h) now l.length 0 false (by omega) rfl
      cases hm : matchesF n v ⟨n, y, z⟩ with
      | true =>
        rw [hm, if_pos rfl] at ha
        rw [ha]
        exact Ev.pos rfl (key z)
      | false =>
        rw [hm, if_neg (by decide)] at ha
        rw [ha]
        exact Ev.neg (by decide) (key (prioF n v l))
end Go.Proofs.YtlcfpmdamehopaaDoor.PA
namespace Go.Proofs.YtlcfpmdamehopaaDoor.pinsFirst
open Go.ChangeShapes Go.WideShapes Go.ChangeAt Go.RowKit Go.Proofs.YtlcfpmdamehopaaDoor.PA Go.Proofs.YtlcfpmdamehopaaDoorW.PrintWords
open Go.ChangeMaps (open_string shut_string)
theorem own : ownKnob Tryd.prog.godebug = none := by kernel_rfl
theorem laidOut : laidOutB Tryd.prog = true := by kernel_rfl
set_option maxRecDepth 100000 in
theorem lifted (os : Os) (started : os.Started) (H : Type) (enc : TypeId × Value → H) :
    ReturnsInHanded {} Tryd.checked os 3 .any (fun w args => (Rows.pinsFirstSpec.pre enc Tryd.prog Tryd.f3 [] false w args ∧ laidMet Tryd.prog Rows.pinsFirstRow.laid w) ∧ sizedMet enc Tryd.prog Tryd.f3 (OpenSpec.ofChange Rows.pinsFirstSpec) false w args) (Rows.pinsFirstSpec.post enc Tryd.prog Tryd.f3 false true false false) := by
  refine returns_laid_shaped (C := Tryd.checked) (X := fun w _ => laidMet Tryd.prog Rows.pinsFirstRow.laid w) (fun _ _ _ hh h => h.of_heap hh) own started (by kernel_rfl) Tryd.func3
    (ChangeSpec.witness_at (enc := enc) (C := Tryd.checked) (os := os) (X := fun w _ => laidMet Tryd.prog Rows.pinsFirstRow.laid w) false (laidWorld os) #[.slice none 0 0, .string ByteArray.empty, .string ByteArray.empty, .agg #[.string ByteArray.empty, .string ByteArray.empty, .int .i64 0]] 8 rfl (by kernel_rfl) (by kernel_rfl) (by kernel_rfl) (by kernel_rfl) (by kernel_rfl) (laid_met_deBruijn32tab_deBruijn64tab_uint64pow10_acceptRanges_ErrRange_ErrSyntax_first os _)) ?_
  intro W base args ds gs before hval0 hW hcnd hsz0 hL hSh _
  have hsz : (DataW.weightsEach Tryd.prog (Tryd.f3.params.toList ++ Rows.pinsFirstSpec.plain.varTypes Tryd.prog) (ds ++ gs)).all (· ≤ reachBytes) = true := hsz0
  have hval : ∀ (j : Nat) t v, Tryd.f3.params[j]? = some t → args[j]? = some v → Value.okWide Tryd.prog W .any base t v := hval0
  have hW' := hW
  obtain ⟨p, q, hA0, hV, rfl, hfz, hnd⟩ := hW
  have hA : DataW.TrodAll enc Tryd.prog W 0 (fun _ => true) true Tryd.f3.params.toList args.toList ds p := hA0
  rw [Tryd.params3] at hA hval hsz
  obtain ⟨v0, vs0, d0, ds0, p0, q0, hargs, rfl, rfl, h0, r0⟩ := trodAll_cons hA
  obtain ⟨v1, vs1, d1, ds1, p1, q1, rfl, rfl, rfl, h1, r1⟩ := trodAll_cons r0
  obtain ⟨v2, vs2, d2, ds2, p2, q2, rfl, rfl, rfl, h2, r2⟩ := trodAll_cons r1
  obtain ⟨v3, vs3, d3, ds3, p3, q3, rfl, rfl, rfl, h3, r3⟩ := trodAll_cons r2
  obtain ⟨rfl, rfl, rfl⟩ := trodAll_nil r3
  obtain rfl : args = #[v0, v1, v2, v3] := by cases args; simp_all
  obtain ⟨rfl, rfl⟩ := trodVars_none hV
  have hwt : ∀ n ∈ DataW.weightsEach Tryd.prog (([22, 9, 9, 24] : List TypeId) ++ []) (([d0, d1, d2, d3] : List (DataW H)) ++ []), n ≤ reachBytes := fun n hn => of_decide_eq_true (List.all_eq_true.1 hsz n hn)
  obtain ⟨a0, len0, cap0, rfl⟩ := okWide_slice Tryd.underlying22 (hval 0 22 v0 rfl rfl)
  have k0 := h0
  have lt0 : ∀ x ∈ p0, x.block < W.heap.size := by obtain ⟨m, hm⟩ := k0; exact DataW.trod_lt m _ _ _ hm
  obtain ⟨l0, hK0, ok0⟩ : ∃ l, ((Kd.slice 24 k24)).K W l [.slice a0 len0 cap0] ∧ (okL (Tryd.prog.bytesOf 24) (fun x : S24 => (okP okS (okP okS (okI .i64))) (x.f0, x.f1, x.f2))) l := by
    obtain ⟨fuel, hf⟩ := h0
    exact (opens_slice (d := k24) (ok := (fun x : S24 => (okP okS (okP okS (okI .i64))) (x.f0, x.f1, x.f2))) Tryd.underlying22 (by kernel_rfl) (opens_iso (fun x : S24 => (x.f0, x.f1, x.f2)) (fun p => ⟨p.1, p.2.1, p.2.2⟩) (fun _ => rfl) (opens_struct (ts := [9, 9, 3]) Tryd.underlying24 (by kernel_rfl) (by kernel_rfl) (by kernel_rfl) (opensF_cons (opens_string Tryd.underlying9 (by kernel_rfl)) (opensF_cons (opens_string Tryd.underlying9 (by kernel_rfl)) (opensF_one (opens_int Tryd.underlying3 (by kernel_rfl)))))))).2 enc W _ _ fuel _ _ hf (fun n hn => hwt n (DataW.weights_mem_each (j := 0) rfl rfl n hn))
  obtain ⟨A0, c0, hcs0, hc0, hr0⟩ := hK0
  simp only [List.cons.injEq, Value.slice.injEq, and_true] at hcs0
  obtain ⟨rfl, rfl, rfl⟩ := hcs0
  obtain ⟨a1, rfl, rfl, rfl, y1⟩ := open_string Tryd.underlying9 (hval 1 9 v1 rfl rfl) h1
  have ok1 : okS a1 := by
    have z := sized_string hsz (j := 1) (t := 9) rfl rfl
    rw [Array.length_toList] at z
    exact z
  obtain ⟨a2, rfl, rfl, rfl, y2⟩ := open_string Tryd.underlying9 (hval 2 9 v2 rfl rfl) h2
  have ok2 : okS a2 := by
    have z := sized_string hsz (j := 2) (t := 9) rfl rfl
    rw [Array.length_toList] at z
    exact z
  obtain ⟨cs3, rfl, hsz3⟩ := okWide_struct Tryd.underlying24 (hval 3 24 v3 rfl rfl)
  have k3 := h3
  have lt3 : ∀ x ∈ p3, x.block < W.heap.size := by obtain ⟨m, hm⟩ := k3; exact DataW.trod_lt m _ _ _ hm
  obtain ⟨x3, hK3, ok3⟩ : ∃ x, (k24).K W x cs3.toList ∧ (fun x : S24 => (okP okS (okP okS (okI .i64))) (x.f0, x.f1, x.f2)) x := by
    obtain ⟨fuel, hf⟩ := h3
    exact (opens_iso (fun x : S24 => (x.f0, x.f1, x.f2)) (fun p => ⟨p.1, p.2.1, p.2.2⟩) (fun _ => rfl) (opens_struct (ts := [9, 9, 3]) Tryd.underlying24 (by kernel_rfl) (by kernel_rfl) (by kernel_rfl) (opensF_cons (opens_string Tryd.underlying9 (by kernel_rfl)) (opensF_cons (opens_string Tryd.underlying9 (by kernel_rfl)) (opensF_one (opens_int Tryd.underlying3 (by kernel_rfl))))))).2 enc W _ _ fuel _ _ hf (fun n hn => hwt n (DataW.weights_mem_each (j := 3) rfl rfl n hn))
  have e3 := k24_open hK3
  obtain rfl : cs3 = #[.string x3.f0, .string x3.f1, .int .i64 x3.f2] := by cases cs3; simpa using e3
  obtain ⟨k, hk⟩ := PinsFirst_pure l0 ok0 a1 ok1 a2 ok2 x3.f0 x3.f1 x3.f2 ok3
  refine (keelsonlaw8_PinsFirst.calls k _ _ l0 a1 a2 x3.f0 x3.f1 x3.f2 true W hr0 hc0 (maxLen_of_shape hSh) (numErr_of_laid hL) (pow10_of_laid hL) hk).mono fun e W' ⟨he, bel⟩ => ?_
  subst he
  exact ⟨_, rfl, _, _, _, [], _, [], hW', trodAll_mk1 (shut_bool Tryd.underlying4 _), (trodAll_cons_mk (Below.trod laidOut (by kernel_rfl) (of_decide_eq_true (by kernel_rfl)) k0 bel lt0) (trodAll_cons_mk (shut_string Tryd.underlying9 y1) (trodAll_cons_mk (shut_string Tryd.underlying9 y2) (trodAll_cons_mk (Below.trod laidOut (by kernel_rfl) (of_decide_eq_true (by kernel_rfl)) k3 bel lt3) trodAll_mk0)))), rfl, bel.frame _, fun h => by cases h⟩
theorem over : Rows.pinsFirstRow.holds Tryd.pinned (OpenSpec.ofChange Rows.pinsFirstSpec) :=
  OpenClaim.holds_of_wide 3 Tryd.f3 rfl rfl rfl rfl rfl rfl rfl ⟨rfl, rfl, rfl, rfl, rfl⟩ rfl rfl rfl rfl rfl (by kernel_rfl) Tryd.func3 (by kernel_rfl)
    (of_decide_eq_true (by kernel_rfl)) (by unfold Func.isWrapper; first | (rw [if_pos (by decide +kernel)]; kernel_rfl) | (rw [if_neg (by decide +kernel)]; exact ⟨rfl, rfl⟩))
    (fun os started H enc _ => lifted os started H enc)
theorem said : Rows.PinsFirstSaid := over
theorem proved : Rows.PinsFirstCardSaid :=
  Claim7.holds_tied_plain_at .later [] [.data, .data, .data, .data, .sentinel, .sentinel, .pinned] true (true, "bc7b106426b0d16159628726ded3ca59ef2d8bef419c7342b07384f925d77038") true
    said (fun _ h => by cases h) (by kernel_rfl) (fun _ h => by cases h) pinsFirst_row_tie rfl ⟨rfl, rfl⟩ (by kernel_rfl) rfl
    (fun f fn hf hfn => by
      obtain rfl : f = 3 := Option.some.inj ((show Tryd.prog.funcNamed "keelson/keelsonlaw8.PinsFirst" = some 3 by kernel_rfl).symm.trans hf) |>.symm
      obtain rfl : fn = Tryd.f3 := (Option.some.inj (Tryd.func3.symm.trans hfn)).symm
      exact ⟨by kernel_rfl, fun j t ht => by
        rw [Tryd.params3] at ht
        have hm : t ∈ ([22, 9, 9, 24] : List TypeId) := List.mem_of_getElem? (by simpa using ht)
        have hall : ([22, 9, 9, 24] : List TypeId).all (fun t => !Tryd.prog.wantsStandIn t) = true := by kernel_rfl
        have := List.all_eq_true.1 hall t hm
        exact (show Tryd.prog.wantsStandIn t = false by simpa using this)⟩)
    (by kernel_rfl)
#print axioms proved
end Go.Proofs.YtlcfpmdamehopaaDoor.pinsFirst
namespace Go.Proofs.YtlcfpmdamehopaaDoor
/-- The statement, under a short name, for the claim. -/
theorem pinsFirst_holds : Rows.PinsFirstCardSaid := pinsFirst.proved
end Go.Proofs.YtlcfpmdamehopaaDoor
