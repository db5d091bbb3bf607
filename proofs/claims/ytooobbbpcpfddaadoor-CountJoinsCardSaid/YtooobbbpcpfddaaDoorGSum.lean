/- keelson/sum: what add, within, Total come to: sums that would go round are an error. The one premise on the world: the package's sentinel stands in its variable. -/
import Derived.Test.YtooobbbpcpfddaaDoorGBase
import Derived.Test.YtooobbbpcpfddaaDoorPA0
import Derived.Defers
import Derived.Recover
import Derived.LaidEql
import Derived.Stop.Asserts
import Derived.RowKitTokens
import Derived.WalkLawsBesides
namespace Go.Proofs.YtooobbbpcpfddaaDoor.PA
open Go.RowKit Go.Proofs.YtooobbbpcpfddaaDoorW.PrintWords Go.Proofs.YtooobbbpcpfddaaDoorW.PrintLast Go.Proofs.YtooobbbpcpfddaaDoorW.PrintMore Go.Extern.Stop Go.Stop Go.Extern

/-- errOver stands in its variable: a pointer of errors.New's make. -/
def GlobErrOver (w : World) : Prop := ∃ a : Addr, w.cell? ⟨0, 0, none⟩ = some (.iface 165 (.pointer (some a)))
theorem GlobErrOver.below {w W : World} (h : GlobErrOver w) (hb : Below w.heap.size w W) : GlobErrOver W := by
  obtain ⟨a, h⟩ := h
  exact ⟨a, pw_cell_below hb h⟩

/-- add, as Go has it: none where it panics. -/
def sum_addG (a b : Int) : Option Int := if (decide (a < 0) == decide (b < 0) && (decide (wrap64 (a + b) < 0) != decide (a < 0))) = true then none else some (wrap64 (a + b))
def sum_totG : List Int → Int → Option Int
  | [], n => some n
  | x :: l, n => (sum_addG n x).bind fun m => sum_totG l m
def errI : Option Int → Int × Int
  | some n => (n, 0)
  | none => (0, 2)
def sum_Total.f (l0 : List Int) : Option (Int × Int) := some (errI (sum_totG l0 0))

def overV (a : Addr) : Value := .iface 165 (.pointer (some a))
def overP (a : Addr) : List PanicEntry := [{ v := .iface 165 (.pointer (some a)), recovered := false }]

set_option maxHeartbeats 400000 in
theorem add_yes (a b n : Int) (w : World) (h : sum_addG a b = some n) :
    Calls Tryd.prog 72 #[.int .i64 a, .int .i64 b] w fun e w' => e = .returned (.int .i64 n) ∧ w' = w := by
  unfold sum_addG at h
  split at h
  · cases h
  · rename_i hc
    obtain rfl := Option.some.inj h
    by_cases ha : a < 0 <;> by_cases hb : b < 0 <;> by_cases hn : wrap64 (a + b) < 0 <;> (simp [ha, hb, hn] at hc) <;>
      (go_enter Tryd.func72, Tryd.ntmps72
       go_wp2
       go_ret
       exact ⟨rfl, rfl⟩)
set_option maxHeartbeats 400000 in
theorem add_no (a b : Int) (p : Addr) (w : World) (hG : w.cell? ⟨0, 0, none⟩ = some (.iface 165 (.pointer (some p)))) (h : sum_addG a b = none) :
    Calls Tryd.prog 72 #[.int .i64 a, .int .i64 b] w fun e w' => e = .panicked (overP p) ∧ w' = w := by
  unfold sum_addG at h
  split at h
  · rename_i hc
    by_cases ha : a < 0 <;> by_cases hb : b < 0 <;> by_cases hn : wrap64 (a + b) < 0 <;> (simp [ha, hb, hn] at hc) <;>
      (go_enter Tryd.func72, Tryd.ntmps72
       go_wp2
       exact ⟨rfl, rfl, rfl⟩)
  · cases h

/-! errors.Is at one and the same pointer -/
theorem isTypeOf (v : Value) (w : World) : (Extern.ReflectliteType.typeOf #[.iface 165 v]).run Tryd.prog w = .ok (.iface 129 (.agg #[.pointer (some ⟨4, 165, none⟩)])) w := by kernel_rfl
theorem isComp : (Tryd.prog.info? 165).map (·.comparable) = some true := by kernel_rfl
theorem isSize : (Tryd.prog.info? 187).map (·.size) = some 1 := by kernel_rfl
noncomputable def cmpFn : Array Value → Sem Value := Extern.ReflectliteType.method fun t => do Extern.Rtype.noPackHeld "Comparable" t; pure (.bool (← typeInfo t).comparable)
theorem isComparable (w : World) : (cmpFn #[.agg #[.pointer (some ⟨4, 165, none⟩)]]).run Tryd.prog w = .ok (.bool true) w := by kernel_rfl
theorem isMethodComparable (v : Value) (w : World) : (Go.method 298 129 v "Comparable").run Tryd.prog w = .ok (163, v) w := by kernel_rfl
set_option maxRecDepth 100000 in
set_option maxHeartbeats 400000 in
theorem is_same (a : Addr) (w : World) :
    Calls Tryd.prog 91 #[.iface 165 (.pointer (some a)), .iface 165 (.pointer (some a))] w fun e w' => e = .returned (.bool true) ∧ w' = w := by
  obtain ⟨i, hi, hcmp⟩ := Option.map_eq_some_iff.1 isComp
  obtain ⟨j, hj, hjs⟩ := Option.map_eq_some_iff.1 isSize
  have h8 := @run_callFunc_extern Tryd.prog 99 _ Extern.ReflectliteType.typeOf Tryd.func99 (by kernel_rfl) (by kernel_rfl) (by kernel_rfl) (by kernel_rfl)
  have h32 := @run_callFunc_extern Tryd.prog 163 _ cmpFn Tryd.func163 (by kernel_rfl) (by kernel_rfl) (by kernel_rfl) (by kernel_rfl)
  have tT := isTypeOf
  have cT := isComparable
  have mR := isMethodComparable
  have heq := run_eql_iface_ptr_same (P := Tryd.prog) w a Tryd.underlying102 Tryd.underlying165 hi hcmp hj
  go_enter Tryd.func91, Tryd.ntmps91
  go_wp2
  refine wp_loop_rounds 1 ?_
  rw [rounds_succ]
  go_wp2
  go_ret
  exact ⟨rfl, rfl⟩

theorem assertErr (v : Value) (xT : TypeId) (w : World) : (Instr.typeAssert (.iface 165 v) xT 102 true).run Tryd.prog w = .ok (.tuple #[.iface 165 v, .bool true]) w := run_typeAssert_hasB Tryd.underlying102 (by kernel_rfl) v xT w
theorem assertNil (xT : TypeId) (w : World) : (Instr.typeAssert .nilIface xT 102 true).run Tryd.prog w = .ok (.tuple #[.nilIface, .bool false]) w := by kernel_rfl

set_option maxRecDepth 100000 in
set_option maxHeartbeats 1000000 in
theorem catch_over (p q : Addr) (x y : Int) (a : Addr) (w : World) (hp : w.cell? p = some (.int .i64 x)) (hq : w.cell? q = some (.int .i64 y)) (fp : w.frozen? p = false) (fq : w.frozen? q = false) (hne : p ≠ q)
    (hG : w.cell? ⟨0, 0, none⟩ = some (.iface 165 (.pointer (some a)))) :
    CallsD Tryd.prog 90 #[.pointer (some p), .pointer (some q)] (.panicking (overP a)) w fun e u' w' =>
      e = .returned (.tuple #[]) ∧ u' = .panicking [{ v := .iface 165 (.pointer (some a)), recovered := true }] ∧ w' = (w.setCell p (.int .i64 0)).setCell q (.int .i64 2) := by
  have hta := assertErr
  have hcell : (w.setCell p (.int .i64 0)).cell? q = some (.int .i64 y) := by simp [go_sem, hne, hq]
  refine callsD_of_wpS Tryd.func90 rfl fun c₀ cs hu => ?_
  apply wpS_seq
  apply wpS_region
  simp [wpOpsS, go_sem, recoverD, hu, Tryd.ntmps90, Exit.thenS, overP, hta]
  have hT : ∀ (E T : Value), #[Value.pointer (some p), Value.pointer (some q)] ++ (((((((Array.replicate 13 undef).setIfInBounds 3 E).setIfInBounds 4 T).setIfInBounds 2 T).setIfInBounds 5 E).setIfInBounds 6 (Value.bool true)).setIfInBounds 0 E).setIfInBounds 1 (Value.bool true)
      = #[.pointer (some p), .pointer (some q), E, .bool true, T, E, T, E, .bool true, undef, undef, undef, undef, undef, undef] := by
    intro E T
    have e : Array.replicate 13 undef = #[undef, undef, undef, undef, undef, undef, undef, undef, undef, undef, undef, undef, undef] := by simp [Array.replicate, List.replicate]
    rw [e]
    simp
  rw [hT]
  clear hT
  refine wpS_of_wp ?_
  clear hta
  have HU := Lib.hid hu
  clear hu
  go_wp2_with (go_at_call 91; refine (is_same a _).mono ?_; rintro e w' ⟨rfl, rfl⟩)
  simp [bodyPostS, results, Tryd.results90]

set_option maxRecDepth 100000 in
set_option maxHeartbeats 1000000 in
theorem catch_idle (p q : Addr) (w : World) :
    CallsD Tryd.prog 90 #[.pointer (some p), .pointer (some q)] .returning w fun e u' w' => e = .returned (.tuple #[]) ∧ u' = .returning ∧ w' = w := by
  have hta := assertNil
  refine callsD_of_wpS Tryd.func90 rfl fun c₀ cs hu => ?_
  apply wpS_seq
  apply wpS_region
  simp [wpOpsS, go_sem, recoverD, hu, Tryd.ntmps90, Exit.thenS, hta]
  have hT : ∀ (T : Value), #[Value.pointer (some p), Value.pointer (some q)] ++ (((((((Array.replicate 13 undef).setIfInBounds 3 Value.nilIface).setIfInBounds 4 T).setIfInBounds 2 T).setIfInBounds 5 Value.nilIface).setIfInBounds 6 (Value.bool false)).setIfInBounds 0 Value.nilIface).setIfInBounds 1 (Value.bool false)
      = #[.pointer (some p), .pointer (some q), .nilIface, .bool false, T, .nilIface, T, .nilIface, .bool false, undef, undef, undef, undef, undef, undef] := by
    intro T
    have e : Array.replicate 13 undef = #[undef, undef, undef, undef, undef, undef, undef, undef, undef, undef, undef, undef, undef] := by simp [Array.replicate, List.replicate]
    rw [e]
    simp
  rw [hT]
  clear hT
  refine wpS_of_wp ?_
  clear hta
  have HU := Lib.hid hu
  clear hu
  go_wp2_with fail
  cases c₀
  have hu := HU.out
  simp_all [bodyPostS, results, Tryd.results90]

/-- Two new cells, a call between: where they are, and what of them. -/
def twoNew (w : World) : World := (w.alloc (.cells #[.int .i64 0] 3)).alloc (.cells #[.int .i64 0] 25)
theorem twoNew_below (w : World) : Below w.heap.size w (twoNew w) := ((Below.refl _ w).alloc (Nat.le_refl _) _).alloc (by simp) _
theorem twoNew_size (w : World) : (twoNew w).heap.size = w.heap.size + 2 := by simp [twoNew]

set_option maxRecDepth 100000 in
set_option maxHeartbeats 1000000 in
theorem within_ok (g : Nat) (lb : Array Value) (eg : ∀ args w, (callFunc g args).run Tryd.prog w = .ok (.enter g args) w) (n : Int) (w : World)
    (h : ∀ W, Below w.heap.size w W → Calls Tryd.prog g lb W fun e w' => e = .returned (.int .i64 n) ∧ Below W.heap.size W w') :
    Calls Tryd.prog 70 #[.func (.func g) #[] lb] w fun e w' => e = .returned (.tuple #[.int .i64 n, .int .i64 0]) ∧ Below w.heap.size w w' := by
  have hmf : ∀ (fn : Fn) (first cap : Array Value) (w : World), (Instr.makeFunc fn first cap).run Tryd.prog w = .ok (.func fn first cap) w := fun _ _ _ _ => rfl
  have h1 := h (twoNew w) (twoNew_below w)
  clear h
  have hp : (twoNew w).cell? ⟨w.heap.size, 0, none⟩ = some (.int .i64 0) := by simp [twoNew, go_sem]
  have hq : (twoNew w).cell? ⟨w.heap.size + 1, 0, none⟩ = some (.int .i64 0) := by simp [twoNew, go_sem]
  have fp : (twoNew w).frozen? ⟨w.heap.size, 0, none⟩ = false := by simp [twoNew, go_sem]
  have fq : (twoNew w).frozen? ⟨w.heap.size + 1, 0, none⟩ = false := by simp [twoNew, go_sem]
  have hs := twoNew_size w
  have hbw := twoNew_below w
  have hcall := h1.mono fun e w' (h : e = .returned (.int .i64 n) ∧ Below (twoNew w).heap.size (twoNew w) w') =>
    (⟨h.1, ⟨pw_cell_below h.2 hp, pw_cell_below h.2 hq, (h.2.frozen (p := ⟨w.heap.size, 0, none⟩) (by simp [hs])).trans fp, (h.2.frozen (p := ⟨w.heap.size + 1, 0, none⟩) (by simp [hs])).trans fq⟩, hbw.trans (h.2.mono (by omega))⟩ :
      e = .returned (.int .i64 n) ∧ (w'.cell? ⟨w.heap.size, 0, none⟩ = some (.int .i64 0) ∧ w'.cell? ⟨w.heap.size + 1, 0, none⟩ = some (.int .i64 0) ∧ w'.frozen? ⟨w.heap.size, 0, none⟩ = false ∧ w'.frozen? ⟨w.heap.size + 1, 0, none⟩ = false) ∧ Below w.heap.size w w')
  clear h1 hp hq fp fq hs hbw
  unfold twoNew at hcall
  go_enter_defers Tryd.func70, Tryd.ntmps70
  go_wp2_with (go_at_fn g; refine hcall.mono ?_; rintro e w' ⟨rfl, ⟨hp, hq, fp, fq⟩, hb⟩)
  refine leaves_cons (f := 90) (args := #[.pointer (some ⟨w.heap.size, 0, none⟩), .pointer (some ⟨w.heap.size + 1, 0, none⟩)]) (by simp) (by simp [go_sem]) ?_
  refine (catch_idle ⟨w.heap.size, 0, none⟩ ⟨w.heap.size + 1, 0, none⟩ _).mono ?_
  rintro e u' w'' ⟨rfl, rfl, rfl⟩
  have hx : w'.heap.size ≥ w.heap.size := hb.size
  simp [Leaves, settle, results, Tryd.results70, go_sem, hp, hq]
  exact (hb.setCell (Nat.le_refl _) _).setCell (by simp) _

set_option maxRecDepth 100000 in
set_option maxHeartbeats 1000000 in
theorem within_over (g : Nat) (lb : Array Value) (eg : ∀ args w, (callFunc g args).run Tryd.prog w = .ok (.enter g args) w) (a : Addr) (w : World)
    (hG : w.cell? ⟨0, 0, none⟩ = some (.iface 165 (.pointer (some a))))
    (h : ∀ W, Below w.heap.size w W → Calls Tryd.prog g lb W fun e w' => e = .panicked (overP a) ∧ Below W.heap.size W w') :
    Calls Tryd.prog 70 #[.func (.func g) #[] lb] w fun e w' => e = .returned (.tuple #[.int .i64 0, .int .i64 2]) ∧ Below w.heap.size w w' := by
  have hmf : ∀ (fn : Fn) (first cap : Array Value) (w : World), (Instr.makeFunc fn first cap).run Tryd.prog w = .ok (.func fn first cap) w := fun _ _ _ _ => rfl
  have h1 := h (twoNew w) (twoNew_below w)
  clear h
  have hp : (twoNew w).cell? ⟨w.heap.size, 0, none⟩ = some (.int .i64 0) := by simp [twoNew, go_sem]
  have hq : (twoNew w).cell? ⟨w.heap.size + 1, 0, none⟩ = some (.int .i64 0) := by simp [twoNew, go_sem]
  have fp : (twoNew w).frozen? ⟨w.heap.size, 0, none⟩ = false := by simp [twoNew, go_sem]
  have fq : (twoNew w).frozen? ⟨w.heap.size + 1, 0, none⟩ = false := by simp [twoNew, go_sem]
  have hs := twoNew_size w
  have hbw := twoNew_below w
  have hcall := h1.mono fun e w' (h : e = .panicked (overP a) ∧ Below (twoNew w).heap.size (twoNew w) w') =>
    (⟨h.1, ⟨pw_cell_below h.2 hp, pw_cell_below h.2 hq, (h.2.frozen (p := ⟨w.heap.size, 0, none⟩) (by simp [hs])).trans fp, (h.2.frozen (p := ⟨w.heap.size + 1, 0, none⟩) (by simp [hs])).trans fq⟩, hbw.trans (h.2.mono (by omega))⟩ :
      e = .panicked (overP a) ∧ (w'.cell? ⟨w.heap.size, 0, none⟩ = some (.int .i64 0) ∧ w'.cell? ⟨w.heap.size + 1, 0, none⟩ = some (.int .i64 0) ∧ w'.frozen? ⟨w.heap.size, 0, none⟩ = false ∧ w'.frozen? ⟨w.heap.size + 1, 0, none⟩ = false) ∧ Below w.heap.size w w')
  clear h1 hp hq fp fq hs hbw
  unfold twoNew at hcall
  have HG := Lib.hid hG
  clear hG
  go_enter_defers Tryd.func70, Tryd.ntmps70
  go_wp2_with (go_at_fn g; refine hcall.mono ?_; rintro e w' ⟨rfl, ⟨hp, hq, fp, fq⟩, hb⟩)
  refine leaves_cons (f := 90) (args := #[.pointer (some ⟨w.heap.size, 0, none⟩), .pointer (some ⟨w.heap.size + 1, 0, none⟩)]) (by simp) (by simp [go_sem]) ?_
  refine (catch_over ⟨w.heap.size, 0, none⟩ ⟨w.heap.size + 1, 0, none⟩ 0 0 a _ hp hq fp fq (by simp) (pw_cell_below hb HG.out)).mono ?_
  rintro e u' w'' ⟨rfl, rfl, rfl⟩
  have hx : w'.heap.size ≥ w.heap.size := hb.size
  simp [Leaves, settle, results, Tryd.results70, go_sem, hp, hq]
  exact (hb.setCell (Nat.le_refl _) _).setCell (by simp) _

/-- what the closure of Total comes to -/
def endI (a : Addr) : Option Int → Ending
  | some n => .returned (.int .i64 n)
  | none => .panicked (overP a)
theorem totG_step (l : List Int) (k : Nat) (n : Int) (hk : k < l.length) : sum_totG (l.drop k) n = (sum_addG n (l.getD k 0)).bind fun m => sum_totG (l.drop (k + 1)) m := by
  rw [List.drop_eq_getElem_cons hk, sum_totG, List.getD_eq_getElem?_getD, List.getElem?_eq_getElem hk]
  rfl
set_option maxHeartbeats 1000000 in
theorem total1_any (p : Addr) (A : Option Addr) (c : Nat) (l : List Int) (a : Addr) (w : World) (hc : w.cell? p = some (.slice A l.length c)) (hC : Kd.C (Kd.int .i64) w A l.length l)
    (hG : w.cell? ⟨0, 0, none⟩ = some (.iface 165 (.pointer (some a)))) :
    Calls Tryd.prog 71 #[.pointer (some p)] w fun e w' => e = endI a (sum_totG l 0) ∧ w' = w := by
  have hn : l.length ≤ 9223372036854775807 := hC.2.1
  have HG := Lib.hid hG
  clear hG
  go_enter Tryd.func71, Tryd.ntmps71
  go_wp2
  go_loopg [2, 4, 7] l.length (fun gg s2 _ s7 wr => ∃ (kk : Nat) (n : Int), kk ≤ l.length ∧ l.length - kk ≤ gg ∧ s2 = .int .i64 n ∧ s7 = .int .i64 kk ∧ wr = w ∧ Aside (sum_totG (l.drop kk) n = sum_totG l 0))
  case atStart => exact ⟨0, 0, Nat.zero_le _, by omega, rfl, rfl, rfl, by rw [List.drop_zero]; exact rfl⟩
  case round =>
    obtain ⟨kk, n, hkk, hg, rfl, rfl, rfl, HS⟩ := hrel
    by_cases hlt : kk < l.length
    · have hltz : (kk : Int) < (l.length : Int) := by omega
      obtain ⟨ad, e, hx⟩ := Kd.at_int hC (kk : Int) (by omega) (by omega)
      subst e
      have hst := totG_step l kk n hlt
      rw [HS.out] at hst
      have hxx : rd l (kk : Int) = l.getD kk 0 := by unfold rd; simp
      rw [hxx] at hx
      generalize l.getD kk 0 = x at hx hst
      rw [Int.toNat_natCast] at hx
      cases hq : sum_addG n x with
      | some m =>
        rw [hq] at hst
        have Q := Lib.hid hq
        have ST := Lib.hid hst
        clear hq hst hC hxx
        go_wp2_with (go_at_call 72; refine (add_yes _ _ m _ Q.out).mono ?_; rintro e w' ⟨rfl, rfl⟩)
        go_roundg (l.length - (kk + 1))
        case measure => omega
        case rel => exact ⟨kk + 1, m, by omega, by omega, rfl, by go_num, rfl, ST.out.symm⟩
      | none =>
        rw [hq] at hst
        have Q := Lib.hid hq
        have ST := Lib.hid hst
        clear hq hst hC hxx
        go_wp2_with (go_at_call 72; refine (add_no _ _ a _ HG.out Q.out).mono ?_; rintro e w' ⟨rfl, rfl⟩)
        refine ⟨rfl, ?_, rfl⟩
        rw [ST.out]
        rfl
    · have hltz : ¬ (kk : Int) < (l.length : Int) := by omega
      have hS := HS.out
      rw [List.drop_eq_nil_of_le (by omega)] at hS
      clear HS
      have HS := Lib.hid hS
      clear hS hC
      go_wp2
      go_ret
      exact ⟨by rw [← HS.out]; rfl, rfl⟩

set_option maxHeartbeats 1000000 in
theorem sum_Total.calls (A0 : Option Addr) (c0 : Nat) (l0 : List Int) (r1 : Int) (r2 : Int) (w : World) (hr0 : Kd.C (Kd.int .i64) w A0 l0.length l0) (_hc0 : l0.length ≤ c0) (hG : GlobErrOver w) (h : sum_Total.f l0 = some (r1, r2)) :
    Calls Tryd.prog 41 #[.slice A0 l0.length c0] w fun e w' => e = .returned (.tuple #[.int .i64 r1, .int .i64 r2]) ∧ Below w.heap.size w w' := by
  have hmf : ∀ (fn : Fn) (first cap : Array Value) (w : World), (Instr.makeFunc fn first cap).run Tryd.prog w = .ok (.func fn first cap) w := fun _ _ _ _ => rfl
  obtain ⟨a, hG⟩ := hG
  have hb1 : Below w.heap.size w (w.alloc (.cells #[.slice A0 l0.length c0] 22)) := (Below.refl _ w).alloc (Nat.le_refl _) _
  have hcell : (w.alloc (.cells #[.slice A0 l0.length c0] 22)).cell? ⟨w.heap.size, 0, none⟩ = some (.slice A0 l0.length c0) := by simp [go_sem]
  have eg : ∀ args w, (callFunc 71 args).run Tryd.prog w = .ok (.enter 71 args) w := enters_of Tryd.func71 (by kernel_rfl) rfl
  have hin := fun W (hb : Below (w.alloc (.cells #[.slice A0 l0.length c0] 22)).heap.size (w.alloc (.cells #[.slice A0 l0.length c0] 22)) W) =>
    (total1_any ⟨w.heap.size, 0, none⟩ A0 c0 l0 a W (pw_cell_below hb hcell) (Kd.C_below (Kd.C_below hr0 hb1) hb) (pw_cell_below hb (pw_cell_below hb1 hG))).mono fun e w' (h : e = endI a (sum_totG l0 0) ∧ w' = W) => (⟨h.1, h.2 ▸ Below.refl _ _⟩ : e = endI a (sum_totG l0 0) ∧ Below W.heap.size W w')
  have hcall : Calls Tryd.prog 70 #[.func (.func 71) #[] #[.pointer (some ⟨w.heap.size, 0, none⟩)]] (w.alloc (.cells #[.slice A0 l0.length c0] 22))
      fun e w' => e = .returned (.tuple #[.int .i64 r1, .int .i64 r2]) ∧ Below w.heap.size w w' := by
    unfold sum_Total.f at h
    cases hq : sum_totG l0 0 with
    | some n =>
      rw [hq] at h hin
      simp only [errI, Option.some.injEq, Prod.mk.injEq] at h
      obtain ⟨rfl, rfl⟩ := h
      exact (within_ok _ _ eg n _ hin).mono fun e w' h => ⟨h.1, hb1.trans (h.2.mono hb1.size)⟩
    | none =>
      rw [hq] at h hin
      simp only [errI, Option.some.injEq, Prod.mk.injEq] at h
      obtain ⟨rfl, rfl⟩ := h
      exact (within_over _ _ eg a _ (pw_cell_below hb1 hG) hin).mono fun e w' h => ⟨h.1, hb1.trans (h.2.mono hb1.size)⟩
  clear hin eg hcell hb1 hG hr0 h
  go_enter Tryd.func41, Tryd.ntmps41
  go_wp2_with (go_at_call 70; refine hcall.mono ?_; rintro e w' ⟨rfl, hb⟩)
  go_ret2
  exact ⟨rfl, hb⟩
end Go.Proofs.YtooobbbpcpfddaaDoor.PA
