/- keelson/clause.Tidy: a clause sorted, each literal once; are both literals of a variable in it. At most 2^44 literals (the machine's room). -/
import Derived.Test.YtooobbbpcpfddaaDoorGInts
import Derived.Test.YtooobbbpcpfddaaDoorGCountLit
import Derived.Test.YtooobbbpcpfddaaDoorGMake
import Derived.Test.YtooobbbpcpfddaaDoorPAcmp0
namespace Go.Proofs.YtooobbbpcpfddaaDoor.PA
open Go.RowKit Go.Lib Go.Sort Go.Proofs.YtooobbbpcpfddaaDoorW.PrintWords Go.Proofs.YtooobbbpcpfddaaDoorW.PrintLast Go.Proofs.YtooobbbpcpfddaaDoorW.PrintMore
attribute [local go_sem] max2_int min2_int max_two min_two

/-- The order of literals: by the variable, the plain one first. -/
def keyL (x : Int) : Int := mx x (wrap64 (-x))
def cmpI (x y : Int) : Int := if x < y then -1 else if x > y then 1 else 0
def cfL (x y : Int) : Int := if cmpI (keyL x) (keyL y) ≠ 0 then cmpI (keyL x) (keyL y) else cmpI y x
theorem cfL_lt (x y : Int) : ltOf cfL x y = decide (keyL x < keyL y ∨ (keyL x = keyL y ∧ y < x)) := by
  unfold ltOf cfL cmpI
  by_cases h1 : keyL x < keyL y
  · simp [h1]
  · by_cases h2 : keyL x > keyL y
    · have : ¬ keyL x = keyL y := by omega
      simp [h1, h2, this]
    · have e : keyL x = keyL y := by omega
      by_cases h3 : y < x
      · simp [e, h3]
      · by_cases h4 : x < y <;> simp [e, h3, h4]
theorem swoL : SWO (ltOf cfL) where
  irrefl x := by rw [cfL_lt]; simp
  trans x y z h1 h2 := by rw [cfL_lt] at *; simp only [decide_eq_true_eq] at *; omega
  ntrans x y z h1 h2 := by rw [cfL_lt] at *; simp only [decide_eq_false_iff_not] at *; omega
theorem totL (x y : Int) (h1 : ltOf cfL x y = false) (h2 : ltOf cfL y x = false) : x = y := by
  rw [cfL_lt] at *; simp only [decide_eq_false_iff_not] at *; omega
def bothL : List Int → Bool
  | x :: y :: l => decide (y = wrap64 (-x)) || bothL (y :: l)
  | _ => false
def tidyL (c : List Int) : List Int := Lib.compact (c.mergeSort fun x y => !(ltOf cfL) y x)
def clause_Tidy.f (l0 : List Int) : Option (List Int × Bool) := if l0.length ≤ 17592186044416 then some (tidyL l0, bothL (tidyL l0)) else none

theorem cmp_eq (x y : Int) : cmp_Compare_int.f x y = some (cmpI x y) := by
  unfold cmp_Compare_int.f cmp_isNaN_int.f cmpI
  simp
  split
  · rfl
  · split <;> rfl
theorem or_eq (x y : Int) : ∃ k, cmp_Or_int.f k [x, y] = some (if x ≠ 0 then x else y) := by
  refine ⟨5, ?_⟩
  by_cases h : x = 0
  · subst h
    by_cases h2 : y = 0
    · subst h2; decide +kernel
    · simp [cmp_Or_int.f, cmp_Or_int.l0, Go.Proofs.YtooobbbpcpfddaaDoorW.PrintWords.rd, wrap64, h2]
  · simp [cmp_Or_int.f, cmp_Or_int.l0, Go.Proofs.YtooobbbpcpfddaaDoorW.PrintWords.rd, h]
theorem lit_two {w : World} {b : Nat} {x y : Int} (h0 : w.cell? ⟨b, 0, none⟩ = some (.int .i64 x)) (h1 : w.cell? ⟨b, 1, none⟩ = some (.int .i64 y)) : Kd.C (Kd.int .i64) w (some ⟨b, 0, none⟩) 2 [x, y] :=
  ⟨rfl, by decide, fun _ => ⟨_, rfl, fun j p hp => by
    have hj := (List.getElem?_eq_some_iff.1 hp).1
    simp at hj
    refine ⟨[.int .i64 p], rfl, rfl, fun i u hu => ?_⟩
    have hi := (List.getElem?_eq_some_iff.1 hu).1
    have hi0 : i = 0 := by simp at hi; omega
    subst hi0
    simp at hu
    subst hu
    rcases (show j = 0 ∨ j = 1 by omega) with rfl | rfl
    · simp at hp; subst hp; simpa [Addr.add] using h0
    · simp at hp; subst hp
      rw [show (Kd.int IntKind.i64).sz = 1 from rfl]
      simpa [Addr.add] using h1⟩⟩

set_option maxHeartbeats 1000000 in
set_option maxRecDepth 20000 in
theorem tidy1_any (x y : Int) (W : World) :
    Calls Tryd.prog 82 #[.int .i64 x, .int .i64 y] W fun e w' => e = .returned (.int .i64 (cfL x y)) ∧ ∃ q os', w' = grow (W.drewN q) os' := by
  obtain ⟨k, hk⟩ := or_eq (cmpI (keyL x) (keyL y)) (cmpI y x)
  have h1 := fun w => cmp_Compare_int.calls (keyL x) (keyL y) _ w (cmp_eq _ _)
  have h2 := fun w => cmp_Compare_int.calls y x _ w (cmp_eq _ _)
  have h3 : ∀ (m : Nat) (w1 : World), w1 = (W.drewN m).alloc (.cells #[.int .i64 (cmpI (keyL x) (keyL y)), .int .i64 (cmpI y x)] 3) → Calls Tryd.prog 83 #[.slice (some ⟨W.heap.size, 0, none⟩) 2 2] w1 fun e w' => e = .returned (.int .i64 (cfL x y)) ∧ ∃ q os', w' = grow (W.drewN q) os' := by
    rintro m w1 rfl
    refine (cmp_Or_int.calls k (some ⟨W.heap.size, 0, none⟩) 2 [cmpI (keyL x) (keyL y), cmpI y x] _ ((W.drewN m).alloc (.cells #[.int .i64 (cmpI (keyL x) (keyL y)), .int .i64 (cmpI y x)] 3)) (lit_two (by simp [World.cell?, World.alloc, World.drewN]) (by simp [World.cell?, World.alloc, World.drewN])) (Nat.le_refl _) hk).mono ?_
    rintro e w' ⟨rfl, q, rfl⟩
    refine ⟨rfl, m + q, #[.cells #[.int .i64 (cmpI (keyL x) (keyL y)), .int .i64 (cmpI y x)] 3], ?_⟩
    simp [World.drewN, World.alloc, grow, Nat.add_assoc]
  have HK : (if x < wrap64 (-x) then wrap64 (-x) else x) = keyL x := rfl
  have HK2 : (if y < wrap64 (-y) then wrap64 (-y) else y) = keyL y := rfl
  generalize cmpI (keyL x) (keyL y) = a at h1 h3
  generalize cmpI y x = b at h2 h3
  generalize keyL x = kx at h1 HK
  generalize keyL y = ky at h1 HK2
  generalize cfL x y = r at h3
  go_enter Tryd.func82, Tryd.ntmps82
  go_wp2_with (first | (go_at_call 84; with_reducible refine (h1 _).mono ?_; rintro e w' ⟨rfl, m, rfl⟩) | (go_at_call 84; with_reducible refine (h2 _).mono ?_; rintro e w' ⟨rfl, m, rfl⟩) | (go_at_call 83; with_reducible refine (h3 _ _ rfl).mono ?_; rintro e w' ⟨rfl, hq⟩))
  go_ret
  exact ⟨rfl, hq⟩

theorem tidy1_enters : ∀ args w, (callFunc 82 args).run Tryd.prog w = .ok (.enter 82 args) w := enters_of Tryd.func82 (by kernel_rfl) rfl
set_option maxHeartbeats 1000000 in
theorem clause_Tidy.calls (A0 : Option Addr) (c0 : Nat) (l0 : List Int) (r1 : List Int) (r2 : Bool) (w : World) (hr0 : Kd.C (Kd.int .i64) w A0 l0.length l0) (_hc0 : l0.length ≤ c0) (h : clause_Tidy.f l0 = some (r1, r2)) :
    Calls Tryd.prog 57 #[.slice A0 l0.length c0] w fun e w' => ∃ v0_ : Value, e = .returned (.tuple #[v0_, .bool r2]) ∧ Kd.R (Kd.int .i64) 3 w' w.heap.size (fun _ => True) v0_ r1 ∧ Below w.heap.size w w' := by
  unfold clause_Tidy.f at h
  split at h
  case isFalse => cases h
  case isTrue hlen =>
  simp only [Option.some.injEq, Prod.mk.injEq] at h
  obtain ⟨rfl, rfl⟩ := h
  have hcl := clone_own A0 c0 l0 w hr0 (by omega)
  have hso := fun W v => sortf_own cfL swoL totL 82 #[] tidy1_enters (fun W x y => tidy1_any x y W) w.heap.size w W v l0 (by omega)
  have hco := fun W v => compact_own w.heap.size w W v (l0.mergeSort fun x y => !(ltOf cfL) y x)
  have hT : Lib.compact (l0.mergeSort fun x y => !(ltOf cfL) y x) = tidyL l0 := rfl
  rw [hT] at hco
  generalize tidyL l0 = r at hco ⊢
  generalize (l0.mergeSort fun x y => !(ltOf cfL) y x) = q at hso hco
  have hmf := makeFunc_run
  clear hr0 hT
  go_enter Tryd.func57, Tryd.ntmps57
  go_wp2_with (first | (go_at_call 67; with_reducible refine hcl.mono ?_; rintro e w1 ⟨v1, rfl, o1⟩; have O1 := Lib.hid o1; clear o1) | (go_at_call 81; with_reducible refine (hso _ _ O1.out).mono ?_; rintro e w2 ⟨rfl, o2⟩; have O2 := Lib.hid o2; clear o2) | (go_at_call 85; with_reducible refine (hco _ _ O2.out).mono ?_; rintro e w3 ⟨v3, rfl, o3⟩; obtain ⟨A3, c3, rfl, hc3⟩ := o3.slice; have O3 := Lib.hid o3; clear o3))
  have hn : r.length ≤ 9223372036854775807 := Nat.le_trans O3.out.size (by decide)
  go_loopg [5, 6] r.length (fun gg s5 s6 wr => ∃ (j : Nat) (bb : Bool), (j + 1 ≤ r.length ∨ j = 0) ∧ r.length - j ≤ gg ∧ s5 = .bool bb ∧ s6 = .int .i64 ((j : Int) + 1) ∧ Aside (OwnS w.heap.size w wr (.slice A3 r.length c3) r) ∧ Aside ((bb || bothL (r.drop j)) = bothL r))
  case atStart => exact ⟨0, false, .inr rfl, by omega, rfl, rfl, O3.out, by rw [List.drop_zero]; exact rfl⟩
  case round =>
    obtain ⟨j, bb, hj, hg, rfl, rfl, RO, RB⟩ := hrel
    by_cases hlt : j + 1 < r.length
    · have hltz : (j : Int) + 1 < (r.length : Int) := by omega
      have hC := (Kd.R_reads' RO.out.R).2.2
      obtain ⟨ad, e, hx⟩ := Kd.at_int hC ((j : Int) + 1) (by omega) (by omega)
      obtain ⟨ad', e', hy⟩ := Kd.at_int hC (j : Int) (by omega) (by omega)
      subst e
      cases e'
      have hd : bothL (r.drop j) = (decide (r[j + 1] = wrap64 (-r[j])) || bothL (r.drop (j + 1))) := by
        rw [List.drop_eq_getElem_cons (show j < r.length by omega), List.drop_eq_getElem_cons hlt, bothL]
      rw [show Go.Proofs.YtooobbbpcpfddaaDoorW.PrintWords.rd r ((j : Int) + 1) = r[j + 1] from by unfold Go.Proofs.YtooobbbpcpfddaaDoorW.PrintWords.rd; simp [show ((j : Int) + 1).toNat = j + 1 by omega, List.getD_eq_getElem?_getD, List.getElem?_eq_getElem hlt]] at hx
      rw [show Go.Proofs.YtooobbbpcpfddaaDoorW.PrintWords.rd r (j : Int) = r[j] from by unfold Go.Proofs.YtooobbbpcpfddaaDoorW.PrintWords.rd; simp [List.getD_eq_getElem?_getD, List.getElem?_eq_getElem (show j < r.length by omega)]] at hy
      have hw : wrap64 ((j : Int) + 1 - 1) = (j : Int) := by unfold wrap64; omega
      generalize r[j + 1] = b at hx hd
      generalize r[j] = a at hy hd
      have hw' : IntKind.i64.wrap ((j : Int) + 1 - 1) = (j : Int) := by rw [i64_w]; exact hw
      have hn' : IntKind.i64.wrap (-a) = wrap64 (-a) := i64_w _
      have hx2 := hx
      have hy2 := hy
      rw [show ((j : Int) + 1).toNat = j + 1 by omega] at hx2
      rw [Int.toNat_natCast] at hy2
      have hx3 : wr.cell? ⟨ad.block, ad.off + (j + 1), none⟩ = some (.int .i64 b) := by simpa [Addr.add] using hx2
      have p1 : (0 ≤ (j : Int) + 1) = True := eq_true (by omega)
      have p2 : ((j : Int) + 1 < (r.length : Int)) = True := eq_true hltz
      have p3 : (0 ≤ (j : Int)) = True := eq_true (by omega)
      have p4 : ((j : Int) < (r.length : Int)) = True := eq_true (by omega)
      clear hC
      cases bb with
      | true =>
        have RB' := Lib.hid RB.out
        clear RB hd
        have o' := RO.out
        go_wp2
        repeat (go_quiet (fail); try go_wp2)
        go_roundg (r.length - (j + 1))
        case measure => omega
        case rel => exact ⟨j + 1, true, by omega, by omega, rfl, by go_num, RO.out.drewN _, by rw [← RB'.out]; rfl⟩
      | false =>
        rw [Bool.false_or, hd] at RB
        by_cases he : b = wrap64 (-a)
        · have he0 : (b == wrap64 (-a)) = true := beq_iff_eq.2 he
          rw [decide_eq_true he] at RB
          have RB' := Lib.hid RB.out
          clear RB hd he
          go_wp2
          repeat (go_quiet (fail); try go_wp2)
          go_roundg (r.length - (j + 1))
          case measure => omega
          case rel => exact ⟨j + 1, true, by omega, by omega, rfl, by go_num, RO.out.drewN _, by rw [← RB'.out]; rfl⟩
        · have he0 : (b == wrap64 (-a)) = false := beq_eq_false_iff_ne.2 he
          rw [decide_eq_false he] at RB
          have RB' := Lib.hid RB.out
          clear RB hd he
          go_wp2
          repeat (go_quiet (fail); try go_wp2)
          go_roundg (r.length - (j + 1))
          case measure => omega
          case rel => exact ⟨j + 1, false, by omega, by omega, rfl, by go_num, RO.out.drewN _, by rw [← RB'.out]; rfl⟩
    · have hltz : ¬ (j : Int) + 1 < (r.length : Int) := by omega
      have hfin : bothL (r.drop j) = false := by
        match hm : r.drop j with
        | [] => rfl
        | [x] => rfl
        | x :: y :: l =>
          have := congrArg List.length hm
          simp at this
          omega
      rw [hfin, Bool.or_false] at RB
      have HB := Lib.hid RB.out
      go_wp2
      go_ret2
      exact ⟨_, by rw [← HB.out]; rfl, RO.out.R, RO.out.2.1⟩
end Go.Proofs.YtooobbbpcpfddaaDoor.PA
