/- CountJoins returns true, whatever it is given, and leaves it as it was: terms one behind the other weigh what each row weighs, added, and limits that are less hold of no truth more. Conditions: those of the given row alone. -/
import Derived.Test.YtooobbbpcpfddaaDoorRLaid
import Derived.Test.YtooobbbpcpfddaaDoorROpen
import Derived.Test.YtooobbbpcpfddaaDoorPureCountJoins
import Derived.Test.YtooobbbpcpfddaaDoorTie
import Derived.Test.YtooobbbpcpfddaaDoorCards
import Derived.SevenTiedAt
import Derived.OpenShut
import Derived.ShutString
import Derived.WideWitness
namespace Go.Proofs.YtooobbbpcpfddaaDoor.countJoins
open Go.ChangeShapes Go.WideShapes Go.ChangeAt Go.RowKit Go.Proofs.YtooobbbpcpfddaaDoor.PA Go.Proofs.YtooobbbpcpfddaaDoorW.PrintWords
open Go.ChangeMaps (open_string shut_string)
theorem own : ownKnob Tryd.prog.godebug = none := by kernel_rfl
theorem laidOut : laidOutB Tryd.prog = true := by kernel_rfl
set_option maxRecDepth 100000 in
theorem lifted (os : Os) (started : os.Started) (H : Type) (enc : TypeId × Value → H) :
    ReturnsInHanded {} Tryd.checked os 4 .any (fun w args => (Rows.countJoinsSpec.pre enc Tryd.prog Tryd.f4 [] false w args ∧ laidMet Tryd.prog Rows.countJoinsRow.laid w) ∧ sizedMet enc Tryd.prog Tryd.f4 (OpenSpec.ofChange Rows.countJoinsSpec) false w args) (Rows.countJoinsSpec.post enc Tryd.prog Tryd.f4 false true false false) := by
  refine returnsInHanded_of_change_and (C := Tryd.checked) (X := fun w _ => laidMet Tryd.prog Rows.countJoinsRow.laid w) (fun _ _ _ hh h => h.of_heap hh) own started (by kernel_rfl) Tryd.func4
    (ChangeSpec.witness_at (enc := enc) (C := Tryd.checked) (os := os) (X := fun w _ => laidMet Tryd.prog Rows.countJoinsRow.laid w) false (laidWorld os) #[.slice none 0 0, .slice none 0 0, .slice none 0 0, .int .i64 0, .slice none 0 0, .int .i64 0, .int .i64 0] 8 rfl (by kernel_rfl) (by kernel_rfl) (by kernel_rfl) (by kernel_rfl) (by kernel_rfl) (laid_met_errOver os _)) ?_
  intro W base args ds gs before hval0 hW hcnd hsz0 hL _
  have hsz : (DataW.weightsEach Tryd.prog (Tryd.f4.params.toList ++ Rows.countJoinsSpec.plain.varTypes Tryd.prog) (ds ++ gs)).all (· ≤ reachBytes) = true := hsz0
  have hval : ∀ (j : Nat) t v, Tryd.f4.params[j]? = some t → args[j]? = some v → Value.okWide Tryd.prog W .any base t v := hval0
  have hW' := hW
  obtain ⟨p, q, hA0, hV, rfl, hfz, hnd⟩ := hW
  have hA : DataW.TrodAll enc Tryd.prog W 0 (fun _ => true) true Tryd.f4.params.toList args.toList ds p := hA0
  rw [Tryd.params4] at hA hval hsz
  obtain ⟨v0, vs0, d0, ds0, p0, q0, hargs, rfl, rfl, h0, r0⟩ := trodAll_cons hA
  obtain ⟨v1, vs1, d1, ds1, p1, q1, rfl, rfl, rfl, h1, r1⟩ := trodAll_cons r0
  obtain ⟨v2, vs2, d2, ds2, p2, q2, rfl, rfl, rfl, h2, r2⟩ := trodAll_cons r1
  obtain ⟨v3, vs3, d3, ds3, p3, q3, rfl, rfl, rfl, h3, r3⟩ := trodAll_cons r2
  obtain ⟨v4, vs4, d4, ds4, p4, q4, rfl, rfl, rfl, h4, r4⟩ := trodAll_cons r3
  obtain ⟨v5, vs5, d5, ds5, p5, q5, rfl, rfl, rfl, h5, r5⟩ := trodAll_cons r4
  obtain ⟨v6, vs6, d6, ds6, p6, q6, rfl, rfl, rfl, h6, r6⟩ := trodAll_cons r5
  obtain ⟨rfl, rfl, rfl⟩ := trodAll_nil r6
  obtain rfl : args = #[v0, v1, v2, v3, v4, v5, v6] := by cases args; simp_all
  obtain ⟨rfl, rfl⟩ := trodVars_none hV
  have hwt : ∀ n ∈ DataW.weightsEach Tryd.prog (([35, 35, 30, 3, 22, 3, 3] : List TypeId) ++ []) (([d0, d1, d2, d3, d4, d5, d6] : List (DataW H)) ++ []), n ≤ reachBytes := fun n hn => of_decide_eq_true (List.all_eq_true.1 hsz n hn)
  obtain ⟨a0, len0, cap0, rfl⟩ := okWide_slice Tryd.underlying35 (hval 0 35 v0 rfl rfl)
  have k0 := h0
  have lt0 : ∀ x ∈ p0, x.block < W.heap.size := by obtain ⟨m, hm⟩ := k0; exact DataW.trod_lt m _ _ _ hm
  obtain ⟨l0, hK0, ok0⟩ : ∃ l, ((Kd.slice 40 k40)).K W l [.slice a0 len0 cap0] ∧ (okL (Tryd.prog.bytesOf 40) (fun x : S40 => (okP (okI .i64) (okI .i64)) (x.f0, x.f1))) l := by
    obtain ⟨fuel, hf⟩ := h0
    exact (opens_slice (d := k40) (ok := (fun x : S40 => (okP (okI .i64) (okI .i64)) (x.f0, x.f1))) Tryd.underlying35 (by kernel_rfl) (opens_iso (fun x : S40 => (x.f0, x.f1)) (fun p => ⟨p.1, p.2⟩) (fun _ => rfl) (opens_struct (ts := [3, 3]) Tryd.underlying40 (by kernel_rfl) (by kernel_rfl) (by kernel_rfl) (opensF_cons (opens_int Tryd.underlying3 (by kernel_rfl)) (opensF_one (opens_int Tryd.underlying3 (by kernel_rfl))))))).2 enc W _ _ fuel _ _ hf (fun n hn => hwt n (DataW.weights_mem_each (j := 0) rfl rfl n hn))
  obtain ⟨A0, c0, hcs0, hc0, hr0⟩ := hK0
  simp only [List.cons.injEq, Value.slice.injEq, and_true] at hcs0
  obtain ⟨rfl, rfl, rfl⟩ := hcs0
  obtain ⟨a1, len1, cap1, rfl⟩ := okWide_slice Tryd.underlying35 (hval 1 35 v1 rfl rfl)
  have k1 := h1
  have lt1 : ∀ x ∈ p1, x.block < W.heap.size := by obtain ⟨m, hm⟩ := k1; exact DataW.trod_lt m _ _ _ hm
  obtain ⟨l1, hK1, ok1⟩ : ∃ l, ((Kd.slice 40 k40)).K W l [.slice a1 len1 cap1] ∧ (okL (Tryd.prog.bytesOf 40) (fun x : S40 => (okP (okI .i64) (okI .i64)) (x.f0, x.f1))) l := by
    obtain ⟨fuel, hf⟩ := h1
    exact (opens_slice (d := k40) (ok := (fun x : S40 => (okP (okI .i64) (okI .i64)) (x.f0, x.f1))) Tryd.underlying35 (by kernel_rfl) (opens_iso (fun x : S40 => (x.f0, x.f1)) (fun p => ⟨p.1, p.2⟩) (fun _ => rfl) (opens_struct (ts := [3, 3]) Tryd.underlying40 (by kernel_rfl) (by kernel_rfl) (by kernel_rfl) (opensF_cons (opens_int Tryd.underlying3 (by kernel_rfl)) (opensF_one (opens_int Tryd.underlying3 (by kernel_rfl))))))).2 enc W _ _ fuel _ _ hf (fun n hn => hwt n (DataW.weights_mem_each (j := 1) rfl rfl n hn))
  obtain ⟨A1, c1, hcs1, hc1, hr1⟩ := hK1
  simp only [List.cons.injEq, Value.slice.injEq, and_true] at hcs1
  obtain ⟨rfl, rfl, rfl⟩ := hcs1
  obtain ⟨a2, len2, cap2, rfl⟩ := okWide_slice Tryd.underlying30 (hval 2 30 v2 rfl rfl)
  have k2 := h2
  have lt2 : ∀ x ∈ p2, x.block < W.heap.size := by obtain ⟨m, hm⟩ := k2; exact DataW.trod_lt m _ _ _ hm
  obtain ⟨l2, hK2, ok2⟩ : ∃ l, ((Kd.slice 4 Kd.bool)).K W l [.slice a2 len2 cap2] ∧ (okL (Tryd.prog.bytesOf 4) okB) l := by
    obtain ⟨fuel, hf⟩ := h2
    exact (opens_slice (d := Kd.bool) (ok := okB) Tryd.underlying30 (by kernel_rfl) (opens_bool Tryd.underlying4 (by kernel_rfl))).2 enc W _ _ fuel _ _ hf (fun n hn => hwt n (DataW.weights_mem_each (j := 2) rfl rfl n hn))
  obtain ⟨A2, c2, hcs2, hc2, hr2⟩ := hK2
  simp only [List.cons.injEq, Value.slice.injEq, and_true] at hcs2
  obtain ⟨rfl, rfl, rfl⟩ := hcs2
  obtain ⟨a3, rfl, rfl, rfl, ok3⟩ := open_int Tryd.underlying3 (hval 3 3 v3 rfl rfl) h3
  obtain ⟨a4, len4, cap4, rfl⟩ := okWide_slice Tryd.underlying22 (hval 4 22 v4 rfl rfl)
  have k4 := h4
  have lt4 : ∀ x ∈ p4, x.block < W.heap.size := by obtain ⟨m, hm⟩ := k4; exact DataW.trod_lt m _ _ _ hm
  obtain ⟨l4, hK4, ok4⟩ : ∃ l, ((Kd.slice 3 (Kd.int .i64))).K W l [.slice a4 len4 cap4] ∧ (okL (Tryd.prog.bytesOf 3) (okI .i64)) l := by
    obtain ⟨fuel, hf⟩ := h4
    exact (opens_slice (d := (Kd.int .i64)) (ok := (okI .i64)) Tryd.underlying22 (by kernel_rfl) (opens_int Tryd.underlying3 (by kernel_rfl))).2 enc W _ _ fuel _ _ hf (fun n hn => hwt n (DataW.weights_mem_each (j := 4) rfl rfl n hn))
  obtain ⟨A4, c4, hcs4, hc4, hr4⟩ := hK4
  simp only [List.cons.injEq, Value.slice.injEq, and_true] at hcs4
  obtain ⟨rfl, rfl, rfl⟩ := hcs4
  obtain ⟨a5, rfl, rfl, rfl, ok5⟩ := open_int Tryd.underlying3 (hval 5 3 v5 rfl rfl) h5
  obtain ⟨a6, rfl, rfl, rfl, ok6⟩ := open_int Tryd.underlying3 (hval 6 3 v6 rfl rfl) h6
  obtain ⟨k, hk⟩ := CountJoins_pure l0 ok0 l1 ok1 l2 ok2 a3 ok3 l4 ok4 a5 ok5 a6 ok6
  refine (keelsonlaw16_CountJoins.calls k _ _ l0 _ _ l1 _ _ l2 a3 _ _ l4 a5 a6 true W hr0 hc0 hr1 hc1 hr2 hc2 hr4 hc4 (errOver_of_laid hL) hk).mono fun e W' ⟨he, bel⟩ => ?_
  subst he
  exact ⟨_, rfl, _, _, _, [], _, [], hW', trodAll_mk1 (shut_bool Tryd.underlying4 _), (trodAll_cons_mk (Below.trod laidOut (by kernel_rfl) (of_decide_eq_true (by kernel_rfl)) k0 bel lt0) (trodAll_cons_mk (Below.trod laidOut (by kernel_rfl) (of_decide_eq_true (by kernel_rfl)) k1 bel lt1) (trodAll_cons_mk (Below.trod laidOut (by kernel_rfl) (of_decide_eq_true (by kernel_rfl)) k2 bel lt2) (trodAll_cons_mk (shut_int Tryd.underlying3 ok3) (trodAll_cons_mk (Below.trod laidOut (by kernel_rfl) (of_decide_eq_true (by kernel_rfl)) k4 bel lt4) (trodAll_cons_mk (shut_int Tryd.underlying3 ok5) (trodAll_cons_mk (shut_int Tryd.underlying3 ok6) trodAll_mk0))))))), rfl, bel.frame _, fun h => by cases h⟩
theorem over : Rows.countJoinsRow.holds Tryd.pinned (OpenSpec.ofChange Rows.countJoinsSpec) :=
  OpenClaim.holds_of_wide 4 Tryd.f4 rfl rfl rfl rfl rfl rfl rfl ⟨rfl, rfl, rfl, rfl, rfl⟩ rfl rfl rfl rfl rfl (by kernel_rfl) Tryd.func4 (by kernel_rfl)
    (of_decide_eq_true (by kernel_rfl)) (by unfold Func.isWrapper; first | (rw [if_pos (by decide +kernel)]; kernel_rfl) | (rw [if_neg (by decide +kernel)]; exact ⟨rfl, rfl⟩))
    (fun os started H enc _ => lifted os started H enc)
theorem said : Rows.CountJoinsSaid := over
theorem proved : Rows.CountJoinsCardSaid :=
  Claim7.holds_tied_plain_at .later [] [.sentinel] true (true, "50f0e204e2e1b8ec4550c1c31b3a1666561aa4646da72df0bbaa546a78d4723c") true
    said (fun _ h => by cases h) (by kernel_rfl) (fun _ h => by cases h) countJoins_row_tie rfl ⟨rfl, rfl⟩ (by kernel_rfl) rfl
    (fun f fn hf hfn => by
      obtain rfl : f = 4 := Option.some.inj ((show Tryd.prog.funcNamed "keelson/keelsonlaw16.CountJoins" = some 4 by kernel_rfl).symm.trans hf) |>.symm
      obtain rfl : fn = Tryd.f4 := (Option.some.inj (Tryd.func4.symm.trans hfn)).symm
      exact ⟨by kernel_rfl, fun j t ht => by
        rw [Tryd.params4] at ht
        have hm : t ∈ ([35, 35, 30, 3, 22, 3, 3] : List TypeId) := List.mem_of_getElem? (by simpa using ht)
        have hall : ([35, 35, 30, 3, 22, 3, 3] : List TypeId).all (fun t => !Tryd.prog.wantsStandIn t) = true := by kernel_rfl
        have := List.all_eq_true.1 hall t hm
        exact (show Tryd.prog.wantsStandIn t = false by simpa using this)⟩)
    (by kernel_rfl)
#print axioms proved
end Go.Proofs.YtooobbbpcpfddaaDoor.countJoins
namespace Go.Proofs.YtooobbbpcpfddaaDoor
/-- The statement, under a short name, for the claim. -/
theorem countJoins_holds : Rows.CountJoinsCardSaid := countJoins.proved
end Go.Proofs.YtooobbbpcpfddaaDoor
