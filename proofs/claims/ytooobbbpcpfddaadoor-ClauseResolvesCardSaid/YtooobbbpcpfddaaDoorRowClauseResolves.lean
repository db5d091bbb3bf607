/- ClauseResolves returns true, whatever it is given, and leaves it as it was: what makes two clauses hold makes what they are resolved to hold. Conditions: those of the given row alone. -/
import Derived.Test.YtooobbbpcpfddaaDoorRLaid12
import Derived.Test.YtooobbbpcpfddaaDoorROpen
import Derived.Test.YtooobbbpcpfddaaDoorPureClauseResolves
import Derived.Test.YtooobbbpcpfddaaDoorTie
import Derived.Test.YtooobbbpcpfddaaDoorCards
import Derived.SevenTiedAt
import Derived.OpenShut
import Derived.ShutString
import Derived.WideWitness
namespace Go.Proofs.YtooobbbpcpfddaaDoor.clauseResolves
open Go.ChangeShapes Go.WideShapes Go.ChangeAt Go.RowKit Go.Proofs.YtooobbbpcpfddaaDoor.PA Go.Proofs.YtooobbbpcpfddaaDoorW.PrintWords
open Go.ChangeMaps (open_string shut_string)
theorem own : ownKnob Tryd.prog.godebug = none := by kernel_rfl
theorem laidOut : laidOutB Tryd.prog = true := by kernel_rfl
set_option maxRecDepth 100000 in
theorem lifted (os : Os) (started : os.Started) (H : Type) (enc : TypeId × Value → H) :
    ReturnsInHanded {} Tryd.checked os 10 .any (fun w args => (Rows.clauseResolvesSpec.pre enc Tryd.prog Tryd.f10 [] false w args ∧ laidMet Tryd.prog Rows.clauseResolvesRow.laid w) ∧ sizedMet enc Tryd.prog Tryd.f10 (OpenSpec.ofChange Rows.clauseResolvesSpec) false w args) (Rows.clauseResolvesSpec.post enc Tryd.prog Tryd.f10 false true false false) := by
  refine returnsInHanded_of_change_and (C := Tryd.checked) (X := fun w _ => laidMet Tryd.prog Rows.clauseResolvesRow.laid w) (fun _ _ _ hh h => h.of_heap hh) own started (by kernel_rfl) Tryd.func10
    (ChangeSpec.witness_at (enc := enc) (C := Tryd.checked) (os := os) (X := fun w _ => laidMet Tryd.prog Rows.clauseResolvesRow.laid w) false (laidWorld os) #[.slice none 0 0, .slice none 0 0, .int .i64 0] 8 rfl (by kernel_rfl) (by kernel_rfl) (by kernel_rfl) (by kernel_rfl) (by kernel_rfl) (laid_met_deBruijn32tab_deBruijn64tab_uint64pow10 os _)) ?_
  intro W base args ds gs before hval0 hW hcnd hsz0 hL _
  have hsz : (DataW.weightsEach Tryd.prog (Tryd.f10.params.toList ++ Rows.clauseResolvesSpec.plain.varTypes Tryd.prog) (ds ++ gs)).all (· ≤ reachBytes) = true := hsz0
  have hval : ∀ (j : Nat) t v, Tryd.f10.params[j]? = some t → args[j]? = some v → Value.okWide Tryd.prog W .any base t v := hval0
  have hW' := hW
  obtain ⟨p, q, hA0, hV, rfl, hfz, hnd⟩ := hW
  have hA : DataW.TrodAll enc Tryd.prog W 0 (fun _ => true) true Tryd.f10.params.toList args.toList ds p := hA0
  rw [Tryd.params10] at hA hval hsz
  obtain ⟨v0, vs0, d0, ds0, p0, q0, hargs, rfl, rfl, h0, r0⟩ := trodAll_cons hA
  obtain ⟨v1, vs1, d1, ds1, p1, q1, rfl, rfl, rfl, h1, r1⟩ := trodAll_cons r0
  obtain ⟨v2, vs2, d2, ds2, p2, q2, rfl, rfl, rfl, h2, r2⟩ := trodAll_cons r1
  obtain ⟨rfl, rfl, rfl⟩ := trodAll_nil r2
  obtain rfl : args = #[v0, v1, v2] := by cases args; simp_all
  obtain ⟨rfl, rfl⟩ := trodVars_none hV
  have hwt : ∀ n ∈ DataW.weightsEach Tryd.prog (([22, 22, 3] : List TypeId) ++ []) (([d0, d1, d2] : List (DataW H)) ++ []), n ≤ reachBytes := fun n hn => of_decide_eq_true (List.all_eq_true.1 hsz n hn)
  obtain ⟨a0, len0, cap0, rfl⟩ := okWide_slice Tryd.underlying22 (hval 0 22 v0 rfl rfl)
  have k0 := h0
  have lt0 : ∀ x ∈ p0, x.block < W.heap.size := by obtain ⟨m, hm⟩ := k0; exact DataW.trod_lt m _ _ _ hm
  obtain ⟨l0, hK0, ok0⟩ : ∃ l, ((Kd.slice 3 (Kd.int .i64))).K W l [.slice a0 len0 cap0] ∧ (okL (Tryd.prog.bytesOf 3) (okI .i64)) l := by
    obtain ⟨fuel, hf⟩ := h0
    exact (opens_slice (d := (Kd.int .i64)) (ok := (okI .i64)) Tryd.underlying22 (by kernel_rfl) (opens_int Tryd.underlying3 (by kernel_rfl))).2 enc W _ _ fuel _ _ hf (fun n hn => hwt n (DataW.weights_mem_each (j := 0) rfl rfl n hn))
  obtain ⟨A0, c0, hcs0, hc0, hr0⟩ := hK0
  simp only [List.cons.injEq, Value.slice.injEq, and_true] at hcs0
  obtain ⟨rfl, rfl, rfl⟩ := hcs0
  obtain ⟨a1, len1, cap1, rfl⟩ := okWide_slice Tryd.underlying22 (hval 1 22 v1 rfl rfl)
  have k1 := h1
  have lt1 : ∀ x ∈ p1, x.block < W.heap.size := by obtain ⟨m, hm⟩ := k1; exact DataW.trod_lt m _ _ _ hm
  obtain ⟨l1, hK1, ok1⟩ : ∃ l, ((Kd.slice 3 (Kd.int .i64))).K W l [.slice a1 len1 cap1] ∧ (okL (Tryd.prog.bytesOf 3) (okI .i64)) l := by
    obtain ⟨fuel, hf⟩ := h1
    exact (opens_slice (d := (Kd.int .i64)) (ok := (okI .i64)) Tryd.underlying22 (by kernel_rfl) (opens_int Tryd.underlying3 (by kernel_rfl))).2 enc W _ _ fuel _ _ hf (fun n hn => hwt n (DataW.weights_mem_each (j := 1) rfl rfl n hn))
  obtain ⟨A1, c1, hcs1, hc1, hr1⟩ := hK1
  simp only [List.cons.injEq, Value.slice.injEq, and_true] at hcs1
  obtain ⟨rfl, rfl, rfl⟩ := hcs1
  obtain ⟨a2, rfl, rfl, rfl, ok2⟩ := open_int Tryd.underlying3 (hval 2 3 v2 rfl rfl) h2
  obtain ⟨k, hk⟩ := ClauseResolves_pure l0 ok0 l1 ok1 a2 ok2
  refine (keelsonlaw12_ClauseResolves.calls k _ _ l0 _ _ l1 a2 true W hr0 hc0 hr1 hc1 (pow10_of_laid hL) hk).mono fun e W' ⟨he, bel⟩ => ?_
  subst he
  exact ⟨_, rfl, _, _, _, [], _, [], hW', trodAll_mk1 (shut_bool Tryd.underlying4 _), (trodAll_cons_mk (Below.trod laidOut (by kernel_rfl) (of_decide_eq_true (by kernel_rfl)) k0 bel lt0) (trodAll_cons_mk (Below.trod laidOut (by kernel_rfl) (of_decide_eq_true (by kernel_rfl)) k1 bel lt1) (trodAll_cons_mk (shut_int Tryd.underlying3 ok2) trodAll_mk0))), rfl, bel.frame _, fun h => by cases h⟩
theorem over : Rows.clauseResolvesRow.holds Tryd.pinned (OpenSpec.ofChange Rows.clauseResolvesSpec) :=
  OpenClaim.holds_of_wide 10 Tryd.f10 rfl rfl rfl rfl rfl rfl rfl ⟨rfl, rfl, rfl, rfl, rfl⟩ rfl rfl rfl rfl rfl (by kernel_rfl) Tryd.func10 (by kernel_rfl)
    (of_decide_eq_true (by kernel_rfl)) (by unfold Func.isWrapper; first | (rw [if_pos (by decide +kernel)]; kernel_rfl) | (rw [if_neg (by decide +kernel)]; exact ⟨rfl, rfl⟩))
    (fun os started H enc _ => lifted os started H enc)
theorem said : Rows.ClauseResolvesSaid := over
theorem proved : Rows.ClauseResolvesCardSaid :=
  Claim7.holds_tied_plain_at .later [] [.data, .data, .data] true (true, "50f0e204e2e1b8ec4550c1c31b3a1666561aa4646da72df0bbaa546a78d4723c") true
    said (fun _ h => by cases h) (by kernel_rfl) (fun _ h => by cases h) clauseResolves_row_tie rfl ⟨rfl, rfl⟩ (by kernel_rfl) rfl
    (fun f fn hf hfn => by
      obtain rfl : f = 10 := Option.some.inj ((show Tryd.prog.funcNamed "keelson/keelsonlaw12.ClauseResolves" = some 10 by kernel_rfl).symm.trans hf) |>.symm
      obtain rfl : fn = Tryd.f10 := (Option.some.inj (Tryd.func10.symm.trans hfn)).symm
      exact ⟨by kernel_rfl, fun j t ht => by
        rw [Tryd.params10] at ht
        have hm : t ∈ ([22, 22, 3] : List TypeId) := List.mem_of_getElem? (by simpa using ht)
        have hall : ([22, 22, 3] : List TypeId).all (fun t => !Tryd.prog.wantsStandIn t) = true := by kernel_rfl
        have := List.all_eq_true.1 hall t hm
        exact (show Tryd.prog.wantsStandIn t = false by simpa using this)⟩)
    (by kernel_rfl)
#print axioms proved
end Go.Proofs.YtooobbbpcpfddaaDoor.clauseResolves
namespace Go.Proofs.YtooobbbpcpfddaaDoor
/-- The statement, under a short name, for the claim. -/
theorem clauseResolves_holds : Rows.ClauseResolvesCardSaid := clauseResolves.proved
end Go.Proofs.YtooobbbpcpfddaaDoor
