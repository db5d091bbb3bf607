/- StanzaOnly returns true, whatever it is given, and leaves it as it was: a stanza has only some names just if each of its names is one. Conditions: those of the given row alone. -/
import Derived.Test.YtekplcjgmnahmaaDoorRLaid5
import Derived.Test.YtekplcjgmnahmaaDoorROpen
import Derived.Test.YtekplcjgmnahmaaDoorPureStanzaOnly
import Derived.Test.YtekplcjgmnahmaaDoorTie
import Derived.Test.YtekplcjgmnahmaaDoorCards
import Derived.SevenTiedAt
import Derived.OpenShut
import Derived.ShutString
import Derived.WideWitness
namespace Go.Proofs.YtekplcjgmnahmaaDoor.stanzaOnly
open Go.ChangeShapes Go.WideShapes Go.ChangeAt Go.RowKit Go.Proofs.YtekplcjgmnahmaaDoor.PA Go.Proofs.YtekplcjgmnahmaaDoorW.PrintWords
open Go.ChangeMaps (open_string shut_string)
theorem own : ownKnob Tryd.prog.godebug = none := by kernel_rfl
theorem laidOut : laidOutB Tryd.prog = true := by kernel_rfl
set_option maxRecDepth 100000 in
theorem lifted (os : Os) (started : os.Started) (H : Type) (enc : TypeId × Value → H) :
    ReturnsInHanded {} Tryd.checked os 7 .any (fun w args => (Rows.stanzaOnlySpec.pre enc Tryd.prog Tryd.f7 [] false w args ∧ laidMet Tryd.prog Rows.stanzaOnlyRow.laid w) ∧ sizedMet enc Tryd.prog Tryd.f7 (OpenSpec.ofChange Rows.stanzaOnlySpec) false w args) (Rows.stanzaOnlySpec.post enc Tryd.prog Tryd.f7 false true false false) := by
  refine returns_laid_shaped (C := Tryd.checked) (X := fun w _ => laidMet Tryd.prog Rows.stanzaOnlyRow.laid w) (fun _ _ _ hh h => h.of_heap hh) own started (by kernel_rfl) Tryd.func7
    (ChangeSpec.witness_at (enc := enc) (C := Tryd.checked) (os := os) (X := fun w _ => laidMet Tryd.prog Rows.stanzaOnlyRow.laid w) false (laidWorld os) #[.slice none 0 0, .slice none 0 0, .string ByteArray.empty] 8 rfl (by kernel_rfl) (by kernel_rfl) (by kernel_rfl) (by kernel_rfl) (by kernel_rfl) (laid_met_acceptRanges_first os _)) ?_
  intro W base args ds gs before hval0 hW hcnd hsz0 hL hSh _
  have hsz : (DataW.weightsEach Tryd.prog (Tryd.f7.params.toList ++ Rows.stanzaOnlySpec.plain.varTypes Tryd.prog) (ds ++ gs)).all (· ≤ reachBytes) = true := hsz0
  have hval : ∀ (j : Nat) t v, Tryd.f7.params[j]? = some t → args[j]? = some v → Value.okWide Tryd.prog W .any base t v := hval0
  have hW' := hW
  obtain ⟨p, q, hA0, hV, rfl, hfz, hnd⟩ := hW
  have hA : DataW.TrodAll enc Tryd.prog W 0 (fun _ => true) true Tryd.f7.params.toList args.toList ds p := hA0
  rw [Tryd.params7] at hA hval hsz
  obtain ⟨v0, vs0, d0, ds0, p0, q0, hargs, rfl, rfl, h0, r0⟩ := trodAll_cons hA
  obtain ⟨v1, vs1, d1, ds1, p1, q1, rfl, rfl, rfl, h1, r1⟩ := trodAll_cons r0
  obtain ⟨v2, vs2, d2, ds2, p2, q2, rfl, rfl, rfl, h2, r2⟩ := trodAll_cons r1
  obtain ⟨rfl, rfl, rfl⟩ := trodAll_nil r2
  obtain rfl : args = #[v0, v1, v2] := by cases args; simp_all
  obtain ⟨rfl, rfl⟩ := trodVars_none hV
  have hwt : ∀ n ∈ DataW.weightsEach Tryd.prog (([36, 42, 9] : List TypeId) ++ []) (([d0, d1, d2] : List (DataW H)) ++ []), n ≤ reachBytes := fun n hn => of_decide_eq_true (List.all_eq_true.1 hsz n hn)
  obtain ⟨a0, len0, cap0, rfl⟩ := okWide_slice Tryd.underlying36 (hval 0 36 v0 rfl rfl)
  have k0 := h0
  have lt0 : ∀ x ∈ p0, x.block < W.heap.size := by obtain ⟨m, hm⟩ := k0; exact DataW.trod_lt m _ _ _ hm
  obtain ⟨l0, hK0, ok0⟩ : ∃ l, ((Kd.slice 49 k49)).K W l [.slice a0 len0 cap0] ∧ (okL (Tryd.prog.bytesOf 49) (fun x : S49 => (okP okS okS) (x.f0, x.f1))) l := by
    obtain ⟨fuel, hf⟩ := h0
    exact (opens_slice (d := k49) (ok := (fun x : S49 => (okP okS okS) (x.f0, x.f1))) Tryd.underlying36 (by kernel_rfl) (opens_iso (fun x : S49 => (x.f0, x.f1)) (fun p => ⟨p.1, p.2⟩) (fun _ => rfl) (opens_struct (ts := [9, 9]) Tryd.underlying49 (by kernel_rfl) (by kernel_rfl) (by kernel_rfl) (opensF_cons (opens_string Tryd.underlying9 (by kernel_rfl)) (opensF_one (opens_string Tryd.underlying9 (by kernel_rfl))))))).2 enc W _ _ fuel _ _ hf (fun n hn => hwt n (DataW.weights_mem_each (j := 0) rfl rfl n hn))
  obtain ⟨A0, c0, hcs0, hc0, hr0⟩ := hK0
  simp only [List.cons.injEq, Value.slice.injEq, and_true] at hcs0
  obtain ⟨rfl, rfl, rfl⟩ := hcs0
  obtain ⟨a1, len1, cap1, rfl⟩ := okWide_slice Tryd.underlying42 (hval 1 42 v1 rfl rfl)
  have k1 := h1
  have lt1 : ∀ x ∈ p1, x.block < W.heap.size := by obtain ⟨m, hm⟩ := k1; exact DataW.trod_lt m _ _ _ hm
  obtain ⟨l1, hK1, ok1⟩ : ∃ l, ((Kd.slice 9 Kd.string)).K W l [.slice a1 len1 cap1] ∧ (okL (Tryd.prog.bytesOf 9) okS) l := by
    obtain ⟨fuel, hf⟩ := h1
    exact (opens_slice (d := Kd.string) (ok := okS) Tryd.underlying42 (by kernel_rfl) (opens_string Tryd.underlying9 (by kernel_rfl))).2 enc W _ _ fuel _ _ hf (fun n hn => hwt n (DataW.weights_mem_each (j := 1) rfl rfl n hn))
  obtain ⟨A1, c1, hcs1, hc1, hr1⟩ := hK1
  simp only [List.cons.injEq, Value.slice.injEq, and_true] at hcs1
  obtain ⟨rfl, rfl, rfl⟩ := hcs1
  obtain ⟨a2, rfl, rfl, rfl, y2⟩ := open_string Tryd.underlying9 (hval 2 9 v2 rfl rfl) h2
  have ok2 : okS a2 := by
    have z := sized_string hsz (j := 2) (t := 9) rfl rfl
    rw [Array.length_toList] at z
    exact z
  obtain ⟨k, hk⟩ := StanzaOnly_pure l0 ok0 l1 ok1 a2 ok2
  refine (keelsonlaw5_StanzaOnly.calls k _ _ l0 _ _ l1 a2 true W hr0 hc0 hr1 hc1 (maxLen_of_shape hSh) hk).mono fun e W' ⟨he, bel⟩ => ?_
  subst he
  exact ⟨_, rfl, _, _, _, [], _, [], hW', trodAll_mk1 (shut_bool Tryd.underlying4 _), (trodAll_cons_mk (Below.trod laidOut (by kernel_rfl) (of_decide_eq_true (by kernel_rfl)) k0 bel lt0) (trodAll_cons_mk (Below.trod laidOut (by kernel_rfl) (of_decide_eq_true (by kernel_rfl)) k1 bel lt1) (trodAll_cons_mk (shut_string Tryd.underlying9 y2) trodAll_mk0))), rfl, bel.frame _, fun h => by cases h⟩
theorem over : Rows.stanzaOnlyRow.holds Tryd.pinned (OpenSpec.ofChange Rows.stanzaOnlySpec) :=
  OpenClaim.holds_of_wide 7 Tryd.f7 rfl rfl rfl rfl rfl rfl rfl ⟨rfl, rfl, rfl, rfl, rfl⟩ rfl rfl rfl rfl rfl (by kernel_rfl) Tryd.func7 (by kernel_rfl)
    (of_decide_eq_true (by kernel_rfl)) (by unfold Func.isWrapper; first | (rw [if_pos (by decide +kernel)]; kernel_rfl) | (rw [if_neg (by decide +kernel)]; exact ⟨rfl, rfl⟩))
    (fun os started H enc _ => lifted os started H enc)
theorem said : Rows.StanzaOnlySaid := over
theorem proved : Rows.StanzaOnlyCardSaid :=
  Claim7.holds_tied_plain_at .later [] [.data, .pinned] true (true, "e92b81f376b973091396ef97f828d6e392391b83c63ac2be2249062c92d9016a") true
    said (fun _ h => by cases h) (by kernel_rfl) (fun _ h => by cases h) stanzaOnly_row_tie rfl ⟨rfl, rfl⟩ (by kernel_rfl) rfl
    (fun f fn hf hfn => by
      obtain rfl : f = 7 := Option.some.inj ((show Tryd.prog.funcNamed "keelson/keelsonlaw5.StanzaOnly" = some 7 by kernel_rfl).symm.trans hf) |>.symm
      obtain rfl : fn = Tryd.f7 := (Option.some.inj (Tryd.func7.symm.trans hfn)).symm
      exact ⟨by kernel_rfl, fun j t ht => by
        rw [Tryd.params7] at ht
        have hm : t ∈ ([36, 42, 9] : List TypeId) := List.mem_of_getElem? (by simpa using ht)
        have hall : ([36, 42, 9] : List TypeId).all (fun t => !Tryd.prog.wantsStandIn t) = true := by kernel_rfl
        have := List.all_eq_true.1 hall t hm
        exact (show Tryd.prog.wantsStandIn t = false by simpa using this)⟩)
    (by kernel_rfl)
#print axioms proved
end Go.Proofs.YtekplcjgmnahmaaDoor.stanzaOnly
namespace Go.Proofs.YtekplcjgmnahmaaDoor
/-- The statement, under a short name, for the claim. -/
theorem stanzaOnly_holds : Rows.StanzaOnlyCardSaid := stanzaOnly.proved
end Go.Proofs.YtekplcjgmnahmaaDoor
