/- ClauseBack returns true, whatever it is given, and leaves it as it was: a right formula is parsed as it was printed, what was parsed is printed as the text. Conditions: those of the given row alone. -/
import Derived.Test.YtlcfpmdamehopaaGreatDoorBClauseBack1
import Derived.Test.YtlcfpmdamehopaaGreatDoorTie
import Derived.Test.YtlcfpmdamehopaaGreatDoorCards
import Derived.SevenTiedAt
import Derived.OpenShut
import Derived.ShutString
import Derived.WideWitness
-- Printed by gprint.py (wip/ of this repo), over the kit's print.
namespace Go.Proofs.YtlcfpmdamehopaaGreatDoor.PA
open Go.RowKit Go.Proofs.YtlcfpmdamehopaaGreatDoorW.PrintWords Go.Proofs.YtlcfpmdamehopaaGreatDoorW.PrintLast Go.Proofs.YtlcfpmdamehopaaGreatDoorW.PrintMore
attribute [local go_sem] max2_int min2_int max_two min_two max_three min_three max_four min_four   -- for this text's walks alone
set_option linter.unusedVariables false
set_option linter.unusedSimpArgs false

/-! ### keelsonlaw12_shown: function 16 -/
def keelsonlaw12_shown.f (k : Nat)  : Option (Bool) := (clause_Tidy.f (([3, (-1), 3, 1] : List Int))).bind fun bt323 => ((clause_Units.f k 3 (([(([1] : List Int)), (([(-1), 2] : List Int)), (([(-2), 3] : List Int))] : List (List Int))) ([] : List Int)).bind fun bt339 => ((clause_Units.f k 1 (([(([1] : List Int)), (([(-1)] : List Int))] : List (List Int))) ([] : List Int)).bind fun bt352 => ((clause_Resolve.f (([1, 2] : List Int)) (([(-1), 3] : List Int)) 1).bind fun bt362 => ((keelsonlaw12_sameInts.f k bt323.1 (([1, (-1), 3] : List Int))).bind fun t369 => (if t369 = true then (if bt323.2 = true then ((keelsonlaw12_sameInts.f k bt339.1 (([1, 1, 1] : List Int))).bind fun t373 => (if t373 = true then (if bt339.2 = true then (if (bt352.1.length : Int) = 0 then (if bt352.2 = true then (none) else ((keelsonlaw12_sameInts.f k bt362.1 (([2, 3] : List Int))).bind fun t377 => (if t377 = true then (if bt362.2 = true then ((clause_Print.f 2 (([(([1, (-2)] : List Int))] : List (List Int)))).bind fun t384 => (some (t384.toList == ([112, 32, 99, 110, 102, 32, 50, 32, 49, 10, 49, 32, 45, 50, 32, 48, 10] : List UInt8)))) else (none)) else (none)))) else (none)) else (none)) else (none))) else (none)) else (none))))))
theorem keelsonlaw12_shown.mono : ∀ k, LeO (keelsonlaw12_shown.f k ) (keelsonlaw12_shown.f (k + 1) ) := by
  intro  k
  unfold keelsonlaw12_shown.f
  repeat' first
      | (with_reducible exact clause_Units.mono _ _ _ _)
      | (with_reducible exact keelsonlaw12_sameInts.mono _ _ _)
      | (with_reducible exact LeO.refl _)
      | (with_reducible exact LeO.none _)
      | (with_reducible refine LeO.ite ?_ ?_)
      | (with_reducible refine LeO.bind ?_ (fun _ => ?_))
      | exact clause_Units.mono _ _ _ _
      | exact keelsonlaw12_sameInts.mono _ _ _
      | exact LeO.none _
      | refine LeO.ite ?_ ?_
      | refine LeO.bind ?_ (fun _ => ?_)
set_option maxHeartbeats 8000000 in
set_option maxRecDepth 100000 in
theorem keelsonlaw12_shown.calls (k : Nat)  (r : Bool) (w : World) (hG_pow10 : GlobPow10 w) (h : keelsonlaw12_shown.f k  = some r) :
    Calls Tryz.prog 16 #[] w fun e w' => e = .returned (.bool r) ∧ Below w.heap.size w w' := by
  have HG_pow10 := Aside0.mk hG_pow10
  clear hG_pow10
  have HB := Aside0.mk (Below.refl w.heap.size w)
  have H : ((clause_Tidy.f (([3, (-1), 3, 1] : List Int))).bind fun bt323 => ((clause_Units.f k 3 (([(([1] : List Int)), (([(-1), 2] : List Int)), (([(-2), 3] : List Int))] : List (List Int))) ([] : List Int)).bind fun bt339 => ((clause_Units.f k 1 (([(([1] : List Int)), (([(-1)] : List Int))] : List (List Int))) ([] : List Int)).bind fun bt352 => ((clause_Resolve.f (([1, 2] : List Int)) (([(-1), 3] : List Int)) 1).bind fun bt362 => ((keelsonlaw12_sameInts.f k bt323.1 (([1, (-1), 3] : List Int))).bind fun t369 => (if t369 = true then (if bt323.2 = true then ((keelsonlaw12_sameInts.f k bt339.1 (([1, 1, 1] : List Int))).bind fun t373 => (if t373 = true then (if bt339.2 = true then (if (bt352.1.length : Int) = 0 then (if bt352.2 = true then (none) else ((keelsonlaw12_sameInts.f k bt362.1 (([2, 3] : List Int))).bind fun t377 => (if t377 = true then (if bt362.2 = true then ((clause_Print.f 2 (([(([1, (-2)] : List Int))] : List (List Int)))).bind fun t384 => (some (t384.toList == ([112, 32, 99, 110, 102, 32, 50, 32, 49, 10, 49, 32, 45, 50, 32, 48, 10] : List UInt8)))) else (none)) else (none)))) else (none)) else (none)) else (none))) else (none)) else (none))))))) = some r := h
  clear h
  obtain ⟨y320, hy320⟩ : ∃ y_ : List Int, y_ = (([3, (-1), 3, 1] : List Int)) := ⟨_, rfl⟩
  replace H : ((clause_Tidy.f y320).bind fun bt323 => ((clause_Units.f k 3 (([(([1] : List Int)), (([(-1), 2] : List Int)), (([(-2), 3] : List Int))] : List (List Int))) ([] : List Int)).bind fun bt339 => ((clause_Units.f k 1 (([(([1] : List Int)), (([(-1)] : List Int))] : List (List Int))) ([] : List Int)).bind fun bt352 => ((clause_Resolve.f (([1, 2] : List Int)) (([(-1), 3] : List Int)) 1).bind fun bt362 => ((keelsonlaw12_sameInts.f k bt323.1 (([1, (-1), 3] : List Int))).bind fun t369 => (if t369 = true then (if bt323.2 = true then ((keelsonlaw12_sameInts.f k bt339.1 (([1, 1, 1] : List Int))).bind fun t373 => (if t373 = true then (if bt339.2 = true then (if (bt352.1.length : Int) = 0 then (if bt352.2 = true then (none) else ((keelsonlaw12_sameInts.f k bt362.1 (([2, 3] : List Int))).bind fun t377 => (if t377 = true then (if bt362.2 = true then ((clause_Print.f 2 (([(([1, (-2)] : List Int))] : List (List Int)))).bind fun t384 => (some (t384.toList == ([112, 32, 99, 110, 102, 32, 50, 32, 49, 10, 49, 32, 45, 50, 32, 48, 10] : List UInt8)))) else (none)) else (none)))) else (none)) else (none)) else (none))) else (none)) else (none))))))) = some r := by first | (rw [hy320]; with_reducible exact H) | (have H2_ := (Option.bind_some _ _).symm.trans H; rw [hy320]; with_reducible exact H2_) | (have H2_ := (Option.bind_some _ _).symm.trans H; with_reducible exact H2_) | with_reducible exact H | (rw [hy320]; exact H) | exact H
  have Ny320 := Aside0.mk hy320
  clear hy320
  replace H := Option.bind_eq_some_iff.mp H
  obtain ⟨⟨t323, t324⟩, A10, H⟩ := H
  replace H : ((clause_Units.f k 3 (([(([1] : List Int)), (([(-1), 2] : List Int)), (([(-2), 3] : List Int))] : List (List Int))) ([] : List Int)).bind fun bt339 => ((clause_Units.f k 1 (([(([1] : List Int)), (([(-1)] : List Int))] : List (List Int))) ([] : List Int)).bind fun bt352 => ((clause_Resolve.f (([1, 2] : List Int)) (([(-1), 3] : List Int)) 1).bind fun bt362 => ((keelsonlaw12_sameInts.f k t323 (([1, (-1), 3] : List Int))).bind fun t369 => (if t369 = true then (if t324 = true then ((keelsonlaw12_sameInts.f k bt339.1 (([1, 1, 1] : List Int))).bind fun t373 => (if t373 = true then (if bt339.2 = true then (if (bt352.1.length : Int) = 0 then (if bt352.2 = true then (none) else ((keelsonlaw12_sameInts.f k bt362.1 (([2, 3] : List Int))).bind fun t377 => (if t377 = true then (if bt362.2 = true then ((clause_Print.f 2 (([(([1, (-2)] : List Int))] : List (List Int)))).bind fun t384 => (some (t384.toList == ([112, 32, 99, 110, 102, 32, 50, 32, 49, 10, 49, 32, 45, 50, 32, 48, 10] : List UInt8)))) else (none)) else (none)))) else (none)) else (none)) else (none))) else (none)) else (none)))))) = some r := H
  have A1 := Aside0.mk A10
  clear A10
  obtain ⟨y327, hy327⟩ : ∃ y_ : List Int, y_ = (([1] : List Int)) := ⟨_, rfl⟩
  replace H : ((clause_Units.f k 3 (([y327, (([(-1), 2] : List Int)), (([(-2), 3] : List Int))] : List (List Int))) ([] : List Int)).bind fun bt339 => ((clause_Units.f k 1 (([(([1] : List Int)), (([(-1)] : List Int))] : List (List Int))) ([] : List Int)).bind fun bt352 => ((clause_Resolve.f (([1, 2] : List Int)) (([(-1), 3] : List Int)) 1).bind fun bt362 => ((keelsonlaw12_sameInts.f k t323 (([1, (-1), 3] : List Int))).bind fun t369 => (if t369 = true then (if t324 = true then ((keelsonlaw12_sameInts.f k bt339.1 (([1, 1, 1] : List Int))).bind fun t373 => (if t373 = true then (if bt339.2 = true then (if (bt352.1.length : Int) = 0 then (if bt352.2 = true then (none) else ((keelsonlaw12_sameInts.f k bt362.1 (([2, 3] : List Int))).bind fun t377 => (if t377 = true then (if bt362.2 = true then ((clause_Print.f 2 (([(([1, (-2)] : List Int))] : List (List Int)))).bind fun t384 => (some (t384.toList == ([112, 32, 99, 110, 102, 32, 50, 32, 49, 10, 49, 32, 45, 50, 32, 48, 10] : List UInt8)))) else (none)) else (none)))) else (none)) else (none)) else (none))) else (none)) else (none)))))) = some r := by first | (rw [hy327]; with_reducible exact H) | (have H2_ := (Option.bind_some _ _).symm.trans H; rw [hy327]; with_reducible exact H2_) | (have H2_ := (Option.bind_some _ _).symm.trans H; with_reducible exact H2_) | with_reducible exact H | (rw [hy327]; exact H) | exact H
  have Ny327 := Aside0.mk hy327
  clear hy327
  obtain ⟨y330, hy330⟩ : ∃ y_ : List Int, y_ = (([(-1), 2] : List Int)) := ⟨_, rfl⟩
  replace H : ((clause_Units.f k 3 (([y327, y330, (([(-2), 3] : List Int))] : List (List Int))) ([] : List Int)).bind fun bt339 => ((clause_Units.f k 1 (([(([1] : List Int)), (([(-1)] : List Int))] : List (List Int))) ([] : List Int)).bind fun bt352 => ((clause_Resolve.f (([1, 2] : List Int)) (([(-1), 3] : List Int)) 1).bind fun bt362 => ((keelsonlaw12_sameInts.f k t323 (([1, (-1), 3] : List Int))).bind fun t369 => (if t369 = true then (if t324 = true then ((keelsonlaw12_sameInts.f k bt339.1 (([1, 1, 1] : List Int))).bind fun t373 => (if t373 = true then (if bt339.2 = true then (if (bt352.1.length : Int) = 0 then (if bt352.2 = true then (none) else ((keelsonlaw12_sameInts.f k bt362.1 (([2, 3] : List Int))).bind fun t377 => (if t377 = true then (if bt362.2 = true then ((clause_Print.f 2 (([(([1, (-2)] : List Int))] : List (List Int)))).bind fun t384 => (some (t384.toList == ([112, 32, 99, 110, 102, 32, 50, 32, 49, 10, 49, 32, 45, 50, 32, 48, 10] : List UInt8)))) else (none)) else (none)))) else (none)) else (none)) else (none))) else (none)) else (none)))))) = some r := by first | (rw [hy330]; with_reducible exact H) | (have H2_ := (Option.bind_some _ _).symm.trans H; rw [hy330]; with_reducible exact H2_) | (have H2_ := (Option.bind_some _ _).symm.trans H; with_reducible exact H2_) | with_reducible exact H | (rw [hy330]; exact H) | exact H
  have Ny330 := Aside0.mk hy330
  clear hy330
  obtain ⟨y333, hy333⟩ : ∃ y_ : List Int, y_ = (([(-2), 3] : List Int)) := ⟨_, rfl⟩
  replace H : ((clause_Units.f k 3 (([y327, y330, y333] : List (List Int))) ([] : List Int)).bind fun bt339 => ((clause_Units.f k 1 (([(([1] : List Int)), (([(-1)] : List Int))] : List (List Int))) ([] : List Int)).bind fun bt352 => ((clause_Resolve.f (([1, 2] : List Int)) (([(-1), 3] : List Int)) 1).bind fun bt362 => ((keelsonlaw12_sameInts.f k t323 (([1, (-1), 3] : List Int))).bind fun t369 => (if t369 = true then (if t324 = true then ((keelsonlaw12_sameInts.f k bt339.1 (([1, 1, 1] : List Int))).bind fun t373 => (if t373 = true then (if bt339.2 = true then (if (bt352.1.length : Int) = 0 then (if bt352.2 = true then (none) else ((keelsonlaw12_sameInts.f k bt362.1 (([2, 3] : List Int))).bind fun t377 => (if t377 = true then (if bt362.2 = true then ((clause_Print.f 2 (([(([1, (-2)] : List Int))] : List (List Int)))).bind fun t384 => (some (t384.toList == ([112, 32, 99, 110, 102, 32, 50, 32, 49, 10, 49, 32, 45, 50, 32, 48, 10] : List UInt8)))) else (none)) else (none)))) else (none)) else (none)) else (none))) else (none)) else (none)))))) = some r := by first | (rw [hy333]; with_reducible exact H) | (have H2_ := (Option.bind_some _ _).symm.trans H; rw [hy333]; with_reducible exact H2_) | (have H2_ := (Option.bind_some _ _).symm.trans H; with_reducible exact H2_) | with_reducible exact H | (rw [hy333]; exact H) | exact H
  have Ny333 := Aside0.mk hy333
  clear hy333
  obtain ⟨y336, hy336⟩ : ∃ y_ : List (List Int), y_ = (([y327, y330, y333] : List (List Int))) := ⟨_, rfl⟩
  replace H : ((clause_Units.f k 3 y336 ([] : List Int)).bind fun bt339 => ((clause_Units.f k 1 (([(([1] : List Int)), (([(-1)] : List Int))] : List (List Int))) ([] : List Int)).bind fun bt352 => ((clause_Resolve.f (([1, 2] : List Int)) (([(-1), 3] : List Int)) 1).bind fun bt362 => ((keelsonlaw12_sameInts.f k t323 (([1, (-1), 3] : List Int))).bind fun t369 => (if t369 = true then (if t324 = true then ((keelsonlaw12_sameInts.f k bt339.1 (([1, 1, 1] : List Int))).bind fun t373 => (if t373 = true then (if bt339.2 = true then (if (bt352.1.length : Int) = 0 then (if bt352.2 = true then (none) else ((keelsonlaw12_sameInts.f k bt362.1 (([2, 3] : List Int))).bind fun t377 => (if t377 = true then (if bt362.2 = true then ((clause_Print.f 2 (([(([1, (-2)] : List Int))] : List (List Int)))).bind fun t384 => (some (t384.toList == ([112, 32, 99, 110, 102, 32, 50, 32, 49, 10, 49, 32, 45, 50, 32, 48, 10] : List UInt8)))) else (none)) else (none)))) else (none)) else (none)) else (none))) else (none)) else (none)))))) = some r := by first | (rw [hy336]; with_reducible exact H) | (have H2_ := (Option.bind_some _ _).symm.trans H; rw [hy336]; with_reducible exact H2_) | (have H2_ := (Option.bind_some _ _).symm.trans H; with_reducible exact H2_) | with_reducible exact H | (rw [hy336]; exact H) | exact H
  have Ny336 := Aside0.mk hy336
  clear hy336
  replace H := Option.bind_eq_some_iff.mp H
  obtain ⟨⟨t339, t340⟩, A20, H⟩ := H
  replace H : ((clause_Units.f k 1 (([(([1] : List Int)), (([(-1)] : List Int))] : List (List Int))) ([] : List Int)).bind fun bt352 => ((clause_Resolve.f (([1, 2] : List Int)) (([(-1), 3] : List Int)) 1).bind fun bt362 => ((keelsonlaw12_sameInts.f k t323 (([1, (-1), 3] : List Int))).bind fun t369 => (if t369 = true then (if t324 = true then ((keelsonlaw12_sameInts.f k t339 (([1, 1, 1] : List Int))).bind fun t373 => (if t373 = true then (if t340 = true then (if (bt352.1.length : Int) = 0 then (if bt352.2 = true then (none) else ((keelsonlaw12_sameInts.f k bt362.1 (([2, 3] : List Int))).bind fun t377 => (if t377 = true then (if bt362.2 = true then ((clause_Print.f 2 (([(([1, (-2)] : List Int))] : List (List Int)))).bind fun t384 => (some (t384.toList == ([112, 32, 99, 110, 102, 32, 50, 32, 49, 10, 49, 32, 45, 50, 32, 48, 10] : List UInt8)))) else (none)) else (none)))) else (none)) else (none)) else (none))) else (none)) else (none))))) = some r := H
  have A2 := Aside0.mk A20
  clear A20
  obtain ⟨y343, hy343⟩ : ∃ y_ : List Int, y_ = (([1] : List Int)) := ⟨_, rfl⟩
  replace H : ((clause_Units.f k 1 (([y343, (([(-1)] : List Int))] : List (List Int))) ([] : List Int)).bind fun bt352 => ((clause_Resolve.f (([1, 2] : List Int)) (([(-1), 3] : List Int)) 1).bind fun bt362 => ((keelsonlaw12_sameInts.f k t323 (([1, (-1), 3] : List Int))).bind fun t369 => (if t369 = true then (if t324 = true then ((keelsonlaw12_sameInts.f k t339 (([1, 1, 1] : List Int))).bind fun t373 => (if t373 = true then (if t340 = true then (if (bt352.1.length : Int) = 0 then (if bt352.2 = true then (none) else ((keelsonlaw12_sameInts.f k bt362.1 (([2, 3] : List Int))).bind fun t377 => (if t377 = true then (if bt362.2 = true then ((clause_Print.f 2 (([(([1, (-2)] : List Int))] : List (List Int)))).bind fun t384 => (some (t384.toList == ([112, 32, 99, 110, 102, 32, 50, 32, 49, 10, 49, 32, 45, 50, 32, 48, 10] : List UInt8)))) else (none)) else (none)))) else (none)) else (none)) else (none))) else (none)) else (none))))) = some r := by first | (rw [hy343]; with_reducible exact H) | (have H2_ := (Option.bind_some _ _).symm.trans H; rw [hy343]; with_reducible exact H2_) | (have H2_ := (Option.bind_some _ _).symm.trans H; with_reducible exact H2_) | with_reducible exact H | (rw [hy343]; exact H) | exact H
  have Ny343 := Aside0.mk hy343
  clear hy343
  obtain ⟨y346, hy346⟩ : ∃ y_ : List Int, y_ = (([(-1)] : List Int)) := ⟨_, rfl⟩
  replace H : ((clause_Units.f k 1 (([y343, y346] : List (List Int))) ([] : List Int)).bind fun bt352 => ((clause_Resolve.f (([1, 2] : List Int)) (([(-1), 3] : List Int)) 1).bind fun bt362 => ((keelsonlaw12_sameInts.f k t323 (([1, (-1), 3] : List Int))).bind fun t369 => (if t369 = true then (if t324 = true then ((keelsonlaw12_sameInts.f k t339 (([1, 1, 1] : List Int))).bind fun t373 => (if t373 = true then (if t340 = true then (if (bt352.1.length : Int) = 0 then (if bt352.2 = true then (none) else ((keelsonlaw12_sameInts.f k bt362.1 (([2, 3] : List Int))).bind fun t377 => (if t377 = true then (if bt362.2 = true then ((clause_Print.f 2 (([(([1, (-2)] : List Int))] : List (List Int)))).bind fun t384 => (some (t384.toList == ([112, 32, 99, 110, 102, 32, 50, 32, 49, 10, 49, 32, 45, 50, 32, 48, 10] : List UInt8)))) else (none)) else (none)))) else (none)) else (none)) else (none))) else (none)) else (none))))) = some r := by first | (rw [hy346]; with_reducible exact H) | (have H2_ := (Option.bind_some _ _).symm.trans H; rw [hy346]; with_reducible exact H2_) | (have H2_ := (Option.bind_some _ _).symm.trans H; with_reducible exact H2_) | with_reducible exact H | (rw [hy346]; exact H) | exact H
  have Ny346 := Aside0.mk hy346
  clear hy346
  obtain ⟨y349, hy349⟩ : ∃ y_ : List (List Int), y_ = (([y343, y346] : List (List Int))) := ⟨_, rfl⟩
  replace H : ((clause_Units.f k 1 y349 ([] : List Int)).bind fun bt352 => ((clause_Resolve.f (([1, 2] : List Int)) (([(-1), 3] : List Int)) 1).bind fun bt362 => ((keelsonlaw12_sameInts.f k t323 (([1, (-1), 3] : List Int))).bind fun t369 => (if t369 = true then (if t324 = true then ((keelsonlaw12_sameInts.f k t339 (([1, 1, 1] : List Int))).bind fun t373 => (if t373 = true then (if t340 = true then (if (bt352.1.length : Int) = 0 then (if bt352.2 = true then (none) else ((keelsonlaw12_sameInts.f k bt362.1 (([2, 3] : List Int))).bind fun t377 => (if t377 = true then (if bt362.2 = true then ((clause_Print.f 2 (([(([1, (-2)] : List Int))] : List (List Int)))).bind fun t384 => (some (t384.toList == ([112, 32, 99, 110, 102, 32, 50, 32, 49, 10, 49, 32, 45, 50, 32, 48, 10] : List UInt8)))) else (none)) else (none)))) else (none)) else (none)) else (none))) else (none)) else (none))))) = some r := by first | (rw [hy349]; with_reducible exact H) | (have H2_ := (Option.bind_some _ _).symm.trans H; rw [hy349]; with_reducible exact H2_) | (have H2_ := (Option.bind_some _ _).symm.trans H; with_reducible exact H2_) | with_reducible exact H | (rw [hy349]; exact H) | exact H
  have Ny349 := Aside0.mk hy349
  clear hy349
  replace H := Option.bind_eq_some_iff.mp H
  obtain ⟨⟨t352, t353⟩, A30, H⟩ := H
  replace H : ((clause_Resolve.f (([1, 2] : List Int)) (([(-1), 3] : List Int)) 1).bind fun bt362 => ((keelsonlaw12_sameInts.f k t323 (([1, (-1), 3] : List Int))).bind fun t369 => (if t369 = true then (if t324 = true then ((keelsonlaw12_sameInts.f k t339 (([1, 1, 1] : List Int))).bind fun t373 => (if t373 = true then (if t340 = true then (if (t352.length : Int) = 0 then (if t353 = true then (none) else ((keelsonlaw12_sameInts.f k bt362.1 (([2, 3] : List Int))).bind fun t377 => (if t377 = true then (if bt362.2 = true then ((clause_Print.f 2 (([(([1, (-2)] : List Int))] : List (List Int)))).bind fun t384 => (some (t384.toList == ([112, 32, 99, 110, 102, 32, 50, 32, 49, 10, 49, 32, 45, 50, 32, 48, 10] : List UInt8)))) else (none)) else (none)))) else (none)) else (none)) else (none))) else (none)) else (none)))) = some r := H
  have A3 := Aside0.mk A30
  clear A30
  obtain ⟨y356, hy356⟩ : ∃ y_ : List Int, y_ = (([1, 2] : List Int)) := ⟨_, rfl⟩
  replace H : ((clause_Resolve.f y356 (([(-1), 3] : List Int)) 1).bind fun bt362 => ((keelsonlaw12_sameInts.f k t323 (([1, (-1), 3] : List Int))).bind fun t369 => (if t369 = true then (if t324 = true then ((keelsonlaw12_sameInts.f k t339 (([1, 1, 1] : List Int))).bind fun t373 => (if t373 = true then (if t340 = true then (if (t352.length : Int) = 0 then (if t353 = true then (none) else ((keelsonlaw12_sameInts.f k bt362.1 (([2, 3] : List Int))).bind fun t377 => (if t377 = true then (if bt362.2 = true then ((clause_Print.f 2 (([(([1, (-2)] : List Int))] : List (List Int)))).bind fun t384 => (some (t384.toList == ([112, 32, 99, 110, 102, 32, 50, 32, 49, 10, 49, 32, 45, 50, 32, 48, 10] : List UInt8)))) else (none)) else (none)))) else (none)) else (none)) else (none))) else (none)) else (none)))) = some r := by first | (rw [hy356]; with_reducible exact H) | (have H2_ := (Option.bind_some _ _).symm.trans H; rw [hy356]; with_reducible exact H2_) | (have H2_ := (Option.bind_some _ _).symm.trans H; with_reducible exact H2_) | with_reducible exact H | (rw [hy356]; exact H) | exact H
  have Ny356 := Aside0.mk hy356
  clear hy356
  obtain ⟨y359, hy359⟩ : ∃ y_ : List Int, y_ = (([(-1), 3] : List Int)) := ⟨_, rfl⟩
  replace H : ((clause_Resolve.f y356 y359 1).bind fun bt362 => ((keelsonlaw12_sameInts.f k t323 (([1, (-1), 3] : List Int))).bind fun t369 => (if t369 = true then (if t324 = true then ((keelsonlaw12_sameInts.f k t339 (([1, 1, 1] : List Int))).bind fun t373 => (if t373 = true then (if t340 = true then (if (t352.length : Int) = 0 then (if t353 = true then (none) else ((keelsonlaw12_sameInts.f k bt362.1 (([2, 3] : List Int))).bind fun t377 => (if t377 = true then (if bt362.2 = true then ((clause_Print.f 2 (([(([1, (-2)] : List Int))] : List (List Int)))).bind fun t384 => (some (t384.toList == ([112, 32, 99, 110, 102, 32, 50, 32, 49, 10, 49, 32, 45, 50, 32, 48, 10] : List UInt8)))) else (none)) else (none)))) else (none)) else (none)) else (none))) else (none)) else (none)))) = some r := by first | (rw [hy359]; with_reducible exact H) | (have H2_ := (Option.bind_some _ _).symm.trans H; rw [hy359]; with_reducible exact H2_) | (have H2_ := (Option.bind_some _ _).symm.trans H; with_reducible exact H2_) | with_reducible exact H | (rw [hy359]; exact H) | exact H
  have Ny359 := Aside0.mk hy359
  clear hy359
  replace H := Option.bind_eq_some_iff.mp H
  obtain ⟨⟨t362, t363⟩, A40, H⟩ := H
  replace H : ((keelsonlaw12_sameInts.f k t323 (([1, (-1), 3] : List Int))).bind fun t369 => (if t369 = true then (if t324 = true then ((keelsonlaw12_sameInts.f k t339 (([1, 1, 1] : List Int))).bind fun t373 => (if t373 = true then (if t340 = true then (if (t352.length : Int) = 0 then (if t353 = true then (none) else ((keelsonlaw12_sameInts.f k t362 (([2, 3] : List Int))).bind fun t377 => (if t377 = true then (if t363 = true then ((clause_Print.f 2 (([(([1, (-2)] : List Int))] : List (List Int)))).bind fun t384 => (some (t384.toList == ([112, 32, 99, 110, 102, 32, 50, 32, 49, 10, 49, 32, 45, 50, 32, 48, 10] : List UInt8)))) else (none)) else (none)))) else (none)) else (none)) else (none))) else (none)) else (none))) = some r := H
  have A4 := Aside0.mk A40
  clear A40
  obtain ⟨y366, hy366⟩ : ∃ y_ : List Int, y_ = (([1, (-1), 3] : List Int)) := ⟨_, rfl⟩
  replace H : ((keelsonlaw12_sameInts.f k t323 y366).bind fun t369 => (if t369 = true then (if t324 = true then ((keelsonlaw12_sameInts.f k t339 (([1, 1, 1] : List Int))).bind fun t373 => (if t373 = true then (if t340 = true then (if (t352.length : Int) = 0 then (if t353 = true then (none) else ((keelsonlaw12_sameInts.f k t362 (([2, 3] : List Int))).bind fun t377 => (if t377 = true then (if t363 = true then ((clause_Print.f 2 (([(([1, (-2)] : List Int))] : List (List Int)))).bind fun t384 => (some (t384.toList == ([112, 32, 99, 110, 102, 32, 50, 32, 49, 10, 49, 32, 45, 50, 32, 48, 10] : List UInt8)))) else (none)) else (none)))) else (none)) else (none)) else (none))) else (none)) else (none))) = some r := by first | (rw [hy366]; with_reducible exact H) | (have H2_ := (Option.bind_some _ _).symm.trans H; rw [hy366]; with_reducible exact H2_) | (have H2_ := (Option.bind_some _ _).symm.trans H; with_reducible exact H2_) | with_reducible exact H | (rw [hy366]; exact H) | exact H
  have Ny366 := Aside0.mk hy366
  clear hy366
  replace H := Option.bind_eq_some_iff.mp H
  obtain ⟨t369, A50, H⟩ := H
  replace H : (if t369 = true then (if t324 = true then ((keelsonlaw12_sameInts.f k t339 (([1, 1, 1] : List Int))).bind fun t373 => (if t373 = true then (if t340 = true then (if (t352.length : Int) = 0 then (if t353 = true then (none) else ((keelsonlaw12_sameInts.f k t362 (([2, 3] : List Int))).bind fun t377 => (if t377 = true then (if t363 = true then ((clause_Print.f 2 (([(([1, (-2)] : List Int))] : List (List Int)))).bind fun t384 => (some (t384.toList == ([112, 32, 99, 110, 102, 32, 50, 32, 49, 10, 49, 32, 45, 50, 32, 48, 10] : List UInt8)))) else (none)) else (none)))) else (none)) else (none)) else (none))) else (none)) else (none)) = some r := H
  have A5 := Aside0.mk A50
  clear A50
  by_cases c6 : t369 = true
  · subst c6
    have H1 : (if t324 = true then ((keelsonlaw12_sameInts.f k t339 (([1, 1, 1] : List Int))).bind fun t373 => (if t373 = true then (if t340 = true then (if (t352.length : Int) = 0 then (if t353 = true then (none) else ((keelsonlaw12_sameInts.f k t362 (([2, 3] : List Int))).bind fun t377 => (if t377 = true then (if t363 = true then ((clause_Print.f 2 (([(([1, (-2)] : List Int))] : List (List Int)))).bind fun t384 => (some (t384.toList == ([112, 32, 99, 110, 102, 32, 50, 32, 49, 10, 49, 32, 45, 50, 32, 48, 10] : List UInt8)))) else (none)) else (none)))) else (none)) else (none)) else (none))) else (none)) = some r := by rw [if_pos rfl] at H; exact H
    clear H
    have H := H1
    clear H1
    by_cases c7 : t324 = true
    · subst c7
      have H1 : ((keelsonlaw12_sameInts.f k t339 (([1, 1, 1] : List Int))).bind fun t373 => (if t373 = true then (if t340 = true then (if (t352.length : Int) = 0 then (if t353 = true then (none) else ((keelsonlaw12_sameInts.f k t362 (([2, 3] : List Int))).bind fun t377 => (if t377 = true then (if t363 = true then ((clause_Print.f 2 (([(([1, (-2)] : List Int))] : List (List Int)))).bind fun t384 => (some (t384.toList == ([112, 32, 99, 110, 102, 32, 50, 32, 49, 10, 49, 32, 45, 50, 32, 48, 10] : List UInt8)))) else (none)) else (none)))) else (none)) else (none)) else (none))) = some r := by rw [if_pos rfl] at H; exact H
      clear H
      have H := H1
      clear H1
      obtain ⟨y370, hy370⟩ : ∃ y_ : List Int, y_ = (([1, 1, 1] : List Int)) := ⟨_, rfl⟩
      replace H : ((keelsonlaw12_sameInts.f k t339 y370).bind fun t373 => (if t373 = true then (if t340 = true then (if (t352.length : Int) = 0 then (if t353 = true then (none) else ((keelsonlaw12_sameInts.f k t362 (([2, 3] : List Int))).bind fun t377 => (if t377 = true then (if t363 = true then ((clause_Print.f 2 (([(([1, (-2)] : List Int))] : List (List Int)))).bind fun t384 => (some (t384.toList == ([112, 32, 99, 110, 102, 32, 50, 32, 49, 10, 49, 32, 45, 50, 32, 48, 10] : List UInt8)))) else (none)) else (none)))) else (none)) else (none)) else (none))) = some r := by first | (rw [hy370]; with_reducible exact H) | (have H2_ := (Option.bind_some _ _).symm.trans H; rw [hy370]; with_reducible exact H2_) | (have H2_ := (Option.bind_some _ _).symm.trans H; with_reducible exact H2_) | with_reducible exact H | (rw [hy370]; exact H) | exact H
      have Ny370 := Aside0.mk hy370
      clear hy370
      replace H := Option.bind_eq_some_iff.mp H
      obtain ⟨t373, A80, H⟩ := H
      replace H : (if t373 = true then (if t340 = true then (if (t352.length : Int) = 0 then (if t353 = true then (none) else ((keelsonlaw12_sameInts.f k t362 (([2, 3] : List Int))).bind fun t377 => (if t377 = true then (if t363 = true then ((clause_Print.f 2 (([(([1, (-2)] : List Int))] : List (List Int)))).bind fun t384 => (some (t384.toList == ([112, 32, 99, 110, 102, 32, 50, 32, 49, 10, 49, 32, 45, 50, 32, 48, 10] : List UInt8)))) else (none)) else (none)))) else (none)) else (none)) else (none)) = some r := H
      have A8 := Aside0.mk A80
      clear A80
      by_cases c9 : t373 = true
      · subst c9
        have H1 : (if t340 = true then (if (t352.length : Int) = 0 then (if t353 = true then (none) else ((keelsonlaw12_sameInts.f k t362 (([2, 3] : List Int))).bind fun t377 => (if t377 = true then (if t363 = true then ((clause_Print.f 2 (([(([1, (-2)] : List Int))] : List (List Int)))).bind fun t384 => (some (t384.toList == ([112, 32, 99, 110, 102, 32, 50, 32, 49, 10, 49, 32, 45, 50, 32, 48, 10] : List UInt8)))) else (none)) else (none)))) else (none)) else (none)) = some r := by rw [if_pos rfl] at H; exact H
        clear H
        have H := H1
        clear H1
        by_cases c10 : t340 = true
        · subst c10
          have H1 : (if (t352.length : Int) = 0 then (if t353 = true then (none) else ((keelsonlaw12_sameInts.f k t362 (([2, 3] : List Int))).bind fun t377 => (if t377 = true then (if t363 = true then ((clause_Print.f 2 (([(([1, (-2)] : List Int))] : List (List Int)))).bind fun t384 => (some (t384.toList == ([112, 32, 99, 110, 102, 32, 50, 32, 49, 10, 49, 32, 45, 50, 32, 48, 10] : List UInt8)))) else (none)) else (none)))) else (none)) = some r := by rw [if_pos rfl] at H; exact H
          clear H
          have H := H1
          clear H1
          by_cases c11 : (t352.length : Int) = 0
          · rw [if_pos c11] at H
            have c11b0 : ((t352.length : Int) == 0) = true := beq_iff_eq.mpr c11
            have c11b1 : ((t352.length : Int) != 0) = false := bne_eq_false_iff_eq.mpr c11
            clear c11
            by_cases c12 : t353 = true
            · subst c12
              have H1 : (none) = some r := by rw [if_pos rfl] at H; exact H
              clear H
              have H := H1
              clear H1
              exact absurd H (by simp)
            · replace c12 := Bool.eq_false_iff.mpr c12
              subst c12
              have H1 : ((keelsonlaw12_sameInts.f k t362 (([2, 3] : List Int))).bind fun t377 => (if t377 = true then (if t363 = true then ((clause_Print.f 2 (([(([1, (-2)] : List Int))] : List (List Int)))).bind fun t384 => (some (t384.toList == ([112, 32, 99, 110, 102, 32, 50, 32, 49, 10, 49, 32, 45, 50, 32, 48, 10] : List UInt8)))) else (none)) else (none))) = some r := by rw [if_neg (show ¬ (false = true) by decide)] at H; exact H
              clear H
              have H := H1
              clear H1
              obtain ⟨y374, hy374⟩ : ∃ y_ : List Int, y_ = (([2, 3] : List Int)) := ⟨_, rfl⟩
              replace H : ((keelsonlaw12_sameInts.f k t362 y374).bind fun t377 => (if t377 = true then (if t363 = true then ((clause_Print.f 2 (([(([1, (-2)] : List Int))] : List (List Int)))).bind fun t384 => (some (t384.toList == ([112, 32, 99, 110, 102, 32, 50, 32, 49, 10, 49, 32, 45, 50, 32, 48, 10] : List UInt8)))) else (none)) else (none))) = some r := by first | (rw [hy374]; with_reducible exact H) | (have H2_ := (Option.bind_some _ _).symm.trans H; rw [hy374]; with_reducible exact H2_) | (have H2_ := (Option.bind_some _ _).symm.trans H; with_reducible exact H2_) | with_reducible exact H | (rw [hy374]; exact H) | exact H
              have Ny374 := Aside0.mk hy374
              clear hy374
              replace H := Option.bind_eq_some_iff.mp H
              obtain ⟨t377, A130, H⟩ := H
              replace H : (if t377 = true then (if t363 = true then ((clause_Print.f 2 (([(([1, (-2)] : List Int))] : List (List Int)))).bind fun t384 => (some (t384.toList == ([112, 32, 99, 110, 102, 32, 50, 32, 49, 10, 49, 32, 45, 50, 32, 48, 10] : List UInt8)))) else (none)) else (none)) = some r := H
              have A13 := Aside0.mk A130
              clear A130
              by_cases c14 : t377 = true
              · subst c14
                have H1 : (if t363 = true then ((clause_Print.f 2 (([(([1, (-2)] : List Int))] : List (List Int)))).bind fun t384 => (some (t384.toList == ([112, 32, 99, 110, 102, 32, 50, 32, 49, 10, 49, 32, 45, 50, 32, 48, 10] : List UInt8)))) else (none)) = some r := by rw [if_pos rfl] at H; exact H
                clear H
                have H := H1
                clear H1
                by_cases c15 : t363 = true
                · subst c15
                  have H1 : ((clause_Print.f 2 (([(([1, (-2)] : List Int))] : List (List Int)))).bind fun t384 => (some (t384.toList == ([112, 32, 99, 110, 102, 32, 50, 32, 49, 10, 49, 32, 45, 50, 32, 48, 10] : List UInt8)))) = some r := by rw [if_pos rfl] at H; exact H
                  clear H
                  have H := H1
                  clear H1
                  obtain ⟨y378, hy378⟩ : ∃ y_ : List Int, y_ = (([1, (-2)] : List Int)) := ⟨_, rfl⟩
                  replace H : ((clause_Print.f 2 (([y378] : List (List Int)))).bind fun t384 => (some (t384.toList == ([112, 32, 99, 110, 102, 32, 50, 32, 49, 10, 49, 32, 45, 50, 32, 48, 10] : List UInt8)))) = some r := by first | (rw [hy378]; with_reducible exact H) | (have H2_ := (Option.bind_some _ _).symm.trans H; rw [hy378]; with_reducible exact H2_) | (have H2_ := (Option.bind_some _ _).symm.trans H; with_reducible exact H2_) | with_reducible exact H | (rw [hy378]; exact H) | exact H
                  have Ny378 := Aside0.mk hy378
                  clear hy378
                  obtain ⟨y381, hy381⟩ : ∃ y_ : List (List Int), y_ = (([y378] : List (List Int))) := ⟨_, rfl⟩
                  replace H : ((clause_Print.f 2 y381).bind fun t384 => (some (t384.toList == ([112, 32, 99, 110, 102, 32, 50, 32, 49, 10, 49, 32, 45, 50, 32, 48, 10] : List UInt8)))) = some r := by first | (rw [hy381]; with_reducible exact H) | (have H2_ := (Option.bind_some _ _).symm.trans H; rw [hy381]; with_reducible exact H2_) | (have H2_ := (Option.bind_some _ _).symm.trans H; with_reducible exact H2_) | with_reducible exact H | (rw [hy381]; exact H) | exact H
                  have Ny381 := Aside0.mk hy381
                  clear hy381
                  replace H := Option.bind_eq_some_iff.mp H
                  obtain ⟨t384, A160, H⟩ := H
                  replace H : (some (t384.toList == ([112, 32, 99, 110, 102, 32, 50, 32, 49, 10, 49, 32, 45, 50, 32, 48, 10] : List UInt8))) = some r := H
                  have A16 := Aside0.mk A160
                  clear A160
                  obtain rfl := Option.some.inj H
                  go_enter Tryz.func16, Tryz.ntmps16
                  go_wp2_with (first | ((with_reducible refine gate_dst (N := 10) rfl ?_); (try (refine gate_guard (by rfl) ?_; dsimp only)); refine Kd.R_lit (Kd.int .i64) _ 3 ?hg (N := 10) ?hd (xs := ([3, (-1), 3, 1] : List Int)) (inner := [.int .i64 3, .int .i64 (-1), .int .i64 3, .int .i64 1]) (ok := fun _ => True) (okp := fun _ => True) ?hr ?hp (fun _ hk => hk) trivial (Below.refl _ _) (Nat.le_refl _) (by simp) ?_; (case hd => rfl); (case hg => rfl); (case hr => first | (go_simp; done) | (go_simp; rfl)); (case hp => exact (Reps.one (show Kd.M (Kd.int .i64) _ _ _ 3 [.int .i64 3] from rfl) (Reps.one (show Kd.M (Kd.int .i64) _ _ _ (-1) [.int .i64 (-1)] from rfl) (Reps.one (show Kd.M (Kd.int .i64) _ _ _ 3 [.int .i64 3] from rfl) (Reps.one (show Kd.M (Kd.int .i64) _ _ _ 1 [.int .i64 1] from rfl) (Reps.none _ _)))))); intro v321 w17 ho18 hb hg_ hnew_; clear hg_ hnew_; (first | rw [← Ny320.out] at ho18 | (simp only [Int.reduceToNat] at ho18; rw [← Ny320.out] at ho18)); have n0_ := Aside0.mk (Kd.R_lower ho18 (below_size (by repeat (first | (with_reducible first | exact HB.out | apply below_alloc | apply pw_below_drewN | apply below_drew1) | exact HB.out)))); have n1_ := Aside0.mk (below_step (by repeat (first | (with_reducible first | exact HB.out | apply below_alloc | apply pw_below_drewN | apply below_drew1) | exact HB.out)) hb); clear HB; have HO322 := n0_; have HB := n1_; clear n0_ n1_; clear hb ho18; obtain ⟨Ao19, co19, eo19⟩ := Kd.R_slice HO322.out; subst eo19) | ((with_reducible refine gate_callee (f := 35) rfl ?_); refine goesL_ (some 11) rfl rfl Tryz.func35 (by kernel_rfl) rfl #[.slice Ao19 y320.length co19] rfl (by (try simp only [List.map_toArray, List.map_cons, List.map_nil]); first | done | rfl | (simp only [List.length_drop, List.length_take]; rfl)) ?_; (with_reducible refine (clause_Tidy.calls _ _ y320 t323 true _ ?side1 ?side2 A1.out).mono ?_); (case side1 => repeat (first | exact (Kd.R_reads' HO322.out).2.2 | (with_reducible refine Kd.C_alloc ?_ _) | (with_reducible refine Kd.C_drewN ?_ _) | (with_reducible refine Kd.C_drew ?_))); (case side2 => exact (Kd.R_reads' HO322.out).2.1); rintro e w20 ⟨v325, rfl, ho0, hb⟩; refine ⟨_, rfl, ?_⟩; have n0_ := Aside0.mk (Kd.R_elder' (by (with_reducible repeat (first | apply Kd.R_alloc | apply Kd.R_drewN | apply Kd.R_drew)); exact HO322.out) (Kd.R_base ho0) hb); have n1_ := Aside0.mk (Kd.R_lower (Kd.R_new' ho0 (Kd.R_lt (by (with_reducible repeat (first | apply Kd.R_alloc | apply Kd.R_drewN | apply Kd.R_drew)); exact HO322.out))) (below_size (by repeat (first | (with_reducible first | exact HB.out | apply below_alloc | apply pw_below_drewN | apply below_drew1) | exact HB.out)))); have n2_ := Aside0.mk (below_step (by repeat (first | (with_reducible first | exact HB.out | apply below_alloc | apply pw_below_drewN | apply below_drew1) | exact HB.out)) hb); clear HO322; clear HB; have HO322 := n0_; have HO326 := n1_; have HB := n2_; clear n0_ n1_ n2_; (try clear hb); (try clear hb2); (try clear hk); (try clear hi); (try clear ho0)) | ((with_reducible refine gate_dst (N := 15) rfl ?_); (try (refine gate_guard (by rfl) ?_; dsimp only)); refine Kd.R_lit (Kd.int .i64) _ 3 ?hg (N := 15) ?hd (xs := ([1] : List Int)) (inner := [.int .i64 1]) (ok := fun _ => True) (okp := fun _ => True) ?hr ?hp (fun _ hk => hk) trivial (Below.refl _ _) (Nat.le_refl _) (by simp) ?_; (case hd => rfl); (case hg => rfl); (case hr => first | (go_simp; done) | (go_simp; rfl)); (case hp => exact (Reps.one (show Kd.M (Kd.int .i64) _ _ _ 1 [.int .i64 1] from rfl) (Reps.none _ _))); intro v328 w21 ho22 hb hg_ hnew_; clear hg_ hnew_; (first | rw [← Ny327.out] at ho22 | (simp only [Int.reduceToNat] at ho22; rw [← Ny327.out] at ho22)); have n0_ := Aside0.mk (Kd.R_elder' (by (with_reducible repeat (first | apply Kd.R_alloc | apply Kd.R_drewN | apply Kd.R_drew)); exact HO322.out) (Kd.R_base ho22) hb); have n1_ := Aside0.mk (Kd.R_elder' (by (with_reducible repeat (first | apply Kd.R_alloc | apply Kd.R_drewN | apply Kd.R_drew)); exact HO326.out) (Kd.R_base ho22) hb); have n2_ := Aside0.mk (Kd.R_lower (Kd.R_new' (Kd.R_new' ho22 (Kd.R_lt (by (with_reducible repeat (first | apply Kd.R_alloc | apply Kd.R_drewN | apply Kd.R_drew)); exact HO322.out))) (Kd.R_lt (by (with_reducible repeat (first | apply Kd.R_alloc | apply Kd.R_drewN | apply Kd.R_drew)); exact HO326.out))) (below_size (by repeat (first | (with_reducible first | exact HB.out | apply below_alloc | apply pw_below_drewN | apply below_drew1) | exact HB.out)))); have n3_ := Aside0.mk (below_step (by repeat (first | (with_reducible first | exact HB.out | apply below_alloc | apply pw_below_drewN | apply below_drew1) | exact HB.out)) hb); clear HO322; clear HO326; clear HB; have HO322 := n0_; have HO326 := n1_; have HO329 := n2_; have HB := n3_; clear n0_ n1_ n2_ n3_; clear hb ho22) | ((with_reducible refine gate_dst (N := 16) rfl ?_); (try (refine gate_guard (by rfl) ?_; dsimp only)); refine Kd.R_lit (Kd.int .i64) _ 3 ?hg (N := 16) ?hd (xs := ([(-1), 2] : List Int)) (inner := [.int .i64 (-1), .int .i64 2]) (ok := fun _ => True) (okp := fun _ => True) ?hr ?hp (fun _ hk => hk) trivial (Below.refl _ _) (Nat.le_refl _) (by simp) ?_; (case hd => rfl); (case hg => rfl); (case hr => first | (go_simp; done) | (go_simp; rfl)); (case hp => exact (Reps.one (show Kd.M (Kd.int .i64) _ _ _ (-1) [.int .i64 (-1)] from rfl) (Reps.one (show Kd.M (Kd.int .i64) _ _ _ 2 [.int .i64 2] from rfl) (Reps.none _ _)))); intro v331 w23 ho24 hb hg_ hnew_; clear hg_ hnew_; (first | rw [← Ny330.out] at ho24 | (simp only [Int.reduceToNat] at ho24; rw [← Ny330.out] at ho24)); have n0_ := Aside0.mk (Kd.R_elder' (by (with_reducible repeat (first | apply Kd.R_alloc | apply Kd.R_drewN | apply Kd.R_drew)); exact HO322.out) (Kd.R_base ho24) hb); have n1_ := Aside0.mk (Kd.R_elder' (by (with_reducible repeat (first | apply Kd.R_alloc | apply Kd.R_drewN | apply Kd.R_drew)); exact HO326.out) (Kd.R_base ho24) hb); have n2_ := Aside0.mk (Kd.R_elder' (by (with_reducible repeat (first | apply Kd.R_alloc | apply Kd.R_drewN | apply Kd.R_drew)); exact HO329.out) (Kd.R_base ho24) hb); have n3_ := Aside0.mk (Kd.R_lower (Kd.R_new' (Kd.R_new' (Kd.R_new' ho24 (Kd.R_lt (by (with_reducible repeat (first | apply Kd.R_alloc | apply Kd.R_drewN | apply Kd.R_drew)); exact HO322.out))) (Kd.R_lt (by (with_reducible repeat (first | apply Kd.R_alloc | apply Kd.R_drewN | apply Kd.R_drew)); exact HO326.out))) (Kd.R_lt (by (with_reducible repeat (first | apply Kd.R_alloc | apply Kd.R_drewN | apply Kd.R_drew)); exact HO329.out))) (below_size (by repeat (first | (with_reducible first | exact HB.out | apply below_alloc | apply pw_below_drewN | apply below_drew1) | exact HB.out)))); have n4_ := Aside0.mk (below_step (by repeat (first | (with_reducible first | exact HB.out | apply below_alloc | apply pw_below_drewN | apply below_drew1) | exact HB.out)) hb); clear HO322; clear HO326; clear HO329; clear HB; have HO322 := n0_; have HO326 := n1_; have HO329 := n2_; have HO332 := n3_; have HB := n4_; clear n0_ n1_ n2_ n3_ n4_; clear hb ho24) | ((with_reducible refine gate_dst (N := 17) rfl ?_); (try (refine gate_guard (by rfl) ?_; dsimp only)); refine Kd.R_lit (Kd.int .i64) _ 3 ?hg (N := 17) ?hd (xs := ([(-2), 3] : List Int)) (inner := [.int .i64 (-2), .int .i64 3]) (ok := fun _ => True) (okp := fun _ => True) ?hr ?hp (fun _ hk => hk) trivial (Below.refl _ _) (Nat.le_refl _) (by simp) ?_; (case hd => rfl); (case hg => rfl); (case hr => first | (go_simp; done) | (go_simp; rfl)); (case hp => exact (Reps.one (show Kd.M (Kd.int .i64) _ _ _ (-2) [.int .i64 (-2)] from rfl) (Reps.one (show Kd.M (Kd.int .i64) _ _ _ 3 [.int .i64 3] from rfl) (Reps.none _ _)))); intro v334 w25 ho26 hb hg_ hnew_; clear hg_ hnew_; (first | rw [← Ny333.out] at ho26 | (simp only [Int.reduceToNat] at ho26; rw [← Ny333.out] at ho26)); have n0_ := Aside0.mk (Kd.R_elder' (by (with_reducible repeat (first | apply Kd.R_alloc | apply Kd.R_drewN | apply Kd.R_drew)); exact HO322.out) (Kd.R_base ho26) hb); have n1_ := Aside0.mk (Kd.R_elder' (by (with_reducible repeat (first | apply Kd.R_alloc | apply Kd.R_drewN | apply Kd.R_drew)); exact HO326.out) (Kd.R_base ho26) hb); have n2_ := Aside0.mk (Kd.R_elder' (by (with_reducible repeat (first | apply Kd.R_alloc | apply Kd.R_drewN | apply Kd.R_drew)); exact HO329.out) (Kd.R_base ho26) hb); have n3_ := Aside0.mk (Kd.R_elder' (by (with_reducible repeat (first | apply Kd.R_alloc | apply Kd.R_drewN | apply Kd.R_drew)); exact HO332.out) (Kd.R_base ho26) hb); have n4_ := Aside0.mk (Kd.R_lower (Kd.R_new' (Kd.R_new' (Kd.R_new' (Kd.R_new' ho26 (Kd.R_lt (by (with_reducible repeat (first | apply Kd.R_alloc | apply Kd.R_drewN | apply Kd.R_drew)); exact HO322.out))) (Kd.R_lt (by (with_reducible repeat (first | apply Kd.R_alloc | apply Kd.R_drewN | apply Kd.R_drew)); exact HO326.out))) (Kd.R_lt (by (with_reducible repeat (first | apply Kd.R_alloc | apply Kd.R_drewN | apply Kd.R_drew)); exact HO329.out))) (Kd.R_lt (by (with_reducible repeat (first | apply Kd.R_alloc | apply Kd.R_drewN | apply Kd.R_drew)); exact HO332.out))) (below_size (by repeat (first | (with_reducible first | exact HB.out | apply below_alloc | apply pw_below_drewN | apply below_drew1) | exact HB.out)))); have n5_ := Aside0.mk (below_step (by repeat (first | (with_reducible first | exact HB.out | apply below_alloc | apply pw_below_drewN | apply below_drew1) | exact HB.out)) hb); clear HO322; clear HO326; clear HO329; clear HO332; clear HB; have HO322 := n0_; have HO326 := n1_; have HO329 := n2_; have HO332 := n3_; have HO335 := n4_; have HB := n5_; clear n0_ n1_ n2_ n3_ n4_ n5_; clear hb ho26; obtain ⟨Ao27, co27, eo27⟩ := Kd.R_slice HO329.out; subst eo27; obtain ⟨Ao28, co28, eo28⟩ := Kd.R_slice HO332.out; subst eo28; obtain ⟨Ao29, co29, eo29⟩ := Kd.R_slice HO335.out; subst eo29) | ((with_reducible refine gate_dst (N := 18) rfl ?_); (try (refine gate_guard (by rfl) ?_; dsimp only)); refine Kd.N_lit (Kd.slice 3 (Kd.int .i64)) _ 64 ?hg (N' := 18) ?hd (xs := ([y327, y330, y333] : List (List Int))) (inner := [.slice Ao27 y327.length co27, .slice Ao28 y330.length co28, .slice Ao29 y333.length co29]) (ok := (fun k_ => some k_ ≠ (.slice Ao19 y320.length co19 : Value).ownBlock ∧ some k_ ≠ (v325 : Value).ownBlock)) (okp := (fun k_ => some k_ ≠ (.slice Ao19 y320.length co19 : Value).ownBlock ∧ some k_ ≠ (v325 : Value).ownBlock)) ?hr ?hp (fun _ hk => hk) ((show ∀ k_, w25.heap.size ≤ k_ → (fun k_ => some k_ ≠ (.slice Ao19 y320.length co19 : Value).ownBlock ∧ some k_ ≠ (v325 : Value).ownBlock) k_ from fun k_ hk => ⟨Kd.fresh' (Kd.R_lt (by (with_reducible repeat (first | apply Kd.R_alloc | apply Kd.R_drewN | apply Kd.R_drew)); exact HO322.out)) k_ hk, Kd.fresh' (Kd.R_lt (by (with_reducible repeat (first | apply Kd.R_alloc | apply Kd.R_drewN | apply Kd.R_drew)); exact HO326.out)) k_ hk⟩) _ (Nat.le_refl _)) (Below.refl _ _) (Nat.le_refl _) (by simp) ?_; (case hd => rfl); (case hg => rfl); (case hr => first | (go_simp; done) | (go_simp; rfl)); (case hp => exact (Reps.one (show Kd.FK (Kd.slice 3 (Kd.int .i64)) _ _ y327 [.slice Ao27 y327.length co27] from (Kd.FK_slice_mk (Kd.R_reads' (Kd.R_mono (ok' := (fun k_ => some k_ ≠ (.slice Ao19 y320.length co19 : Value).ownBlock ∧ some k_ ≠ (v325 : Value).ownBlock)) (HO329.out) (fun k_ hk => ⟨hk.1.1.1.2, hk.1.1.2⟩))).2.1 (Kd.R_F (Kd.R_mono (ok' := (fun k_ => some k_ ≠ (.slice Ao19 y320.length co19 : Value).ownBlock ∧ some k_ ≠ (v325 : Value).ownBlock)) (HO329.out) (fun k_ hk => ⟨hk.1.1.1.2, hk.1.1.2⟩))))) (Reps.one (show Kd.FK (Kd.slice 3 (Kd.int .i64)) _ _ y330 [.slice Ao28 y330.length co28] from (Kd.FK_slice_mk (Kd.R_reads' (Kd.R_mono (ok' := (fun k_ => some k_ ≠ (.slice Ao19 y320.length co19 : Value).ownBlock ∧ some k_ ≠ (v325 : Value).ownBlock)) (HO332.out) (fun k_ hk => ⟨hk.1.1.1.2, hk.1.1.2⟩))).2.1 (Kd.R_F (Kd.R_mono (ok' := (fun k_ => some k_ ≠ (.slice Ao19 y320.length co19 : Value).ownBlock ∧ some k_ ≠ (v325 : Value).ownBlock)) (HO332.out) (fun k_ hk => ⟨hk.1.1.1.2, hk.1.1.2⟩))))) (Reps.one (show Kd.FK (Kd.slice 3 (Kd.int .i64)) _ _ y333 [.slice Ao29 y333.length co29] from (Kd.FK_slice_mk (Kd.R_reads' (Kd.R_mono (ok' := (fun k_ => some k_ ≠ (.slice Ao19 y320.length co19 : Value).ownBlock ∧ some k_ ≠ (v325 : Value).ownBlock)) (HO335.out) (fun k_ hk => ⟨hk.1.1.1.2, hk.1.1.2⟩))).2.1 (Kd.R_F (Kd.R_mono (ok' := (fun k_ => some k_ ≠ (.slice Ao19 y320.length co19 : Value).ownBlock ∧ some k_ ≠ (v325 : Value).ownBlock)) (HO335.out) (fun k_ hk => ⟨hk.1.1.1.2, hk.1.1.2⟩))))) (Reps.none _ _))))); intro v337 w30 ho31 hb hg_ hnew_; clear hg_ hnew_; (first | rw [← Ny336.out] at ho31 | (simp only [Int.reduceToNat] at ho31; rw [← Ny336.out] at ho31)); have n0_ := Aside0.mk (Kd.R_below (by (with_reducible repeat (first | apply Kd.R_alloc | apply Kd.R_drewN | apply Kd.R_drew)); exact HO322.out) hb); have n1_ := Aside0.mk (Kd.R_below (by (with_reducible repeat (first | apply Kd.R_alloc | apply Kd.R_drewN | apply Kd.R_drew)); exact HO326.out) hb); have n2_ := Aside0.mk (Kd.N_lower ho31 (below_size (by repeat (first | (with_reducible first | exact HB.out | apply below_alloc | apply pw_below_drewN | apply below_drew1) | exact HB.out)))); have n3_ := Aside0.mk (below_step (by repeat (first | (with_reducible first | exact HB.out | apply below_alloc | apply pw_below_drewN | apply below_drew1) | exact HB.out)) hb); clear HO322; clear HO326; clear HB; clear HO329; clear HO332; clear HO335; have HO322 := n0_; have HO326 := n1_; have HO338 := n2_; have HB := n3_; clear n0_ n1_ n2_ n3_; clear hb ho31; obtain ⟨Ao32, co32, eo32⟩ := Kd.N_slice HO338.out; subst eo32) | ((with_reducible refine gate_callee (f := 36) rfl ?_); refine goesL_ (some 19) rfl rfl Tryz.func36 (by kernel_rfl) rfl #[.int .i64 3, .slice Ao32 y336.length co32, .slice none 0 0] rfl (by (try simp only [List.map_toArray, List.map_cons, List.map_nil]); first | done | rfl | (simp only [List.length_drop, List.length_take]; rfl)) ?_; (refine (clause_Units.calls k 3 _ _ y336 _ _ ([] : List Int) t339 true _ ?side1 ?side2 ?side3 ?side4 A2.out).mono ?_); (case side1 => repeat (first | exact (Kd.N_reads' HO338.out).2.2 | (with_reducible refine Kd.C_alloc ?_ _) | (with_reducible refine Kd.C_drewN ?_ _) | (with_reducible refine Kd.C_drew ?_))); (case side2 => exact (Kd.N_reads' HO338.out).2.1); (case side3 => exact Kd.C_nil _ _); (case side4 => exact Nat.le_refl _); rintro e w33 ⟨v341, rfl, ho0, hb⟩; refine ⟨_, rfl, ?_⟩; have n0_ := Aside0.mk (Kd.R_elder' (by (with_reducible repeat (first | apply Kd.R_alloc | apply Kd.R_drewN | apply Kd.R_drew)); exact HO322.out) (Kd.R_base ho0) hb); have n1_ := Aside0.mk (Kd.R_elder' (by (with_reducible repeat (first | apply Kd.R_alloc | apply Kd.R_drewN | apply Kd.R_drew)); exact HO326.out) (Kd.R_base ho0) hb); have n2_ := Aside0.mk (Kd.N_elder' (by (with_reducible repeat (first | apply Kd.N_alloc | apply Kd.N_drewN | apply Kd.N_drew)); exact HO338.out) (Kd.R_base ho0) hb); have n3_ := Aside0.mk (Kd.R_lower (Kd.R_new' (Kd.R_new' ho0 (Kd.R_lt (by (with_reducible repeat (first | apply Kd.R_alloc | apply Kd.R_drewN | apply Kd.R_drew)); exact HO322.out))) (Kd.R_lt (by (with_reducible repeat (first | apply Kd.R_alloc | apply Kd.R_drewN | apply Kd.R_drew)); exact HO326.out))) (below_size (by repeat (first | (with_reducible first | exact HB.out | apply below_alloc | apply pw_below_drewN | apply below_drew1) | exact HB.out)))); have n4_ := Aside0.mk (below_step (by repeat (first | (with_reducible first | exact HB.out | apply below_alloc | apply pw_below_drewN | apply below_drew1) | exact HB.out)) hb); clear HO322; clear HO326; clear HO338; clear HB; have HO322 := n0_; have HO326 := n1_; have HO338 := n2_; have HO342 := n3_; have HB := n4_; clear n0_ n1_ n2_ n3_ n4_; (try clear hb); (try clear hb2); (try clear hk); (try clear hi); (try clear ho0)) | ((with_reducible refine gate_dst (N := 23) rfl ?_); (try (refine gate_guard (by rfl) ?_; dsimp only)); refine Kd.R_lit (Kd.int .i64) _ 3 ?hg (N := 23) ?hd (xs := ([1] : List Int)) (inner := [.int .i64 1]) (ok := fun _ => True) (okp := fun _ => True) ?hr ?hp (fun _ hk => hk) trivial (Below.refl _ _) (Nat.le_refl _) (by simp) ?_; (case hd => rfl); (case hg => rfl); (case hr => first | (go_simp; done) | (go_simp; rfl)); (case hp => exact (Reps.one (show Kd.M (Kd.int .i64) _ _ _ 1 [.int .i64 1] from rfl) (Reps.none _ _))); intro v344 w34 ho35 hb hg_ hnew_; clear hg_ hnew_; (first | rw [← Ny343.out] at ho35 | (simp only [Int.reduceToNat] at ho35; rw [← Ny343.out] at ho35)); have n0_ := Aside0.mk (Kd.R_elder' (by (with_reducible repeat (first | apply Kd.R_alloc | apply Kd.R_drewN | apply Kd.R_drew)); exact HO322.out) (Kd.R_base ho35) hb); have n1_ := Aside0.mk (Kd.R_elder' (by (with_reducible repeat (first | apply Kd.R_alloc | apply Kd.R_drewN | apply Kd.R_drew)); exact HO326.out) (Kd.R_base ho35) hb); have n2_ := Aside0.mk (Kd.N_elder' (by (with_reducible repeat (first | apply Kd.N_alloc | apply Kd.N_drewN | apply Kd.N_drew)); exact HO338.out) (Kd.R_base ho35) hb); have n3_ := Aside0.mk (Kd.R_elder' (by (with_reducible repeat (first | apply Kd.R_alloc | apply Kd.R_drewN | apply Kd.R_drew)); exact HO342.out) (Kd.R_base ho35) hb); have n4_ := Aside0.mk (Kd.R_lower (Kd.R_new' (Kd.R_new' (Kd.R_new' ho35 (Kd.R_lt (by (with_reducible repeat (first | apply Kd.R_alloc | apply Kd.R_drewN | apply Kd.R_drew)); exact HO322.out))) (Kd.R_lt (by (with_reducible repeat (first | apply Kd.R_alloc | apply Kd.R_drewN | apply Kd.R_drew)); exact HO326.out))) (Kd.R_lt (by (with_reducible repeat (first | apply Kd.R_alloc | apply Kd.R_drewN | apply Kd.R_drew)); exact HO342.out))) (below_size (by repeat (first | (with_reducible first | exact HB.out | apply below_alloc | apply pw_below_drewN | apply below_drew1) | exact HB.out)))); have n5_ := Aside0.mk (below_step (by repeat (first | (with_reducible first | exact HB.out | apply below_alloc | apply pw_below_drewN | apply below_drew1) | exact HB.out)) hb); clear HO322; clear HO326; clear HO338; clear HO342; clear HB; have HO322 := n0_; have HO326 := n1_; have HO338 := n2_; have HO342 := n3_; have HO345 := n4_; have HB := n5_; clear n0_ n1_ n2_ n3_ n4_ n5_; clear hb ho35) | ((with_reducible refine gate_dst (N := 24) rfl ?_); (try (refine gate_guard (by rfl) ?_; dsimp only)); refine Kd.R_lit (Kd.int .i64) _ 3 ?hg (N := 24) ?hd (xs := ([(-1)] : List Int)) (inner := [.int .i64 (-1)]) (ok := fun _ => True) (okp := fun _ => True) ?hr ?hp (fun _ hk => hk) trivial (Below.refl _ _) (Nat.le_refl _) (by simp) ?_; (case hd => rfl); (case hg => rfl); (case hr => first | (go_simp; done) | (go_simp; rfl)); (case hp => exact (Reps.one (show Kd.M (Kd.int .i64) _ _ _ (-1) [.int .i64 (-1)] from rfl) (Reps.none _ _))); intro v347 w36 ho37 hb hg_ hnew_; clear hg_ hnew_; (first | rw [← Ny346.out] at ho37 | (simp only [Int.reduceToNat] at ho37; rw [← Ny346.out] at ho37)); have n0_ := Aside0.mk (Kd.R_elder' (by (with_reducible repeat (first | apply Kd.R_alloc | apply Kd.R_drewN | apply Kd.R_drew)); exact HO322.out) (Kd.R_base ho37) hb); have n1_ := Aside0.mk (Kd.R_elder' (by (with_reducible repeat (first | apply Kd.R_alloc | apply Kd.R_drewN | apply Kd.R_drew)); exact HO326.out) (Kd.R_base ho37) hb); have n2_ := Aside0.mk (Kd.N_elder' (by (with_reducible repeat (first | apply Kd.N_alloc | apply Kd.N_drewN | apply Kd.N_drew)); exact HO338.out) (Kd.R_base ho37) hb); have n3_ := Aside0.mk (Kd.R_elder' (by (with_reducible repeat (first | apply Kd.R_alloc | apply Kd.R_drewN | apply Kd.R_drew)); exact HO342.out) (Kd.R_base ho37) hb); have n4_ := Aside0.mk (Kd.R_elder' (by (with_reducible repeat (first | apply Kd.R_alloc | apply Kd.R_drewN | apply Kd.R_drew)); exact HO345.out) (Kd.R_base ho37) hb); have n5_ := Aside0.mk (Kd.R_lower (Kd.R_new' (Kd.R_new' (Kd.R_new' (Kd.R_new' ho37 (Kd.R_lt (by (with_reducible repeat (first | apply Kd.R_alloc | apply Kd.R_drewN | apply Kd.R_drew)); exact HO322.out))) (Kd.R_lt (by (with_reducible repeat (first | apply Kd.R_alloc | apply Kd.R_drewN | apply Kd.R_drew)); exact HO326.out))) (Kd.R_lt (by (with_reducible repeat (first | apply Kd.R_alloc | apply Kd.R_drewN | apply Kd.R_drew)); exact HO342.out))) (Kd.R_lt (by (with_reducible repeat (first | apply Kd.R_alloc | apply Kd.R_drewN | apply Kd.R_drew)); exact HO345.out))) (below_size (by repeat (first | (with_reducible first | exact HB.out | apply below_alloc | apply pw_below_drewN | apply below_drew1) | exact HB.out)))); have n6_ := Aside0.mk (below_step (by repeat (first | (with_reducible first | exact HB.out | apply below_alloc | apply pw_below_drewN | apply below_drew1) | exact HB.out)) hb); clear HO322; clear HO326; clear HO338; clear HO342; clear HO345; clear HB; have HO322 := n0_; have HO326 := n1_; have HO338 := n2_; have HO342 := n3_; have HO345 := n4_; have HO348 := n5_; have HB := n6_; clear n0_ n1_ n2_ n3_ n4_ n5_ n6_; clear hb ho37; obtain ⟨Ao38, co38, eo38⟩ := Kd.R_slice HO345.out; subst eo38; obtain ⟨Ao39, co39, eo39⟩ := Kd.R_slice HO348.out; subst eo39) | ((with_reducible refine gate_dst (N := 25) rfl ?_); (try (refine gate_guard (by rfl) ?_; dsimp only)); refine Kd.N_lit (Kd.slice 3 (Kd.int .i64)) _ 64 ?hg (N' := 25) ?hd (xs := ([y343, y346] : List (List Int))) (inner := [.slice Ao38 y343.length co38, .slice Ao39 y346.length co39]) (ok := (fun k_ => some k_ ≠ (.slice Ao19 y320.length co19 : Value).ownBlock ∧ some k_ ≠ (v325 : Value).ownBlock ∧ some k_ ≠ (.slice Ao32 y336.length co32 : Value).ownBlock ∧ some k_ ≠ (v341 : Value).ownBlock)) (okp := (fun k_ => some k_ ≠ (.slice Ao19 y320.length co19 : Value).ownBlock ∧ some k_ ≠ (v325 : Value).ownBlock ∧ some k_ ≠ (.slice Ao32 y336.length co32 : Value).ownBlock ∧ some k_ ≠ (v341 : Value).ownBlock)) ?hr ?hp (fun _ hk => hk) ((show ∀ k_, w36.heap.size ≤ k_ → (fun k_ => some k_ ≠ (.slice Ao19 y320.length co19 : Value).ownBlock ∧ some k_ ≠ (v325 : Value).ownBlock ∧ some k_ ≠ (.slice Ao32 y336.length co32 : Value).ownBlock ∧ some k_ ≠ (v341 : Value).ownBlock) k_ from fun k_ hk => ⟨Kd.fresh' (Kd.R_lt (by (with_reducible repeat (first | apply Kd.R_alloc | apply Kd.R_drewN | apply Kd.R_drew)); exact HO322.out)) k_ hk, Kd.fresh' (Kd.R_lt (by (with_reducible repeat (first | apply Kd.R_alloc | apply Kd.R_drewN | apply Kd.R_drew)); exact HO326.out)) k_ hk, Kd.fresh' (Kd.N_lt (by (with_reducible repeat (first | apply Kd.N_alloc | apply Kd.N_drewN | apply Kd.N_drew)); exact HO338.out)) k_ hk, Kd.fresh' (Kd.R_lt (by (with_reducible repeat (first | apply Kd.R_alloc | apply Kd.R_drewN | apply Kd.R_drew)); exact HO342.out)) k_ hk⟩) _ (Nat.le_refl _)) (Below.refl _ _) (Nat.le_refl _) (by simp) ?_; (case hd => rfl); (case hg => rfl); (case hr => first | (go_simp; done) | (go_simp; rfl)); (case hp => exact (Reps.one (show Kd.FK (Kd.slice 3 (Kd.int .i64)) _ _ y343 [.slice Ao38 y343.length co38] from (Kd.FK_slice_mk (Kd.R_reads' (Kd.R_mono (ok' := (fun k_ => some k_ ≠ (.slice Ao19 y320.length co19 : Value).ownBlock ∧ some k_ ≠ (v325 : Value).ownBlock ∧ some k_ ≠ (.slice Ao32 y336.length co32 : Value).ownBlock ∧ some k_ ≠ (v341 : Value).ownBlock)) (Kd.R_apart' (HO345.out) (Kd.N_typed HO338.out) (by decide)) (fun k_ hk => ⟨hk.1.1.1.1.2, ⟨hk.1.1.1.2, ⟨hk.2, hk.1.1.2⟩⟩⟩))).2.1 (Kd.R_F (Kd.R_mono (ok' := (fun k_ => some k_ ≠ (.slice Ao19 y320.length co19 : Value).ownBlock ∧ some k_ ≠ (v325 : Value).ownBlock ∧ some k_ ≠ (.slice Ao32 y336.length co32 : Value).ownBlock ∧ some k_ ≠ (v341 : Value).ownBlock)) (Kd.R_apart' (HO345.out) (Kd.N_typed HO338.out) (by decide)) (fun k_ hk => ⟨hk.1.1.1.1.2, ⟨hk.1.1.1.2, ⟨hk.2, hk.1.1.2⟩⟩⟩))))) (Reps.one (show Kd.FK (Kd.slice 3 (Kd.int .i64)) _ _ y346 [.slice Ao39 y346.length co39] from (Kd.FK_slice_mk (Kd.R_reads' (Kd.R_mono (ok' := (fun k_ => some k_ ≠ (.slice Ao19 y320.length co19 : Value).ownBlock ∧ some k_ ≠ (v325 : Value).ownBlock ∧ some k_ ≠ (.slice Ao32 y336.length co32 : Value).ownBlock ∧ some k_ ≠ (v341 : Value).ownBlock)) (Kd.R_apart' (HO348.out) (Kd.N_typed HO338.out) (by decide)) (fun k_ hk => ⟨hk.1.1.1.1.2, ⟨hk.1.1.1.2, ⟨hk.2, hk.1.1.2⟩⟩⟩))).2.1 (Kd.R_F (Kd.R_mono (ok' := (fun k_ => some k_ ≠ (.slice Ao19 y320.length co19 : Value).ownBlock ∧ some k_ ≠ (v325 : Value).ownBlock ∧ some k_ ≠ (.slice Ao32 y336.length co32 : Value).ownBlock ∧ some k_ ≠ (v341 : Value).ownBlock)) (Kd.R_apart' (HO348.out) (Kd.N_typed HO338.out) (by decide)) (fun k_ hk => ⟨hk.1.1.1.1.2, ⟨hk.1.1.1.2, ⟨hk.2, hk.1.1.2⟩⟩⟩))))) (Reps.none _ _)))); intro v350 w40 ho41 hb hg_ hnew_; clear hg_ hnew_; (first | rw [← Ny349.out] at ho41 | (simp only [Int.reduceToNat] at ho41; rw [← Ny349.out] at ho41)); have n0_ := Aside0.mk (Kd.R_below (by (with_reducible repeat (first | apply Kd.R_alloc | apply Kd.R_drewN | apply Kd.R_drew)); exact HO322.out) hb); have n1_ := Aside0.mk (Kd.R_below (by (with_reducible repeat (first | apply Kd.R_alloc | apply Kd.R_drewN | apply Kd.R_drew)); exact HO326.out) hb); have n2_ := Aside0.mk (Kd.N_elder' (by (with_reducible repeat (first | apply Kd.N_alloc | apply Kd.N_drewN | apply Kd.N_drew)); exact HO338.out) (Kd.N_base ho41) hb); have n3_ := Aside0.mk (Kd.R_below (by (with_reducible repeat (first | apply Kd.R_alloc | apply Kd.R_drewN | apply Kd.R_drew)); exact HO342.out) hb); have n4_ := Aside0.mk (Kd.N_lower ho41 (below_size (by repeat (first | (with_reducible first | exact HB.out | apply below_alloc | apply pw_below_drewN | apply below_drew1) | exact HB.out)))); have n5_ := Aside0.mk (below_step (by repeat (first | (with_reducible first | exact HB.out | apply below_alloc | apply pw_below_drewN | apply below_drew1) | exact HB.out)) hb); clear HO322; clear HO326; clear HO338; clear HO342; clear HB; clear HO345; clear HO348; have HO322 := n0_; have HO326 := n1_; have HO338 := n2_; have HO342 := n3_; have HO351 := n4_; have HB := n5_; clear n0_ n1_ n2_ n3_ n4_ n5_; clear hb ho41; obtain ⟨Ao42, co42, eo42⟩ := Kd.N_slice HO351.out; subst eo42) | ((with_reducible refine gate_callee (f := 36) rfl ?_); refine goesL_ (some 26) rfl rfl Tryz.func36 (by kernel_rfl) rfl #[.int .i64 1, .slice Ao42 y349.length co42, .slice none 0 0] rfl (by (try simp only [List.map_toArray, List.map_cons, List.map_nil]); first | done | rfl | (simp only [List.length_drop, List.length_take]; rfl)) ?_; (refine (clause_Units.calls k 1 _ _ y349 _ _ ([] : List Int) t352 false _ ?side1 ?side2 ?side3 ?side4 A3.out).mono ?_); (case side1 => repeat (first | exact (Kd.N_reads' HO351.out).2.2 | (with_reducible refine Kd.C_alloc ?_ _) | (with_reducible refine Kd.C_drewN ?_ _) | (with_reducible refine Kd.C_drew ?_))); (case side2 => exact (Kd.N_reads' HO351.out).2.1); (case side3 => exact Kd.C_nil _ _); (case side4 => exact Nat.le_refl _); rintro e w43 ⟨v354, rfl, ho0, hb⟩; refine ⟨_, rfl, ?_⟩; have n0_ := Aside0.mk (Kd.R_elder' (by (with_reducible repeat (first | apply Kd.R_alloc | apply Kd.R_drewN | apply Kd.R_drew)); exact HO322.out) (Kd.R_base ho0) hb); have n1_ := Aside0.mk (Kd.R_elder' (by (with_reducible repeat (first | apply Kd.R_alloc | apply Kd.R_drewN | apply Kd.R_drew)); exact HO326.out) (Kd.R_base ho0) hb); have n2_ := Aside0.mk (Kd.N_elder' (by (with_reducible repeat (first | apply Kd.N_alloc | apply Kd.N_drewN | apply Kd.N_drew)); exact HO338.out) (Kd.R_base ho0) hb); have n3_ := Aside0.mk (Kd.R_elder' (by (with_reducible repeat (first | apply Kd.R_alloc | apply Kd.R_drewN | apply Kd.R_drew)); exact HO342.out) (Kd.R_base ho0) hb); have n4_ := Aside0.mk (Kd.N_elder' (by (with_reducible repeat (first | apply Kd.N_alloc | apply Kd.N_drewN | apply Kd.N_drew)); exact HO351.out) (Kd.R_base ho0) hb); have n5_ := Aside0.mk (Kd.R_lower (Kd.R_new' (Kd.R_new' (Kd.R_new' ho0 (Kd.R_lt (by (with_reducible repeat (first | apply Kd.R_alloc | apply Kd.R_drewN | apply Kd.R_drew)); exact HO322.out))) (Kd.R_lt (by (with_reducible repeat (first | apply Kd.R_alloc | apply Kd.R_drewN | apply Kd.R_drew)); exact HO326.out))) (Kd.R_lt (by (with_reducible repeat (first | apply Kd.R_alloc | apply Kd.R_drewN | apply Kd.R_drew)); exact HO342.out))) (below_size (by repeat (first | (with_reducible first | exact HB.out | apply below_alloc | apply pw_below_drewN | apply below_drew1) | exact HB.out)))); have n6_ := Aside0.mk (below_step (by repeat (first | (with_reducible first | exact HB.out | apply below_alloc | apply pw_below_drewN | apply below_drew1) | exact HB.out)) hb); clear HO322; clear HO326; clear HO338; clear HO342; clear HO351; clear HB; have HO322 := n0_; have HO326 := n1_; have HO338 := n2_; have HO342 := n3_; have HO351 := n4_; have HO355 := n5_; have HB := n6_; clear n0_ n1_ n2_ n3_ n4_ n5_ n6_; (try clear hb); (try clear hb2); (try clear hk); (try clear hi); (try clear ho0)) | ((with_reducible refine gate_dst (N := 30) rfl ?_); (try (refine gate_guard (by rfl) ?_; dsimp only)); refine Kd.R_lit (Kd.int .i64) _ 3 ?hg (N := 30) ?hd (xs := ([1, 2] : List Int)) (inner := [.int .i64 1, .int .i64 2]) (ok := fun _ => True) (okp := fun _ => True) ?hr ?hp (fun _ hk => hk) trivial (Below.refl _ _) (Nat.le_refl _) (by simp) ?_; (case hd => rfl); (case hg => rfl); (case hr => first | (go_simp; done) | (go_simp; rfl)); (case hp => exact (Reps.one (show Kd.M (Kd.int .i64) _ _ _ 1 [.int .i64 1] from rfl) (Reps.one (show Kd.M (Kd.int .i64) _ _ _ 2 [.int .i64 2] from rfl) (Reps.none _ _)))); intro v357 w44 ho45 hb hg_ hnew_; clear hg_ hnew_; (first | rw [← Ny356.out] at ho45 | (simp only [Int.reduceToNat] at ho45; rw [← Ny356.out] at ho45)); have n0_ := Aside0.mk (Kd.R_elder' (by (with_reducible repeat (first | apply Kd.R_alloc | apply Kd.R_drewN | apply Kd.R_drew)); exact HO322.out) (Kd.R_base ho45) hb); have n1_ := Aside0.mk (Kd.R_elder' (by (with_reducible repeat (first | apply Kd.R_alloc | apply Kd.R_drewN | apply Kd.R_drew)); exact HO326.out) (Kd.R_base ho45) hb); have n2_ := Aside0.mk (Kd.N_elder' (by (with_reducible repeat (first | apply Kd.N_alloc | apply Kd.N_drewN | apply Kd.N_drew)); exact HO338.out) (Kd.R_base ho45) hb); have n3_ := Aside0.mk (Kd.R_elder' (by (with_reducible repeat (first | apply Kd.R_alloc | apply Kd.R_drewN | apply Kd.R_drew)); exact HO342.out) (Kd.R_base ho45) hb); have n4_ := Aside0.mk (Kd.N_elder' (by (with_reducible repeat (first | apply Kd.N_alloc | apply Kd.N_drewN | apply Kd.N_drew)); exact HO351.out) (Kd.R_base ho45) hb); have n5_ := Aside0.mk (Kd.R_elder' (by (with_reducible repeat (first | apply Kd.R_alloc | apply Kd.R_drewN | apply Kd.R_drew)); exact HO355.out) (Kd.R_base ho45) hb); have n6_ := Aside0.mk (Kd.R_lower (Kd.R_new' (Kd.R_new' (Kd.R_new' (Kd.R_new' ho45 (Kd.R_lt (by (with_reducible repeat (first | apply Kd.R_alloc | apply Kd.R_drewN | apply Kd.R_drew)); exact HO322.out))) (Kd.R_lt (by (with_reducible repeat (first | apply Kd.R_alloc | apply Kd.R_drewN | apply Kd.R_drew)); exact HO326.out))) (Kd.R_lt (by (with_reducible repeat (first | apply Kd.R_alloc | apply Kd.R_drewN | apply Kd.R_drew)); exact HO342.out))) (Kd.R_lt (by (with_reducible repeat (first | apply Kd.R_alloc | apply Kd.R_drewN | apply Kd.R_drew)); exact HO355.out))) (below_size (by repeat (first | (with_reducible first | exact HB.out | apply below_alloc | apply pw_below_drewN | apply below_drew1) | exact HB.out)))); have n7_ := Aside0.mk (below_step (by repeat (first | (with_reducible first | exact HB.out | apply below_alloc | apply pw_below_drewN | apply below_drew1) | exact HB.out)) hb); clear HO322; clear HO326; clear HO338; clear HO342; clear HO351; clear HO355; clear HB; have HO322 := n0_; have HO326 := n1_; have HO338 := n2_; have HO342 := n3_; have HO351 := n4_; have HO355 := n5_; have HO358 := n6_; have HB := n7_; clear n0_ n1_ n2_ n3_ n4_ n5_ n6_ n7_; clear hb ho45) | ((with_reducible refine gate_dst (N := 31) rfl ?_); (try (refine gate_guard (by rfl) ?_; dsimp only)); refine Kd.R_lit (Kd.int .i64) _ 3 ?hg (N := 31) ?hd (xs := ([(-1), 3] : List Int)) (inner := [.int .i64 (-1), .int .i64 3]) (ok := fun _ => True) (okp := fun _ => True) ?hr ?hp (fun _ hk => hk) trivial (Below.refl _ _) (Nat.le_refl _) (by simp) ?_; (case hd => rfl); (case hg => rfl); (case hr => first | (go_simp; done) | (go_simp; rfl)); (case hp => exact (Reps.one (show Kd.M (Kd.int .i64) _ _ _ (-1) [.int .i64 (-1)] from rfl) (Reps.one (show Kd.M (Kd.int .i64) _ _ _ 3 [.int .i64 3] from rfl) (Reps.none _ _)))); intro v360 w46 ho47 hb hg_ hnew_; clear hg_ hnew_; (first | rw [← Ny359.out] at ho47 | (simp only [Int.reduceToNat] at ho47; rw [← Ny359.out] at ho47)); have n0_ := Aside0.mk (Kd.R_elder' (by (with_reducible repeat (first | apply Kd.R_alloc | apply Kd.R_drewN | apply Kd.R_drew)); exact HO322.out) (Kd.R_base ho47) hb); have n1_ := Aside0.mk (Kd.R_elder' (by (with_reducible repeat (first | apply Kd.R_alloc | apply Kd.R_drewN | apply Kd.R_drew)); exact HO326.out) (Kd.R_base ho47) hb); have n2_ := Aside0.mk (Kd.N_elder' (by (with_reducible repeat (first | apply Kd.N_alloc | apply Kd.N_drewN | apply Kd.N_drew)); exact HO338.out) (Kd.R_base ho47) hb); have n3_ := Aside0.mk (Kd.R_elder' (by (with_reducible repeat (first | apply Kd.R_alloc | apply Kd.R_drewN | apply Kd.R_drew)); exact HO342.out) (Kd.R_base ho47) hb); have n4_ := Aside0.mk (Kd.N_elder' (by (with_reducible repeat (first | apply Kd.N_alloc | apply Kd.N_drewN | apply Kd.N_drew)); exact HO351.out) (Kd.R_base ho47) hb); have n5_ := Aside0.mk (Kd.R_elder' (by (with_reducible repeat (first | apply Kd.R_alloc | apply Kd.R_drewN | apply Kd.R_drew)); exact HO355.out) (Kd.R_base ho47) hb); have n6_ := Aside0.mk (Kd.R_elder' (by (with_reducible repeat (first | apply Kd.R_alloc | apply Kd.R_drewN | apply Kd.R_drew)); exact HO358.out) (Kd.R_base ho47) hb); have n7_ := Aside0.mk (Kd.R_lower (Kd.R_new' (Kd.R_new' (Kd.R_new' (Kd.R_new' (Kd.R_new' ho47 (Kd.R_lt (by (with_reducible repeat (first | apply Kd.R_alloc | apply Kd.R_drewN | apply Kd.R_drew)); exact HO322.out))) (Kd.R_lt (by (with_reducible repeat (first | apply Kd.R_alloc | apply Kd.R_drewN | apply Kd.R_drew)); exact HO326.out))) (Kd.R_lt (by (with_reducible repeat (first | apply Kd.R_alloc | apply Kd.R_drewN | apply Kd.R_drew)); exact HO342.out))) (Kd.R_lt (by (with_reducible repeat (first | apply Kd.R_alloc | apply Kd.R_drewN | apply Kd.R_drew)); exact HO355.out))) (Kd.R_lt (by (with_reducible repeat (first | apply Kd.R_alloc | apply Kd.R_drewN | apply Kd.R_drew)); exact HO358.out))) (below_size (by repeat (first | (with_reducible first | exact HB.out | apply below_alloc | apply pw_below_drewN | apply below_drew1) | exact HB.out)))); have n8_ := Aside0.mk (below_step (by repeat (first | (with_reducible first | exact HB.out | apply below_alloc | apply pw_below_drewN | apply below_drew1) | exact HB.out)) hb); clear HO322; clear HO326; clear HO338; clear HO342; clear HO351; clear HO355; clear HO358; clear HB; have HO322 := n0_; have HO326 := n1_; have HO338 := n2_; have HO342 := n3_; have HO351 := n4_; have HO355 := n5_; have HO358 := n6_; have HO361 := n7_; have HB := n8_; clear n0_ n1_ n2_ n3_ n4_ n5_ n6_ n7_ n8_; clear hb ho47; obtain ⟨Ao48, co48, eo48⟩ := Kd.R_slice HO358.out; subst eo48; obtain ⟨Ao49, co49, eo49⟩ := Kd.R_slice HO361.out; subst eo49) | ((with_reducible refine gate_callee (f := 37) rfl ?_); refine goesL_ (some 32) rfl rfl Tryz.func37 (by kernel_rfl) rfl #[.slice Ao48 y356.length co48, .slice Ao49 y359.length co49, .int .i64 1] rfl (by (try simp only [List.map_toArray, List.map_cons, List.map_nil]); first | done | rfl | (simp only [List.length_drop, List.length_take]; rfl)) ?_; (with_reducible refine (clause_Resolve.calls _ _ y356 _ _ y359 1 t362 true _ ?side1 ?side2 ?side3 ?side4 A4.out).mono ?_); (case side1 => repeat (first | exact (Kd.R_reads' HO358.out).2.2 | (with_reducible refine Kd.C_alloc ?_ _) | (with_reducible refine Kd.C_drewN ?_ _) | (with_reducible refine Kd.C_drew ?_))); (case side2 => exact (Kd.R_reads' HO358.out).2.1); (case side3 => repeat (first | exact (Kd.R_reads' HO361.out).2.2 | (with_reducible refine Kd.C_alloc ?_ _) | (with_reducible refine Kd.C_drewN ?_ _) | (with_reducible refine Kd.C_drew ?_))); (case side4 => exact (Kd.R_reads' HO361.out).2.1); rintro e w50 ⟨v364, rfl, ho0, hb⟩; refine ⟨_, rfl, ?_⟩; have n0_ := Aside0.mk (Kd.R_elder' (by (with_reducible repeat (first | apply Kd.R_alloc | apply Kd.R_drewN | apply Kd.R_drew)); exact HO322.out) (Kd.R_base ho0) hb); have n1_ := Aside0.mk (Kd.R_elder' (by (with_reducible repeat (first | apply Kd.R_alloc | apply Kd.R_drewN | apply Kd.R_drew)); exact HO326.out) (Kd.R_base ho0) hb); have n2_ := Aside0.mk (Kd.N_elder' (by (with_reducible repeat (first | apply Kd.N_alloc | apply Kd.N_drewN | apply Kd.N_drew)); exact HO338.out) (Kd.R_base ho0) hb); have n3_ := Aside0.mk (Kd.R_elder' (by (with_reducible repeat (first | apply Kd.R_alloc | apply Kd.R_drewN | apply Kd.R_drew)); exact HO342.out) (Kd.R_base ho0) hb); have n4_ := Aside0.mk (Kd.N_elder' (by (with_reducible repeat (first | apply Kd.N_alloc | apply Kd.N_drewN | apply Kd.N_drew)); exact HO351.out) (Kd.R_base ho0) hb); have n5_ := Aside0.mk (Kd.R_elder' (by (with_reducible repeat (first | apply Kd.R_alloc | apply Kd.R_drewN | apply Kd.R_drew)); exact HO355.out) (Kd.R_base ho0) hb); have n6_ := Aside0.mk (Kd.R_elder' (by (with_reducible repeat (first | apply Kd.R_alloc | apply Kd.R_drewN | apply Kd.R_drew)); exact HO358.out) (Kd.R_base ho0) hb); have n7_ := Aside0.mk (Kd.R_elder' (by (with_reducible repeat (first | apply Kd.R_alloc | apply Kd.R_drewN | apply Kd.R_drew)); exact HO361.out) (Kd.R_base ho0) hb); have n8_ := Aside0.mk (Kd.R_lower (Kd.R_new' (Kd.R_new' (Kd.R_new' (Kd.R_new' (Kd.R_new' (Kd.R_new' ho0 (Kd.R_lt (by (with_reducible repeat (first | apply Kd.R_alloc | apply Kd.R_drewN | apply Kd.R_drew)); exact HO322.out))) (Kd.R_lt (by (with_reducible repeat (first | apply Kd.R_alloc | apply Kd.R_drewN | apply Kd.R_drew)); exact HO326.out))) (Kd.R_lt (by (with_reducible repeat (first | apply Kd.R_alloc | apply Kd.R_drewN | apply Kd.R_drew)); exact HO342.out))) (Kd.R_lt (by (with_reducible repeat (first | apply Kd.R_alloc | apply Kd.R_drewN | apply Kd.R_drew)); exact HO355.out))) (Kd.R_lt (by (with_reducible repeat (first | apply Kd.R_alloc | apply Kd.R_drewN | apply Kd.R_drew)); exact HO358.out))) (Kd.R_lt (by (with_reducible repeat (first | apply Kd.R_alloc | apply Kd.R_drewN | apply Kd.R_drew)); exact HO361.out))) (below_size (by repeat (first | (with_reducible first | exact HB.out | apply below_alloc | apply pw_below_drewN | apply below_drew1) | exact HB.out)))); have n9_ := Aside0.mk (below_step (by repeat (first | (with_reducible first | exact HB.out | apply below_alloc | apply pw_below_drewN | apply below_drew1) | exact HB.out)) hb); clear HO322; clear HO326; clear HO338; clear HO342; clear HO351; clear HO355; clear HO358; clear HO361; clear HB; have HO322 := n0_; have HO326 := n1_; have HO338 := n2_; have HO342 := n3_; have HO351 := n4_; have HO355 := n5_; have HO358 := n6_; have HO361 := n7_; have HO365 := n8_; have HB := n9_; clear n0_ n1_ n2_ n3_ n4_ n5_ n6_ n7_ n8_ n9_; (try clear hb); (try clear hb2); (try clear hk); (try clear hi); (try clear ho0)) | ((with_reducible refine gate_dst (N := 36) rfl ?_); (try (refine gate_guard (by rfl) ?_; dsimp only)); refine Kd.R_lit (Kd.int .i64) _ 3 ?hg (N := 36) ?hd (xs := ([1, (-1), 3] : List Int)) (inner := [.int .i64 1, .int .i64 (-1), .int .i64 3]) (ok := fun _ => True) (okp := fun _ => True) ?hr ?hp (fun _ hk => hk) trivial (Below.refl _ _) (Nat.le_refl _) (by simp) ?_; (case hd => rfl); (case hg => rfl); (case hr => first | (go_simp; done) | (go_simp; rfl)); (case hp => exact (Reps.one (show Kd.M (Kd.int .i64) _ _ _ 1 [.int .i64 1] from rfl) (Reps.one (show Kd.M (Kd.int .i64) _ _ _ (-1) [.int .i64 (-1)] from rfl) (Reps.one (show Kd.M (Kd.int .i64) _ _ _ 3 [.int .i64 3] from rfl) (Reps.none _ _))))); intro v367 w51 ho52 hb hg_ hnew_; clear hg_ hnew_; (first | rw [← Ny366.out] at ho52 | (simp only [Int.reduceToNat] at ho52; rw [← Ny366.out] at ho52)); have n0_ := Aside0.mk (Kd.R_elder' (by (with_reducible repeat (first | apply Kd.R_alloc | apply Kd.R_drewN | apply Kd.R_drew)); exact HO322.out) (Kd.R_base ho52) hb); have n1_ := Aside0.mk (Kd.R_elder' (by (with_reducible repeat (first | apply Kd.R_alloc | apply Kd.R_drewN | apply Kd.R_drew)); exact HO326.out) (Kd.R_base ho52) hb); have n2_ := Aside0.mk (Kd.N_elder' (by (with_reducible repeat (first | apply Kd.N_alloc | apply Kd.N_drewN | apply Kd.N_drew)); exact HO338.out) (Kd.R_base ho52) hb); have n3_ := Aside0.mk (Kd.R_elder' (by (with_reducible repeat (first | apply Kd.R_alloc | apply Kd.R_drewN | apply Kd.R_drew)); exact HO342.out) (Kd.R_base ho52) hb); have n4_ := Aside0.mk (Kd.N_elder' (by (with_reducible repeat (first | apply Kd.N_alloc | apply Kd.N_drewN | apply Kd.N_drew)); exact HO351.out) (Kd.R_base ho52) hb); have n5_ := Aside0.mk (Kd.R_elder' (by (with_reducible repeat (first | apply Kd.R_alloc | apply Kd.R_drewN | apply Kd.R_drew)); exact HO355.out) (Kd.R_base ho52) hb); have n6_ := Aside0.mk (Kd.R_elder' (by (with_reducible repeat (first | apply Kd.R_alloc | apply Kd.R_drewN | apply Kd.R_drew)); exact HO358.out) (Kd.R_base ho52) hb); have n7_ := Aside0.mk (Kd.R_elder' (by (with_reducible repeat (first | apply Kd.R_alloc | apply Kd.R_drewN | apply Kd.R_drew)); exact HO361.out) (Kd.R_base ho52) hb); have n8_ := Aside0.mk (Kd.R_elder' (by (with_reducible repeat (first | apply Kd.R_alloc | apply Kd.R_drewN | apply Kd.R_drew)); exact HO365.out) (Kd.R_base ho52) hb); have n9_ := Aside0.mk (Kd.R_lower (Kd.R_new' (Kd.R_new' (Kd.R_new' (Kd.R_new' (Kd.R_new' (Kd.R_new' (Kd.R_new' ho52 (Kd.R_lt (by (with_reducible repeat (first | apply Kd.R_alloc | apply Kd.R_drewN | apply Kd.R_drew)); exact HO322.out))) (Kd.R_lt (by (with_reducible repeat (first | apply Kd.R_alloc | apply Kd.R_drewN | apply Kd.R_drew)); exact HO326.out))) (Kd.R_lt (by (with_reducible repeat (first | apply Kd.R_alloc | apply Kd.R_drewN | apply Kd.R_drew)); exact HO342.out))) (Kd.R_lt (by (with_reducible repeat (first | apply Kd.R_alloc | apply Kd.R_drewN | apply Kd.R_drew)); exact HO355.out))) (Kd.R_lt (by (with_reducible repeat (first | apply Kd.R_alloc | apply Kd.R_drewN | apply Kd.R_drew)); exact HO358.out))) (Kd.R_lt (by (with_reducible repeat (first | apply Kd.R_alloc | apply Kd.R_drewN | apply Kd.R_drew)); exact HO361.out))) (Kd.R_lt (by (with_reducible repeat (first | apply Kd.R_alloc | apply Kd.R_drewN | apply Kd.R_drew)); exact HO365.out))) (below_size (by repeat (first | (with_reducible first | exact HB.out | apply below_alloc | apply pw_below_drewN | apply below_drew1) | exact HB.out)))); have n10_ := Aside0.mk (below_step (by repeat (first | (with_reducible first | exact HB.out | apply below_alloc | apply pw_below_drewN | apply below_drew1) | exact HB.out)) hb); clear HO322; clear HO326; clear HO338; clear HO342; clear HO351; clear HO355; clear HO358; clear HO361; clear HO365; clear HB; have HO322 := n0_; have HO326 := n1_; have HO338 := n2_; have HO342 := n3_; have HO351 := n4_; have HO355 := n5_; have HO358 := n6_; have HO361 := n7_; have HO365 := n8_; have HO368 := n9_; have HB := n10_; clear n0_ n1_ n2_ n3_ n4_ n5_ n6_ n7_ n8_ n9_ n10_; clear hb ho52; obtain ⟨Ao53, co53, eo53⟩ := Kd.R_slice HO326.out; subst eo53; obtain ⟨Ao54, co54, eo54⟩ := Kd.R_slice HO368.out; subst eo54) | ((with_reducible refine gate_callee (f := 38) rfl ?_); refine goesL_ (some 37) rfl rfl Tryz.func38 (by kernel_rfl) rfl #[.slice Ao53 t323.length co53, .slice Ao54 y366.length co54] rfl (by (try simp only [List.map_toArray, List.map_cons, List.map_nil]); first | done | rfl | (simp only [List.length_drop, List.length_take]; rfl)) ?_; (with_reducible refine (keelsonlaw12_sameInts.calls k _ _ t323 _ _ y366 true _ ?side1 ?side2 ?side3 ?side4 A5.out).mono ?_); (case side1 => repeat (first | exact (Kd.R_reads' HO326.out).2.2 | (with_reducible refine Kd.C_alloc ?_ _) | (with_reducible refine Kd.C_drewN ?_ _) | (with_reducible refine Kd.C_drew ?_))); (case side2 => exact (Kd.R_reads' HO326.out).2.1); (case side3 => repeat (first | exact (Kd.R_reads' HO368.out).2.2 | (with_reducible refine Kd.C_alloc ?_ _) | (with_reducible refine Kd.C_drewN ?_ _) | (with_reducible refine Kd.C_drew ?_))); (case side4 => exact (Kd.R_reads' HO368.out).2.1); rintro e w' ⟨rfl, ⟨nd, rfl⟩⟩; refine ⟨_, rfl, ?_⟩) | ((with_reducible refine gate_dst (N := 43) rfl ?_); (try (refine gate_guard (by rfl) ?_; dsimp only)); refine Kd.R_lit (Kd.int .i64) _ 3 ?hg (N := 43) ?hd (xs := ([1, 1, 1] : List Int)) (inner := [.int .i64 1, .int .i64 1, .int .i64 1]) (ok := fun _ => True) (okp := fun _ => True) ?hr ?hp (fun _ hk => hk) trivial (Below.refl _ _) (Nat.le_refl _) (by simp) ?_; (case hd => rfl); (case hg => rfl); (case hr => first | (go_simp; done) | (go_simp; rfl)); (case hp => exact (Reps.one (show Kd.M (Kd.int .i64) _ _ _ 1 [.int .i64 1] from rfl) (Reps.one (show Kd.M (Kd.int .i64) _ _ _ 1 [.int .i64 1] from rfl) (Reps.one (show Kd.M (Kd.int .i64) _ _ _ 1 [.int .i64 1] from rfl) (Reps.none _ _))))); intro v371 w55 ho56 hb hg_ hnew_; clear hg_ hnew_; (first | rw [← Ny370.out] at ho56 | (simp only [Int.reduceToNat] at ho56; rw [← Ny370.out] at ho56)); have n0_ := Aside0.mk (Kd.R_elder' (by (with_reducible repeat (first | apply Kd.R_alloc | apply Kd.R_drewN | apply Kd.R_drew)); exact HO322.out) (Kd.R_base ho56) hb); have n1_ := Aside0.mk (Kd.R_elder' (by (with_reducible repeat (first | apply Kd.R_alloc | apply Kd.R_drewN | apply Kd.R_drew)); exact HO326.out) (Kd.R_base ho56) hb); have n2_ := Aside0.mk (Kd.N_elder' (by (with_reducible repeat (first | apply Kd.N_alloc | apply Kd.N_drewN | apply Kd.N_drew)); exact HO338.out) (Kd.R_base ho56) hb); have n3_ := Aside0.mk (Kd.R_elder' (by (with_reducible repeat (first | apply Kd.R_alloc | apply Kd.R_drewN | apply Kd.R_drew)); exact HO342.out) (Kd.R_base ho56) hb); have n4_ := Aside0.mk (Kd.N_elder' (by (with_reducible repeat (first | apply Kd.N_alloc | apply Kd.N_drewN | apply Kd.N_drew)); exact HO351.out) (Kd.R_base ho56) hb); have n5_ := Aside0.mk (Kd.R_elder' (by (with_reducible repeat (first | apply Kd.R_alloc | apply Kd.R_drewN | apply Kd.R_drew)); exact HO355.out) (Kd.R_base ho56) hb); have n6_ := Aside0.mk (Kd.R_elder' (by (with_reducible repeat (first | apply Kd.R_alloc | apply Kd.R_drewN | apply Kd.R_drew)); exact HO358.out) (Kd.R_base ho56) hb); have n7_ := Aside0.mk (Kd.R_elder' (by (with_reducible repeat (first | apply Kd.R_alloc | apply Kd.R_drewN | apply Kd.R_drew)); exact HO361.out) (Kd.R_base ho56) hb); have n8_ := Aside0.mk (Kd.R_elder' (by (with_reducible repeat (first | apply Kd.R_alloc | apply Kd.R_drewN | apply Kd.R_drew)); exact HO365.out) (Kd.R_base ho56) hb); have n9_ := Aside0.mk (Kd.R_elder' (by (with_reducible repeat (first | apply Kd.R_alloc | apply Kd.R_drewN | apply Kd.R_drew)); exact HO368.out) (Kd.R_base ho56) hb); have n10_ := Aside0.mk (Kd.R_lower (Kd.R_new' (Kd.R_new' (Kd.R_new' (Kd.R_new' (Kd.R_new' (Kd.R_new' (Kd.R_new' (Kd.R_new' ho56 (Kd.R_lt (by (with_reducible repeat (first | apply Kd.R_alloc | apply Kd.R_drewN | apply Kd.R_drew)); exact HO322.out))) (Kd.R_lt (by (with_reducible repeat (first | apply Kd.R_alloc | apply Kd.R_drewN | apply Kd.R_drew)); exact HO326.out))) (Kd.R_lt (by (with_reducible repeat (first | apply Kd.R_alloc | apply Kd.R_drewN | apply Kd.R_drew)); exact HO342.out))) (Kd.R_lt (by (with_reducible repeat (first | apply Kd.R_alloc | apply Kd.R_drewN | apply Kd.R_drew)); exact HO355.out))) (Kd.R_lt (by (with_reducible repeat (first | apply Kd.R_alloc | apply Kd.R_drewN | apply Kd.R_drew)); exact HO358.out))) (Kd.R_lt (by (with_reducible repeat (first | apply Kd.R_alloc | apply Kd.R_drewN | apply Kd.R_drew)); exact HO361.out))) (Kd.R_lt (by (with_reducible repeat (first | apply Kd.R_alloc | apply Kd.R_drewN | apply Kd.R_drew)); exact HO365.out))) (Kd.R_lt (by (with_reducible repeat (first | apply Kd.R_alloc | apply Kd.R_drewN | apply Kd.R_drew)); exact HO368.out))) (below_size (by repeat (first | (with_reducible first | exact HB.out | apply below_alloc | apply pw_below_drewN | apply below_drew1) | exact HB.out)))); have n11_ := Aside0.mk (below_step (by repeat (first | (with_reducible first | exact HB.out | apply below_alloc | apply pw_below_drewN | apply below_drew1) | exact HB.out)) hb); clear HO322; clear HO326; clear HO338; clear HO342; clear HO351; clear HO355; clear HO358; clear HO361; clear HO365; clear HO368; clear HB; have HO322 := n0_; have HO326 := n1_; have HO338 := n2_; have HO342 := n3_; have HO351 := n4_; have HO355 := n5_; have HO358 := n6_; have HO361 := n7_; have HO365 := n8_; have HO368 := n9_; have HO372 := n10_; have HB := n11_; clear n0_ n1_ n2_ n3_ n4_ n5_ n6_ n7_ n8_ n9_ n10_ n11_; clear hb ho56; obtain ⟨Ao57, co57, eo57⟩ := Kd.R_slice HO342.out; subst eo57; obtain ⟨Ao58, co58, eo58⟩ := Kd.R_slice HO372.out; subst eo58) | (go_at_call 38; (with_reducible refine (keelsonlaw12_sameInts.calls k _ _ t339 _ _ y370 true _ ?side1 ?side2 ?side3 ?side4 A8.out).mono ?_); (case side1 => repeat (first | exact (Kd.R_reads' HO342.out).2.2 | (with_reducible refine Kd.C_alloc ?_ _) | (with_reducible refine Kd.C_drewN ?_ _) | (with_reducible refine Kd.C_drew ?_))); (case side2 => exact (Kd.R_reads' HO342.out).2.1); (case side3 => repeat (first | exact (Kd.R_reads' HO372.out).2.2 | (with_reducible refine Kd.C_alloc ?_ _) | (with_reducible refine Kd.C_drewN ?_ _) | (with_reducible refine Kd.C_drew ?_))); (case side4 => exact (Kd.R_reads' HO372.out).2.1); rintro e w' ⟨rfl, ⟨nd, rfl⟩⟩; obtain ⟨Ao59, co59, eo59⟩ := Kd.R_slice HO355.out; subst eo59) | ((with_reducible refine gate_dst (N := 60) rfl ?_); (try (refine gate_guard (by rfl) ?_; dsimp only)); refine Kd.R_lit (Kd.int .i64) _ 3 ?hg (N := 60) ?hd (xs := ([2, 3] : List Int)) (inner := [.int .i64 2, .int .i64 3]) (ok := fun _ => True) (okp := fun _ => True) ?hr ?hp (fun _ hk => hk) trivial (Below.refl _ _) (Nat.le_refl _) (by simp) ?_; (case hd => rfl); (case hg => rfl); (case hr => first | (go_simp; done) | (go_simp; rfl)); (case hp => exact (Reps.one (show Kd.M (Kd.int .i64) _ _ _ 2 [.int .i64 2] from rfl) (Reps.one (show Kd.M (Kd.int .i64) _ _ _ 3 [.int .i64 3] from rfl) (Reps.none _ _)))); intro v375 w60 ho61 hb hg_ hnew_; clear hg_ hnew_; (first | rw [← Ny374.out] at ho61 | (simp only [Int.reduceToNat] at ho61; rw [← Ny374.out] at ho61)); have n0_ := Aside0.mk (Kd.R_elder' (by (with_reducible repeat (first | apply Kd.R_alloc | apply Kd.R_drewN | apply Kd.R_drew)); exact HO322.out) (Kd.R_base ho61) hb); have n1_ := Aside0.mk (Kd.R_elder' (by (with_reducible repeat (first | apply Kd.R_alloc | apply Kd.R_drewN | apply Kd.R_drew)); exact HO326.out) (Kd.R_base ho61) hb); have n2_ := Aside0.mk (Kd.N_elder' (by (with_reducible repeat (first | apply Kd.N_alloc | apply Kd.N_drewN | apply Kd.N_drew)); exact HO338.out) (Kd.R_base ho61) hb); have n3_ := Aside0.mk (Kd.R_elder' (by (with_reducible repeat (first | apply Kd.R_alloc | apply Kd.R_drewN | apply Kd.R_drew)); exact HO342.out) (Kd.R_base ho61) hb); have n4_ := Aside0.mk (Kd.N_elder' (by (with_reducible repeat (first | apply Kd.N_alloc | apply Kd.N_drewN | apply Kd.N_drew)); exact HO351.out) (Kd.R_base ho61) hb); have n5_ := Aside0.mk (Kd.R_elder' (by (with_reducible repeat (first | apply Kd.R_alloc | apply Kd.R_drewN | apply Kd.R_drew)); exact HO355.out) (Kd.R_base ho61) hb); have n6_ := Aside0.mk (Kd.R_elder' (by (with_reducible repeat (first | apply Kd.R_alloc | apply Kd.R_drewN | apply Kd.R_drew)); exact HO358.out) (Kd.R_base ho61) hb); have n7_ := Aside0.mk (Kd.R_elder' (by (with_reducible repeat (first | apply Kd.R_alloc | apply Kd.R_drewN | apply Kd.R_drew)); exact HO361.out) (Kd.R_base ho61) hb); have n8_ := Aside0.mk (Kd.R_elder' (by (with_reducible repeat (first | apply Kd.R_alloc | apply Kd.R_drewN | apply Kd.R_drew)); exact HO365.out) (Kd.R_base ho61) hb); have n9_ := Aside0.mk (Kd.R_elder' (by (with_reducible repeat (first | apply Kd.R_alloc | apply Kd.R_drewN | apply Kd.R_drew)); exact HO368.out) (Kd.R_base ho61) hb); have n10_ := Aside0.mk (Kd.R_elder' (by (with_reducible repeat (first | apply Kd.R_alloc | apply Kd.R_drewN | apply Kd.R_drew)); exact HO372.out) (Kd.R_base ho61) hb); have n11_ := Aside0.mk (Kd.R_lower (Kd.R_new' (Kd.R_new' (Kd.R_new' (Kd.R_new' (Kd.R_new' (Kd.R_new' (Kd.R_new' (Kd.R_new' (Kd.R_new' ho61 (Kd.R_lt (by (with_reducible repeat (first | apply Kd.R_alloc | apply Kd.R_drewN | apply Kd.R_drew)); exact HO322.out))) (Kd.R_lt (by (with_reducible repeat (first | apply Kd.R_alloc | apply Kd.R_drewN | apply Kd.R_drew)); exact HO326.out))) (Kd.R_lt (by (with_reducible repeat (first | apply Kd.R_alloc | apply Kd.R_drewN | apply Kd.R_drew)); exact HO342.out))) (Kd.R_lt (by (with_reducible repeat (first | apply Kd.R_alloc | apply Kd.R_drewN | apply Kd.R_drew)); exact HO355.out))) (Kd.R_lt (by (with_reducible repeat (first | apply Kd.R_alloc | apply Kd.R_drewN | apply Kd.R_drew)); exact HO358.out))) (Kd.R_lt (by (with_reducible repeat (first | apply Kd.R_alloc | apply Kd.R_drewN | apply Kd.R_drew)); exact HO361.out))) (Kd.R_lt (by (with_reducible repeat (first | apply Kd.R_alloc | apply Kd.R_drewN | apply Kd.R_drew)); exact HO365.out))) (Kd.R_lt (by (with_reducible repeat (first | apply Kd.R_alloc | apply Kd.R_drewN | apply Kd.R_drew)); exact HO368.out))) (Kd.R_lt (by (with_reducible repeat (first | apply Kd.R_alloc | apply Kd.R_drewN | apply Kd.R_drew)); exact HO372.out))) (below_size (by repeat (first | (with_reducible first | exact HB.out | apply below_alloc | apply pw_below_drewN | apply below_drew1) | exact HB.out)))); have n12_ := Aside0.mk (below_step (by repeat (first | (with_reducible first | exact HB.out | apply below_alloc | apply pw_below_drewN | apply below_drew1) | exact HB.out)) hb); clear HO322; clear HO326; clear HO338; clear HO342; clear HO351; clear HO355; clear HO358; clear HO361; clear HO365; clear HO368; clear HO372; clear HB; have HO322 := n0_; have HO326 := n1_; have HO338 := n2_; have HO342 := n3_; have HO351 := n4_; have HO355 := n5_; have HO358 := n6_; have HO361 := n7_; have HO365 := n8_; have HO368 := n9_; have HO372 := n10_; have HO376 := n11_; have HB := n12_; clear n0_ n1_ n2_ n3_ n4_ n5_ n6_ n7_ n8_ n9_ n10_ n11_ n12_; clear hb ho61; obtain ⟨Ao62, co62, eo62⟩ := Kd.R_slice HO365.out; subst eo62; obtain ⟨Ao63, co63, eo63⟩ := Kd.R_slice HO376.out; subst eo63) | (go_at_call 38; (with_reducible refine (keelsonlaw12_sameInts.calls k _ _ t362 _ _ y374 true _ ?side1 ?side2 ?side3 ?side4 A13.out).mono ?_); (case side1 => repeat (first | exact (Kd.R_reads' HO365.out).2.2 | (with_reducible refine Kd.C_alloc ?_ _) | (with_reducible refine Kd.C_drewN ?_ _) | (with_reducible refine Kd.C_drew ?_))); (case side2 => exact (Kd.R_reads' HO365.out).2.1); (case side3 => repeat (first | exact (Kd.R_reads' HO376.out).2.2 | (with_reducible refine Kd.C_alloc ?_ _) | (with_reducible refine Kd.C_drewN ?_ _) | (with_reducible refine Kd.C_drew ?_))); (case side4 => exact (Kd.R_reads' HO376.out).2.1); rintro e w' ⟨rfl, ⟨nd, rfl⟩⟩) | ((with_reducible refine gate_dst (N := 67) rfl ?_); (try (refine gate_guard (by rfl) ?_; dsimp only)); refine Kd.R_lit (Kd.int .i64) _ 3 ?hg (N := 67) ?hd (xs := ([1, (-2)] : List Int)) (inner := [.int .i64 1, .int .i64 (-2)]) (ok := fun _ => True) (okp := fun _ => True) ?hr ?hp (fun _ hk => hk) trivial (Below.refl _ _) (Nat.le_refl _) (by simp) ?_; (case hd => rfl); (case hg => rfl); (case hr => first | (go_simp; done) | (go_simp; rfl)); (case hp => exact (Reps.one (show Kd.M (Kd.int .i64) _ _ _ 1 [.int .i64 1] from rfl) (Reps.one (show Kd.M (Kd.int .i64) _ _ _ (-2) [.int .i64 (-2)] from rfl) (Reps.none _ _)))); intro v379 w64 ho65 hb hg_ hnew_; clear hg_ hnew_; (first | rw [← Ny378.out] at ho65 | (simp only [Int.reduceToNat] at ho65; rw [← Ny378.out] at ho65)); have n0_ := Aside0.mk (Kd.R_elder' (by (with_reducible repeat (first | apply Kd.R_alloc | apply Kd.R_drewN | apply Kd.R_drew)); exact HO322.out) (Kd.R_base ho65) hb); have n1_ := Aside0.mk (Kd.R_elder' (by (with_reducible repeat (first | apply Kd.R_alloc | apply Kd.R_drewN | apply Kd.R_drew)); exact HO326.out) (Kd.R_base ho65) hb); have n2_ := Aside0.mk (Kd.N_elder' (by (with_reducible repeat (first | apply Kd.N_alloc | apply Kd.N_drewN | apply Kd.N_drew)); exact HO338.out) (Kd.R_base ho65) hb); have n3_ := Aside0.mk (Kd.R_elder' (by (with_reducible repeat (first | apply Kd.R_alloc | apply Kd.R_drewN | apply Kd.R_drew)); exact HO342.out) (Kd.R_base ho65) hb); have n4_ := Aside0.mk (Kd.N_elder' (by (with_reducible repeat (first | apply Kd.N_alloc | apply Kd.N_drewN | apply Kd.N_drew)); exact HO351.out) (Kd.R_base ho65) hb); have n5_ := Aside0.mk (Kd.R_elder' (by (with_reducible repeat (first | apply Kd.R_alloc | apply Kd.R_drewN | apply Kd.R_drew)); exact HO355.out) (Kd.R_base ho65) hb); have n6_ := Aside0.mk (Kd.R_elder' (by (with_reducible repeat (first | apply Kd.R_alloc | apply Kd.R_drewN | apply Kd.R_drew)); exact HO358.out) (Kd.R_base ho65) hb); have n7_ := Aside0.mk (Kd.R_elder' (by (with_reducible repeat (first | apply Kd.R_alloc | apply Kd.R_drewN | apply Kd.R_drew)); exact HO361.out) (Kd.R_base ho65) hb); have n8_ := Aside0.mk (Kd.R_elder' (by (with_reducible repeat (first | apply Kd.R_alloc | apply Kd.R_drewN | apply Kd.R_drew)); exact HO365.out) (Kd.R_base ho65) hb); have n9_ := Aside0.mk (Kd.R_elder' (by (with_reducible repeat (first | apply Kd.R_alloc | apply Kd.R_drewN | apply Kd.R_drew)); exact HO368.out) (Kd.R_base ho65) hb); have n10_ := Aside0.mk (Kd.R_elder' (by (with_reducible repeat (first | apply Kd.R_alloc | apply Kd.R_drewN | apply Kd.R_drew)); exact HO372.out) (Kd.R_base ho65) hb); have n11_ := Aside0.mk (Kd.R_elder' (by (with_reducible repeat (first | apply Kd.R_alloc | apply Kd.R_drewN | apply Kd.R_drew)); exact HO376.out) (Kd.R_base ho65) hb); have n12_ := Aside0.mk (Kd.R_lower (Kd.R_new' (Kd.R_new' (Kd.R_new' (Kd.R_new' (Kd.R_new' (Kd.R_new' (Kd.R_new' (Kd.R_new' (Kd.R_new' (Kd.R_new' ho65 (Kd.R_lt (by (with_reducible repeat (first | apply Kd.R_alloc | apply Kd.R_drewN | apply Kd.R_drew)); exact HO322.out))) (Kd.R_lt (by (with_reducible repeat (first | apply Kd.R_alloc | apply Kd.R_drewN | apply Kd.R_drew)); exact HO326.out))) (Kd.R_lt (by (with_reducible repeat (first | apply Kd.R_alloc | apply Kd.R_drewN | apply Kd.R_drew)); exact HO342.out))) (Kd.R_lt (by (with_reducible repeat (first | apply Kd.R_alloc | apply Kd.R_drewN | apply Kd.R_drew)); exact HO355.out))) (Kd.R_lt (by (with_reducible repeat (first | apply Kd.R_alloc | apply Kd.R_drewN | apply Kd.R_drew)); exact HO358.out))) (Kd.R_lt (by (with_reducible repeat (first | apply Kd.R_alloc | apply Kd.R_drewN | apply Kd.R_drew)); exact HO361.out))) (Kd.R_lt (by (with_reducible repeat (first | apply Kd.R_alloc | apply Kd.R_drewN | apply Kd.R_drew)); exact HO365.out))) (Kd.R_lt (by (with_reducible repeat (first | apply Kd.R_alloc | apply Kd.R_drewN | apply Kd.R_drew)); exact HO368.out))) (Kd.R_lt (by (with_reducible repeat (first | apply Kd.R_alloc | apply Kd.R_drewN | apply Kd.R_drew)); exact HO372.out))) (Kd.R_lt (by (with_reducible repeat (first | apply Kd.R_alloc | apply Kd.R_drewN | apply Kd.R_drew)); exact HO376.out))) (below_size (by repeat (first | (with_reducible first | exact HB.out | apply below_alloc | apply pw_below_drewN | apply below_drew1) | exact HB.out)))); have n13_ := Aside0.mk (below_step (by repeat (first | (with_reducible first | exact HB.out | apply below_alloc | apply pw_below_drewN | apply below_drew1) | exact HB.out)) hb); clear HO322; clear HO326; clear HO338; clear HO342; clear HO351; clear HO355; clear HO358; clear HO361; clear HO365; clear HO368; clear HO372; clear HO376; clear HB; have HO322 := n0_; have HO326 := n1_; have HO338 := n2_; have HO342 := n3_; have HO351 := n4_; have HO355 := n5_; have HO358 := n6_; have HO361 := n7_; have HO365 := n8_; have HO368 := n9_; have HO372 := n10_; have HO376 := n11_; have HO380 := n12_; have HB := n13_; clear n0_ n1_ n2_ n3_ n4_ n5_ n6_ n7_ n8_ n9_ n10_ n11_ n12_ n13_; clear hb ho65; obtain ⟨Ao66, co66, eo66⟩ := Kd.R_slice HO380.out; subst eo66) | ((with_reducible refine gate_dst (N := 68) rfl ?_); (try (refine gate_guard (by rfl) ?_; dsimp only)); refine Kd.N_lit (Kd.slice 3 (Kd.int .i64)) _ 64 ?hg (N' := 68) ?hd (xs := ([y378] : List (List Int))) (inner := [.slice Ao66 y378.length co66]) (ok := (fun k_ => some k_ ≠ (.slice Ao19 y320.length co19 : Value).ownBlock ∧ some k_ ≠ (.slice Ao53 t323.length co53 : Value).ownBlock ∧ some k_ ≠ (.slice Ao32 y336.length co32 : Value).ownBlock ∧ some k_ ≠ (.slice Ao57 t339.length co57 : Value).ownBlock ∧ some k_ ≠ (.slice Ao42 y349.length co42 : Value).ownBlock ∧ some k_ ≠ (.slice Ao59 t352.length co59 : Value).ownBlock ∧ some k_ ≠ (.slice Ao48 y356.length co48 : Value).ownBlock ∧ some k_ ≠ (.slice Ao49 y359.length co49 : Value).ownBlock ∧ some k_ ≠ (.slice Ao62 t362.length co62 : Value).ownBlock ∧ some k_ ≠ (.slice Ao54 y366.length co54 : Value).ownBlock ∧ some k_ ≠ (.slice Ao58 y370.length co58 : Value).ownBlock ∧ some k_ ≠ (.slice Ao63 y374.length co63 : Value).ownBlock)) (okp := (fun k_ => some k_ ≠ (.slice Ao19 y320.length co19 : Value).ownBlock ∧ some k_ ≠ (.slice Ao53 t323.length co53 : Value).ownBlock ∧ some k_ ≠ (.slice Ao32 y336.length co32 : Value).ownBlock ∧ some k_ ≠ (.slice Ao57 t339.length co57 : Value).ownBlock ∧ some k_ ≠ (.slice Ao42 y349.length co42 : Value).ownBlock ∧ some k_ ≠ (.slice Ao59 t352.length co59 : Value).ownBlock ∧ some k_ ≠ (.slice Ao48 y356.length co48 : Value).ownBlock ∧ some k_ ≠ (.slice Ao49 y359.length co49 : Value).ownBlock ∧ some k_ ≠ (.slice Ao62 t362.length co62 : Value).ownBlock ∧ some k_ ≠ (.slice Ao54 y366.length co54 : Value).ownBlock ∧ some k_ ≠ (.slice Ao58 y370.length co58 : Value).ownBlock ∧ some k_ ≠ (.slice Ao63 y374.length co63 : Value).ownBlock)) ?hr ?hp (fun _ hk => hk) ((show ∀ k_, w64.heap.size ≤ k_ → (fun k_ => some k_ ≠ (.slice Ao19 y320.length co19 : Value).ownBlock ∧ some k_ ≠ (.slice Ao53 t323.length co53 : Value).ownBlock ∧ some k_ ≠ (.slice Ao32 y336.length co32 : Value).ownBlock ∧ some k_ ≠ (.slice Ao57 t339.length co57 : Value).ownBlock ∧ some k_ ≠ (.slice Ao42 y349.length co42 : Value).ownBlock ∧ some k_ ≠ (.slice Ao59 t352.length co59 : Value).ownBlock ∧ some k_ ≠ (.slice Ao48 y356.length co48 : Value).ownBlock ∧ some k_ ≠ (.slice Ao49 y359.length co49 : Value).ownBlock ∧ some k_ ≠ (.slice Ao62 t362.length co62 : Value).ownBlock ∧ some k_ ≠ (.slice Ao54 y366.length co54 : Value).ownBlock ∧ some k_ ≠ (.slice Ao58 y370.length co58 : Value).ownBlock ∧ some k_ ≠ (.slice Ao63 y374.length co63 : Value).ownBlock) k_ from fun k_ hk => ⟨Kd.fresh' (Kd.R_lt (by (with_reducible repeat (first | apply Kd.R_alloc | apply Kd.R_drewN | apply Kd.R_drew)); exact HO322.out)) k_ hk, Kd.fresh' (Kd.R_lt (by (with_reducible repeat (first | apply Kd.R_alloc | apply Kd.R_drewN | apply Kd.R_drew)); exact HO326.out)) k_ hk, Kd.fresh' (Kd.N_lt (by (with_reducible repeat (first | apply Kd.N_alloc | apply Kd.N_drewN | apply Kd.N_drew)); exact HO338.out)) k_ hk, Kd.fresh' (Kd.R_lt (by (with_reducible repeat (first | apply Kd.R_alloc | apply Kd.R_drewN | apply Kd.R_drew)); exact HO342.out)) k_ hk, Kd.fresh' (Kd.N_lt (by (with_reducible repeat (first | apply Kd.N_alloc | apply Kd.N_drewN | apply Kd.N_drew)); exact HO351.out)) k_ hk, Kd.fresh' (Kd.R_lt (by (with_reducible repeat (first | apply Kd.R_alloc | apply Kd.R_drewN | apply Kd.R_drew)); exact HO355.out)) k_ hk, Kd.fresh' (Kd.R_lt (by (with_reducible repeat (first | apply Kd.R_alloc | apply Kd.R_drewN | apply Kd.R_drew)); exact HO358.out)) k_ hk, Kd.fresh' (Kd.R_lt (by (with_reducible repeat (first | apply Kd.R_alloc | apply Kd.R_drewN | apply Kd.R_drew)); exact HO361.out)) k_ hk, Kd.fresh' (Kd.R_lt (by (with_reducible repeat (first | apply Kd.R_alloc | apply Kd.R_drewN | apply Kd.R_drew)); exact HO365.out)) k_ hk, Kd.fresh' (Kd.R_lt (by (with_reducible repeat (first | apply Kd.R_alloc | apply Kd.R_drewN | apply Kd.R_drew)); exact HO368.out)) k_ hk, Kd.fresh' (Kd.R_lt (by (with_reducible repeat (first | apply Kd.R_alloc | apply Kd.R_drewN | apply Kd.R_drew)); exact HO372.out)) k_ hk, Kd.fresh' (Kd.R_lt (by (with_reducible repeat (first | apply Kd.R_alloc | apply Kd.R_drewN | apply Kd.R_drew)); exact HO376.out)) k_ hk⟩) _ (Nat.le_refl _)) (Below.refl _ _) (Nat.le_refl _) (by simp) ?_; (case hd => rfl); (case hg => rfl); (case hr => first | (go_simp; done) | (go_simp; rfl)); (case hp => exact (Reps.one (show Kd.FK (Kd.slice 3 (Kd.int .i64)) _ _ y378 [.slice Ao66 y378.length co66] from (Kd.FK_slice_mk (Kd.R_reads' (Kd.R_mono (ok' := (fun k_ => some k_ ≠ (.slice Ao19 y320.length co19 : Value).ownBlock ∧ some k_ ≠ (.slice Ao53 t323.length co53 : Value).ownBlock ∧ some k_ ≠ (.slice Ao32 y336.length co32 : Value).ownBlock ∧ some k_ ≠ (.slice Ao57 t339.length co57 : Value).ownBlock ∧ some k_ ≠ (.slice Ao42 y349.length co42 : Value).ownBlock ∧ some k_ ≠ (.slice Ao59 t352.length co59 : Value).ownBlock ∧ some k_ ≠ (.slice Ao48 y356.length co48 : Value).ownBlock ∧ some k_ ≠ (.slice Ao49 y359.length co49 : Value).ownBlock ∧ some k_ ≠ (.slice Ao62 t362.length co62 : Value).ownBlock ∧ some k_ ≠ (.slice Ao54 y366.length co54 : Value).ownBlock ∧ some k_ ≠ (.slice Ao58 y370.length co58 : Value).ownBlock ∧ some k_ ≠ (.slice Ao63 y374.length co63 : Value).ownBlock)) (Kd.R_apart' (Kd.R_apart' (HO380.out) (Kd.N_typed HO338.out) (by decide)) (Kd.N_typed HO351.out) (by decide)) (fun k_ hk => ⟨hk.1.1.1.1.1.1.1.1.1.1.1.2, ⟨hk.1.1.1.1.1.1.1.1.1.1.2, ⟨hk.1.2, ⟨hk.1.1.1.1.1.1.1.1.1.2, ⟨hk.2, ⟨hk.1.1.1.1.1.1.1.1.2, ⟨hk.1.1.1.1.1.1.1.2, ⟨hk.1.1.1.1.1.1.2, ⟨hk.1.1.1.1.1.2, ⟨hk.1.1.1.1.2, ⟨hk.1.1.1.2, hk.1.1.2⟩⟩⟩⟩⟩⟩⟩⟩⟩⟩⟩))).2.1 (Kd.R_F (Kd.R_mono (ok' := (fun k_ => some k_ ≠ (.slice Ao19 y320.length co19 : Value).ownBlock ∧ some k_ ≠ (.slice Ao53 t323.length co53 : Value).ownBlock ∧ some k_ ≠ (.slice Ao32 y336.length co32 : Value).ownBlock ∧ some k_ ≠ (.slice Ao57 t339.length co57 : Value).ownBlock ∧ some k_ ≠ (.slice Ao42 y349.length co42 : Value).ownBlock ∧ some k_ ≠ (.slice Ao59 t352.length co59 : Value).ownBlock ∧ some k_ ≠ (.slice Ao48 y356.length co48 : Value).ownBlock ∧ some k_ ≠ (.slice Ao49 y359.length co49 : Value).ownBlock ∧ some k_ ≠ (.slice Ao62 t362.length co62 : Value).ownBlock ∧ some k_ ≠ (.slice Ao54 y366.length co54 : Value).ownBlock ∧ some k_ ≠ (.slice Ao58 y370.length co58 : Value).ownBlock ∧ some k_ ≠ (.slice Ao63 y374.length co63 : Value).ownBlock)) (Kd.R_apart' (Kd.R_apart' (HO380.out) (Kd.N_typed HO338.out) (by decide)) (Kd.N_typed HO351.out) (by decide)) (fun k_ hk => ⟨hk.1.1.1.1.1.1.1.1.1.1.1.2, ⟨hk.1.1.1.1.1.1.1.1.1.1.2, ⟨hk.1.2, ⟨hk.1.1.1.1.1.1.1.1.1.2, ⟨hk.2, ⟨hk.1.1.1.1.1.1.1.1.2, ⟨hk.1.1.1.1.1.1.1.2, ⟨hk.1.1.1.1.1.1.2, ⟨hk.1.1.1.1.1.2, ⟨hk.1.1.1.1.2, ⟨hk.1.1.1.2, hk.1.1.2⟩⟩⟩⟩⟩⟩⟩⟩⟩⟩⟩))))) (Reps.none _ _))); intro v382 w67 ho68 hb hg_ hnew_; clear hg_ hnew_; (first | rw [← Ny381.out] at ho68 | (simp only [Int.reduceToNat] at ho68; rw [← Ny381.out] at ho68)); have n0_ := Aside0.mk (Kd.R_below (by (with_reducible repeat (first | apply Kd.R_alloc | apply Kd.R_drewN | apply Kd.R_drew)); exact HO322.out) hb); have n1_ := Aside0.mk (Kd.R_below (by (with_reducible repeat (first | apply Kd.R_alloc | apply Kd.R_drewN | apply Kd.R_drew)); exact HO326.out) hb); have n2_ := Aside0.mk (Kd.N_elder' (by (with_reducible repeat (first | apply Kd.N_alloc | apply Kd.N_drewN | apply Kd.N_drew)); exact HO338.out) (Kd.N_base ho68) hb); have n3_ := Aside0.mk (Kd.R_below (by (with_reducible repeat (first | apply Kd.R_alloc | apply Kd.R_drewN | apply Kd.R_drew)); exact HO342.out) hb); have n4_ := Aside0.mk (Kd.N_elder' (by (with_reducible repeat (first | apply Kd.N_alloc | apply Kd.N_drewN | apply Kd.N_drew)); exact HO351.out) (Kd.N_base ho68) hb); have n5_ := Aside0.mk (Kd.R_below (by (with_reducible repeat (first | apply Kd.R_alloc | apply Kd.R_drewN | apply Kd.R_drew)); exact HO355.out) hb); have n6_ := Aside0.mk (Kd.R_below (by (with_reducible repeat (first | apply Kd.R_alloc | apply Kd.R_drewN | apply Kd.R_drew)); exact HO358.out) hb); have n7_ := Aside0.mk (Kd.R_below (by (with_reducible repeat (first | apply Kd.R_alloc | apply Kd.R_drewN | apply Kd.R_drew)); exact HO361.out) hb); have n8_ := Aside0.mk (Kd.R_below (by (with_reducible repeat (first | apply Kd.R_alloc | apply Kd.R_drewN | apply Kd.R_drew)); exact HO365.out) hb); have n9_ := Aside0.mk (Kd.R_below (by (with_reducible repeat (first | apply Kd.R_alloc | apply Kd.R_drewN | apply Kd.R_drew)); exact HO368.out) hb); have n10_ := Aside0.mk (Kd.R_below (by (with_reducible repeat (first | apply Kd.R_alloc | apply Kd.R_drewN | apply Kd.R_drew)); exact HO372.out) hb); have n11_ := Aside0.mk (Kd.R_below (by (with_reducible repeat (first | apply Kd.R_alloc | apply Kd.R_drewN | apply Kd.R_drew)); exact HO376.out) hb); have n12_ := Aside0.mk (Kd.N_lower ho68 (below_size (by repeat (first | (with_reducible first | exact HB.out | apply below_alloc | apply pw_below_drewN | apply below_drew1) | exact HB.out)))); have n13_ := Aside0.mk (below_step (by repeat (first | (with_reducible first | exact HB.out | apply below_alloc | apply pw_below_drewN | apply below_drew1) | exact HB.out)) hb); clear HO322; clear HO326; clear HO338; clear HO342; clear HO351; clear HO355; clear HO358; clear HO361; clear HO365; clear HO368; clear HO372; clear HO376; clear HB; clear HO380; have HO322 := n0_; have HO326 := n1_; have HO338 := n2_; have HO342 := n3_; have HO351 := n4_; have HO355 := n5_; have HO358 := n6_; have HO361 := n7_; have HO365 := n8_; have HO368 := n9_; have HO372 := n10_; have HO376 := n11_; have HO383 := n12_; have HB := n13_; clear n0_ n1_ n2_ n3_ n4_ n5_ n6_ n7_ n8_ n9_ n10_ n11_ n12_ n13_; clear hb ho68; obtain ⟨Ao69, co69, eo69⟩ := Kd.N_slice HO383.out; subst eo69) | (go_at_call 18; (with_reducible refine (clause_Print.calls 2 _ _ y381 t384 _ ?side1 ?side2 ?side3 A16.out).mono ?_); (case side1 => repeat (first | exact (Kd.N_reads' HO383.out).2.2 | (with_reducible refine Kd.C_alloc ?_ _) | (with_reducible refine Kd.C_drewN ?_ _) | (with_reducible refine Kd.C_drew ?_))); (case side2 => exact (Kd.N_reads' HO383.out).2.1); (case side3 => exact HG_pow10.out.below (by repeat (first | (with_reducible first | exact HB.out | apply below_alloc | apply pw_below_drewN | apply below_drew1) | exact HB.out))); rintro e w70 ⟨rfl, hb⟩; have n0_ := Aside0.mk (Kd.R_below (by (with_reducible repeat (first | apply Kd.R_alloc | apply Kd.R_drewN | apply Kd.R_drew)); exact HO322.out) hb); have n1_ := Aside0.mk (Kd.R_below (by (with_reducible repeat (first | apply Kd.R_alloc | apply Kd.R_drewN | apply Kd.R_drew)); exact HO326.out) hb); have n2_ := Aside0.mk (Kd.N_below (by (with_reducible repeat (first | apply Kd.N_alloc | apply Kd.N_drewN | apply Kd.N_drew)); exact HO338.out) hb); have n3_ := Aside0.mk (Kd.R_below (by (with_reducible repeat (first | apply Kd.R_alloc | apply Kd.R_drewN | apply Kd.R_drew)); exact HO342.out) hb); have n4_ := Aside0.mk (Kd.N_below (by (with_reducible repeat (first | apply Kd.N_alloc | apply Kd.N_drewN | apply Kd.N_drew)); exact HO351.out) hb); have n5_ := Aside0.mk (Kd.R_below (by (with_reducible repeat (first | apply Kd.R_alloc | apply Kd.R_drewN | apply Kd.R_drew)); exact HO355.out) hb); have n6_ := Aside0.mk (Kd.R_below (by (with_reducible repeat (first | apply Kd.R_alloc | apply Kd.R_drewN | apply Kd.R_drew)); exact HO358.out) hb); have n7_ := Aside0.mk (Kd.R_below (by (with_reducible repeat (first | apply Kd.R_alloc | apply Kd.R_drewN | apply Kd.R_drew)); exact HO361.out) hb); have n8_ := Aside0.mk (Kd.R_below (by (with_reducible repeat (first | apply Kd.R_alloc | apply Kd.R_drewN | apply Kd.R_drew)); exact HO365.out) hb); have n9_ := Aside0.mk (Kd.R_below (by (with_reducible repeat (first | apply Kd.R_alloc | apply Kd.R_drewN | apply Kd.R_drew)); exact HO368.out) hb); have n10_ := Aside0.mk (Kd.R_below (by (with_reducible repeat (first | apply Kd.R_alloc | apply Kd.R_drewN | apply Kd.R_drew)); exact HO372.out) hb); have n11_ := Aside0.mk (Kd.R_below (by (with_reducible repeat (first | apply Kd.R_alloc | apply Kd.R_drewN | apply Kd.R_drew)); exact HO376.out) hb); have n12_ := Aside0.mk (Kd.N_below (by (with_reducible repeat (first | apply Kd.N_alloc | apply Kd.N_drewN | apply Kd.N_drew)); exact HO383.out) hb); have n13_ := Aside0.mk (below_step (by repeat (first | (with_reducible first | exact HB.out | apply below_alloc | apply pw_below_drewN | apply below_drew1) | exact HB.out)) hb); clear HO322; clear HO326; clear HO338; clear HO342; clear HO351; clear HO355; clear HO358; clear HO361; clear HO365; clear HO368; clear HO372; clear HO376; clear HO383; clear HB; have HO322 := n0_; have HO326 := n1_; have HO338 := n2_; have HO342 := n3_; have HO351 := n4_; have HO355 := n5_; have HO358 := n6_; have HO361 := n7_; have HO365 := n8_; have HO368 := n9_; have HO372 := n10_; have HO376 := n11_; have HO383 := n12_; have HB := n13_; clear n0_ n1_ n2_ n3_ n4_ n5_ n6_ n7_ n8_ n9_ n10_ n11_ n12_ n13_; (try clear hb); (try clear hb2); (try clear hk); (try clear hi)))
                  go_ret
                  exact ⟨by first | rfl | (simp [errW_none, errW_some] <;> rfl) | (simp [*, errW_none, errW_some] <;> rfl), by repeat (first | (with_reducible first | exact HB.out | apply below_alloc | apply pw_below_drewN | apply below_drew1) | exact HB.out)⟩
                · replace c15 := Bool.eq_false_iff.mpr c15
                  subst c15
                  have H1 : (none) = some r := by rw [if_neg (show ¬ (false = true) by decide)] at H; exact H
                  clear H
                  have H := H1
                  clear H1
                  exact absurd H (by simp)
              · replace c14 := Bool.eq_false_iff.mpr c14
                subst c14
                have H1 : (none) = some r := by rw [if_neg (show ¬ (false = true) by decide)] at H; exact H
                clear H
                have H := H1
                clear H1
                exact absurd H (by simp)
          · rw [if_neg c11] at H
            exact absurd H (by simp)
        · replace c10 := Bool.eq_false_iff.mpr c10
          subst c10
          have H1 : (none) = some r := by rw [if_neg (show ¬ (false = true) by decide)] at H; exact H
          clear H
          have H := H1
          clear H1
          exact absurd H (by simp)
      · replace c9 := Bool.eq_false_iff.mpr c9
        subst c9
        have H1 : (none) = some r := by rw [if_neg (show ¬ (false = true) by decide)] at H; exact H
        clear H
        have H := H1
        clear H1
        exact absurd H (by simp)
    · replace c7 := Bool.eq_false_iff.mpr c7
      subst c7
      have H1 : (none) = some r := by rw [if_neg (show ¬ (false = true) by decide)] at H; exact H
      clear H
      have H := H1
      clear H1
      exact absurd H (by simp)
  · replace c6 := Bool.eq_false_iff.mpr c6
    subst c6
    have H1 : (none) = some r := by rw [if_neg (show ¬ (false = true) by decide)] at H; exact H
    clear H
    have H := H1
    clear H1
    exact absurd H (by simp)

end Go.Proofs.YtlcfpmdamehopaaGreatDoor.PA
/- The words of keelsonlaw12 as plain functions. For lists within the machine's room. -/
namespace Go.Proofs.YtlcfpmdamehopaaGreatDoor.PA
open Go.RowKit Go.Proofs.YtlcfpmdamehopaaGreatDoorW.PrintWords Go.Proofs.YtlcfpmdamehopaaGreatDoorW.PrintLast Go.Proofs.YtlcfpmdamehopaaGreatDoorW.PrintMore

theorem sameInts_loop (a b : List Int) (hl : a.length = b.length) (hn : a.length ≤ 9223372036854775807) (d : Nat) : ∀ i : Nat, i + d = a.length → Ev (fun k => keelsonlaw12_sameInts.l0 k a b (i : Int)) (decide (a.drop i = b.drop i)) := by
  induction d with
  | zero =>
    intro i hi
    refine Ev.succ ?_
    simp only [keelsonlaw12_sameInts.l0]
    rw [List.drop_eq_nil_of_le (by omega), List.drop_eq_nil_of_le (by omega)]
    exact Ev.neg (by omega) (Ev.some rfl)
  | succ d ih =>
    intro i hi
    have hil : i < a.length := by omega
    have hil' : i < b.length := by omega
    refine Ev.succ ?_
    simp only [keelsonlaw12_sameInts.l0]
    have hd : (a.drop i = b.drop i) ↔ (a[i] = b[i] ∧ a.drop (i + 1) = b.drop (i + 1)) := by rw [List.drop_eq_getElem_cons hil, List.drop_eq_getElem_cons hil', List.cons.injEq]
    rw [rd_nat _ _ hil, rd_nat _ _ hil', wrap_step hil hn]
    refine Ev.pos (by omega) (Ev.pos (by omega) (Ev.pos (by omega) ?_))
    by_cases h : a[i] = b[i]
    · refine Ev.pos h ?_
      rw [decide_eq_decide.2 (hd.trans (and_iff_right h))]
      exact ih (i + 1) (by omega)
    · exact Ev.neg h (Ev.some (decide_eq_false (fun z => h (hd.1 z).1)).symm)
theorem sameInts_ev (a b : List Int) (hn : a.length ≤ 9223372036854775807) : Ev (fun k => keelsonlaw12_sameInts.f k a b) (decide (a = b)) := by
  unfold keelsonlaw12_sameInts.f
  by_cases h : (a.length : Int) = (b.length : Int)
  · exact Ev.pos h (by simpa using sameInts_loop a b (by omega) hn a.length 0 (by omega))
  · exact Ev.neg h (Ev.some (by rw [decide_eq_false]; rintro rfl; exact h rfl))
theorem small_loop12 (l : List (List Int)) (hn : l.length ≤ 9223372036854775807) (d : Nat) : ∀ i : Nat, i + d = l.length → Ev (fun k => keelsonlaw12_small.l0 k l (i : Int)) ((l.drop i).all fun c => !(decide ((c.length : Int) > 310))) := by
  induction d with
  | zero =>
    intro i hi
    refine Ev.succ ?_
    simp only [keelsonlaw12_small.l0]
    rw [List.drop_eq_nil_of_le (by omega)]
    exact Ev.neg (by omega) (Ev.some rfl)
  | succ d ih =>
    intro i hi
    have hil : i < l.length := by omega
    refine Ev.succ ?_
    simp only [keelsonlaw12_small.l0]
    rw [rdLi_nat _ _ hil, wrap_step hil hn, List.drop_eq_getElem_cons hil, List.all_cons]
    refine Ev.pos (by omega) (Ev.pos (by omega) ?_)
    by_cases h : (l[i].length : Int) > 310
    · rw [decide_eq_true h]; exact Ev.pos h (Ev.some rfl)
    · rw [decide_eq_false h]; exact Ev.neg h (by simpa using ih (i + 1) (by omega))
def smallC (l : List (List Int)) : Bool := if (l.length : Int) > 100 then false else l.all fun c => !(decide ((c.length : Int) > 310))
theorem small12_ev (l : List (List Int)) (hn : l.length ≤ 9223372036854775807) : Ev (fun k => keelsonlaw12_small.f k l) (smallC l) := by
  unfold keelsonlaw12_small.f smallC
  exact Ev.ite (fun _ => Ev.some rfl) (fun _ => by simpa using small_loop12 l hn l.length 0 (by omega))
theorem smallC_spec {l : List (List Int)} (h : smallC l = true) : l.length ≤ 100 ∧ ∀ c ∈ l, c.length ≤ 310 := by
  unfold smallC at h
  split at h
  · cases h
  · refine ⟨by omega, fun c hc => ?_⟩
    have := List.all_eq_true.1 h c hc
    simp at this; omega
theorem tidy_s1 : ([3,-1,3,1] : List Int).mergeSort (fun x y => !(ltOf cfL) y x) = [1,-1,3,3] := by
  have e : (fun x y => !(ltOf cfL) y x) = fun x y : Int => !decide (keyL y < keyL x ∨ (keyL y = keyL x ∧ x < y)) := by funext x y; rw [cfL_lt]
  rw [e]
  have k3 : keyL 3 = 3 := by decide +kernel
  have k1 : keyL 1 = 1 := by decide +kernel
  have km : keyL (-1) = 1 := by decide +kernel
  simp [List.mergeSort, List.MergeSort.Internal.splitInTwo, k3, k1, km]
theorem tidy_s2 : ([2,3] : List Int).mergeSort (fun x y => !(ltOf cfL) y x) = [2,3] := by
  have e : (fun x y => !(ltOf cfL) y x) = fun x y : Int => !decide (keyL y < keyL x ∨ (keyL y = keyL x ∧ x < y)) := by funext x y; rw [cfL_lt]
  rw [e]
  have k3 : keyL 3 = 3 := by decide +kernel
  have k1 : keyL 2 = 2 := by decide +kernel
  simp [List.mergeSort, List.MergeSort.Internal.splitInTwo, k3, k1]
theorem tidy_t1 : clause_Tidy.f [3,-1,3,1] = some ([1,-1,3], true) := by
  unfold clause_Tidy.f; rw [if_pos (by decide)]; unfold tidyL; rw [tidy_s1]; decide +kernel
theorem tidy_t2 : clause_Resolve.f [1,2] [-1,3] 1 = some ([2,3], true) := by
  unfold clause_Resolve.f resolveG
  have e : lessL [1,2] 1 ++ lessL [-1,3] (wrap64 (-1)) = [2,3] := by decide +kernel
  rw [e, if_pos (by decide), if_neg (by decide +kernel)]; unfold tidyL; rw [tidy_s2]; decide +kernel
theorem shown12_ev : Ev (fun k => keelsonlaw12_shown.f k) true := by
  refine Ev.of (fun k => keelsonlaw12_shown.mono k) (k := 40) ?_
  unfold keelsonlaw12_shown.f
  rw [tidy_t1, tidy_t2]
  decide +kernel
end Go.Proofs.YtlcfpmdamehopaaGreatDoor.PA
-- Printed by gprint.py (wip/ of this repo), over the kit's print.
namespace Go.Proofs.YtlcfpmdamehopaaGreatDoor.PA
open Go.RowKit Go.Proofs.YtlcfpmdamehopaaGreatDoorW.PrintWords Go.Proofs.YtlcfpmdamehopaaGreatDoorW.PrintLast Go.Proofs.YtlcfpmdamehopaaGreatDoorW.PrintMore
attribute [local go_sem] max2_int min2_int max_two min_two max_three min_three max_four min_four   -- for this text's walks alone
set_option linter.unusedVariables false
set_option linter.unusedSimpArgs false

/-! ### keelsonlaw12_ClauseBack: function 6 -/
mutual
def keelsonlaw12_ClauseBack.j0 : Nat → Int → List (List Int) → ByteArray → Bool → Bool → Option (Bool)
  | 0, _, _, _, _, _ => none
  | k + 1, x0, x1, x2, x7, x29 => if x29 = true then (some x7) else ((clause_Print.f x0 x1).bind fun t425 => ((clause_Parse.f k t425).bind fun bt426 => ((clause_Right.f x0 x1).bind fun t431 => (if (t431 != (t425.toList != ([] : List UInt8))) = true then (keelsonlaw12_ClauseBack.j1 k x2 true) else (if t425.toList = ([] : List UInt8) then (keelsonlaw12_ClauseBack.j1 k x2 false) else (if (t425.size : Int) ≤ 60000 then (if bt426.2.2 = 0 then (if bt426.1 = x0 then ((keelsonlaw12_same.f k bt426.2.1 x1).bind fun t432 => (keelsonlaw12_ClauseBack.j1 k x2 (!t432))) else (keelsonlaw12_ClauseBack.j1 k x2 true)) else (keelsonlaw12_ClauseBack.j1 k x2 true)) else (keelsonlaw12_ClauseBack.j1 k x2 false)))))))
def keelsonlaw12_ClauseBack.j1 : Nat → ByteArray → Bool → Option (Bool)
  | 0, _, _ => none
  | k + 1, x2, x69 => if x69 = true then (none) else ((clause_Parse.f k x2).bind fun bt433 => (if bt433.2.2 = 0 then ((clause_Print.f bt433.1 bt433.2.1).bind fun t438 => (some (t438.toList == x2.toList))) else (if (bt433.2.1.length : Int) = 0 then (if bt433.1 = 0 then (some true) else (none)) else (none))))
end
def keelsonlaw12_ClauseBack.f (k : Nat) (a0 : Int) (l1 : List (List Int)) (a2 : ByteArray) : Option (Bool) := (keelsonlaw12_shown.f k).bind fun t423 => ((keelsonlaw12_small.f k l1).bind fun t424 => (if t423 = true then (if t424 = true then (keelsonlaw12_ClauseBack.j0 k a0 l1 a2 t423 (decide ((a2.size : Int) > 3000))) else (keelsonlaw12_ClauseBack.j0 k a0 l1 a2 t423 true)) else (keelsonlaw12_ClauseBack.j0 k a0 l1 a2 t423 true)))
set_option maxHeartbeats 8000000 in
set_option maxRecDepth 100000 in
theorem keelsonlaw12_ClauseBack.calls (k : Nat) (a0 : Int) (A1 : Option Addr) (c1 : Nat) (l1 : List (List Int)) (a2 : ByteArray) (r : Bool) (w : World) (hr1 : Kd.C (Kd.slice 3 (Kd.int .i64)) w A1 l1.length l1) (hc1 : l1.length ≤ c1) (hG_maxLen : GlobMaxLen w) (hG_numErr : GlobNumErr w) (hG_pow10 : GlobPow10 w) (h : keelsonlaw12_ClauseBack.f k a0 l1 a2 = some r) :
    Calls Tryz.prog 6 #[.int .i64 a0, .slice A1 l1.length c1, .string a2] w fun e w' => e = .returned (.bool r) ∧ Below w.heap.size w w' := by
  have HG_maxLen := Aside0.mk hG_maxLen
  clear hG_maxLen
  have HG_numErr := Aside0.mk hG_numErr
  clear hG_numErr
  have HG_pow10 := Aside0.mk hG_pow10
  clear hG_pow10
  have HR1 := Aside0.mk hr1
  have HC1 := Aside0.mk hc1
  clear hr1 hc1
  have HB := Aside0.mk (Below.refl w.heap.size w)
  have H : ((keelsonlaw12_shown.f k).bind fun t423 => ((keelsonlaw12_small.f k l1).bind fun t424 => (if t423 = true then (if t424 = true then (keelsonlaw12_ClauseBack.j0 k a0 l1 a2 t423 (decide ((a2.size : Int) > 3000))) else (keelsonlaw12_ClauseBack.j0 k a0 l1 a2 t423 true)) else (keelsonlaw12_ClauseBack.j0 k a0 l1 a2 t423 true)))) = some r := h
  clear h
  replace H := Option.bind_eq_some_iff.mp H
  obtain ⟨t423, A40, H⟩ := H
  replace H : ((keelsonlaw12_small.f k l1).bind fun t424 => (if t423 = true then (if t424 = true then (keelsonlaw12_ClauseBack.j0 k a0 l1 a2 t423 (decide ((a2.size : Int) > 3000))) else (keelsonlaw12_ClauseBack.j0 k a0 l1 a2 t423 true)) else (keelsonlaw12_ClauseBack.j0 k a0 l1 a2 t423 true))) = some r := H
  have A4 := Aside0.mk A40
  clear A40
  replace H := Option.bind_eq_some_iff.mp H
  obtain ⟨t424, A50, H⟩ := H
  replace H : (if t423 = true then (if t424 = true then (keelsonlaw12_ClauseBack.j0 k a0 l1 a2 t423 (decide ((a2.size : Int) > 3000))) else (keelsonlaw12_ClauseBack.j0 k a0 l1 a2 t423 true)) else (keelsonlaw12_ClauseBack.j0 k a0 l1 a2 t423 true)) = some r := H
  have A5 := Aside0.mk A50
  clear A50
  have HC6 := Aside0.mk H
  clear H
  go_enter Tryz.func6, Tryz.ntmps6
  go_upto_region 3 with (first | ((with_reducible refine gate_callee (f := 16) rfl ?_); refine goesL_ (some 16) rfl rfl Tryz.func16 (by kernel_rfl) rfl #[] rfl (by (try simp only [List.map_toArray, List.map_cons, List.map_nil]); first | done | rfl | (simp only [List.length_drop, List.length_take]; rfl)) ?_; (with_reducible refine (keelsonlaw12_shown.calls k  t423 _ ?side1 A4.out).mono ?_); (case side1 => exact HG_pow10.out.below (by repeat (first | (with_reducible first | exact HB.out | apply below_alloc | apply pw_below_drewN | apply below_drew1) | exact HB.out))); rintro e w7 ⟨rfl, hb⟩; refine ⟨_, rfl, ?_⟩; have n0_ := Aside0.mk (below_step (by repeat (first | (with_reducible first | exact HB.out | apply below_alloc | apply pw_below_drewN | apply below_drew1) | exact HB.out)) hb); clear HB; have HB := n0_; clear n0_; (try clear hb); (try clear hb2); (try clear hk); (try clear hi)) | ((with_reducible refine gate_callee (f := 17) rfl ?_); refine goesL_ (some 18) rfl rfl Tryz.func17 (by kernel_rfl) rfl #[.slice A1 l1.length c1] rfl (by (try simp only [List.map_toArray, List.map_cons, List.map_nil]); first | done | rfl | (simp only [List.length_drop, List.length_take]; rfl)) ?_; (with_reducible refine (keelsonlaw12_small.calls k _ _ l1 t424 _ ?side1 ?side2 A5.out).mono ?_); (case side1 => repeat (first | exact (Kd.C_below HR1.out HB.out) | (with_reducible refine Kd.C_alloc ?_ _) | (with_reducible refine Kd.C_drewN ?_ _) | (with_reducible refine Kd.C_drew ?_))); (case side2 => exact HC1.out); rintro e w' ⟨rfl, ⟨nd, rfl⟩⟩; refine ⟨_, rfl, ?_⟩))
  (try simp only [Act.put, List.setIfInBounds_toArray, List.set_cons_zero, List.set_cons_succ])
  go_cut [29] (fun v29 wc => ∃ (kq : Nat) (x29_5 : Bool), v29 = .bool x29_5 ∧ Aside0 (keelsonlaw12_ClauseBack.j0 kq a0 l1 a2 t423 x29_5 = some r) ∧ Aside0 (kq ≤ k) ∧ Aside0 (Below w.heap.size w wc))
  case first => as_aux_lemma =>
    have H := HC6.out
    clear HC6
    by_cases c8 : t423 = true
    · subst c8
      have H1 : (if t424 = true then (keelsonlaw12_ClauseBack.j0 k a0 l1 a2 true (decide ((a2.size : Int) > 3000))) else (keelsonlaw12_ClauseBack.j0 k a0 l1 a2 true true)) = some r := by rw [if_pos rfl] at H; exact H
      clear H
      have H := H1
      clear H1
      by_cases c9 : t424 = true
      · subst c9
        have H1 : (keelsonlaw12_ClauseBack.j0 k a0 l1 a2 true (decide ((a2.size : Int) > 3000))) = some r := by rw [if_pos rfl] at H; exact H
        clear H
        have H := H1
        clear H1
        have H' := Aside0.mk H
        clear H
        go_wp2
        go_meet
        case rel => exact ⟨_, (decide ((a2.size : Int) > 3000)), (by first | rfl | (simp; done) | (simp [*]; done)), H', ⟨by first | omega | exact Nat.le_refl _⟩, ⟨by repeat (first | (with_reducible first | exact HB.out | apply below_alloc | apply pw_below_drewN | apply below_drew1) | exact HB.out)⟩⟩
      · replace c9 := Bool.eq_false_iff.mpr c9
        subst c9
        have H1 : (keelsonlaw12_ClauseBack.j0 k a0 l1 a2 true true) = some r := by rw [if_neg (show ¬ (false = true) by decide)] at H; exact H
        clear H
        have H := H1
        clear H1
        have H' := Aside0.mk H
        clear H
        go_wp2
        go_meet
        case rel => exact ⟨_, (true), (by first | rfl | (simp; done) | (simp [*]; done)), H', ⟨by first | omega | exact Nat.le_refl _⟩, ⟨by repeat (first | (with_reducible first | exact HB.out | apply below_alloc | apply pw_below_drewN | apply below_drew1) | exact HB.out)⟩⟩
    · replace c8 := Bool.eq_false_iff.mpr c8
      subst c8
      have H1 : (keelsonlaw12_ClauseBack.j0 k a0 l1 a2 false true) = some r := by rw [if_neg (show ¬ (false = true) by decide)] at H; exact H
      clear H
      have H := H1
      clear H1
      have H' := Aside0.mk H
      clear H
      go_wp2
      go_meet
      case rel => exact ⟨_, (true), (by first | rfl | (simp; done) | (simp [*]; done)), H', ⟨by first | omega | exact Nat.le_refl _⟩, ⟨by repeat (first | (with_reducible first | exact HB.out | apply below_alloc | apply pw_below_drewN | apply below_drew1) | exact HB.out)⟩⟩
  case rest => as_aux_lemma =>
    clear HC6
    try clear c1
    try clear p2
    try clear c6
    try clear c8
    try clear c9
    obtain ⟨kq, x29_5, rfl, HA, HJ5, HB⟩ := hcut
    cases kq with
    | zero => exact absurd HA.out (by simp [keelsonlaw12_ClauseBack.j0])
    | succ kj5 =>
      have H := HA.out
      clear HA
      simp only [keelsonlaw12_ClauseBack.j0] at H
      by_cases c10 : x29_5 = true
      · subst c10
        have H1 : (some t423) = some r := by rw [if_pos rfl] at H; exact H
        clear H
        have H := H1
        clear H1
        obtain rfl := Option.some.inj H
        go_wp2
        go_ret
        exact ⟨by first | rfl | (simp [errW_none, errW_some] <;> rfl) | (simp [*, errW_none, errW_some] <;> rfl), by repeat (first | (with_reducible first | exact HB.out | apply below_alloc | apply pw_below_drewN | apply below_drew1) | exact HB.out)⟩
      · replace c10 := Bool.eq_false_iff.mpr c10
        subst c10
        have H1 : ((clause_Print.f a0 l1).bind fun t425 => ((clause_Parse.f kj5 t425).bind fun bt426 => ((clause_Right.f a0 l1).bind fun t431 => (if (t431 != (t425.toList != ([] : List UInt8))) = true then (keelsonlaw12_ClauseBack.j1 kj5 a2 true) else (if t425.toList = ([] : List UInt8) then (keelsonlaw12_ClauseBack.j1 kj5 a2 false) else (if (t425.size : Int) ≤ 60000 then (if bt426.2.2 = 0 then (if bt426.1 = a0 then ((keelsonlaw12_same.f kj5 bt426.2.1 l1).bind fun t432 => (keelsonlaw12_ClauseBack.j1 kj5 a2 (!t432))) else (keelsonlaw12_ClauseBack.j1 kj5 a2 true)) else (keelsonlaw12_ClauseBack.j1 kj5 a2 true)) else (keelsonlaw12_ClauseBack.j1 kj5 a2 false))))))) = some r := by rw [if_neg (show ¬ (false = true) by decide)] at H; exact H
        clear H
        have H := H1
        clear H1
        replace H := Option.bind_eq_some_iff.mp H
        obtain ⟨t425, A110, H⟩ := H
        replace H : ((clause_Parse.f kj5 t425).bind fun bt426 => ((clause_Right.f a0 l1).bind fun t431 => (if (t431 != (t425.toList != ([] : List UInt8))) = true then (keelsonlaw12_ClauseBack.j1 kj5 a2 true) else (if t425.toList = ([] : List UInt8) then (keelsonlaw12_ClauseBack.j1 kj5 a2 false) else (if (t425.size : Int) ≤ 60000 then (if bt426.2.2 = 0 then (if bt426.1 = a0 then ((keelsonlaw12_same.f kj5 bt426.2.1 l1).bind fun t432 => (keelsonlaw12_ClauseBack.j1 kj5 a2 (!t432))) else (keelsonlaw12_ClauseBack.j1 kj5 a2 true)) else (keelsonlaw12_ClauseBack.j1 kj5 a2 true)) else (keelsonlaw12_ClauseBack.j1 kj5 a2 false)))))) = some r := H
        have A11 := Aside0.mk A110
        clear A110
        replace H := Option.bind_eq_some_iff.mp H
        obtain ⟨⟨t426, t427, t428⟩, A120, H⟩ := H
        replace H : ((clause_Right.f a0 l1).bind fun t431 => (if (t431 != (t425.toList != ([] : List UInt8))) = true then (keelsonlaw12_ClauseBack.j1 kj5 a2 true) else (if t425.toList = ([] : List UInt8) then (keelsonlaw12_ClauseBack.j1 kj5 a2 false) else (if (t425.size : Int) ≤ 60000 then (if t428 = 0 then (if t426 = a0 then ((keelsonlaw12_same.f kj5 t427 l1).bind fun t432 => (keelsonlaw12_ClauseBack.j1 kj5 a2 (!t432))) else (keelsonlaw12_ClauseBack.j1 kj5 a2 true)) else (keelsonlaw12_ClauseBack.j1 kj5 a2 true)) else (keelsonlaw12_ClauseBack.j1 kj5 a2 false))))) = some r := H
        have A12 := Aside0.mk A120
        clear A120
        have HC13 := Aside0.mk H
        clear H
        go_upto_region 7 with (first | ((with_reducible refine gate_callee (f := 18) rfl ?_); refine goesL_ (some 33) rfl rfl Tryz.func18 (by kernel_rfl) rfl #[.int .i64 a0, .slice A1 l1.length c1] rfl (by (try simp only [List.map_toArray, List.map_cons, List.map_nil]); first | done | rfl | (simp only [List.length_drop, List.length_take]; rfl)) ?_; (with_reducible refine (clause_Print.calls a0 _ _ l1 t425 _ ?side1 ?side2 ?side3 A11.out).mono ?_); (case side1 => repeat (first | exact (Kd.C_below HR1.out HB.out) | (with_reducible refine Kd.C_alloc ?_ _) | (with_reducible refine Kd.C_drewN ?_ _) | (with_reducible refine Kd.C_drew ?_))); (case side2 => exact HC1.out); (case side3 => exact HG_pow10.out.below (by repeat (first | (with_reducible first | exact HB.out | apply below_alloc | apply pw_below_drewN | apply below_drew1) | exact HB.out))); rintro e w14 ⟨rfl, hb⟩; refine ⟨_, rfl, ?_⟩; have n0_ := Aside0.mk (below_step (by repeat (first | (with_reducible first | exact HB.out | apply below_alloc | apply pw_below_drewN | apply below_drew1) | exact HB.out)) hb); clear HB; have HB := n0_; clear n0_; (try clear hb); (try clear hb2); (try clear hk); (try clear hi)) | ((with_reducible refine gate_callee (f := 19) rfl ?_); refine goesL_ (some 36) rfl rfl Tryz.func19 (by kernel_rfl) rfl #[.string t425] rfl (by (try simp only [List.map_toArray, List.map_cons, List.map_nil]); first | done | rfl | (simp only [List.length_drop, List.length_take]; rfl)) ?_; (with_reducible refine (clause_Parse.calls kj5 t425 t426 t427 t428 _ ?side1 ?side2 ?side3 A12.out).mono ?_); (case side1 => exact HG_maxLen.out.below (by repeat (first | (with_reducible first | exact HB.out | apply below_alloc | apply pw_below_drewN | apply below_drew1) | exact HB.out))); (case side2 => exact HG_numErr.out.below (by repeat (first | (with_reducible first | exact HB.out | apply below_alloc | apply pw_below_drewN | apply below_drew1) | exact HB.out))); (case side3 => exact HG_pow10.out.below (by repeat (first | (with_reducible first | exact HB.out | apply below_alloc | apply pw_below_drewN | apply below_drew1) | exact HB.out))); rintro e w15 ⟨v429, rfl, ho0, hb⟩; refine ⟨_, rfl, ?_⟩; have n0_ := Aside0.mk (Kd.S_lower ho0 (below_size (by repeat (first | (with_reducible first | exact HB.out | apply below_alloc | apply pw_below_drewN | apply below_drew1) | exact HB.out)))); have n1_ := Aside0.mk (below_step (by repeat (first | (with_reducible first | exact HB.out | apply below_alloc | apply pw_below_drewN | apply below_drew1) | exact HB.out)) hb); clear HB; have HO430 := n0_; have HB := n1_; clear n0_ n1_; (try clear hb); (try clear hb2); (try clear hk); (try clear hi); (try clear ho0)))
        (try simp only [Act.put, List.setIfInBounds_toArray, List.set_cons_zero, List.set_cons_succ])
        go_cut [69] (fun v69 wc => ∃ (kq : Nat) (x69_12 : Bool), v69 = .bool x69_12 ∧ Aside0 (keelsonlaw12_ClauseBack.j1 kq a2 x69_12 = some r) ∧ Aside0 (kq ≤ kj5) ∧ Aside0 (Below w.heap.size w wc))
        case first => as_aux_lemma =>
          have H := HC13.out
          clear HC13
          replace H := Option.bind_eq_some_iff.mp H
          obtain ⟨t431, A160, H⟩ := H
          replace H : (if (t431 != (t425.toList != ([] : List UInt8))) = true then (keelsonlaw12_ClauseBack.j1 kj5 a2 true) else (if t425.toList = ([] : List UInt8) then (keelsonlaw12_ClauseBack.j1 kj5 a2 false) else (if (t425.size : Int) ≤ 60000 then (if t428 = 0 then (if t426 = a0 then ((keelsonlaw12_same.f kj5 t427 l1).bind fun t432 => (keelsonlaw12_ClauseBack.j1 kj5 a2 (!t432))) else (keelsonlaw12_ClauseBack.j1 kj5 a2 true)) else (keelsonlaw12_ClauseBack.j1 kj5 a2 true)) else (keelsonlaw12_ClauseBack.j1 kj5 a2 false)))) = some r := H
          have A16 := Aside0.mk A160
          clear A160
          by_cases c17 : (t431 != (t425.toList != ([] : List UInt8))) = true
          · rw [if_pos c17] at H
            have c17b0 : (t431 != (t425.toList != ([] : List UInt8))) = true := c17
            have c17b7 : (t431 != !t425.toList.isEmpty) = true := by rw [← c17b0]; cases t425.toList <;> rfl
            have c17b8 : (t431 = !t425.toList.isEmpty) = False := eq_false (by revert c17b7; cases t431 <;> cases t425.toList.isEmpty <;> simp)
            (try (have c17b1 : decide (t431 = (t425.toList != ([] : List UInt8))) = false := by simpa using c17))
            (try (have c17b2 : (t431 == (t425.toList != ([] : List UInt8))) = false := by simpa using c17))
            (try (have c17b3 : ¬ (t431 = (t425.toList != ([] : List UInt8))) := by simpa using c17))
            clear c17
            (first | rw [c17b0] | (simp only [i64_w, i32_w]; rw [c17b0]) | rw [c17b1] | rw [c17b7] | skip)
            have H' := Aside0.mk H
            clear H
            go_wp2_with (first | ((with_reducible refine gate_callee (f := 20) rfl ?_); refine goesL_ (some 42) rfl rfl Tryz.func20 (by kernel_rfl) rfl #[.int .i64 a0, .slice A1 l1.length c1] rfl (by (try simp only [List.map_toArray, List.map_cons, List.map_nil]); first | done | rfl | (simp only [List.length_drop, List.length_take]; rfl)) ?_; (with_reducible refine (clause_Right.calls a0 _ _ l1 t431 _ ?side1 ?side2 A16.out).mono ?_); (case side1 => repeat (first | exact (Kd.C_below HR1.out HB.out) | (with_reducible refine Kd.C_alloc ?_ _) | (with_reducible refine Kd.C_drewN ?_ _) | (with_reducible refine Kd.C_drew ?_))); (case side2 => exact HC1.out); rintro e w18 ⟨rfl, hb⟩; refine ⟨_, rfl, ?_⟩; have n0_ := Aside0.mk (Kd.S_below (by (with_reducible repeat (first | apply Kd.S_alloc | apply Kd.S_drewN | apply Kd.S_drew)); exact HO430.out) hb); have n1_ := Aside0.mk (below_step (by repeat (first | (with_reducible first | exact HB.out | apply below_alloc | apply pw_below_drewN | apply below_drew1) | exact HB.out)) hb); clear HO430; clear HB; have HO430 := n0_; have HB := n1_; clear n0_ n1_; (try clear hb); (try clear hb2); (try clear hk); (try clear hi)))
            go_meet
            case rel => exact ⟨_, (true), (by first | rfl | (simp; done) | (simp [*]; done)), H', ⟨by have := HJ5.out; first | omega | exact Nat.le_refl _⟩, ⟨by repeat (first | (with_reducible first | exact HB.out | apply below_alloc | apply pw_below_drewN | apply below_drew1) | exact HB.out)⟩⟩
          · rw [if_neg c17] at H
            have c17b0 : (t431 != (t425.toList != ([] : List UInt8))) = false := by simpa using c17
            have c17b7 : (t431 != !t425.toList.isEmpty) = false := by rw [← c17b0]; cases t425.toList <;> rfl
            have c17b8 : (t431 = !t425.toList.isEmpty) = True := eq_true (by revert c17b7; cases t431 <;> cases t425.toList.isEmpty <;> simp)
            (try (have c17b1 : decide (t431 = (t425.toList != ([] : List UInt8))) = true := by simpa using c17))
            (try (have c17b2 : (t431 == (t425.toList != ([] : List UInt8))) = true := by simpa using c17))
            clear c17
            (first | rw [c17b0] | (simp only [i64_w, i32_w]; rw [c17b0]) | rw [c17b1] | rw [c17b7] | skip)
            by_cases c19 : t425.toList = ([] : List UInt8)
            · rw [if_pos c19] at H
              have c19b0 : (t425.toList == ([] : List UInt8)) = true := beq_iff_eq.mpr c19
              have c19b1 : (t425.toList != ([] : List UInt8)) = false := bne_eq_false_iff_eq.mpr c19
              have c19b4 : (t425.toList = []) = True := eq_true c19
              have c19b5 : t425.toList.isEmpty = true := by first | simpa using c19 | (simp; exact c19)
              try (simp only [c19b5, Bool.not_true, Bool.not_false] at c17b8)
              try (simp only [c19b5, Bool.not_true, Bool.not_false] at c17b7)
              try have c17b9 := of_eq_true c17b8
              clear c19
              have H' := Aside0.mk H
              clear H
              go_wp2_with (first | ((with_reducible refine gate_callee (f := 20) rfl ?_); refine goesL_ (some 42) rfl rfl Tryz.func20 (by kernel_rfl) rfl #[.int .i64 a0, .slice A1 l1.length c1] rfl (by (try simp only [List.map_toArray, List.map_cons, List.map_nil]); first | done | rfl | (simp only [List.length_drop, List.length_take]; rfl)) ?_; (with_reducible refine (clause_Right.calls a0 _ _ l1 t431 _ ?side1 ?side2 A16.out).mono ?_); (case side1 => repeat (first | exact (Kd.C_below HR1.out HB.out) | (with_reducible refine Kd.C_alloc ?_ _) | (with_reducible refine Kd.C_drewN ?_ _) | (with_reducible refine Kd.C_drew ?_))); (case side2 => exact HC1.out); rintro e w20 ⟨rfl, hb⟩; refine ⟨_, rfl, ?_⟩; have n0_ := Aside0.mk (Kd.S_below (by (with_reducible repeat (first | apply Kd.S_alloc | apply Kd.S_drewN | apply Kd.S_drew)); exact HO430.out) hb); have n1_ := Aside0.mk (below_step (by repeat (first | (with_reducible first | exact HB.out | apply below_alloc | apply pw_below_drewN | apply below_drew1) | exact HB.out)) hb); clear HO430; clear HB; have HO430 := n0_; have HB := n1_; clear n0_ n1_; (try clear hb); (try clear hb2); (try clear hk); (try clear hi)))
              go_meet
              case rel => exact ⟨_, (false), (by first | rfl | (simp; done) | (simp [*]; done)), H', ⟨by have := HJ5.out; first | omega | exact Nat.le_refl _⟩, ⟨by repeat (first | (with_reducible first | exact HB.out | apply below_alloc | apply pw_below_drewN | apply below_drew1) | exact HB.out)⟩⟩
            · rw [if_neg c19] at H
              have c19b0 : (t425.toList == ([] : List UInt8)) = false := beq_eq_false_iff_ne.mpr c19
              have c19b1 : (t425.toList != ([] : List UInt8)) = true := bne_iff_ne.mpr c19
              have c19b4 : (t425.toList = []) = False := eq_false c19
              have c19b5 : t425.toList.isEmpty = false := by first | simpa using c19 | (simp; exact c19)
              try (simp only [c19b5, Bool.not_true, Bool.not_false] at c17b8)
              try (simp only [c19b5, Bool.not_true, Bool.not_false] at c17b7)
              try have c17b9 := of_eq_true c17b8
              by_cases c21 : (t425.size : Int) ≤ 60000
              · rw [if_pos c21] at H
                have c21b0 : decide ((t425.size : Int) ≤ 60000) = true := decide_eq_true c21
                have c21b1 : decide (t425.size ≤ 60000) = true := decide_eq_true (by omega)
                clear c21
                by_cases c22 : t428 = 0
                · rw [if_pos c22] at H
                  have c22b0 : (t428 == 0) = true := beq_iff_eq.mpr c22
                  have c22b1 : (t428 != 0) = false := bne_eq_false_iff_eq.mpr c22
                  clear c22
                  by_cases c23 : t426 = a0
                  · rw [if_pos c23] at H
                    have c23b0 : (t426 == a0) = true := beq_iff_eq.mpr c23
                    have c23b1 : (t426 != a0) = false := bne_eq_false_iff_eq.mpr c23
                    clear c23
                    replace H := Option.bind_eq_some_iff.mp H
                    obtain ⟨t432, A240, H⟩ := H
                    replace H : (keelsonlaw12_ClauseBack.j1 kj5 a2 (!t432)) = some r := H
                    have A24 := Aside0.mk A240
                    clear A240
                    have H' := Aside0.mk H
                    clear H
                    go_wp2_with (first | ((with_reducible refine gate_callee (f := 20) rfl ?_); refine goesL_ (some 42) rfl rfl Tryz.func20 (by kernel_rfl) rfl #[.int .i64 a0, .slice A1 l1.length c1] rfl (by (try simp only [List.map_toArray, List.map_cons, List.map_nil]); first | done | rfl | (simp only [List.length_drop, List.length_take]; rfl)) ?_; (with_reducible refine (clause_Right.calls a0 _ _ l1 t431 _ ?side1 ?side2 A16.out).mono ?_); (case side1 => repeat (first | exact (Kd.C_below HR1.out HB.out) | (with_reducible refine Kd.C_alloc ?_ _) | (with_reducible refine Kd.C_drewN ?_ _) | (with_reducible refine Kd.C_drew ?_))); (case side2 => exact HC1.out); rintro e w25 ⟨rfl, hb⟩; refine ⟨_, rfl, ?_⟩; have n0_ := Aside0.mk (Kd.S_below (by (with_reducible repeat (first | apply Kd.S_alloc | apply Kd.S_drewN | apply Kd.S_drew)); exact HO430.out) hb); have n1_ := Aside0.mk (below_step (by repeat (first | (with_reducible first | exact HB.out | apply below_alloc | apply pw_below_drewN | apply below_drew1) | exact HB.out)) hb); clear HO430; clear HB; have HO430 := n0_; have HB := n1_; clear n0_ n1_; (try clear hb); (try clear hb2); (try clear hk); (try clear hi); obtain ⟨Ao26, co26, eo26⟩ := Kd.S_slice HO430.out; subst eo26) | (go_at_call 21; (with_reducible refine (keelsonlaw12_same.calls kj5 _ _ t427 _ _ l1 t432 _ ?side1 ?side2 ?side3 ?side4 A24.out).mono ?_); (case side1 => repeat (first | exact (Kd.S_reads' HO430.out).2.2 | (with_reducible refine Kd.C_alloc ?_ _) | (with_reducible refine Kd.C_drewN ?_ _) | (with_reducible refine Kd.C_drew ?_))); (case side2 => exact (Kd.S_reads' HO430.out).2.1); (case side3 => repeat (first | exact (Kd.C_below HR1.out HB.out) | (with_reducible refine Kd.C_alloc ?_ _) | (with_reducible refine Kd.C_drewN ?_ _) | (with_reducible refine Kd.C_drew ?_))); (case side4 => exact HC1.out); rintro e w' ⟨rfl, ⟨nd, rfl⟩⟩))
                    go_meet
                    case rel => exact ⟨_, (!t432), (by first | rfl | (simp; done) | (simp [*]; done)), H', ⟨by have := HJ5.out; first | omega | exact Nat.le_refl _⟩, ⟨by repeat (first | (with_reducible first | exact HB.out | apply below_alloc | apply pw_below_drewN | apply below_drew1) | exact HB.out)⟩⟩
                  · rw [if_neg c23] at H
                    have c23b0 : (t426 == a0) = false := beq_eq_false_iff_ne.mpr c23
                    have c23b1 : (t426 != a0) = true := bne_iff_ne.mpr c23
                    have H' := Aside0.mk H
                    clear H
                    go_wp2_with (first | ((with_reducible refine gate_callee (f := 20) rfl ?_); refine goesL_ (some 42) rfl rfl Tryz.func20 (by kernel_rfl) rfl #[.int .i64 a0, .slice A1 l1.length c1] rfl (by (try simp only [List.map_toArray, List.map_cons, List.map_nil]); first | done | rfl | (simp only [List.length_drop, List.length_take]; rfl)) ?_; (with_reducible refine (clause_Right.calls a0 _ _ l1 t431 _ ?side1 ?side2 A16.out).mono ?_); (case side1 => repeat (first | exact (Kd.C_below HR1.out HB.out) | (with_reducible refine Kd.C_alloc ?_ _) | (with_reducible refine Kd.C_drewN ?_ _) | (with_reducible refine Kd.C_drew ?_))); (case side2 => exact HC1.out); rintro e w27 ⟨rfl, hb⟩; refine ⟨_, rfl, ?_⟩; have n0_ := Aside0.mk (Kd.S_below (by (with_reducible repeat (first | apply Kd.S_alloc | apply Kd.S_drewN | apply Kd.S_drew)); exact HO430.out) hb); have n1_ := Aside0.mk (below_step (by repeat (first | (with_reducible first | exact HB.out | apply below_alloc | apply pw_below_drewN | apply below_drew1) | exact HB.out)) hb); clear HO430; clear HB; have HO430 := n0_; have HB := n1_; clear n0_ n1_; (try clear hb); (try clear hb2); (try clear hk); (try clear hi)))
                    go_meet
                    case rel => exact ⟨_, (true), (by first | rfl | (simp; done) | (simp [*]; done)), H', ⟨by have := HJ5.out; first | omega | exact Nat.le_refl _⟩, ⟨by repeat (first | (with_reducible first | exact HB.out | apply below_alloc | apply pw_below_drewN | apply below_drew1) | exact HB.out)⟩⟩
                · rw [if_neg c22] at H
                  have c22b0 : (t428 == 0) = false := beq_eq_false_iff_ne.mpr c22
                  have c22b1 : (t428 != 0) = true := bne_iff_ne.mpr c22
                  have H' := Aside0.mk H
                  clear H
                  go_wp2_with (first | ((with_reducible refine gate_callee (f := 20) rfl ?_); refine goesL_ (some 42) rfl rfl Tryz.func20 (by kernel_rfl) rfl #[.int .i64 a0, .slice A1 l1.length c1] rfl (by (try simp only [List.map_toArray, List.map_cons, List.map_nil]); first | done | rfl | (simp only [List.length_drop, List.length_take]; rfl)) ?_; (with_reducible refine (clause_Right.calls a0 _ _ l1 t431 _ ?side1 ?side2 A16.out).mono ?_); (case side1 => repeat (first | exact (Kd.C_below HR1.out HB.out) | (with_reducible refine Kd.C_alloc ?_ _) | (with_reducible refine Kd.C_drewN ?_ _) | (with_reducible refine Kd.C_drew ?_))); (case side2 => exact HC1.out); rintro e w28 ⟨rfl, hb⟩; refine ⟨_, rfl, ?_⟩; have n0_ := Aside0.mk (Kd.S_below (by (with_reducible repeat (first | apply Kd.S_alloc | apply Kd.S_drewN | apply Kd.S_drew)); exact HO430.out) hb); have n1_ := Aside0.mk (below_step (by repeat (first | (with_reducible first | exact HB.out | apply below_alloc | apply pw_below_drewN | apply below_drew1) | exact HB.out)) hb); clear HO430; clear HB; have HO430 := n0_; have HB := n1_; clear n0_ n1_; (try clear hb); (try clear hb2); (try clear hk); (try clear hi)))
                  go_meet
                  case rel => exact ⟨_, (true), (by first | rfl | (simp; done) | (simp [*]; done)), H', ⟨by have := HJ5.out; first | omega | exact Nat.le_refl _⟩, ⟨by repeat (first | (with_reducible first | exact HB.out | apply below_alloc | apply pw_below_drewN | apply below_drew1) | exact HB.out)⟩⟩
              · rw [if_neg c21] at H
                have c21b0 : decide ((t425.size : Int) ≤ 60000) = false := decide_eq_false c21
                have c21b1 : decide (t425.size ≤ 60000) = false := decide_eq_false (by omega)
                clear c21
                have H' := Aside0.mk H
                clear H
                go_wp2_with (first | ((with_reducible refine gate_callee (f := 20) rfl ?_); refine goesL_ (some 42) rfl rfl Tryz.func20 (by kernel_rfl) rfl #[.int .i64 a0, .slice A1 l1.length c1] rfl (by (try simp only [List.map_toArray, List.map_cons, List.map_nil]); first | done | rfl | (simp only [List.length_drop, List.length_take]; rfl)) ?_; (with_reducible refine (clause_Right.calls a0 _ _ l1 t431 _ ?side1 ?side2 A16.out).mono ?_); (case side1 => repeat (first | exact (Kd.C_below HR1.out HB.out) | (with_reducible refine Kd.C_alloc ?_ _) | (with_reducible refine Kd.C_drewN ?_ _) | (with_reducible refine Kd.C_drew ?_))); (case side2 => exact HC1.out); rintro e w29 ⟨rfl, hb⟩; refine ⟨_, rfl, ?_⟩; have n0_ := Aside0.mk (Kd.S_below (by (with_reducible repeat (first | apply Kd.S_alloc | apply Kd.S_drewN | apply Kd.S_drew)); exact HO430.out) hb); have n1_ := Aside0.mk (below_step (by repeat (first | (with_reducible first | exact HB.out | apply below_alloc | apply pw_below_drewN | apply below_drew1) | exact HB.out)) hb); clear HO430; clear HB; have HO430 := n0_; have HB := n1_; clear n0_ n1_; (try clear hb); (try clear hb2); (try clear hk); (try clear hi)))
                go_meet
                case rel => exact ⟨_, (false), (by first | rfl | (simp; done) | (simp [*]; done)), H', ⟨by have := HJ5.out; first | omega | exact Nat.le_refl _⟩, ⟨by repeat (first | (with_reducible first | exact HB.out | apply below_alloc | apply pw_below_drewN | apply below_drew1) | exact HB.out)⟩⟩
        case rest => as_aux_lemma =>
          clear HC13
          try clear c1
          try clear c2
          try clear p2
          try clear c6
          try clear c8
          try clear c9
          try clear c10
          try clear c16
          try clear c17
          try clear c17b0
          try clear c17b1
          try clear c17b2
          try clear c18
          try clear c19
          try clear c19b0
          try clear c19b1
          try clear c20
          try clear c21
          try clear c21b0
          try clear c21b1
          try clear c22
          try clear c22b0
          try clear c22b1
          try clear c23
          try clear c23b0
          try clear c23b1
          try clear p2
          obtain ⟨kq, x69_12, rfl, HA, HJ12, HB⟩ := hcut
          cases kq with
          | zero => exact absurd HA.out (by simp [keelsonlaw12_ClauseBack.j1])
          | succ kj12 =>
            have H := HA.out
            clear HA
            simp only [keelsonlaw12_ClauseBack.j1] at H
            by_cases c30 : x69_12 = true
            · subst c30
              have H1 : (none) = some r := by rw [if_pos rfl] at H; exact H
              clear H
              have H := H1
              clear H1
              exact absurd H (by simp)
            · replace c30 := Bool.eq_false_iff.mpr c30
              subst c30
              have H1 : ((clause_Parse.f kj12 a2).bind fun bt433 => (if bt433.2.2 = 0 then ((clause_Print.f bt433.1 bt433.2.1).bind fun t438 => (some (t438.toList == a2.toList))) else (if (bt433.2.1.length : Int) = 0 then (if bt433.1 = 0 then (some true) else (none)) else (none)))) = some r := by rw [if_neg (show ¬ (false = true) by decide)] at H; exact H
              clear H
              have H := H1
              clear H1
              replace H := Option.bind_eq_some_iff.mp H
              obtain ⟨⟨t433, t434, t435⟩, A310, H⟩ := H
              replace H : (if t435 = 0 then ((clause_Print.f t433 t434).bind fun t438 => (some (t438.toList == a2.toList))) else (if (t434.length : Int) = 0 then (if t433 = 0 then (some true) else (none)) else (none))) = some r := H
              have A31 := Aside0.mk A310
              clear A310
              by_cases c32 : t435 = 0
              · rw [if_pos c32] at H
                have c32b0 : (t435 == 0) = true := beq_iff_eq.mpr c32
                have c32b1 : (t435 != 0) = false := bne_eq_false_iff_eq.mpr c32
                clear c32
                replace H := Option.bind_eq_some_iff.mp H
                obtain ⟨t438, A330, H⟩ := H
                replace H : (some (t438.toList == a2.toList)) = some r := H
                have A33 := Aside0.mk A330
                clear A330
                obtain rfl := Option.some.inj H
                go_wp2_with (first | ((with_reducible refine gate_callee (f := 19) rfl ?_); refine goesL_ (some 72) rfl rfl Tryz.func19 (by kernel_rfl) rfl #[.string a2] rfl (by (try simp only [List.map_toArray, List.map_cons, List.map_nil]); first | done | rfl | (simp only [List.length_drop, List.length_take]; rfl)) ?_; (with_reducible refine (clause_Parse.calls kj12 a2 t433 t434 t435 _ ?side1 ?side2 ?side3 A31.out).mono ?_); (case side1 => exact HG_maxLen.out.below (by repeat (first | (with_reducible first | exact HB.out | apply below_alloc | apply pw_below_drewN | apply below_drew1) | exact HB.out))); (case side2 => exact HG_numErr.out.below (by repeat (first | (with_reducible first | exact HB.out | apply below_alloc | apply pw_below_drewN | apply below_drew1) | exact HB.out))); (case side3 => exact HG_pow10.out.below (by repeat (first | (with_reducible first | exact HB.out | apply below_alloc | apply pw_below_drewN | apply below_drew1) | exact HB.out))); rintro e w34 ⟨v436, rfl, ho0, hb⟩; refine ⟨_, rfl, ?_⟩; have n0_ := Aside0.mk (Kd.S_lower ho0 (below_size (by repeat (first | (with_reducible first | exact HB.out | apply below_alloc | apply pw_below_drewN | apply below_drew1) | exact HB.out)))); have n1_ := Aside0.mk (below_step (by repeat (first | (with_reducible first | exact HB.out | apply below_alloc | apply pw_below_drewN | apply below_drew1) | exact HB.out)) hb); clear HB; have HO437 := n0_; have HB := n1_; clear n0_ n1_; (try clear hb); (try clear hb2); (try clear hk); (try clear hi); (try clear ho0); obtain ⟨Ao35, co35, eo35⟩ := Kd.S_slice HO437.out; subst eo35) | (go_at_call 18; (with_reducible refine (clause_Print.calls t433 _ _ t434 t438 _ ?side1 ?side2 ?side3 A33.out).mono ?_); (case side1 => repeat (first | exact (Kd.S_reads' HO437.out).2.2 | (with_reducible refine Kd.C_alloc ?_ _) | (with_reducible refine Kd.C_drewN ?_ _) | (with_reducible refine Kd.C_drew ?_))); (case side2 => exact (Kd.S_reads' HO437.out).2.1); (case side3 => exact HG_pow10.out.below (by repeat (first | (with_reducible first | exact HB.out | apply below_alloc | apply pw_below_drewN | apply below_drew1) | exact HB.out))); rintro e w36 ⟨rfl, hb⟩; have n0_ := Aside0.mk (Kd.S_below (by (with_reducible repeat (first | apply Kd.S_alloc | apply Kd.S_drewN | apply Kd.S_drew)); exact HO437.out) hb); have n1_ := Aside0.mk (below_step (by repeat (first | (with_reducible first | exact HB.out | apply below_alloc | apply pw_below_drewN | apply below_drew1) | exact HB.out)) hb); clear HO437; clear HB; have HO437 := n0_; have HB := n1_; clear n0_ n1_; (try clear hb); (try clear hb2); (try clear hk); (try clear hi)))
                go_ret
                exact ⟨by first | rfl | (simp [errW_none, errW_some] <;> rfl) | (simp [*, errW_none, errW_some] <;> rfl), by repeat (first | (with_reducible first | exact HB.out | apply below_alloc | apply pw_below_drewN | apply below_drew1) | exact HB.out)⟩
              · rw [if_neg c32] at H
                have c32b0 : (t435 == 0) = false := beq_eq_false_iff_ne.mpr c32
                have c32b1 : (t435 != 0) = true := bne_iff_ne.mpr c32
                by_cases c37 : (t434.length : Int) = 0
                · rw [if_pos c37] at H
                  have c37b0 : ((t434.length : Int) == 0) = true := beq_iff_eq.mpr c37
                  have c37b1 : ((t434.length : Int) != 0) = false := bne_eq_false_iff_eq.mpr c37
                  clear c37
                  by_cases c38 : t433 = 0
                  · rw [if_pos c38] at H
                    have c38b0 : (t433 == 0) = true := beq_iff_eq.mpr c38
                    have c38b1 : (t433 != 0) = false := bne_eq_false_iff_eq.mpr c38
                    clear c38
                    obtain rfl := Option.some.inj H
                    go_wp2_with (first | ((with_reducible refine gate_callee (f := 19) rfl ?_); refine goesL_ (some 72) rfl rfl Tryz.func19 (by kernel_rfl) rfl #[.string a2] rfl (by (try simp only [List.map_toArray, List.map_cons, List.map_nil]); first | done | rfl | (simp only [List.length_drop, List.length_take]; rfl)) ?_; (with_reducible refine (clause_Parse.calls kj12 a2 t433 t434 t435 _ ?side1 ?side2 ?side3 A31.out).mono ?_); (case side1 => exact HG_maxLen.out.below (by repeat (first | (with_reducible first | exact HB.out | apply below_alloc | apply pw_below_drewN | apply below_drew1) | exact HB.out))); (case side2 => exact HG_numErr.out.below (by repeat (first | (with_reducible first | exact HB.out | apply below_alloc | apply pw_below_drewN | apply below_drew1) | exact HB.out))); (case side3 => exact HG_pow10.out.below (by repeat (first | (with_reducible first | exact HB.out | apply below_alloc | apply pw_below_drewN | apply below_drew1) | exact HB.out))); rintro e w39 ⟨v436, rfl, ho0, hb⟩; refine ⟨_, rfl, ?_⟩; have n0_ := Aside0.mk (Kd.S_lower ho0 (below_size (by repeat (first | (with_reducible first | exact HB.out | apply below_alloc | apply pw_below_drewN | apply below_drew1) | exact HB.out)))); have n1_ := Aside0.mk (below_step (by repeat (first | (with_reducible first | exact HB.out | apply below_alloc | apply pw_below_drewN | apply below_drew1) | exact HB.out)) hb); clear HB; have HO437 := n0_; have HB := n1_; clear n0_ n1_; (try clear hb); (try clear hb2); (try clear hk); (try clear hi); (try clear ho0); obtain ⟨Ao40, co40, eo40⟩ := Kd.S_slice HO437.out; subst eo40))
                    go_ret
                    exact ⟨by first | rfl | (simp [errW_none, errW_some] <;> rfl) | (simp [*, errW_none, errW_some] <;> rfl), by repeat (first | (with_reducible first | exact HB.out | apply below_alloc | apply pw_below_drewN | apply below_drew1) | exact HB.out)⟩
                  · rw [if_neg c38] at H
                    exact absurd H (by simp)
                · rw [if_neg c37] at H
                  exact absurd H (by simp)

end Go.Proofs.YtlcfpmdamehopaaGreatDoor.PA
/- ClauseBack's plain law: a right formula is parsed as it was printed; what was parsed is printed as the text. -/
namespace Go.Proofs.YtlcfpmdamehopaaGreatDoor.PA
open Go.RowKit Go.Proofs.YtlcfpmdamehopaaGreatDoorW.PrintWords Go.Proofs.YtlcfpmdamehopaaGreatDoorW.PrintLast Go.Proofs.YtlcfpmdamehopaaGreatDoorW.PrintMore

def cnfL : List UInt8 := [112, 32, 99, 110, 102, 32]
/-- What a text is parsed as. -/
def parseF (s : List UInt8) : Int × List (List Int) × Int :=
  if s.length > 60000 then (0, [], 9) else
  let a := cutC 10 s
  let p := Lib.hasPrefix a.1 cnfL
  let b := cutC 32 (Lib.trimPrefix a.1 cnfL)
  if a.2.2 && p && b.2.2 && (numL b.1).2 && (numL b.2.1).2 then endC (numL b.1).1 (numL b.2.1).1 (linesC (a.2.1.length + 1) a.2.1 []) else (0, [], 5)
theorem prefix_f (s p : ByteArray) : stringslite_HasPrefix.f s p = some (Lib.hasPrefix s.data.toList p.data.toList) := by
  have hs := data_length s
  have hp := data_length p
  unfold stringslite_HasPrefix.f Lib.hasPrefix
  by_cases h : (s.size : Int) ≥ (p.size : Int)
  · rw [if_pos h, if_pos (by omega), if_pos (by omega), Int.toNat_natCast]
    congr 1
    rw [ByteArray.toList_eq, ByteArray.toList_eq, ByteArray.data_extract, Array.toList_extract, List.extract_eq_take_drop, List.drop_zero, Nat.sub_zero, Bool.eq_iff_iff, beq_iff_eq, List.isPrefixOf_iff_prefix, List.prefix_iff_eq_take, hp]
    exact eq_comm
  · rw [if_neg h]
    congr 1
    rw [eq_comm, Bool.eq_false_iff]
    intro e
    have := (List.isPrefixOf_iff_prefix.1 e).length_le
    omega
theorem cutPrefix_f (s p : ByteArray) : strings_CutPrefix.f s p = some (⟨(Lib.trimPrefix s.data.toList p.data.toList).toArray⟩, Lib.hasPrefix s.data.toList p.data.toList) := by
  have hs := data_length s
  have hp := data_length p
  unfold strings_CutPrefix.f stringslite_CutPrefix.f Lib.trimPrefix
  rw [prefix_f, Option.bind_some]
  cases h : Lib.hasPrefix s.data.toList p.data.toList with
  | true =>
    have hl : p.data.toList.length ≤ s.data.toList.length := (List.isPrefixOf_iff_prefix.1 h).length_le
    rw [if_pos rfl, if_pos (by omega), if_pos (by omega), Option.bind_some, if_pos rfl, Int.toNat_natCast]
    congr 2
    refine bytes_injQ ?_
    rw [ByteArray.data_extract, Array.toList_extract, List.extract_eq_take_drop, hp]
    show List.take (s.size - p.size) (List.drop p.size s.data.toList) = List.drop p.size s.data.toList
    rw [List.take_of_length_le (by rw [List.length_drop]; omega)]
  | false =>
    rw [if_neg (by decide), Option.bind_some, if_neg (by decide)]
theorem parseF_ev (s : ByteArray) : Ev (fun k => clause_Parse.f k s) (parseF s.data.toList) := by
  have hl := data_length s
  unfold clause_Parse.f parseF
  by_cases h6 : s.data.toList.length > 60000
  · rw [if_pos h6]; exact Ev.pos (by omega) (Ev.some rfl)
  rw [if_neg h6]
  refine Ev.neg (by omega) (Ev.call (cut_f s 10 (by omega)) ?_)
  have c1 := cutC_le 10 s.data.toList
  generalize cutC 10 s.data.toList = a at *
  refine Ev.call (show strings_CutPrefix.f ⟨a.1.toArray⟩ _ = some (⟨(Lib.trimPrefix a.1 cnfL).toArray⟩, Lib.hasPrefix a.1 cnfL) from cutPrefix_f _ _) ?_
  dsimp only
  have ht : (Lib.trimPrefix a.1 cnfL).length ≤ a.1.length := by
    unfold Lib.trimPrefix; split
    · rw [List.length_drop]; omega
    · exact Nat.le_refl _
  generalize Lib.trimPrefix a.1 cnfL = q at *
  generalize Lib.hasPrefix a.1 cnfL = p at *
  refine Ev.call (show strings_Cut.f ⟨q.toArray⟩ ⟨#[32]⟩ = some (⟨(cutC 32 q).1.toArray⟩, ⟨(cutC 32 q).2.1.toArray⟩, (cutC 32 q).2.2) from cut_f ⟨q.toArray⟩ 32 (by rw [← data_length]; show q.length < _; omega)) ?_
  have c2 := cutC_le 32 q
  generalize cutC 32 q = b at *
  refine Ev.call (num_f b.1 (by omega)) (Ev.call (num_f b.2.1 (by omega)) ?_)
  generalize numL b.1 = n
  generalize numL b.2.1 = m
  have bad : ∀ x y z, Ev (fun k => clause_Parse.j0 k x y z true) (0, [], 5) := by
    intro x y z
    refine Ev.succ ?_
    simp only [clause_Parse.j0]
    exact Ev.pos (by first | trivial | rfl) (Ev.some rfl)
  cases a22 : a.2.2 with
  | false => exact Ev.neg (by decide) (bad _ _ _)
  | true =>
  refine Ev.pos rfl ?_
  cases p with
  | false => exact Ev.neg (by decide) (bad _ _ _)
  | true =>
  refine Ev.pos rfl ?_
  cases b22 : b.2.2 with
  | false => exact Ev.neg (by decide) (bad _ _ _)
  | true =>
  refine Ev.pos rfl ?_
  cases n2 : n.2 with
  | false => exact Ev.neg (by decide) (bad _ _ _)
  | true =>
  refine Ev.pos rfl ?_
  cases m2 : m.2 with
  | false => exact bad _ _ _
  | true =>
    refine Ev.succ ?_
    simp only [clause_Parse.j0]
    exact Ev.neg (by decide) (linesC_ev n.1 m.1 (a.2.1.length + 1) a.2.1 [] (by omega) (by simp; omega) (by omega))
theorem parseF_bad (s : List UInt8) (h : (parseF s).2.2 ≠ 0) : (parseF s).1 = 0 ∧ (parseF s).2.1 = [] := by
  have hend : ∀ n m o, (endC n m o).2.2 ≠ 0 → (endC n m o).1 = 0 ∧ (endC n m o).2.1 = [] := by
    intro n m o h
    cases o with
    | none => exact ⟨rfl, rfl⟩
    | some l =>
      unfold endC at h ⊢
      dsimp only at h ⊢
      split
      · rename_i hc; rw [if_pos hc] at h; exact absurd rfl h
      · exact ⟨rfl, rfl⟩
  unfold parseF at h ⊢
  split
  · exact ⟨rfl, rfl⟩
  · rename_i h6
    rw [if_neg h6] at h
    dsimp only at h ⊢
    split
    · rename_i hc; rw [if_pos hc] at h; exact hend _ _ _ h
    · exact ⟨rfl, rfl⟩
/-- What was parsed is right, and printed is the text. -/
theorem parseF_good (s : List UInt8) (h : (parseF s).2.2 = 0) : rightG (parseF s).1 (parseF s).2.1 = true ∧ textT (parseF s).1 (parseF s).2.1 = s ∧ ∀ c ∈ (parseF s).2.1, ∀ x ∈ c, isI64 x = true := by
  unfold parseF at h ⊢
  split at h
  · cases h
  · rename_i h6
    rw [if_neg h6]
    dsimp only at h ⊢
    split at h
    · rename_i hc
      rw [if_pos hc]
      simp only [Bool.and_eq_true] at hc
      obtain ⟨⟨⟨⟨ha, hp⟩, hb⟩, hn⟩, hm⟩ := hc
      have j1 := cutC_join 10 s ha
      have hpre : cnfL ++ Lib.trimPrefix (cutC 10 s).1 cnfL = (cutC 10 s).1 := by
        unfold Lib.trimPrefix
        rw [if_pos hp]
        obtain ⟨r, hr⟩ := List.isPrefixOf_iff_prefix.1 hp
        rw [← hr, List.drop_left]
      have j2 := cutC_join 32 _ hb
      have n1 := numL_ok hn
      have n2 := numL_ok hm
      cases e : linesC ((cutC 10 s).2.1.length + 1) (cutC 10 s).2.1 [] with
      | none => rw [e] at h; cases h
      | some l =>
        rw [e] at h
        unfold endC at h
        dsimp only at h
        split at h
        case isFalse => cases h
        rename_i hd
        have he : endC (numL (cutC 32 (Lib.trimPrefix (cutC 10 s).1 cnfL)).1).1 (numL (cutC 32 (Lib.trimPrefix (cutC 10 s).1 cnfL)).2.1).1 (some l) = ((numL (cutC 32 (Lib.trimPrefix (cutC 10 s).1 cnfL)).1).1, l, 0) := if_pos hd
        rw [he]
        dsimp only
        refine ⟨hd.2, ?_⟩
        obtain ⟨r, hr, hs, hi⟩ := linesC_back _ _ _ _ e
        rw [List.nil_append] at hr
        subst hr
        refine ⟨?_, hi⟩
        have key : cnfL ++ ((cutC 32 (Lib.trimPrefix (cutC 10 s).1 cnfL)).1 ++ 32 :: (cutC 32 (Lib.trimPrefix (cutC 10 s).1 cnfL)).2.1) ++ 10 :: (cutC 10 s).2.1 = s := by rw [j2, hpre, j1]
        unfold textT headT
        rw [hd.1, n1, n2, ← hs]
        refine Eq.trans ?_ key
        show cnfL ++ _ ++ [32] ++ _ ++ [10] ++ _ = _
        simp
    · cases h
theorem itoa10 (n : Int) : (10 : UInt8) ∉ Lib.itoa n := itoa_no 10 (by decide) n
/-- A right formula's text is parsed as that formula. -/
theorem parseF_of (n : Int) (l : List (List Int)) (hr : rightG n l = true) (hl : (textT n l).length ≤ 60000) (hlen : l.length ≤ 1000000) (hx : ∀ c ∈ l, ∀ x ∈ c, x ≠ 0 ∧ -1000000 ≤ x ∧ x ≤ 1000000) (hn : -1000000 ≤ n ∧ n ≤ 1000000) : parseF (textT n l) = (n, l, 0) := by
  have e : textT n l = (cnfL ++ Lib.itoa n ++ [32] ++ Lib.itoa (l.length : Int)) ++ 10 :: l.flatMap clauseT := by
    unfold textT headT
    show cnfL ++ _ ++ [32] ++ _ ++ [10] ++ _ = _
    simp
  have h10 : (10 : UInt8) ∉ cnfL ++ Lib.itoa n ++ [32] ++ Lib.itoa (l.length : Int) := by
    intro h
    rcases List.mem_append.1 h with h | h
    · rcases List.mem_append.1 h with h | h
      · rcases List.mem_append.1 h with h | h
        · revert h; decide
        · exact itoa10 _ h
      · revert h; decide
    · exact itoa10 _ h
  have c1 := cutC_of 10 (l.flatMap clauseT) _ h10
  have hp : Lib.hasPrefix (cnfL ++ Lib.itoa n ++ [32] ++ Lib.itoa (l.length : Int)) cnfL = true := by
    unfold Lib.hasPrefix
    rw [List.isPrefixOf_iff_prefix]
    exact ⟨Lib.itoa n ++ [32] ++ Lib.itoa (l.length : Int), by simp⟩
  have ht : Lib.trimPrefix (cnfL ++ Lib.itoa n ++ [32] ++ Lib.itoa (l.length : Int)) cnfL = Lib.itoa n ++ 32 :: Lib.itoa (l.length : Int) := by
    unfold Lib.trimPrefix
    rw [if_pos hp, List.append_assoc, List.append_assoc, List.drop_left]
    simp
  have c2 := cutC_of 32 (Lib.itoa (l.length : Int)) (Lib.itoa n) (itoa_no 32 (by decide) n)
  have hd : l.length < (l.flatMap clauseT).length + 1 := by
    have : l.length ≤ (l.flatMap clauseT).length := by
      clear hr hl hlen hx hn e h10 c1 hp ht c2
      induction l with
      | nil => exact Nat.le_refl _
      | cons c l ih =>
        rw [List.flatMap_cons, List.length_append, List.length_cons]
        have h1 : 1 ≤ (clauseT c).length := by unfold clauseT; simp
        omega
    omega
  have hc := linesC_of l _ [] hd hx
  unfold parseF
  rw [if_neg (by omega), e, c1]
  dsimp only
  rw [hp, ht, c2]
  dsimp only
  rw [numL_itoa n hn.1 hn.2, numL_itoa (l.length : Int) (by omega) (by omega), hc, List.nil_append]
  rw [if_pos (by rfl)]
  exact if_pos ⟨rfl, hr⟩
theorem same12_loop (a : List (List Int)) (hn : a.length ≤ 1000000) (hm : ∀ x ∈ a, x.length ≤ 1000000) (d : Nat) : ∀ i : Nat, i + d = a.length → Ev (fun k => keelsonlaw12_same.l0 k a a (i : Int)) true := by
  induction d with
  | zero =>
    intro i hi
    refine Ev.succ ?_
    simp only [keelsonlaw12_same.l0]
    exact Ev.neg (by omega) (Ev.some rfl)
  | succ d ih =>
    intro i hi
    have hil : i < a.length := by omega
    have hx := hm _ (List.getElem_mem hil)
    have hs := sameInts_ev a[i] a[i] (by omega)
    rw [decide_eq_true rfl] at hs
    refine Ev.succ ?_
    simp only [keelsonlaw12_same.l0]
    rw [wrap_step hil (by omega), rdLi_nat a i hil]
    exact Ev.pos (by omega) (Ev.pos (by omega) (Ev.pos (by omega) (Ev.bind hs (Ev.pos rfl (ih (i + 1) (by omega))))))
theorem same12_ev (a : List (List Int)) (hn : a.length ≤ 1000000) (hm : ∀ x ∈ a, x.length ≤ 1000000) : Ev (fun k => keelsonlaw12_same.f k a a) true := by
  unfold keelsonlaw12_same.f
  exact Ev.pos (by first | trivial | rfl) (same12_loop a hn hm a.length 0 (by omega))
theorem right_range {n : Int} {l : List (List Int)} (h : rightG n l = true) (hi : ∀ c ∈ l, ∀ x ∈ c, isI64 x = true) : (0 ≤ n ∧ n ≤ 20000) ∧ ∀ c ∈ l, ∀ x ∈ c, x ≠ 0 ∧ -1000000 ≤ x ∧ x ≤ 1000000 := by
  unfold rightG at h
  simp only [Bool.and_eq_true, Bool.not_eq_true', Bool.or_eq_false_iff, decide_eq_false_iff_not] at h
  obtain ⟨⟨h1, h2, _⟩, h3⟩ := h
  refine ⟨by omega, fun c hc x hx => ?_⟩
  have hb := List.any_eq_false.1 h3 c hc
  unfold badC at hb
  have hv : ¬ varG x n = 0 := by
    intro e
    apply hb
    rw [Bool.or_eq_true]
    exact .inr (List.any_eq_true.2 ⟨x, hx, by rw [e]; rfl⟩)
  have hr := hi c hc x hx
  unfold isI64 at hr
  simp only [Bool.and_eq_true, decide_eq_true_iff] at hr
  unfold varG at hv
  by_cases hn : x < 0
  · rw [if_pos hn] at hv
    by_cases hc2 : wrap64 (-x) < 1 ∨ wrap64 (-x) > n
    · rw [if_pos hc2] at hv; exact absurd rfl hv
    · unfold wrap64 at hc2; omega
  · rw [if_neg hn] at hv
    by_cases hc2 : x < 1 ∨ x > n
    · rw [if_pos hc2] at hv; exact absurd rfl hv
    · omega
theorem itoa_bound (x : Int) (h : -1000000 ≤ x ∧ x ≤ 1000000) : (Lib.itoa x).length ≤ 1000002 := by
  unfold Lib.itoa
  split
  · have := dec_len x.natAbs
    rw [List.length_cons]; omega
  · have := dec_len x.toNat
    omega
theorem flat_le {α : Type} (g : α → List UInt8) (B : Nat) (l : List α) (h : ∀ x ∈ l, (g x).length ≤ B) : (l.flatMap g).length ≤ l.length * B := by
  induction l with
  | nil => simp
  | cons x l ih =>
    rw [List.flatMap_cons, List.length_append, List.length_cons, Nat.add_mul, Nat.one_mul]
    have h1 := h x List.mem_cons_self
    have h2 := ih (fun y hy => h y (List.mem_cons_of_mem _ hy))
    omega
theorem text_bound {n : Int} {l : List (List Int)} (hl : l.length ≤ 100) (hc : ∀ c ∈ l, c.length ≤ 310) (hx : ∀ c ∈ l, ∀ x ∈ c, x ≠ 0 ∧ -1000000 ≤ x ∧ x ≤ 1000000) (hn : 0 ≤ n ∧ n ≤ 20000) : (textT n l).length ≤ 140737488355328 := by
  have h1 : ∀ c ∈ l, (clauseT c).length ≤ 400000000 := by
    intro c hcl
    have := flat_le litT 1000003 c (fun x hxc => by
      have := itoa_bound x (hx c hcl x hxc).2
      unfold litT; rw [List.length_append, List.length_singleton]; omega)
    have hh := hc c hcl
    unfold clauseT
    rw [List.length_append]
    have : c.length * 1000003 ≤ 310 * 1000003 := Nat.mul_le_mul_right _ hh
    simp only [List.length_cons, List.length_nil]; omega
  have h2 := flat_le clauseT 400000000 l h1
  have h3 : l.length * 400000000 ≤ 100 * 400000000 := Nat.mul_le_mul_right _ hl
  have h4 := itoa_bound n (by omega)
  have h5 := itoa_bound (l.length : Int) (by omega)
  unfold textT headT
  simp only [List.length_append, List.length_cons, List.length_nil]
  omega
theorem print_yes {n : Int} {l : List (List Int)} (hr : rightG n l = true) (hb : (textT n l).length ≤ 140737488355328) (hi : ∀ c ∈ l, ∀ x ∈ c, isI64 x = true) : clause_Print.f n l = some ⟨(textT n l).toArray⟩ := by
  unfold clause_Print.f
  rw [if_pos hr, if_pos ⟨hb, List.all_eq_true.2 fun c hc => List.all_eq_true.2 fun x hx => hi c hc x hx⟩]
theorem text_ne (n : Int) (l : List (List Int)) : textT n l ≠ [] := by
  unfold textT headT; simp
theorem back12_j1 (s : ByteArray) (hs : s.size ≤ 3000) : Ev (fun k => keelsonlaw12_ClauseBack.j1 k s false) true := by
  refine Ev.succ ?_
  simp only [keelsonlaw12_ClauseBack.j1]
  refine Ev.neg (by decide) (Ev.bind (parseF_ev s) ?_)
  by_cases h : (parseF s.data.toList).2.2 = 0
  · obtain ⟨h1, h2, h3⟩ := parseF_good _ h
    have hl := data_length s
    refine Ev.pos h (Ev.call (print_yes h1 (by rw [h2]; omega) h3) (Ev.some ?_))
    rw [h2]
    simp [ByteArray.toList_eq]
  · obtain ⟨h1, h2⟩ := parseF_bad _ h
    exact Ev.neg h (Ev.pos (by rw [h2]; rfl) (Ev.pos h1 (Ev.some rfl)))
theorem ClauseBack_pure {P0 : Prop} (n : Int) (_ : P0) (l : List (List Int)) (hb : okL (Tryz.prog.bytesOf 64) (okL (Tryz.prog.bytesOf 3) (okI .i64)) l) (s : ByteArray) (hs : okS s) : ∃ k, keelsonlaw12_ClauseBack.f k n l s = some true := by
  have hi : ∀ c ∈ l, ∀ x ∈ c, isI64 x = true := fun c hc x hx => by
    have := okI_i64 ((hb.2 c hc).2 x hx)
    unfold isI64
    rw [decide_eq_true this.1, decide_eq_true this.2]; rfl
  have h8 := hb.1
  rw [show Tryz.prog.bytesOf 64 = 24 by kernel_rfl] at h8
  unfold okS at hs
  refine Ev.rounds (g := fun k => keelsonlaw12_ClauseBack.f k n l s) ?_
  unfold keelsonlaw12_ClauseBack.f
  have done : Ev (fun k => keelsonlaw12_ClauseBack.j0 k n l s true true) true := by
    refine Ev.succ ?_
    simp only [keelsonlaw12_ClauseBack.j0]
    exact Ev.pos (by first | trivial | rfl) (Ev.some rfl)
  refine Ev.bind shown12_ev (Ev.bind (small12_ev l (by omega)) (Ev.pos rfl ?_))
  cases hsm : smallC l with
  | false => exact Ev.neg (by decide) done
  | true =>
    obtain ⟨s1, s2⟩ := smallC_spec hsm
    refine Ev.pos rfl ?_
    by_cases h3 : (s.size : Int) > 3000
    · rw [decide_eq_true h3]; exact done
    rw [decide_eq_false h3]
    have hend := back12_j1 s (by omega)
    refine Ev.succ ?_
    simp only [keelsonlaw12_ClauseBack.j0]
    refine Ev.neg (by decide) ?_
    cases hr : rightG n l with
    | false =>
      have hp : clause_Print.f n l = some ⟨#[]⟩ := by unfold clause_Print.f; rw [hr]; rfl
      have ht : (⟨#[]⟩ : ByteArray).toList = [] := by rw [ByteArray.toList_eq]
      refine Ev.call hp (Ev.bind (parseF_ev ⟨#[]⟩) (Ev.call (show clause_Right.f n l = some false from by rw [← hr]; rfl) ?_))
      exact Ev.neg (by rw [ht]; decide) (Ev.pos ht hend)
    | true =>
      obtain ⟨r1, r2⟩ := right_range hr hi
      have hbd := text_bound s1 s2 r2 r1
      have hne : ¬ (⟨(textT n l).toArray⟩ : ByteArray).toList = [] := by rw [ByteArray.toList_eq]; exact text_ne n l
      have hsz : (⟨(textT n l).toArray⟩ : ByteArray).size = (textT n l).length := by rw [← data_length]
      refine Ev.call (print_yes hr hbd hi) ?_
      by_cases h6 : (textT n l).length ≤ 60000
      · have hpe := parseF_ev ⟨(textT n l).toArray⟩
        rw [show (⟨(textT n l).toArray⟩ : ByteArray).data.toList = textT n l from rfl, parseF_of n l hr h6 (by omega) r2 (by omega)] at hpe
        refine Ev.bind hpe (Ev.call (show clause_Right.f n l = some true from by rw [← hr]; rfl) ?_)
        refine Ev.neg (by rw [bne_iff_ne.2 hne]; decide) (Ev.neg hne (Ev.pos (by omega) (Ev.pos rfl (Ev.pos rfl (Ev.bind (same12_ev l (by omega) (fun x hx => by have := s2 x hx; omega)) hend)))))
      · refine Ev.bind (parseF_ev ⟨(textT n l).toArray⟩) (Ev.call (show clause_Right.f n l = some true from by rw [← hr]; rfl) ?_)
        exact Ev.neg (by rw [bne_iff_ne.2 hne]; decide) (Ev.neg hne (Ev.neg (by omega) hend))
end Go.Proofs.YtlcfpmdamehopaaGreatDoor.PA
namespace Go.Proofs.YtlcfpmdamehopaaGreatDoor.clauseBack
open Go.ChangeShapes Go.WideShapes Go.ChangeAt Go.RowKit Go.Proofs.YtlcfpmdamehopaaGreatDoor.PA Go.Proofs.YtlcfpmdamehopaaGreatDoorW.PrintWords
open Go.ChangeMaps (open_string shut_string)
theorem own : ownKnob Tryz.prog.godebug = none := by kernel_rfl
theorem laidOut : laidOutB Tryz.prog = true := by kernel_rfl
set_option maxRecDepth 100000 in
theorem lifted (os : Os) (started : os.Started) (H : Type) (enc : TypeId × Value → H) :
    ReturnsInHanded {} Tryz.checked os 6 .any (fun w args => (Rows.clauseBackSpec.pre enc Tryz.prog Tryz.f6 [] false w args ∧ laidMet Tryz.prog Rows.clauseBackRow.laid w) ∧ sizedMet enc Tryz.prog Tryz.f6 (OpenSpec.ofChange Rows.clauseBackSpec) false w args) (Rows.clauseBackSpec.post enc Tryz.prog Tryz.f6 false true false false) := by
  refine returns_laid_shaped (C := Tryz.checked) (X := fun w _ => laidMet Tryz.prog Rows.clauseBackRow.laid w) (fun _ _ _ hh h => h.of_heap hh) own started (by kernel_rfl) Tryz.func6
    (ChangeSpec.witness_at (enc := enc) (C := Tryz.checked) (os := os) (X := fun w _ => laidMet Tryz.prog Rows.clauseBackRow.laid w) false (laidWorld os) #[.int .i64 0, .slice none 0 0, .string ByteArray.empty] 8 rfl (by kernel_rfl) (by kernel_rfl) (by kernel_rfl) (by kernel_rfl) (by kernel_rfl) (laid_met_deBruijn32tab_deBruijn64tab_uint64pow10_ErrRange_ErrSyntax os _)) ?_
  intro W base args ds gs before hval0 hW hcnd hsz0 hL hSh _
  have hsz : (DataW.weightsEach Tryz.prog (Tryz.f6.params.toList ++ Rows.clauseBackSpec.plain.varTypes Tryz.prog) (ds ++ gs)).all (· ≤ reachBytes) = true := hsz0
  have hval : ∀ (j : Nat) t v, Tryz.f6.params[j]? = some t → args[j]? = some v → Value.okWide Tryz.prog W .any base t v := hval0
  have hW' := hW
  obtain ⟨p, q, hA0, hV, rfl, hfz, hnd⟩ := hW
  have hA : DataW.TrodAll enc Tryz.prog W 0 (fun _ => true) true Tryz.f6.params.toList args.toList ds p := hA0
  rw [Tryz.params6] at hA hval hsz
  obtain ⟨v0, vs0, d0, ds0, p0, q0, hargs, rfl, rfl, h0, r0⟩ := trodAll_cons hA
  obtain ⟨v1, vs1, d1, ds1, p1, q1, rfl, rfl, rfl, h1, r1⟩ := trodAll_cons r0
  obtain ⟨v2, vs2, d2, ds2, p2, q2, rfl, rfl, rfl, h2, r2⟩ := trodAll_cons r1
  obtain ⟨rfl, rfl, rfl⟩ := trodAll_nil r2
  obtain rfl : args = #[v0, v1, v2] := by cases args; simp_all
  obtain ⟨rfl, rfl⟩ := trodVars_none hV
  have hwt : ∀ n ∈ DataW.weightsEach Tryz.prog (([3, 36, 9] : List TypeId) ++ []) (([d0, d1, d2] : List (DataW H)) ++ []), n ≤ reachBytes := fun n hn => of_decide_eq_true (List.all_eq_true.1 hsz n hn)
  obtain ⟨a0, rfl, rfl, rfl, ok0⟩ := open_int Tryz.underlying3 (hval 0 3 v0 rfl rfl) h0
  obtain ⟨a1, len1, cap1, rfl⟩ := okWide_slice Tryz.underlying36 (hval 1 36 v1 rfl rfl)
  have k1 := h1
  have lt1 : ∀ x ∈ p1, x.block < W.heap.size := by obtain ⟨m, hm⟩ := k1; exact DataW.trod_lt m _ _ _ hm
  obtain ⟨l1, hK1, ok1⟩ : ∃ l, ((Kd.slice 64 (Kd.slice 3 (Kd.int .i64)))).K W l [.slice a1 len1 cap1] ∧ (okL (Tryz.prog.bytesOf 64) (okL (Tryz.prog.bytesOf 3) (okI .i64))) l := by
    obtain ⟨fuel, hf⟩ := h1
    exact (opens_slice (d := (Kd.slice 3 (Kd.int .i64))) (ok := (okL (Tryz.prog.bytesOf 3) (okI .i64))) Tryz.underlying36 (by kernel_rfl) (opens_slice (d := (Kd.int .i64)) (ok := (okI .i64)) Tryz.underlying64 (by kernel_rfl) (opens_int Tryz.underlying3 (by kernel_rfl)))).2 enc W _ _ fuel _ _ hf (fun n hn => hwt n (DataW.weights_mem_each (j := 1) rfl rfl n hn))
  obtain ⟨A1, c1, hcs1, hc1, hr1⟩ := hK1
  simp only [List.cons.injEq, Value.slice.injEq, and_true] at hcs1
  obtain ⟨rfl, rfl, rfl⟩ := hcs1
  obtain ⟨a2, rfl, rfl, rfl, y2⟩ := open_string Tryz.underlying9 (hval 2 9 v2 rfl rfl) h2
  have ok2 : okS a2 := by
    have z := sized_string hsz (j := 2) (t := 9) rfl rfl
    rw [Array.length_toList] at z
    exact z
  obtain ⟨k, hk⟩ := ClauseBack_pure a0 ok0 l1 ok1 a2 ok2
  refine (keelsonlaw12_ClauseBack.calls k a0 _ _ l1 a2 true W hr1 hc1 (maxLen_of_shape hSh) (numErr_of_laid hL) (pow10_of_laid hL) hk).mono fun e W' ⟨he, bel⟩ => ?_
  subst he
  exact ⟨_, rfl, _, _, _, [], _, [], hW', trodAll_mk1 (shut_bool Tryz.underlying4 _), (trodAll_cons_mk (shut_int Tryz.underlying3 ok0) (trodAll_cons_mk (Below.trod laidOut (by kernel_rfl) (of_decide_eq_true (by kernel_rfl)) k1 bel lt1) (trodAll_cons_mk (shut_string Tryz.underlying9 y2) trodAll_mk0))), rfl, bel.frame _, fun h => by cases h⟩
theorem over : Rows.clauseBackRow.holds Tryz.pinned (OpenSpec.ofChange Rows.clauseBackSpec) :=
  OpenClaim.holds_of_wide 6 Tryz.f6 rfl rfl rfl rfl rfl rfl rfl ⟨rfl, rfl, rfl, rfl, rfl⟩ rfl rfl rfl rfl rfl (by kernel_rfl) Tryz.func6 (by kernel_rfl)
    (of_decide_eq_true (by kernel_rfl)) (by unfold Func.isWrapper; first | (rw [if_pos (by decide +kernel)]; kernel_rfl) | (rw [if_neg (by decide +kernel)]; exact ⟨rfl, rfl⟩))
    (fun os started H enc _ => lifted os started H enc)
theorem said : Rows.ClauseBackSaid := over
theorem proved : Rows.ClauseBackCardSaid :=
  Claim7.holds_tied_plain_at .later [] [.data, .data, .data, .sentinel, .sentinel] true (true, "ae8b5f4508b27d05baee40571132509b03caa991d8903e13fecbf2c179cc327a") true
    said (fun _ h => by cases h) (by kernel_rfl) (fun _ h => by cases h) clauseBack_row_tie rfl ⟨rfl, rfl⟩ (by kernel_rfl) rfl
    (fun f fn hf hfn => by
      obtain rfl : f = 6 := Option.some.inj ((show Tryz.prog.funcNamed "keelson/keelsonlaw12.ClauseBack" = some 6 by kernel_rfl).symm.trans hf) |>.symm
      obtain rfl : fn = Tryz.f6 := (Option.some.inj (Tryz.func6.symm.trans hfn)).symm
      exact ⟨by kernel_rfl, fun j t ht => by
        rw [Tryz.params6] at ht
        have hm : t ∈ ([3, 36, 9] : List TypeId) := List.mem_of_getElem? (by simpa using ht)
        have hall : ([3, 36, 9] : List TypeId).all (fun t => !Tryz.prog.wantsStandIn t) = true := by kernel_rfl
        have := List.all_eq_true.1 hall t hm
        exact (show Tryz.prog.wantsStandIn t = false by simpa using this)⟩)
    (by kernel_rfl)
#print axioms proved
end Go.Proofs.YtlcfpmdamehopaaGreatDoor.clauseBack
namespace Go.Proofs.YtlcfpmdamehopaaGreatDoor
/-- The statement, under a short name, for the claim. -/
theorem clauseBack_holds : Rows.ClauseBackCardSaid := clauseBack.proved
end Go.Proofs.YtlcfpmdamehopaaGreatDoor
