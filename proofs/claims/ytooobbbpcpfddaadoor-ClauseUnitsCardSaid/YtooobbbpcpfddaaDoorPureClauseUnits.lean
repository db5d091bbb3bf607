/- ClauseUnits' plain law: the program's and the reference's Units come to one. -/
import Derived.Test.YtooobbbpcpfddaaDoorMRefUnits
import Derived.Test.YtooobbbpcpfddaaDoorMLaw12
import Derived.Test.YtooobbbpcpfddaaDoorROpen
import Derived.Test.YtooobbbpcpfddaaDoorPALClauseUnits
namespace Go.Proofs.YtooobbbpcpfddaaDoor.PA
open Go.RowKit Go.Proofs.YtooobbbpcpfddaaDoorW.PrintWords Go.Proofs.YtooobbbpcpfddaaDoorW.PrintLast Go.Proofs.YtooobbbpcpfddaaDoorW.PrintMore

theorem unitsG_len (n : Int) (l : List (List Int)) (g : List Int) (hn : n ≤ 20000) : (unitsG n l g).1.length ≤ 20000 := by
  have hloop : ∀ (z : Nat) (a : List Int) (r : List Int), loopG l z a = some r → r.length = a.length := by
    intro z
    induction z with
    | zero => intro a r h; cases h; rfl
    | succ z ih =>
      intro a r h
      simp only [loopG] at h
      cases hp : passG l (a, false) with
      | none => rw [hp] at h; cases h
      | some s =>
        have hl := passG_len hp
        rw [hp] at h
        obtain ⟨a', ag⟩ := s
        cases ag with
        | true => rw [ih a' r h]; exact hl
        | false => cases h; exact hl
  have hgiven : ∀ (g : List Int) (a r : List Int), givenG a g = some r → r.length = a.length := by
    intro g
    induction g with
    | nil => intro a r h; cases h; rfl
    | cons x g ih =>
      intro a r h
      simp only [givenG] at h
      split at h
      · rw [ih _ _ h, setG_len]
      · cases h
  unfold unitsG
  split
  · cases h : (givenG (List.replicate n.toNat 0) g).bind fun a => loopG l (zeros a + 1) a with
    | none => simp [endU]
    | some r =>
      obtain ⟨a, h1, h2⟩ := Option.bind_eq_some_iff.1 h
      simp only [endU]
      rw [hloop _ _ _ h2, hgiven _ _ _ h1, List.length_replicate]
      omega
  · simp
theorem ClauseUnits_pure (n : Int) (_ : okI .i64 n) (l : List (List Int)) (ok1 : okL (Tryd.prog.bytesOf 22) (okL (Tryd.prog.bytesOf 3) (okI .i64)) l) (g : List Int) (ok2 : okL (Tryd.prog.bytesOf 3) (okI .i64) g) : ∃ k, keelsonlaw12_ClauseUnits.f k n l g = some true := by
  have hb1 : Tryd.prog.bytesOf 22 = 24 := by kernel_rfl
  have hb2 : Tryd.prog.bytesOf 3 = 8 := by kernel_rfl
  have hl := ok1.1
  have hg := ok2.1
  rw [hb1] at hl
  rw [hb2] at hg
  have hc : ∀ c ∈ l, c.length * 8 ≤ 140737488351232 := fun c hc => by have := (ok1.2 c hc).1; rw [hb2] at this; exact this
  have hi : ∀ c ∈ l, ∀ x ∈ c, i64 x := fun c hc x hx => okI_i64 ((ok1.2 c hc).2 x hx)
  have hgi : ∀ x ∈ g, i64 x := fun x hx => okI_i64 (ok2.2 x hx)
  refine Ev.rounds ?_
  unfold keelsonlaw12_ClauseUnits.f
  refine Ev.bind shown12_ev (Ev.bind (small12_ev l (by omega)) (Ev.pos rfl ?_))
  have hj : ∀ f : Bool, Ev (fun k => keelsonlaw12_ClauseUnits.j0 k n l g true f) true := by
    intro f
    refine Ev.succ ?_
    simp only [keelsonlaw12_ClauseUnits.j0]
    cases f with
    | true => exact Ev.pos rfl (Ev.some rfl)
    | false =>
      refine Ev.neg (by decide) (Ev.bind (units_ev n l g (by omega)) (Ev.bind (unitsQ_ev n l (by omega) hi (fun c h => by have := hc c h; omega) g hgi (by omega)) ?_))
      have hlen : (unitsG n l g).1.length ≤ 20000 := by
        by_cases h : rightG n l = true
        · exact unitsG_len n l g (right_size h).2.1
        · unfold unitsG; rw [if_neg h]; simp
      refine Ev.bind (sameInts_ev _ _ (by omega)) ?_
      exact Ev.pos (by simp) (Ev.some (by simp))
  by_cases hs : smallC l = true
  · refine Ev.pos hs ?_
    by_cases h1 : (g.length : Int) > 100
    · exact Ev.pos h1 (hj true)
    · exact Ev.neg h1 (hj _)
  · exact Ev.neg hs (hj true)
end Go.Proofs.YtooobbbpcpfddaaDoor.PA
