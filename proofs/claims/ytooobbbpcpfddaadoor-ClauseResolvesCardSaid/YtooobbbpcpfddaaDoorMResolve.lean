/- Resolving is sound: a truth by which two clauses hold makes hold what they are resolved to. No condition. -/
import Derived.Test.YtooobbbpcpfddaaDoorGResolve
import Derived.Test.YtooobbbpcpfddaaDoorMFollows
namespace Go.Proofs.YtooobbbpcpfddaaDoor.PA
open Go.RowKit Go.Proofs.YtooobbbpcpfddaaDoorW.PrintWords Go.Proofs.YtooobbbpcpfddaaDoorW.PrintLast Go.Proofs.YtooobbbpcpfddaaDoorW.PrintMore

theorem compact_mem (d : Array Int) (y : Int) (m : Nat) : y ∈ Lib.compactUpTo d m ↔ ∃ j, j < m ∧ d[j]! = y := by
  induction m with
  | zero => simp [Lib.compactUpTo]
  | succ m ih =>
    rw [Lib.compactUpTo_succ, List.mem_append, ih]
    constructor
    · rintro (⟨j, hj, h⟩ | h)
      · exact ⟨j, by omega, h⟩
      · split at h
        · exact ⟨m, by omega, (List.mem_singleton.1 h).symm⟩
        · cases h
    · rintro ⟨j, hj, h⟩
      by_cases e : j < m
      · exact .inl ⟨j, e, h⟩
      · have : j = m := by omega
        subst this
        by_cases hk : Lib.keeps d j = true
        · right; rw [if_pos hk]; exact List.mem_singleton.2 h.symm
        · left
          unfold Lib.keeps at hk
          have hk' : ¬ (j = 0 ∨ d[j]! ≠ d[j - 1]!) := fun z => hk (decide_eq_true z)
          have k0 : j ≠ 0 := fun z => hk' (.inl z)
          have k1 : d[j]! = d[j - 1]! := Classical.byContradiction fun z => hk' (.inr z)
          exact ⟨j - 1, by omega, by rw [← k1]; exact h⟩
theorem bang_get (l : List Int) (j : Nat) (hj : j < l.length) : l.toArray[j]! = l[j] := by
  rw [getElem!_pos l.toArray j (by simpa using hj)]
  simp
theorem tidy_mem (c : List Int) (y : Int) : y ∈ tidyL c ↔ y ∈ c := by
  unfold tidyL Lib.compact
  rw [compact_mem]
  constructor
  · rintro ⟨j, hj, rfl⟩
    rw [bang_get _ j hj]
    exact List.mem_mergeSort.1 (List.getElem_mem hj)
  · intro h
    have hm : y ∈ c.mergeSort fun x y => !(ltOf cfL) y x := List.mem_mergeSort.2 h
    obtain ⟨j, hj, e⟩ := List.getElem_of_mem hm
    exact ⟨j, hj, by rw [bang_get _ j hj]; exact e⟩
theorem value_of {c a : List Int} {y : Int} (hy : y ∈ c) (h : 1 ≤ litG y a) : ¬ valueG c a < 1 := by
  have := (le_foldl a c (-1)).2 y hy
  unfold valueG
  omega
theorem lit_minus (v : Int) (h1 : 1 ≤ v) (h2 : v ≤ 8) (a : List Int) : litG (wrap64 (-v)) a = -litG v a := by
  have hw : wrap64 (-v) = -v := by unfold wrap64; omega
  have hw2 : wrap64 (- -v) = v := by unfold wrap64; omega
  have hvar : varG (-v) (a.length : Int) = varG v (a.length : Int) := by
    unfold varG
    rw [if_pos (by omega), hw2, if_neg (show ¬ v < 0 by omega)]
  rw [hw]
  unfold litG
  rw [hvar]
  by_cases h : varG v (a.length : Int) = 0
  · rw [if_pos h, if_pos h]; rfl
  · rw [if_neg h, if_neg h, if_pos (by omega), if_neg (show ¬ v < 0 by omega)]
theorem resolve_sound (x y : List Int) (v : Int) (h1 : 1 ≤ v) (h2 : v ≤ 8) (z : List Bool) (hx : ¬ valueG x (encM z) < 1) (hy : ¬ valueG y (encM z) < 1) : ¬ valueG (tidyL (lessL x v ++ lessL y (wrap64 (-v)))) (encM z) < 1 := by
  obtain ⟨p, hp, p1⟩ := holds_some hx
  obtain ⟨q, hq, q1⟩ := holds_some hy
  by_cases e : p = v
  · by_cases e2 : q = wrap64 (-v)
    · exfalso
      subst e
      rw [e2, lit_minus p h1 h2] at q1
      omega
    · refine value_of ((tidy_mem _ q).2 (List.mem_append.2 (.inr ?_))) q1
      unfold lessL
      exact List.mem_filter.2 ⟨hq, by simpa using e2⟩
  · refine value_of ((tidy_mem _ p).2 (List.mem_append.2 (.inl ?_))) p1
    unfold lessL
    exact List.mem_filter.2 ⟨hp, by simpa using e⟩
end Go.Proofs.YtooobbbpcpfddaaDoor.PA
