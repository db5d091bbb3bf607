/- CountLimits' plain law: what Limit makes holds just where the bits are at most the number, and it errs as the chapter says. For lists that are no longer than the machine's room, and int64s. -/
import Derived.Test.YtooobbbpcpfddaaDoorMLimits
import Derived.Test.YtooobbbpcpfddaaDoorPALCountLimits
import Derived.Test.YtooobbbpcpfddaaDoorROpen
namespace Go.Proofs.YtooobbbpcpfddaaDoor.PA
open Go.RowKit Go.Proofs.YtooobbbpcpfddaaDoorW.PrintWords Go.Proofs.YtooobbbpcpfddaaDoorW.PrintLast Go.Proofs.YtooobbbpcpfddaaDoorW.PrintMore

theorem shown16_ev : Ev (fun k => keelsonlaw16_shown.f k) true := by
  refine Ev.of (fun k => keelsonlaw16_shown.mono k) (k := 30) ?_
  decide +kernel
theorem lim_err (l : List Int) (k : Int) : (limG l k).2 = limitsR l := by
  unfold limG limitsR
  by_cases h0 : (0 : Int) ∈ l
  · rw [if_pos (.inr h0), if_pos h0]
  · rw [if_neg h0]
    by_cases h1 : l.length > 40
    · rw [if_pos (.inl h1), if_pos h1]
    · rw [if_neg (by rintro (z | z) <;> contradiction), if_neg h1]
      split
      · rfl
      · split <;> rfl
theorem lim_nil (l : List Int) (k : Int) (h : limitsR l ≠ 0) : (limG l k).1 = [] := by
  unfold limitsR at h
  unfold limG
  split at h
  · rename_i z; rw [if_pos (.inr z)]
  · split at h
    · rename_i z; rw [if_pos (.inl z)]
    · exact absurd rfl h
theorem wrap_lens (l : List Int) (k : Int) (h : (limG l k).2 = 0) : (limG l k).1.length ≤ 41 ∧ ∀ c ∈ (limG l k).1, c.length ≤ 41 := by
  unfold limG at h ⊢
  by_cases h0 : l.length > 40 ∨ (0 : Int) ∈ l
  · rw [if_pos h0] at h; cases h
  · rw [if_neg h0]
    have h40 : l.length ≤ 40 := by
      rcases Nat.lt_or_ge 40 l.length with z | z
      · exact absurd (Or.inl z) h0
      · exact z
    by_cases h1 : k < 0
    · rw [if_pos h1]; simp
    · rw [if_neg h1]
      by_cases h2 : widthG k > (l.length : Int)
      · rw [if_pos h2]; simp
      · rw [if_neg h2]
        refine ⟨Nat.le_trans (clL_len l k) (by omega), ?_⟩
        have key : ∀ (l : List Int) (k : Int), ∀ c ∈ clL l k, c.length ≤ l.length + 1 := by
          intro l
          induction l with
          | nil => intro k c hc; simp [clL] at hc
          | cons x l ih =>
            intro k c hc
            simp only [clL, List.mem_append] at hc
            rcases hc with hc | hc
            · split at hc
              · cases hc
              · have := tailL_len l (k / 2)
                rw [List.mem_singleton.1 hc]
                simp; omega
            · have := ih _ c hc
              simp; omega
        intro c hc
        have := key l k c hc
        omega
theorem countLimits_l1 (l : List Int) (a : Int) (hn : l.length ≤ 40) (hg : ∀ x ∈ l, 1 ≤ varR x ∧ varR x ≤ 8) (hk : a ≤ 9223372036854775807) (he : (limG l a).2 = 0) (d : Nat) :
    ∀ i : Nat, i + d = 256 → Ev (fun k => keelsonlaw16_CountLimits.l1 k l a (limG l a).1 (i : Int)) true := by
  have hw := wrap_lens l a he
  induction d with
  | zero =>
    intro i hi
    refine Ev.succ ?_
    simp only [keelsonlaw16_CountLimits.l1]
    exact Ev.neg (by omega) (Ev.some rfl)
  | succ d ih =>
    intro i hi
    refine Ev.succ ?_
    simp only [keelsonlaw16_CountLimits.l1]
    refine Ev.pos (by omega) (Ev.bind (model_ev (i : Int) 8 (by omega)) ?_)
    have hm : (modelR (i : Int) 8).length = 8 := modelR_len _ _
    generalize modelR (i : Int) 8 = m at hm ⊢
    refine Ev.bind (holdsR_ev _ m (by omega) (fun c hc => Nat.le_trans (hw.2 c hc) (by omega)) (by have := hw.1; omega)) ?_
    refine Ev.bind (value16_ev l m (by omega) (by omega)) ?_
    have hl := lim_holds m l (fun x hx => ⟨(hg x hx).1, by have := (hg x hx).2; omega⟩) a hk he
    rw [List.take_of_length_le (by omega), hl]
    refine Ev.neg (by simp) ?_
    rw [wrap_id (by omega) (by omega)]
    have h := ih (i + 1) (by omega)
    exact h
theorem countLimits_l0 (l : List Int) (a : Int) (hn : l.length ≤ 40) (hk : a ≤ 9223372036854775807) (he : (limG l a).2 = 0) (d : Nat) :
    ∀ i : Nat, i + d = l.length → (∀ x ∈ l.take i, 1 ≤ varR x ∧ varR x ≤ 8) → Ev (fun k => keelsonlaw16_CountLimits.l0 k l a (limG l a).1 (i : Int)) true := by
  induction d with
  | zero =>
    intro i hi hg
    refine Ev.succ ?_
    simp only [keelsonlaw16_CountLimits.l0]
    rw [List.take_of_length_le (by omega)] at hg
    exact Ev.neg (by omega) (countLimits_l1 l a hn hg hk he 256 0 (by omega))
  | succ d ih =>
    intro i hi hg
    have hil : i < l.length := by omega
    refine Ev.succ ?_
    simp only [keelsonlaw16_CountLimits.l0]
    rw [rd_nat _ _ hil, wrap_step hil (by omega)]
    refine Ev.pos (by omega) (Ev.pos (by omega) (Ev.bind (var_ev _) ?_))
    by_cases h1 : varR l[i] > 8
    · exact Ev.pos h1 (Ev.some rfl)
    · refine Ev.neg h1 (Ev.bind (var_ev _) ?_)
      by_cases h2 : varR l[i] < 1
      · exact Ev.pos h2 (Ev.some rfl)
      · refine Ev.neg h2 (ih (i + 1) (by omega) ?_)
        intro x hx
        rw [List.take_succ_eq_append_getElem hil, List.mem_append, List.mem_singleton] at hx
        rcases hx with hx | rfl
        · exact hg x hx
        · omega
theorem countLimits_pure (l : List Int) (a : Int) (hn : l.length * 8 ≤ 140737488351232) (hk : a ≤ 9223372036854775807) : ∃ k, keelsonlaw16_CountLimits.f k l a = some true := by
  refine Ev.rounds ?_
  unfold keelsonlaw16_CountLimits.f
  refine Ev.bind shown16_ev (Ev.pos rfl ?_)
  refine Ev.succ ?_
  simp only [keelsonlaw16_CountLimits.j0]
  by_cases h60 : (l.length : Int) > 60
  · rw [decide_eq_true h60]; exact Ev.pos rfl (Ev.some rfl)
  · rw [decide_eq_false h60]
    refine Ev.neg (by decide) (Ev.bind (limit_ev l a hk (by omega)) (Ev.bind (limits_ev l (by omega)) ?_))
    have he := lim_err l a
    by_cases h0 : limitsR l = 0
    · refine Ev.pos h0 (Ev.succ ?_)
      simp only [keelsonlaw16_CountLimits.j1]
      rw [he, h0]
      refine Ev.neg (by decide) ?_
      have h40 : l.length ≤ 40 := by
        unfold limitsR at h0
        split at h0
        · cases h0
        · split at h0
          · cases h0
          · omega
      exact countLimits_l0 l a h40 hk (by rw [he, h0]) l.length 0 (by omega) (by simp)
    · refine Ev.neg h0 (Ev.succ ?_)
      simp only [keelsonlaw16_CountLimits.j1]
      refine Ev.pos trivial (Ev.pos he (Ev.some ?_))
      rw [lim_nil l a h0]; rfl
theorem CountLimits_pure (l : List Int) (ok : okL (Tryd.prog.bytesOf 3) (okI .i64) l) (a : Int) (ok1 : okI .i64 a) : ∃ k, keelsonlaw16_CountLimits.f k l a = some true := by
  have hb : Tryd.prog.bytesOf 3 = 8 := by kernel_rfl
  have h := ok.1
  rw [hb] at h
  exact countLimits_pure l a h (okI_i64 ok1).2
end Go.Proofs.YtooobbbpcpfddaaDoor.PA
