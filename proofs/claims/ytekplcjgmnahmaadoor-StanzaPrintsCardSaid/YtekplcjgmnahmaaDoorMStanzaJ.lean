/- Two texts of stanzas with empty lines ahead, between and behind are read as the stanzas of both, as plain functions. No condition. -/
import Derived.Test.YtekplcjgmnahmaaDoorMStanza0
namespace Go.Proofs.YtekplcjgmnahmaaDoor.PA
def readO : List (List UInt8) → List (List Fd) → Bool → Option (List (List Fd) × Bool)
  | [], l, o => some (l, o)
  | s :: ss, l, o => match lineG l o s with
    | .error _ => none
    | .ok p => readO ss p.1 p.2
theorem line_err {l : List (List Fd)} {o : Bool} {s : List UInt8} {e : Int} (h : lineG l o s = .error e) : e ≠ 0 := by
  unfold lineG at h
  split at h
  case isFalse => cases h; decide
  split at h
  · cases h
  · split at h
    · unfold fieldG at h
      split at h
      case isFalse => cases h; decide
      split at h
      · split at h
        · cases h; decide
        · split at h <;> cases h
          decide
      · split at h <;> cases h
        decide
    · split at h <;> cases h
      decide
theorem readO_of : ∀ (ss : List (List UInt8)) (i : Nat) (l : List (List Fd)) (o : Bool), (readG ss i l o).2.2 = 0 → ∃ o', readO ss l o = some ((readG ss i l o).1, o') := by
  intro ss
  induction ss with
  | nil => intro i l o _; exact ⟨o, rfl⟩
  | cons s ss ih =>
    intro i l o h
    unfold readG at h ⊢
    unfold readO
    cases e : lineG l o s with
    | error q => rw [e] at h; exact absurd h (line_err e)
    | ok p => rw [e] at h; exact ih _ _ _ h
theorem read_of_O : ∀ (ss : List (List UInt8)) (i : Nat) (l l' : List (List Fd)) (o o' : Bool), readO ss l o = some (l', o') → readG ss i l o = (l', 0, 0) := by
  intro ss
  induction ss with
  | nil => intro i l l' o o' h; cases h; rfl
  | cons s ss ih =>
    intro i l l' o o' h
    unfold readO at h
    unfold readG
    cases e : lineG l o s with
    | error q => rw [e] at h; cases h
    | ok p => rw [e] at h; exact ih _ _ _ _ _ h
theorem readO_append : ∀ (x y : List (List UInt8)) (l : List (List Fd)) (o : Bool), readO (x ++ y) l o = (readO x l o).bind fun p => readO y p.1 p.2 := by
  intro x
  induction x with
  | nil => intro y l o; rfl
  | cons s x ih =>
    intro y l o
    rw [List.cons_append, readO, readO]
    cases lineG l o s with
    | error q => rfl
    | ok p => exact ih _ _ _
theorem line_empty (l : List (List Fd)) (o : Bool) : lineG l o [] = .ok (l, false) := rfl
theorem readO_empties : ∀ (k : Nat) (l : List (List Fd)) (o : Bool), readO (List.replicate k []) l o = some (l, if k = 0 then o else false) := by
  intro k
  induction k with
  | zero => intro l o; rfl
  | succ k ih =>
    intro l o
    rw [List.replicate_succ]
    show readO (List.replicate k []) l false = _
    rw [ih]
    cases k <;> rfl
theorem lastS_app (a l : List (List Fd)) (h : l ≠ []) : lastS (a ++ l) = lastS l := by
  unfold lastS; rw [List.getLastD_eq_getLast?, List.getLastD_eq_getLast?, List.getLast?_append, List.getLast?_eq_some_getLast h]; rfl
theorem line_len {l l' : List (List Fd)} {o o' : Bool} {s : List UInt8} (h : lineG l o s = .ok (l', o')) (ho : o = true → l ≠ []) : l.length ≤ l'.length ∧ (o' = true → l' ≠ []) := by
  have key : ∀ x : List Fd, l ≠ [] → l.length ≤ (l.dropLast ++ [x]).length := by
    intro x hl
    have hp := List.length_pos_iff.2 hl
    simp only [List.length_append, List.length_dropLast, List.length_singleton]; omega
  unfold lineG at h
  split at h
  case isFalse => cases h
  split at h
  · cases h; exact ⟨Nat.le_refl _, by simp⟩
  · split at h
    · unfold fieldG at h
      split at h
      case isFalse => cases h
      split at h
      · rename_i hh
        split at h
        · cases h
        · split at h
          · cases h; exact ⟨key _ (ho hh), by simp⟩
          · cases h
      · split at h
        · cases h; exact ⟨by simp, by simp⟩
        · cases h
    · split at h
      · rename_i hh
        cases h
        exact ⟨key _ (ho (Bool.and_eq_true_iff.1 hh).1), by simp⟩
      · cases h
theorem line_shift (a : List (List Fd)) {l l' : List (List Fd)} {o o' : Bool} {s : List UInt8} (h : lineG l o s = .ok (l', o')) (ho : o = true → l ≠ []) (hl : a.length + l'.length ≤ 200) : lineG (a ++ l) o s = .ok (a ++ l', o') := by
  unfold lineG at h ⊢
  split at h
  case isFalse => cases h
  rename_i hc
  rw [if_pos hc]
  cases s with
  | nil => cases h; rfl
  | cons c t =>
    dsimp only at h ⊢
    split at h
    · rename_i hne
      rw [if_pos hne]
      unfold fieldG at h ⊢
      split at h
      case isFalse => cases h
      rename_i hn
      rw [if_pos hn]
      split at h
      · rename_i hh
        have hl0 := ho hh
        rw [if_pos hh, lastS_app _ _ hl0]
        split at h
        · cases h
        · rename_i hg
          rw [if_neg hg]
          split at h
          · rename_i h40
            cases h
            rw [if_pos h40, List.dropLast_append_of_ne_nil hl0, List.append_assoc]
          · cases h
      · rename_i hh
        rw [if_neg hh]
        split at h
        · cases h
          rw [if_pos (by simp only [List.length_append, List.length_singleton] at hl ⊢; omega), List.append_assoc]
        · cases h
    · rename_i hne
      rw [if_neg hne]
      split at h
      · rename_i hh
        have hl0 := ho (Bool.and_eq_true_iff.1 hh).1
        cases h
        rw [if_pos hh, lastS_app _ _ hl0, List.dropLast_append_of_ne_nil hl0, List.append_assoc]
      · cases h
theorem readO_len : ∀ (ss : List (List UInt8)) (l l' : List (List Fd)) (o o' : Bool), readO ss l o = some (l', o') → (o = true → l ≠ []) → l.length ≤ l'.length := by
  intro ss
  induction ss with
  | nil => intro l l' o o' h _; cases h; exact Nat.le_refl _
  | cons s ss ih =>
    intro l l' o o' h ho
    unfold readO at h
    cases e : lineG l o s with
    | error q => rw [e] at h; cases h
    | ok p =>
      rw [e] at h
      have h1 := line_len e ho
      exact Nat.le_trans h1.1 (ih _ _ _ _ h h1.2)
theorem readO_shift (a : List (List Fd)) : ∀ (ss : List (List UInt8)) (l l' : List (List Fd)) (o o' : Bool), readO ss l o = some (l', o') → (o = true → l ≠ []) → a.length + l'.length ≤ 200 → readO ss (a ++ l) o = some (a ++ l', o') := by
  intro ss
  induction ss with
  | nil => intro l l' o o' h _ _; cases h; rfl
  | cons s ss ih =>
    intro l l' o o' h ho hl
    unfold readO at h ⊢
    cases e : lineG l o s with
    | error q => rw [e] at h; cases h
    | ok p =>
      rw [e] at h
      have h1 := line_len e ho
      have h2 := readO_len _ _ _ _ _ h h1.2
      rw [line_shift a (l' := p.1) (o' := p.2) e ho (by omega)]
      exact ih _ _ _ _ h h1.2 hl
theorem lines_ne (s : List UInt8) : linesL s ≠ [] := by
  cases s with
  | nil => simp [linesL]
  | cons c s =>
    unfold linesL
    split
    · simp
    · split <;> simp
theorem lines_join (y : List UInt8) : ∀ x : List UInt8, linesL (x ++ 10 :: y) = linesL x ++ linesL y := by
  intro x
  induction x with
  | nil => rfl
  | cons c x ih =>
    rw [List.cons_append, linesL, linesL]
    by_cases h : c.toNat = 10
    · rw [if_pos h, if_pos h, ih]; rfl
    · rw [if_neg h, if_neg h, ih]
      cases e : linesL x with
      | nil => exact absurd e (lines_ne x)
      | cons l ls => rfl
theorem lines_ahead (y : List UInt8) : ∀ k : Nat, linesL (List.replicate k 10 ++ y) = List.replicate k [] ++ linesL y := by
  intro k
  induction k with
  | zero => rfl
  | succ k ih => rw [List.replicate_succ, List.cons_append, linesL, if_pos (by decide), ih]; rfl
theorem lines_behind (x : List UInt8) (k : Nat) : linesL (x ++ List.replicate k 10) = linesL x ++ List.replicate k [] := by
  cases k with
  | zero => rw [List.replicate_zero, List.append_nil, List.replicate_zero, List.append_nil]
  | succ k =>
    rw [List.replicate_succ, lines_join]
    have := lines_ahead [] k
    rw [List.append_nil] at this
    rw [this, show linesL [] = [[]] from rfl, ← List.replicate_succ']
theorem parse_joins (s t : List UInt8) (k : Nat) (a b : List (List Fd)) (i j : Int) (hk : k ≤ 8) (hs : s.length ≤ 2000) (ht : t.length ≤ 2000) (ha : parseL s = (a, i, 0)) (hb : parseL t = (b, j, 0)) (hl : a.length + b.length ≤ 200) :
    parseL (List.replicate k 10 ++ (s ++ ([10, 10] ++ (List.replicate k 10 ++ (t ++ List.replicate k 10))))) = (a ++ b, 0, 0) := by
  unfold parseL at ha hb ⊢
  rw [if_neg (by omega)] at ha hb
  rw [if_neg (by simp only [List.length_append, List.length_replicate, List.length_cons, List.length_nil]; omega)]
  obtain ⟨o1, h1⟩ := readO_of (linesL s) 0 [] false (by rw [ha])
  obtain ⟨o2, h2⟩ := readO_of (linesL t) 0 [] false (by rw [hb])
  rw [ha] at h1
  rw [hb] at h2
  dsimp only at h1 h2
  have h3 := readO_shift a _ _ _ _ _ h2 (by simp) hl
  rw [List.append_nil] at h3
  have e : linesL (List.replicate k 10 ++ (s ++ ([10, 10] ++ (List.replicate k 10 ++ (t ++ List.replicate k 10))))) = List.replicate k [] ++ (linesL s ++ (List.replicate (k + 1) [] ++ (linesL t ++ List.replicate k []))) := by
    rw [lines_ahead, show s ++ ([10, 10] ++ (List.replicate k 10 ++ (t ++ List.replicate k 10))) = s ++ 10 :: (10 :: (List.replicate k 10 ++ (t ++ List.replicate k 10))) from rfl, lines_join,
      show (10 : UInt8) :: (List.replicate k 10 ++ (t ++ List.replicate k 10)) = List.replicate (k + 1) 10 ++ (t ++ List.replicate k 10) from by rw [List.replicate_succ]; rfl, lines_ahead, lines_behind]
  have ek : (if k = 0 then false else false) = false := by split <;> rfl
  refine read_of_O _ _ _ _ _ (if k = 0 then o2 else false) ?_
  rw [e, readO_append, readO_empties, Option.bind_some]
  dsimp only
  rw [ek, readO_append, h1, Option.bind_some]
  dsimp only
  rw [readO_append, readO_empties, Option.bind_some]
  dsimp only
  rw [if_neg (Nat.succ_ne_zero k), readO_append, h3, Option.bind_some]
  dsimp only
  rw [readO_empties]
end Go.Proofs.YtekplcjgmnahmaaDoor.PA
