/- What a text of stanzas is read as, as a plain function. No condition. -/
import Derived.Test.YtekplcjgmnahmaaDoorPA0
import Derived.Lib.Strings
import Derived.Lib.CutLaws
namespace Go.Proofs.YtekplcjgmnahmaaDoor.PA
abbrev Fd := S49
def isLetter (c : UInt8) : Bool := (decide (97 ≤ c.toNat) && decide (c.toNat ≤ 122)) || (decide (65 ≤ c.toNat) && decide (c.toNat ≤ 90))
def isSign (c : UInt8) : Bool := isLetter c || (decide (48 ≤ c.toNat) && decide (c.toNat ≤ 57)) || decide (c.toNat = 45)
def nameL : List UInt8 → Bool
  | [] => false
  | c :: s => decide (s.length + 1 ≤ 40) && isLetter c && (c :: s).all isSign
def cleanL (s : List UInt8) : Bool := s.all fun c => decide (32 ≤ c.toNat)
def trimL (s : List UInt8) : List UInt8 := s.dropWhile fun c => decide (c.toNat = 32)
def colonL : List UInt8 → List UInt8 × List UInt8 × Bool
  | [] => ([], [], false)
  | c :: s => if c.toNat = 58 then ([], s, true) else (c :: (colonL s).1, (colonL s).2.1, (colonL s).2.2)
def linesL : List UInt8 → List (List UInt8)
  | [] => [[]]
  | c :: s => if c.toNat = 10 then [] :: linesL s else match linesL s with
    | l :: ls => (c :: l) :: ls
    | [] => [[c]]
def mkB (l : List UInt8) : ByteArray := ⟨l.toArray⟩
/-- A field whose name is n: its value, if there is one. -/
def getG (st : List Fd) (n : ByteArray) : Option ByteArray := (st.find? fun f => decide (f.f0 = n)).map (·.f1)
def lastS (l : List (List Fd)) : List Fd := l.getLastD []
def fieldG (l : List (List Fd)) (o : Bool) (s : List UInt8) : Except Int (List (List Fd) × Bool) :=
  if (colonL s).2.2 && nameL (colonL s).1 then
    if o then
      if (getG (lastS l) (mkB (colonL s).1)).isSome then .error 7
      else if (lastS l).length < 40 then .ok (l.dropLast ++ [lastS l ++ [⟨mkB (colonL s).1, mkB (trimL (colonL s).2.1)⟩]], true) else .error 8
    else if l.length < 200 then .ok (l ++ [[⟨mkB (colonL s).1, mkB (trimL (colonL s).2.1)⟩]], true) else .error 8
  else .error 5
def moreF (t : List UInt8) (f : Fd) : Fd := ⟨f.f0, mkB (f.f1.data.toList ++ 10 :: t)⟩
def moreS (t : List UInt8) (st : List Fd) : List Fd := match st.getLast? with
  | some f => st.dropLast ++ [moreF t f]
  | none => st
def lineG (l : List (List Fd)) (o : Bool) (s : List UInt8) : Except Int (List (List Fd) × Bool) :=
  if cleanL s then
    match s with
    | [] => .ok (l, false)
    | c :: t => if c.toNat ≠ 32 then fieldG l o s else if o && !t.isEmpty then .ok (l.dropLast ++ [moreS t (lastS l)], true) else .error 5
  else .error 5
def readG : List (List UInt8) → Nat → List (List Fd) → Bool → List (List Fd) × Int × Int
  | [], _, l, _ => (l, 0, 0)
  | s :: ss, i, l, o => match lineG l o s with
    | .error e => ([], (i : Int) + 1, e)
    | .ok (l', o') => readG ss (i + 1) l' o'
def parseL (s : List UInt8) : List (List Fd) × Int × Int := if s.length > 60000 then ([], 0, 9) else readG (linesL s) 0 [] false
/-- Of an open reader the last stanza is there, and has a field. -/
def FineR (l : List (List Fd)) (o : Bool) : Prop := l.length ≤ 200 ∧ (∀ st ∈ l, st ≠ [] ∧ st.length ≤ 40) ∧ (o = true → l ≠ [])
theorem fine_start : FineR [] false := ⟨by simp, by simp, by simp⟩
theorem lastS_mem {l : List (List Fd)} (h : l ≠ []) : lastS l ∈ l := by
  unfold lastS; rw [List.getLastD_eq_getLast?, List.getLast?_eq_some_getLast h]; exact List.getLast_mem h
theorem split_last {l : List (List Fd)} (h : l ≠ []) : l.dropLast ++ [lastS l] = l := by
  unfold lastS; rw [List.getLastD_eq_getLast?, List.getLast?_eq_some_getLast h]; exact List.dropLast_concat_getLast h
theorem moreS_len (t : List UInt8) (st : List Fd) : (moreS t st).length = st.length := by
  unfold moreS
  cases h : st.getLast? with
  | none => rfl
  | some f =>
    have hne : st ≠ [] := by rintro rfl; simp at h
    have := List.length_pos_iff.2 hne
    simp only [List.length_append, List.length_dropLast, List.length_singleton]
    omega
theorem fine_line {l l' : List (List Fd)} {o o' : Bool} {s : List UInt8} (h : FineR l o) (e : lineG l o s = .ok (l', o')) : FineR l' o' := by
  obtain ⟨h1, h2, h3⟩ := h
  have key : ∀ st : List Fd, l ≠ [] → st ≠ [] → st.length ≤ 40 → FineR (l.dropLast ++ [st]) true := by
    intro st hl hs hs2
    have hp := List.length_pos_iff.2 hl
    refine ⟨by simp only [List.length_append, List.length_dropLast, List.length_singleton]; omega, ?_, by simp⟩
    intro x hx
    rcases List.mem_append.1 hx with hx | hx
    · exact h2 x (List.dropLast_subset _ hx)
    · rw [List.mem_singleton] at hx; subst hx; exact ⟨hs, hs2⟩
  unfold lineG at e
  split at e
  case isFalse => cases e
  cases s with
  | nil => cases e; exact ⟨h1, h2, by simp⟩
  | cons c t =>
    dsimp only at e
    split at e
    · unfold fieldG at e
      split at e
      case isFalse => cases e
      split at e
      · rename_i ho
        have hl := h3 ho
        split at e
        · cases e
        · split at e
          · rename_i h40
            cases e
            exact key _ hl (by simp) (by simp only [List.length_append, List.length_singleton]; omega)
          · cases e
      · split at e
        · rename_i h200
          cases e
          refine ⟨by simp only [List.length_append, List.length_singleton]; omega, ?_, by simp⟩
          intro x hx
          rcases List.mem_append.1 hx with hx | hx
          · exact h2 x hx
          · rw [List.mem_singleton] at hx; subst hx; exact ⟨by simp, by simp⟩
        · cases e
    · split at e
      · rename_i ho
        cases e
        have hl := h3 (Bool.and_eq_true_iff.1 ho).1
        have hm := h2 _ (lastS_mem hl)
        refine key _ hl ?_ (by rw [moreS_len]; exact hm.2)
        intro hn
        have := moreS_len t (lastS l)
        rw [hn] at this
        exact hm.1 (List.length_eq_zero_iff.1 this.symm)
      · cases e
/-- No value is longer than N. -/
def ValsLe (N : Nat) (l : List (List Fd)) : Prop := ∀ st ∈ l, ∀ f ∈ st, f.f1.size ≤ N
theorem vals_start (N : Nat) : ValsLe N [] := fun _ h => by cases h
theorem mkB_size (l : List UInt8) : (mkB l).size = l.length := rfl
theorem trim_len : ∀ s : List UInt8, (trimL s).length ≤ s.length := fun _ => (List.dropWhile_sublist _).length_le
theorem colon_len : ∀ s : List UInt8, (colonL s).2.1.length ≤ s.length := by
  intro s
  induction s with
  | nil => exact Nat.le_refl _
  | cons c s ih =>
    unfold colonL
    split
    · exact Nat.le_succ _
    · exact Nat.le_trans ih (Nat.le_succ _)
theorem vals_line {N : Nat} {l l' : List (List Fd)} {o o' : Bool} {s : List UInt8} (h : ValsLe N l) (ho : o = true → l ≠ []) (e : lineG l o s = .ok (l', o')) : ValsLe (N + s.length) l' := by
  have h' : ValsLe (N + s.length) l := fun st hst f hf => Nat.le_trans (h st hst f hf) (Nat.le_add_right _ _)
  have hd : ∀ st ∈ l.dropLast, ∀ f ∈ st, f.f1.size ≤ N + s.length := fun st hst => h' st (List.dropLast_subset _ hst)
  have key : ∀ (l0 : List (List Fd)) (x : List Fd), (∀ st ∈ l0, ∀ f ∈ st, f.f1.size ≤ N + s.length) → (∀ f ∈ x, f.f1.size ≤ N + s.length) → ValsLe (N + s.length) (l0 ++ [x]) := by
    intro l0 x h1 h2 st hst
    rcases List.mem_append.1 hst with hst | hst
    · exact h1 st hst
    · rw [List.mem_singleton] at hst; subst hst; exact h2
  have hnew : (mkB (trimL (colonL s).2.1)).size ≤ N + s.length := by
    rw [mkB_size]; have := trim_len (colonL s).2.1; have := colon_len s; omega
  unfold lineG at e
  split at e
  case isFalse => cases e
  cases s with
  | nil => cases e; exact h'
  | cons c t =>
    dsimp only at e
    split at e
    · unfold fieldG at e
      split at e
      case isFalse => cases e
      split at e
      · rename_i hh
        split at e
        · cases e
        · split at e
          · cases e
            refine key _ _ hd fun f hf => ?_
            rcases List.mem_append.1 hf with hf | hf
            · exact h' _ (lastS_mem (ho hh)) f hf
            · rw [List.mem_singleton] at hf; subst hf; exact hnew
          · cases e
      · split at e
        · cases e
          refine key _ _ h' fun f hf => ?_
          rw [List.mem_singleton] at hf; subst hf; exact hnew
        · cases e
    · split at e
      · rename_i hh
        cases e
        have hl := ho (Bool.and_eq_true_iff.1 hh).1
        refine key _ _ hd ?_
        have hm := h' _ (lastS_mem hl)
        have hm0 := h _ (lastS_mem hl)
        unfold moreS
        cases hg : (lastS l).getLast? with
        | none => exact hm
        | some f0 =>
          intro f hf
          rcases List.mem_append.1 hf with hf | hf
          · exact hm f (List.dropLast_subset _ hf)
          · rw [List.mem_singleton] at hf
            subst hf
            have := hm0 f0 (List.mem_of_getLast? hg)
            show (mkB (f0.f1.data.toList ++ 10 :: t)).size ≤ _
            rw [mkB_size, List.length_append, List.length_cons, List.length_cons]
            have e2 : f0.f1.data.toList.length = f0.f1.size := by rw [Array.length_toList]; rfl
            omega
      · cases e
end Go.Proofs.YtekplcjgmnahmaaDoor.PA
