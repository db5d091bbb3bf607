/- The library's Cut at a colon, Split at a line feed, TrimLeft of spaces: as the plain functions of MStanza0 say. No condition. -/
import Derived.Test.YtekplcjgmnahmaaDoorMStanzaJ
import Derived.Lib.SplitLaws
import Derived.Lib.IndexBytes
import Derived.Lib.TrimByte
namespace Go.Proofs.YtekplcjgmnahmaaDoor.PA
open Go
theorem byte_is (c : UInt8) (n : Nat) (h : n < 256) : (c.toNat = n) ↔ c = n.toUInt8 := by
  constructor
  · intro e; rw [← e]; simp
  · intro e; rw [e]; simp; omega
theorem cut_colon : ∀ s : List UInt8, Lib.cut s [58] = colonL s := by
  intro s
  unfold Lib.cut
  rw [Lib.index_one]
  induction s with
  | nil => rfl
  | cons c s ih =>
    by_cases h : c.toNat = 58
    · have h' : c = 58 := (byte_is c 58 (by decide)).1 h
      subst h'
      rfl
    · have h' : (c == 58) = false := beq_eq_false_iff_ne.2 fun e => h ((byte_is c 58 (by decide)).2 e)
      have hge := Lib.indexByte_ge s 58
      have hv : Lib.indexByte (c :: s) 58 = if Lib.indexByte s 58 == -1 then -1 else Lib.indexByte s 58 + 1 := by rw [Lib.indexByte, h', if_neg (by decide)]
      rw [colonL, if_neg h, ← ih]
      by_cases hn : Lib.indexByte s 58 = -1
      · rw [hv, hn]; rfl
      · rw [hv, if_neg (fun e => hn (beq_iff_eq.1 e))]
        rw [if_pos (show 0 ≤ Lib.indexByte s 58 + 1 by omega), if_pos (show 0 ≤ Lib.indexByte s 58 by omega), show (Lib.indexByte s 58 + 1).toNat = (Lib.indexByte s 58).toNat + 1 by omega]
        rfl
theorem trim_space (s : List UInt8) : Lib.trimLeftB s 32 = trimL s := by
  unfold Lib.trimLeftB trimL
  congr 1
  funext c
  rw [Bool.eq_iff_iff, beq_iff_eq, decide_eq_true_iff]
  exact ((byte_is c 32 (by decide))).symm
theorem index_at : ∀ x y : List UInt8, 10 ∉ x → Lib.indexByte (x ++ 10 :: y) 10 = (x.length : Int) := by
  intro x
  induction x with
  | nil => intro y _; rfl
  | cons c x ih =>
    intro y h
    have h1 : (c == 10) = false := beq_eq_false_iff_ne.2 fun e => h (by rw [e]; exact List.mem_cons_self)
    have h2 := ih y (fun e => h (List.mem_cons_of_mem _ e))
    rw [List.cons_append, Lib.indexByte, h1, if_neg (by decide), h2, if_neg (by simp <;> omega)]
    simp
theorem lines_one : ∀ x : List UInt8, 10 ∉ x → linesL x = [x] := by
  intro x
  induction x with
  | nil => intro _; rfl
  | cons c x ih =>
    intro h
    have h1 : ¬ c.toNat = 10 := fun e => h (by rw [(byte_is c 10 (by decide)).1 e]; exact List.mem_cons_self)
    rw [linesL, if_neg h1, ih (fun e => h (List.mem_cons_of_mem _ e))]
theorem split_lines : ∀ (k : Nat) (s : List UInt8), s.count 10 = k → Lib.splitK [10] 0 k s = linesL s := by
  intro k
  induction k with
  | zero =>
    intro s h
    rw [lines_one s (List.count_eq_zero.1 h)]; rfl
  | succ k ih =>
    intro s h
    obtain ⟨x, y, rfl, hx⟩ := List.eq_append_cons_of_mem (List.count_pos_iff.1 (show 0 < s.count 10 by omega))
    rw [Lib.splitK, Lib.index_one, index_at x y hx, if_neg (by simp <;> omega), lines_join, lines_one x hx]
    have hc : y.count 10 = k := by
      rw [List.count_append, List.count_eq_zero.2 hx, List.count_cons_self] at h
      omega
    rw [show ((x.length : Int).toNat + 0) = x.length by omega, List.take_left' rfl, show (x.length : Int).toNat + [(10 : UInt8)].length = x.length + 1 by simp, show List.drop (x.length + 1) (x ++ 10 :: y) = y from by simp, ih y hc]
    rfl
theorem mk_toList (s : ByteArray) : mkB s.data.toList = s := by cases s; rfl
theorem splitB_lines (s : ByteArray) : Lib.splitB ⟨#[10]⟩ 0 (Lib.countB s ⟨#[10]⟩) s = (linesL s.data.toList).map mkB := by
  have h := Lib.splitB_data ⟨#[10]⟩ 0 (Lib.countB s ⟨#[10]⟩) s
  rw [show (⟨#[10]⟩ : ByteArray).data.toList = [10] from rfl, split_lines _ s.data.toList (by show _ = Lib.count _ _; exact (Lib.count_one 10 _).symm)] at h
  rw [← h, List.map_map]
  have : (mkB ∘ fun s : ByteArray => s.data.toList) = id := by funext s; exact mk_toList s
  rw [this, List.map_id]
theorem splitB_len (s : ByteArray) : Lib.countB s ⟨#[10]⟩ + 1 = (linesL s.data.toList).length := by
  have h := Lib.splitB_all ⟨#[10]⟩ (by decide) 0 _ s rfl
  rw [splitB_lines, List.length_map] at h
  exact h.symm
end Go.Proofs.YtekplcjgmnahmaaDoor.PA
