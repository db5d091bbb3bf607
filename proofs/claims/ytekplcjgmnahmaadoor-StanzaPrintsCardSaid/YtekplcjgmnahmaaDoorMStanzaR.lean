/- The reference's words on texts: clean, Name, lines come to what MStanza0 says. Conditions: sizes that fit. -/
import Derived.Test.YtekplcjgmnahmaaDoorMBase
import Derived.Test.YtekplcjgmnahmaaDoorMStanzaL
import Derived.Test.YtekplcjgmnahmaaDoorPAkeelsonref50
import Derived.Test.YtekplcjgmnahmaaDoorPAkeelsonref20
namespace Go.Proofs.YtekplcjgmnahmaaDoor.PA
open Go.RowKit Go.Proofs.YtekplcjgmnahmaaDoorW.PrintWords Go.Proofs.YtekplcjgmnahmaaDoorW.PrintLast Go.Proofs.YtekplcjgmnahmaaDoorW.PrintMore

theorem bytes_inj8 {a b : ByteArray} (h : a.data.toList = b.data.toList) : a = b := by rw [← mk_toList a, ← mk_toList b, h]
theorem bt_nat (s : ByteArray) (i : Nat) (h : i < s.data.toList.length) : bt s (i : Int) = ((s.data.toList[i]).toNat : Int) := by
  have h' : i < s.size := by rw [← data_length]; exact h
  unfold bt
  rw [dif_pos (by simpa using h')]
  congr 2
theorem refclean_loop (s : ByteArray) (hs : s.size ≤ 4611686018427387904) (d : Nat) : ∀ i : Nat, i + d = s.data.toList.length → Ev (fun k => keelsonref5_clean.l0 k s (i : Int)) (cleanL (s.data.toList.drop i)) := by
  have hl := data_length s
  induction d with
  | zero =>
    intro i hi
    refine Ev.succ ?_
    simp only [keelsonref5_clean.l0]
    rw [List.drop_eq_nil_of_le (by omega)]
    exact Ev.neg (by omega) (Ev.some rfl)
  | succ d ih =>
    intro i hi
    have hil : i < s.data.toList.length := by omega
    refine Ev.succ ?_
    simp only [keelsonref5_clean.l0]
    rw [wrap_step (show i < s.size by omega) (by omega), bt_nat s i hil, List.drop_eq_getElem_cons hil]
    have e : cleanL (s.data.toList[i] :: s.data.toList.drop (i + 1)) = (decide (32 ≤ (s.data.toList[i]).toNat) && cleanL (s.data.toList.drop (i + 1))) := rfl
    rw [e]
    refine Ev.pos (by omega) (Ev.pos (by omega) ?_)
    by_cases h : 32 ≤ (s.data.toList[i]).toNat
    · rw [decide_eq_true h, Bool.true_and]
      exact Ev.neg (by omega) (ih (i + 1) (by omega))
    · rw [decide_eq_false h, Bool.false_and]
      exact Ev.pos (by omega) (Ev.some rfl)
theorem refclean_ev (s : ByteArray) (hs : s.size ≤ 4611686018427387904) : Ev (fun k => keelsonref5_clean.f k s) (cleanL s.data.toList) := by
  unfold keelsonref5_clean.f
  have := refclean_loop s hs s.data.toList.length 0 (by omega)
  rwa [List.drop_zero] at this
theorem letters_f : ∀ n : Nat, n < 256 → keelsonref2_Letter.f (n : Int) = some (isLetter n.toUInt8) := by decide +kernel
theorem digits_f : ∀ n : Nat, n < 256 → keelsonref2_Digit.f (n : Int) = some (decide (48 ≤ n.toUInt8.toNat) && decide (n.toUInt8.toNat ≤ 57)) := by decide +kernel
theorem letter_f (c : UInt8) : keelsonref2_Letter.f (c.toNat : Int) = some (isLetter c) := by
  have := letters_f c.toNat c.toNat_lt
  rwa [show c.toNat.toUInt8 = c from by simp] at this
theorem digit_f (c : UInt8) : keelsonref2_Digit.f (c.toNat : Int) = some (decide (48 ≤ c.toNat) && decide (c.toNat ≤ 57)) := by
  have := digits_f c.toNat c.toNat_lt
  rwa [show c.toNat.toUInt8 = c from by simp] at this
theorem refname_loop (s : ByteArray) (hs : s.size ≤ 4611686018427387904) (h1 : 1 ≤ s.size) (d : Nat) : ∀ i : Nat, 0 < i → i + d = s.data.toList.length → Ev (fun k => keelsonref5_Name.l0 k s (i : Int)) ((s.data.toList.drop i).all isSign && decide (s.size ≤ 40)) := by
  have hl := data_length s
  induction d with
  | zero =>
    intro i _ hi
    refine Ev.succ ?_
    simp only [keelsonref5_Name.l0]
    rw [List.drop_eq_nil_of_le (by omega)]
    refine Ev.neg (by omega) (Ev.pos (by omega) (Ev.some ?_))
    rw [List.all_nil, Bool.true_and, Bool.eq_iff_iff, decide_eq_true_iff, decide_eq_true_iff]; omega
  | succ d ih =>
    intro i h0 hi
    have hil : i < s.data.toList.length := by omega
    refine Ev.succ ?_
    simp only [keelsonref5_Name.l0]
    rw [wrap_step (show i < s.size by omega) (by omega), bt_nat s i hil, List.drop_eq_getElem_cons hil, List.all_cons]
    have hn := ih (i + 1) (by omega) (by omega)
    rw [Bool.and_assoc]
    refine Ev.pos (by omega) (Ev.pos (by omega) (Ev.call (letter_f _) ?_))
    unfold isSign
    cases hL : isLetter s.data.toList[i] with
    | true => exact Ev.pos rfl hn
    | false =>
      refine Ev.neg (by decide) (Ev.neg (by omega) (Ev.call (digit_f _) ?_))
      cases hD : (decide (48 ≤ (s.data.toList[i]).toNat) && decide ((s.data.toList[i]).toNat ≤ 57)) with
      | true => exact Ev.pos rfl hn
      | false =>
        refine Ev.neg (by decide) ?_
        by_cases h45 : (s.data.toList[i]).toNat = 45
        · rw [decide_eq_true h45]
          exact Ev.pos (by omega) hn
        · rw [decide_eq_false h45]
          exact Ev.neg (by omega) (Ev.some rfl)
theorem refname_ev (s : ByteArray) (hs : s.size ≤ 4611686018427387904) : Ev (fun k => keelsonref5_Name.f k s) (nameL s.data.toList) := by
  have hl := data_length s
  unfold keelsonref5_Name.f
  refine Ev.succ ?_
  simp only [keelsonref5_Name.l0]
  cases hS : s.data.toList with
  | nil =>
    rw [hS] at hl
    have h0 : s.size = 0 := hl.symm
    exact Ev.neg (by omega) (Ev.neg (by omega) (Ev.some rfl))
  | cons c t =>
    have hlen : s.data.toList.length = t.length + 1 := by rw [hS]; rfl
    have hb := bt_nat s 0 (by omega)
    have h0 : s.data.toList[0]'(by omega) = c := by simp [hS]
    rw [h0] at hb
    rw [show ((0 : Nat) : Int) = 0 from rfl] at hb
    rw [hb]
    refine Ev.pos (by omega) (Ev.pos (by decide) (Ev.call (letter_f _) ?_))
    have hr : nameL (c :: t) = (isLetter c && (t.all isSign && decide (s.size ≤ 40))) := by
      show (decide (t.length + 1 ≤ 40) && isLetter c && (c :: t).all isSign) = _
      have e40 : decide (t.length + 1 ≤ 40) = decide (s.size ≤ 40) := by rw [Bool.eq_iff_iff, decide_eq_true_iff, decide_eq_true_iff]; omega
      rw [List.all_cons, e40]
      unfold isSign
      cases isLetter c <;> cases decide (s.size ≤ 40) <;> simp
    rw [hr]
    cases hL : isLetter c with
    | true =>
      rw [Bool.true_and]
      have := refname_loop s hs (by omega) t.length 1 (by decide) (by omega)
      rw [hS, List.drop_succ_cons, List.drop_zero] at this
      rw [show wrap64 (0 + 1) = ((1 : Nat) : Int) from by unfold wrap64; rfl]
      exact Ev.pos rfl this
    | false => exact Ev.neg (by decide) (Ev.pos (by first | rfl | trivial) (Ev.some rfl))
theorem extract_mk (s : ByteArray) (a b : Nat) : s.extract a b = mkB ((s.data.toList.drop a).take (b - a)) := by
  exact Lib.extract_eq s a b
theorem reflines_loop (s : ByteArray) (hs : s.size ≤ 4398046511104) (d : Nat) : ∀ (i from_ : Nat) (acc : List ByteArray), i + d = s.data.toList.length → from_ ≤ i → acc.length ≤ i → 10 ∉ (s.data.toList.drop from_).take (i - from_) →
    Ev (fun k => keelsonref5_lines.l0 k s acc (from_ : Int) (i : Int)) (acc ++ (linesL (s.data.toList.drop from_)).map mkB) := by
  have hl := data_length s
  induction d with
  | zero =>
    intro i from_ acc hi hf ha hno
    refine Ev.succ ?_
    simp only [keelsonref5_lines.l0]
    refine Ev.neg (by omega) (Ev.pos (by omega) (Ev.pos (by omega) (Ev.pos (by omega) (Ev.some ?_))))
    rw [Int.toNat_natCast, extract_mk, ← hl]
    rw [List.take_of_length_le (by rw [List.length_drop]; omega)] at hno ⊢
    rw [lines_one _ hno]; rfl
  | succ d ih =>
    intro i from_ acc hi hf ha hno
    have hil : i < s.data.toList.length := by omega
    refine Ev.succ ?_
    simp only [keelsonref5_lines.l0]
    rw [wrap_step (show i < s.size by omega) (by omega), bt_nat s i hil, Int.toNat_natCast, Int.toNat_natCast]
    refine Ev.pos (by omega) (Ev.pos (by omega) ?_)
    have hdec : s.data.toList.drop from_ = (s.data.toList.drop from_).take (i - from_) ++ s.data.toList[i] :: s.data.toList.drop (i + 1) := by
      rw [← List.drop_eq_getElem_cons hil]
      have h2 : s.data.toList.drop i = (s.data.toList.drop from_).drop (i - from_) := by rw [List.drop_drop]; congr 1; omega
      rw [h2, List.take_append_drop]
    by_cases h10 : (s.data.toList[i]).toNat = 10
    · refine Ev.pos (by omega) (Ev.pos (by omega) (Ev.pos (by omega) (Ev.pos (by omega) (Ev.pos (by omega) ?_))))
      have h := ih (i + 1) (i + 1) (acc ++ [s.extract from_ i]) (by omega) (Nat.le_refl _) (by simp; omega) (by simp)
      have hc : s.data.toList[i] = 10 := (byte_is _ 10 (by decide)).1 h10
      rw [hdec, hc, lines_join, lines_one _ hno, extract_mk] at *
      simpa [List.append_assoc] using h
    · refine Ev.neg (by omega) (ih (i + 1) from_ acc (by omega) (by omega) (by omega) ?_)
      have hl2 : i - from_ < (s.data.toList.drop from_).length := by rw [List.length_drop]; omega
      rw [show i + 1 - from_ = (i - from_) + 1 by omega, List.take_succ_eq_append_getElem hl2]
      intro hm
      rcases List.mem_append.1 hm with hm | hm
      · exact hno hm
      · rw [List.mem_singleton, List.getElem_drop] at hm
        refine h10 ((byte_is _ 10 (by decide)).2 ?_)
        rw [show (10 : Nat).toUInt8 = 10 from rfl]
        rw [hm]
        congr 1
        omega
theorem reflines_ev (s : ByteArray) (hs : s.size ≤ 4398046511104) : Ev (fun k => keelsonref5_lines.f k s) ((linesL s.data.toList).map mkB) := by
  unfold keelsonref5_lines.f
  have := reflines_loop s hs s.data.toList.length 0 0 [] (by omega) (Nat.le_refl _) (Nat.le_refl _) (by simp)
  rw [List.drop_zero] at this
  exact this
end Go.Proofs.YtekplcjgmnahmaaDoor.PA
