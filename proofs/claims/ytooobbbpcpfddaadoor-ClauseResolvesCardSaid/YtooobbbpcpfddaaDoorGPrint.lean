/- keelson/clause.Print: a formula's text. Its literals are int64s, its text within the machine's room; the table of powers of ten lies as laid. -/
import Derived.Test.YtooobbbpcpfddaaDoorGPow
import Derived.Test.YtooobbbpcpfddaaDoorGRight
import Derived.Lib.ItoaLen
namespace Go.Proofs.YtooobbbpcpfddaaDoor.PA
open Go.RowKit Go.Lib Go.Proofs.YtooobbbpcpfddaaDoorW.PrintWords Go.Proofs.YtooobbbpcpfddaaDoorW.PrintLast Go.Proofs.YtooobbbpcpfddaaDoorW.PrintMore

def litT (x : Int) : List UInt8 := Lib.itoa x ++ [32]
def clauseT (c : List Int) : List UInt8 := c.flatMap litT ++ [48, 10]
def headT (n : Int) (l : List (List Int)) : List UInt8 := [112, 32, 99, 110, 102, 32] ++ Lib.itoa n ++ [32] ++ Lib.itoa (l.length : Int) ++ [10]
def textT (n : Int) (l : List (List Int)) : List UInt8 := headT n l ++ l.flatMap clauseT
def isI64 (x : Int) : Bool := decide (-9223372036854775808 ≤ x) && decide (x ≤ 9223372036854775807)
def clause_Print.f (a0 : Int) (l1 : List (List Int)) : Option ByteArray := if rightG a0 l1 = true then (if (textT a0 l1).length ≤ 140737488355328 ∧ (l1.all fun c => c.all isI64) = true then some ⟨(textT a0 l1).toArray⟩ else none) else some ⟨#[]⟩

theorem isB_below {T e : TypeId} {B b : Nat} {bs : List Value} {w w' : World} (h : Lib.IsBuilder T e B b bs w) (hb : Below w.heap.size w w') : Lib.IsBuilder T e B b bs w' := by
  have key : ∀ p, Lib.BuilderAt T e B b p bs w → Lib.BuilderAt T e B b p bs w' := by
    rintro p ⟨h1, v, h2, h3, h4⟩
    have hlt : b < w.heap.size := (Array.getElem?_eq_some_iff.1 h2).1
    exact ⟨h1, v, by rw [hb.block _ hlt]; exact h2, pw_own_below h3 hb, h4⟩
  rcases h with h | h
  · exact .inl (key _ h)
  · exact .inr (key _ h)
theorem strCells_mk (l : List UInt8) : Lib.strCells ⟨l.toArray⟩ = Lib.byteCells l := by unfold Lib.strCells Lib.byteCells; simp
/-- The builder holds a text; below B all is as it was. -/
def TextB (B b : Nat) (w0 W : World) (l : List UInt8) : Prop := Lib.IsBuilder 100 5 B b (Lib.byteCells l) W ∧ Below B w0 W ∧ B ≤ W.heap.size
theorem TextB.below {B b : Nat} {w0 W W' : World} {l : List UInt8} (h : TextB B b w0 W l) (hb : Below W.heap.size W W') : TextB B b w0 W' l := ⟨isB_below h.1 hb, h.2.1.trans (hb.mono h.2.2), Nat.le_trans h.2.2 hb.size⟩
theorem TextB.bel {B b : Nat} {w0 W : World} {l : List UInt8} (h : TextB B b w0 W l) : Below B w0 W := h.2.1
theorem new_text {w w1 : World} (hb : Below w.heap.size w w1) : TextB w.heap.size w1.heap.size w (w1.alloc (.cells #[.pointer none, .slice none 0 0] 100)) [] :=
  ⟨.inl ⟨hb.size, .slice none 0 0, heap_alloc_new _ _, own_nil _ _ _ _, by simp [Value.ownBlock]⟩, hb.alloc hb.size _, by have := hb.size; simp; omega⟩
theorem write_text (B b : Nat) (w0 W : World) (l m : List UInt8) (h : TextB B b w0 W l) (hl : l.length + m.length ≤ 140737488355328) :
    Calls Tryd.prog 86 #[.pointer (some ⟨b, 0, none⟩), .string ⟨m.toArray⟩] W fun e w' => (∃ v, e = .returned v) ∧ TextB B b w0 w' (l ++ m) := by
  refine (Tryd.Builder_WriteString B b _ ⟨m.toArray⟩ W h.1 (by simp [Lib.byteCells_length, ByteArray.size]; omega) h.2.2).mono ?_
  rintro e w' ⟨rfl, hB, hb⟩
  refine ⟨⟨_, rfl⟩, .inr ?_, h.2.1.trans hb, Nat.le_trans h.2.2 hb.size⟩
  rw [strCells_mk] at hB
  have e2 : Lib.byteCells (l ++ m) = Lib.byteCells l ++ Lib.byteCells m := by unfold Lib.byteCells; simp
  rw [e2]; exact hB
theorem write_textS (B b : Nat) (w0 W : World) (l m : List UInt8) (s : ByteArray) (hs : s = ⟨m.toArray⟩) (h : TextB B b w0 W l) (hl : l.length + m.length ≤ 140737488355328) :
    Calls Tryd.prog 86 #[.pointer (some ⟨b, 0, none⟩), .string s] W fun e w' => (∃ v, e = .returned v) ∧ TextB B b w0 w' (l ++ m) := by
  rw [hs]; exact write_text B b w0 W l m h hl
theorem read_text (B b : Nat) (w0 W : World) (l : List UInt8) (h : TextB B b w0 W l) :
    Calls Tryd.prog 88 #[.pointer (some ⟨b, 0, none⟩)] W fun e w' => e = .returned (.string ⟨l.toArray⟩) ∧ Below B w0 w' :=
  (Tryd.Builder_String_any B b l W h.1 h.2.2).mono fun _ _ ⟨he, hb⟩ => ⟨he, h.2.1.trans hb⟩

theorem pre_len (n : Int) (l : List (List Int)) (k : Nat) (h : k < l.length) : (headT n l ++ (l.take k).flatMap clauseT).length + (clauseT l[k]).length ≤ (textT n l).length := by
  have e : l.flatMap clauseT = (l.take k).flatMap clauseT ++ (clauseT l[k] ++ (l.drop (k + 1)).flatMap clauseT) := by
    conv => lhs; rw [← List.take_append_drop k l, List.drop_eq_getElem_cons h, List.flatMap_append, List.flatMap_cons]
  unfold textT
  rw [e]
  simp only [List.length_append]
  omega
theorem lit_len (c : List Int) (j : Nat) (h : j < c.length) : ((c.take j).flatMap litT).length + (litT c[j]).length ≤ (c.flatMap litT).length := by
  have e : c.flatMap litT = (c.take j).flatMap litT ++ (litT c[j] ++ (c.drop (j + 1)).flatMap litT) := by
    conv => lhs; rw [← List.take_append_drop j c, List.drop_eq_getElem_cons h, List.flatMap_append, List.flatMap_cons]
  rw [e]
  simp only [List.length_append]
  omega
theorem right_lits {n : Int} {l : List (List Int)} (h : rightG n l = true) : 0 ≤ n ∧ n ≤ 20000 ∧ (l.length : Int) ≤ 400000 := by
  unfold rightG at h
  rw [Bool.and_eq_true, Bool.not_eq_true', Bool.or_eq_false_iff, Bool.or_eq_false_iff, decide_eq_false_iff_not, decide_eq_false_iff_not, decide_eq_false_iff_not] at h
  omega

set_option maxHeartbeats 4000000 in
theorem clause_Print.calls (a0 : Int) (A1 : Option Addr) (c1 : Nat) (l1 : List (List Int)) (r : ByteArray) (w : World) (hr1 : Kd.C (Kd.slice 3 (Kd.int .i64)) w A1 l1.length l1) (hc1 : l1.length ≤ c1) (hG_pow10 : GlobPow10 w) (h : clause_Print.f a0 l1 = some r) :
    Calls Tryd.prog 58 #[.int .i64 a0, .slice A1 l1.length c1] w fun e w' => e = .returned (.string r) ∧ Below w.heap.size w w' := by
  unfold clause_Print.f at h
  have hR := clause_Right.calls a0 A1 c1 l1 (rightG a0 l1) w hr1 hc1 rfl
  split at h
  case isFalse hq =>
    obtain rfl := Option.some.inj h
    rw [Bool.not_eq_true] at hq
    rw [hq] at hR
    clear hr1 hq hG_pow10
    go_enter Tryd.func58, Tryd.ntmps58
    go_wp2_with (go_at_call 31; with_reducible refine hR.mono ?_; rintro e w' ⟨rfl, hb⟩)
    go_ret
    exact ⟨rfl, hb⟩
  case isTrue hq =>
  split at h
  case isFalse => cases h
  case isTrue hlen =>
  obtain rfl := Option.some.inj h
  obtain ⟨n0, n1, n2⟩ := right_lits hq
  rw [hq] at hR
  have HG := Lib.hid hG_pow10
  have i0 : -9223372036854775808 ≤ a0 ∧ a0 ≤ 9223372036854775807 := by omega
  have i1 : -9223372036854775808 ≤ (l1.length : Int) ∧ (l1.length : Int) ≤ 9223372036854775807 := by omega
  have hs0 : (Lib.itoa a0).length ≤ 21 := Lib.itoa_length_le a0 i0.1 i0.2
  have hs1 : (Lib.itoa (l1.length : Int)).length ≤ 21 := Lib.itoa_length_le _ i1.1 i1.2
  have hH : [112, 32, 99, 110, 102, 32] ++ Lib.itoa a0 ++ [32] ++ Lib.itoa (l1.length : Int) ++ [10] = headT a0 l1 := rfl
  have hi0 := itoa_calls a0 i0
  have hi1 := itoa_calls (l1.length : Int) i1
  generalize Lib.itoa a0 = p at hs0 hH hi0
  generalize Lib.itoa (l1.length : Int) = q at hs1 hH hi1
  have e1 := fun w : World => run_string_add_lists (P := Tryd.prog) w [112, 32, 99, 110, 102, 32] p (by simp) (by omega)
  have e2 := fun w : World => run_string_add_lists (P := Tryd.prog) w ([112, 32, 99, 110, 102, 32] ++ p) [32] (by simp; omega) (by simp)
  have e3 := fun w : World => run_string_add_lists (P := Tryd.prog) w ([112, 32, 99, 110, 102, 32] ++ p ++ [32]) q (by simp; omega) (by omega)
  have e4 := fun w : World => run_string_add_lists (P := Tryd.prog) w ([112, 32, 99, 110, 102, 32] ++ p ++ [32] ++ q) [10] (by simp; omega) (by simp)
  have hHS : ((({ data := (112 :: 32 :: 99 :: 110 :: 102 :: 32 :: p).toArray } : ByteArray) ++ { data := #[32] } ++ { data := q.toArray }) ++ { data := #[10] }) = ⟨(headT a0 l1).toArray⟩ := by
    rw [← hH]; apply ByteArray.ext; simp
  have hhd : (headT a0 l1).length ≤ 140737488355328 := by
    have := hlen.1
    unfold textT at this
    rw [List.length_append] at this
    omega
  have hhd0 : ([] : List UInt8).length + (headT a0 l1).length ≤ 140737488355328 := by simpa using hhd
  clear hG_pow10 hq
  go_enter Tryd.func58, Tryd.ntmps58
  go_wp2_with (first | (go_at_call 31; with_reducible refine hR.mono ?_; rintro e w1 ⟨rfl, hb⟩; have T0 := Lib.hid (new_text hb)) | (go_at_call 87; with_reducible refine (hi0 _ (HG.out.below T0.out.bel)).mono ?_; rintro e w2 ⟨rfl, hb2⟩; have T1 := Lib.hid (T0.out.below hb2); clear hb2) | (go_at_call 87; with_reducible refine (hi1 _ (HG.out.below T1.out.bel)).mono ?_; rintro e w3 ⟨rfl, hb3⟩; have T2 := Lib.hid (T1.out.below hb3); clear hb3) | (go_at_call 86; with_reducible refine (write_text w.heap.size w1.heap.size w _ [] (headT a0 l1) T2.out hhd0).mono ?_; rintro e w4 ⟨⟨v, rfl⟩, t4⟩; rw [List.nil_append] at t4; have T4 := Lib.hid t4; clear t4))
  have hn : l1.length ≤ 9223372036854775807 := hr1.2.1
  have H1 := Lib.hid hr1
  have HL := Lib.hid hlen
  clear hr1 hlen hi0 hi1 e1 e2 e3 e4 hHS hH hs0 hs1 hR hb
  go_loopg [7, 9, 26] l1.length (fun gg _ _ s26 wr => ∃ kk : Nat, kk ≤ l1.length ∧ l1.length - kk ≤ gg ∧ s26 = .int .i64 kk ∧ Aside (TextB w.heap.size w1.heap.size w wr (headT a0 l1 ++ (l1.take kk).flatMap clauseT)))
  case atStart => exact ⟨0, Nat.zero_le _, by omega, rfl, by rw [List.take_zero, List.flatMap_nil, List.append_nil]; exact T4.out⟩
  case round =>
    obtain ⟨kk, hkk, hg, rfl, RT⟩ := hrel
    by_cases hlt : kk < l1.length
    · have hltz : (kk : Int) < (l1.length : Int) := by omega
      have hr1 := H1.out
      obtain ⟨ad, rfl⟩ := C_addr hr1 (by omega)
      obtain ⟨cs, hlen', hK, hcell0⟩ := C_elem hr1 kk hlt
      obtain ⟨Ac, cc, rfl, hle, hC⟩ := hK
      have hx : wr.cell? (ad.add kk) = some (.slice Ac l1[kk].length cc) := pw_cell_below RT.out.bel (by have h := hcell0 0 _ rfl; simpa [Kd.slice] using h)
      have hpre := Nat.le_trans (pre_len a0 l1 kk hlt) HL.out.1
      have hci : ∀ x ∈ l1[kk], -9223372036854775808 ≤ x ∧ x ≤ 9223372036854775807 := by
        intro x hx'
        have h := List.all_eq_true.1 (List.all_eq_true.1 HL.out.2 _ (List.getElem_mem hlt)) x hx'
        simpa [isI64] using h
      have hst : headT a0 l1 ++ (l1.take (kk + 1)).flatMap clauseT = headT a0 l1 ++ (l1.take kk).flatMap clauseT ++ clauseT l1[kk] := by
        rw [List.take_succ_eq_append_getElem hlt, List.flatMap_append]; simp
      generalize l1[kk] = c at hx hpre hci hst hC hle
      generalize headT a0 l1 ++ (l1.take kk).flatMap clauseT = base at RT hpre hst
      have hcn : c.length ≤ 9223372036854775807 := hC.2.1
      have HC := Lib.hid hC
      have HI := Lib.hid hci
      have HS := Lib.hid hst
      clear hcell0 hlen' hr1 hC hci hst
      go_wp2
      go_loopg [9, 32] c.length (fun gg _ s32 wr2 => ∃ jj : Nat, jj ≤ c.length ∧ c.length - jj ≤ gg ∧ s32 = .int .i64 jj ∧ Aside (TextB w.heap.size w1.heap.size w wr2 (base ++ (c.take jj).flatMap litT)))
      case atStart => exact ⟨0, Nat.zero_le _, by omega, rfl, by rw [List.take_zero, List.flatMap_nil, List.append_nil]; exact RT.out⟩
      case round =>
        obtain ⟨jj, hjj, hg2, rfl, RT2⟩ := hrel
        by_cases hjl : jj < c.length
        · have hjlz : (jj : Int) < (c.length : Int) := by omega
          obtain ⟨ad2, e2, hy⟩ := Kd.at_int HC.out (jj : Int) (by omega) (by omega)
          subst e2
          rw [Int.toNat_natCast, show rd c (jj : Int) = c[jj] from by unfold rd; simp [List.getD_eq_getElem?_getD, List.getElem?_eq_getElem hjl]] at hy
          replace hy := pw_cell_below RT2.out.bel hy
          have hxi := HI.out c[jj] (List.getElem_mem hjl)
          have hpl := lit_len c jj hjl
          have hst2 : base ++ (c.take (jj + 1)).flatMap litT = base ++ (c.take jj).flatMap litT ++ litT c[jj] := by
            rw [List.take_succ_eq_append_getElem hjl, List.flatMap_append]; simp
          have hi := itoa_calls c[jj] hxi
          have hl5 := Lib.itoa_length_le c[jj] hxi.1 hxi.2
          have hw5 : (base ++ (c.take jj).flatMap litT).length + (litT c[jj]).length ≤ 140737488355328 := by
            have : (clauseT c).length = (c.flatMap litT).length + 2 := by unfold clauseT; simp
            rw [List.length_append]; omega
          rw [show litT c[jj] = Lib.itoa c[jj] ++ [32] from rfl] at hw5 hst2
          generalize Lib.itoa c[jj] = p5 at hi hl5 hw5 hst2
          generalize c[jj] = x5 at hy hi
          have e5 := fun w : World => run_string_add_lists (P := Tryd.prog) w p5 [32] (by omega) (by simp)
          generalize base ++ (c.take jj).flatMap litT = b5 at RT2 hw5 hst2
          have HS2 := Lib.hid hst2
          clear hst2 hpl hxi
          go_wp2_with (first | (go_at_call 87; with_reducible refine (hi _ (HG.out.below RT2.out.bel)).mono ?_; rintro e w5 ⟨rfl, hb5⟩; have T5 := Lib.hid (RT2.out.below hb5); clear hb5) | (go_at_call 86; with_reducible refine (write_text w.heap.size w1.heap.size w _ b5 (p5 ++ [32]) T5.out hw5).mono ?_; rintro e w6 ⟨⟨v6, rfl⟩, t6⟩; have T6 := Lib.hid t6; clear t6))
          go_roundg (c.length - (jj + 1))
          case measure => omega
          case rel => exact ⟨jj + 1, by omega, by omega, by go_num, by rw [HS2.out]; exact T6.out⟩
        · have hjlz : ¬ (jj : Int) < (c.length : Int) := by omega
          rw [List.take_of_length_le (by omega)] at RT2
          have hw6 : (base ++ c.flatMap litT).length + ([48, 10] : List UInt8).length ≤ 140737488355328 := by
            have : (clauseT c).length = (c.flatMap litT).length + 2 := by unfold clauseT; simp
            rw [List.length_append]; simp only [List.length_cons, List.length_nil]; omega
          have hst3 : headT a0 l1 ++ (l1.take (kk + 1)).flatMap clauseT = base ++ c.flatMap litT ++ [48, 10] := by rw [HS.out]; unfold clauseT; simp
          have HS3 := Lib.hid hst3
          clear hst3
          generalize base ++ c.flatMap litT = b6 at RT2 hw6 HS3
          go_wp2_with (go_at_call 86; with_reducible refine (write_text w.heap.size w1.heap.size w _ b6 [48, 10] RT2.out hw6).mono ?_; rintro e w6 ⟨⟨v6, rfl⟩, t6⟩; have T6 := Lib.hid t6; clear t6)
          go_roundg (l1.length - (kk + 1))
          case measure => omega
          case rel => exact ⟨kk + 1, by omega, by omega, by go_num, by rw [HS3.out]; exact T6.out⟩
    · have hltz : ¬ (kk : Int) < (l1.length : Int) := by omega
      rw [List.take_of_length_le (by omega)] at RT
      have hrt := read_text w.heap.size w1.heap.size w wr _ RT.out
      change Calls _ _ _ _ (fun e w' => e = .returned (.string ⟨(textT a0 l1).toArray⟩) ∧ Below w.heap.size w w') at hrt
      obtain ⟨tt, htt⟩ : ∃ tt, tt = textT a0 l1 := ⟨_, rfl⟩
      rw [← htt] at hrt
      have HT := Lib.hid htt
      clear htt HL
      go_wp2_with (go_at_call 88; with_reducible refine hrt.mono ?_; rintro e w7 ⟨rfl, hb7⟩)
      go_ret
      exact ⟨by rw [← HT.out]; rfl, hb7⟩
end Go.Proofs.YtooobbbpcpfddaaDoor.PA
