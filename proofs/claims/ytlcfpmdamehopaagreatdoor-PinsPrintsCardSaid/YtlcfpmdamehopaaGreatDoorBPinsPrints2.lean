/- Texts of this claim, part 3 of 4: contracts of the functions that the law comes to, and what they come to as plain functions. Conditions: sizes that fit. -/
import Derived.Test.YtlcfpmdamehopaaGreatDoorBPinsPrints1
import Derived.Lib.ReplaceLaws
import Derived.Shelf.Strings.BuilderK
import Derived.Laws.EntriesVeiled
/- keelson/stanza.value, right, text, Right, Print: what they come to. Conditions: the library's own number stands in its variable; values have at most 2^32 bytes or so, the whole text at most 2^47. -/
/- keelsonref5.field: a field's lines: what it comes to. Conditions: sizes below 2^42, the text at most 2^47. -/
namespace Go.Proofs.YtlcfpmdamehopaaGreatDoor.PA
open Go.RowKit Go.Proofs.YtlcfpmdamehopaaGreatDoorW.PrintWords Go.Proofs.YtlcfpmdamehopaaGreatDoorW.PrintLast Go.Proofs.YtlcfpmdamehopaaGreatDoorW.PrintMore

theorem add_op (x y : ByteArray) (h : x.size + y.size ≤ 9223372036854775807) : ∃ s : ByteArray, s.data.toList = x.data.toList ++ y.data.toList ∧ s.size = x.size + y.size ∧ ∀ w : World, (Op.stringOp .add x y).run Tryz.prog w = .ok (.string s) w :=
  ⟨x ++ y, by simp [ByteArray.data_append], by simp, fun w => run_string_add_sum w x y h⟩
def lineR (l : List UInt8) : List UInt8 := [32] ++ l ++ [10]
def headR (x l0 : List UInt8) : List UInt8 := x ++ [58] ++ (if l0 = [] then [] else [32] ++ l0) ++ [10]
def refFieldT (x y : List UInt8) : List UInt8 := match linesL y with
  | l0 :: r => headR x l0 ++ r.flatMap lineR
  | [] => []
def keelsonref5_field.f (x y : ByteArray) : Option ByteArray := if y.size ≤ 4398046511104 ∧ (refFieldT x.data.toList y.data.toList).length ≤ 140737488355328 then some (mkB (refFieldT x.data.toList y.data.toList)) else none
theorem mkB_nil : mkB [] = ⟨#[]⟩ := rfl
theorem below_row0 {W w' : World} {g : Nat} {ob : Obj} (h : Below W.heap.size W w') (hg : W.heap[g]? = some ob) : w'.heap[g]? = some ob := by
  rw [h.block g (Array.getElem?_eq_some_iff.1 hg).1]; exact hg
theorem bytes_is {s : ByteArray} {l : List UInt8} (h : s.data.toList = l) : s = mkB l := by rw [← h, mk_toList]
theorem lines_len2 (r : List (List UInt8)) (j : Nat) (h : j < r.length) (base : List UInt8) : (base ++ (r.take j).flatMap lineR).length + (r[j].length + 2) ≤ (base ++ r.flatMap lineR).length := by
  have e : r.flatMap lineR = (r.take j).flatMap lineR ++ (lineR r[j] ++ (r.drop (j + 1)).flatMap lineR) := by
    conv => lhs; rw [← List.take_append_drop j r, List.drop_eq_getElem_cons h, List.flatMap_append, List.flatMap_cons]
  rw [e]
  simp only [List.length_append, lineR, List.length_singleton]
  omega
set_option maxRecDepth 20000 in
set_option maxHeartbeats 4000000 in
theorem keelsonref5_field.calls (x y : ByteArray) (r : ByteArray) (w : World) (h : keelsonref5_field.f x y = some r) :
    Calls Tryz.prog 112 #[.agg #[.string x, .string y]] w fun e w' => e = .returned (.string r) ∧ Below w.heap.size w w' := by
  unfold keelsonref5_field.f at h
  split at h
  case isFalse => cases h
  case isTrue hf =>
  obtain rfl := Option.some.inj h
  obtain ⟨hy, hlen⟩ := hf
  obtain ⟨kl, hkl⟩ := Ev.rounds (reflines_ev y (by omega))
  have hlc := fun w1 => keelsonref5_lines.calls kl y _ w1 hkl
  have hl0 := lines_ne y.data.toList
  have hll := lines_len y.data.toList
  rw [data_length] at hll
  unfold refFieldT at hlen ⊢
  generalize linesL y.data.toList = ls at hlc hl0 hlen hll ⊢
  obtain ⟨l0, rs, rfl⟩ : ∃ l0 rs, ls = l0 :: rs := by
    cases ls with
    | nil => exact absurd rfl hl0
    | cons l0 rs => exact ⟨l0, rs, rfl⟩
  dsimp only at hlen ⊢
  have hn : rs.length + 1 ≤ 4398046511105 := by simp only [List.length_cons] at hll; omega
  have hhead : (headR x.data.toList l0).length ≤ 140737488355328 := by rw [List.length_append] at hlen; omega
  have hx1 : x.size + 1 ≤ 140737488355328 := by
    unfold headR at hhead
    simp only [List.length_append, List.length_singleton] at hhead
    rw [data_length] at hhead
    omega
  obtain ⟨s1, t1, z1, e1⟩ := add_op x ⟨#[58]⟩ (by show x.size + 1 ≤ _; omega)
  change _ = _ ++ [58] at t1
  change _ = x.size + 1 at z1
  have HL := Lib.hid hlen
  clear hlen hkl hl0 hll
  obtain hl | ⟨c0, l0', hl⟩ : l0 = [] ∨ ∃ c s, l0 = c :: s := by
    cases l0 with
    | nil => exact .inl rfl
    | cons c s => exact .inr ⟨c, s, rfl⟩
  · skip
    obtain ⟨s2, t2, z2, e2⟩ := add_op s1 ⟨#[10]⟩ (by show s1.size + 1 ≤ _; omega)
    change _ = _ ++ [10] at t2
    have HLL := Lib.hid hl
    clear hl
    go_enter Tryz.func112, Tryz.ntmps112
    go_wp2_with (go_at_call 58; with_reducible refine (hlc _).mono ?_; rintro e w1 ⟨v1, rfl, ho1, hb1⟩; have B1 := Lib.hid hb1; have c0 : w1.cell? ⟨w.heap.size, 0, none⟩ = some (.string x) := (by rw [cell_of_row _ _ _ _ _ _ (below_row0 hb1 (heap_alloc_new w _))]; simp); obtain ⟨g, cap, cur, rfl, hg, hh, hcs⟩ := strings_block ho1 (by simp); have k0 : w1.cell? ⟨g, 0, none⟩ = some (.string (mkB l0)) := ((cell_of_row _ _ _ _ _ _ hh).trans (hcs 0 (by simp))); clear hb1; rw [HLL.out, mkB_nil] at k0)
    clear k0
    have hR := hcs
    have RC := Lib.hid hh
    have RW := Lib.hid (show Below w.heap.size w w1 from (alloc_below w _).trans (B1.out.mono (alloc_below w _).size))
    have HCS := Lib.hid hcs
    clear hcs hh hR hg B1 ho1
    try rw [show (List.map mkB (l0 :: rs)).length = rs.length + 1 by simp]
    have TS := Lib.hid (show s2.data.toList = headR x.data.toList l0 by rw [t2, t1, HLL.out]; simp [headR])
    go_loopg [4, 5] (rs.length + 1) (fun gg s4 s5 wr => ∃ (jj : Nat) (acc : ByteArray), jj ≤ rs.length ∧ rs.length - jj ≤ gg ∧ s4 = .string acc ∧ s5 = .int .i64 ((jj : Int) + 1) ∧ Aside (acc.data.toList = headR x.data.toList l0 ++ (rs.take jj).flatMap lineR) ∧ Aside (wr = w1))
    case atStart => exact ⟨0, s2, Nat.zero_le _, by omega, rfl, by go_num, by rw [List.take_zero, List.flatMap_nil, List.append_nil]; exact TS.out, rfl⟩
    case round =>
      obtain ⟨jj, acc, hjj, hg, rfl, rfl, RA, RE⟩ := hrel
      have RE0 := RE.out
      subst RE0
      by_cases hlt : jj < rs.length
      · have hltz : (jj : Int) + 1 < (rs.length : Int) + 1 := by omega
        have p0 : (0 ≤ (jj : Int) + 1) = True := eq_true (by omega)
        have hcell : wr.cell? ⟨g, jj + 1, none⟩ = some (.string (mkB rs[jj])) := by
          rw [cell_of_row wr _ _ _ _ _ RC.out, HCS.out (jj + 1) (by simp; omega)]; simp
        have hl2 := Nat.le_trans (lines_len2 rs jj hlt (headR x.data.toList l0)) HL.out
        rw [← RA.out, data_length] at hl2
        obtain ⟨a1, u1, y1, g1⟩ := add_op acc ⟨#[32]⟩ (by show acc.size + 1 ≤ _; omega)
        change _ = _ ++ [32] at u1
        change _ = acc.size + 1 at y1
        obtain ⟨a2, u2, y2, g2⟩ := add_op a1 (mkB rs[jj]) (by rw [mkB_size]; omega)
        rw [mkB_size] at y2
        change _ = _ ++ rs[jj] at u2
        obtain ⟨a3, u3, y3, g3⟩ := add_op a2 ⟨#[10]⟩ (by show a2.size + 1 ≤ _; omega)
        change _ = _ ++ [10] at u3
        have UA := Lib.hid (show a3.data.toList = headR x.data.toList l0 ++ (rs.take (jj + 1)).flatMap lineR by rw [u3, u2, u1, RA.out, List.take_succ_eq_append_getElem hlt, List.flatMap_append, List.flatMap_cons, List.flatMap_nil]; simp [lineR])
        generalize mkB rs[jj] = z at hcell g2
        clear u1 u2 u3 y1 y2 y3 hl2
        go_wp2
        go_roundg (rs.length - (jj + 1))
        case measure => omega
        case rel => exact ⟨jj + 1, a3, by omega, by omega, rfl, by go_num, UA.out, rfl⟩
      · have hltz : ¬ (jj : Int) + 1 < (rs.length : Int) + 1 := by omega
        have hra := RA.out
        rw [List.take_of_length_le (by omega)] at hra
        have hfin := Lib.hid (bytes_is hra)
        clear RA hra
        go_wp2
        go_ret
        exact ⟨by rw [← hfin.out]; rfl, RW.out⟩
  · skip
    have hz : ¬ mkB l0 = ⟨#[]⟩ := by rw [hl]; intro e; cases e
    have hz2 : ((mkB l0).toList = []) = False := by rw [ByteArray.toList_eq, show (mkB l0).data.toList = l0 from rfl, hl]; simp
    have hz3 : (mkB l0).toList.isEmpty = false := by rw [ByteArray.toList_eq, show (mkB l0).data.toList = l0 from rfl, hl]; rfl
    have hh2 : x.size + l0.length + 3 ≤ 140737488355328 := by
      unfold headR at hhead
      rw [if_neg (by rw [hl]; simp)] at hhead
      simp only [List.length_append, List.length_singleton] at hhead
      rw [data_length] at hhead
      omega
    obtain ⟨s2, t2, z2, e2⟩ := add_op s1 ⟨#[32]⟩ (by show s1.size + 1 ≤ _; omega)
    change _ = _ ++ [32] at t2
    change _ = s1.size + 1 at z2
    obtain ⟨s3, t3, z3, e3⟩ := add_op s2 (mkB l0) (by rw [mkB_size]; omega)
    change _ = _ ++ l0 at t3
    rw [mkB_size] at z3
    obtain ⟨s4, t4, z4, e4⟩ := add_op s3 ⟨#[10]⟩ (by show s3.size + 1 ≤ _; omega)
    change _ = _ ++ [10] at t4
    generalize hzz : mkB l0 = z at hz hz2 hz3 e3
    have HLL := Lib.hid hl
    clear hl
    go_enter Tryz.func112, Tryz.ntmps112
    go_wp2_with (go_at_call 58; with_reducible refine (hlc _).mono ?_; rintro e w1 ⟨v1, rfl, ho1, hb1⟩; have B1 := Lib.hid hb1; have c0 : w1.cell? ⟨w.heap.size, 0, none⟩ = some (.string x) := (by rw [cell_of_row _ _ _ _ _ _ (below_row0 hb1 (heap_alloc_new w _))]; simp); obtain ⟨g, cap, cur, rfl, hg, hh, hcs⟩ := strings_block ho1 (by simp); have k0 : w1.cell? ⟨g, 0, none⟩ = some (.string (mkB l0)) := ((cell_of_row _ _ _ _ _ _ hh).trans (hcs 0 (by simp))); clear hb1; rw [hzz] at k0)
    clear k0
    have hR := hcs
    have RC := Lib.hid hh
    have RW := Lib.hid (show Below w.heap.size w w1 from (alloc_below w _).trans (B1.out.mono (alloc_below w _).size))
    have HCS := Lib.hid hcs
    clear hcs hh hR hg B1 ho1
    try rw [show (List.map mkB (l0 :: rs)).length = rs.length + 1 by simp]
    have TS := Lib.hid (show s4.data.toList = headR x.data.toList l0 by rw [t4, t3, t2, t1]; unfold headR; rw [if_neg (by rw [HLL.out]; simp)]; simp)
    go_loopg [4, 5] (rs.length + 1) (fun gg s4 s5 wr => ∃ (jj : Nat) (acc : ByteArray), jj ≤ rs.length ∧ rs.length - jj ≤ gg ∧ s4 = .string acc ∧ s5 = .int .i64 ((jj : Int) + 1) ∧ Aside (acc.data.toList = headR x.data.toList l0 ++ (rs.take jj).flatMap lineR) ∧ Aside (wr = w1))
    case atStart => exact ⟨0, s4, Nat.zero_le _, by omega, rfl, by go_num, by rw [List.take_zero, List.flatMap_nil, List.append_nil]; exact TS.out, rfl⟩
    case round =>
      obtain ⟨jj, acc, hjj, hg, rfl, rfl, RA, RE⟩ := hrel
      have RE0 := RE.out
      subst RE0
      by_cases hlt : jj < rs.length
      · have hltz : (jj : Int) + 1 < (rs.length : Int) + 1 := by omega
        have p0 : (0 ≤ (jj : Int) + 1) = True := eq_true (by omega)
        have hcell : wr.cell? ⟨g, jj + 1, none⟩ = some (.string (mkB rs[jj])) := by
          rw [cell_of_row wr _ _ _ _ _ RC.out, HCS.out (jj + 1) (by simp; omega)]; simp
        have hl2 := Nat.le_trans (lines_len2 rs jj hlt (headR x.data.toList l0)) HL.out
        rw [← RA.out, data_length] at hl2
        obtain ⟨a1, u1, y1, g1⟩ := add_op acc ⟨#[32]⟩ (by show acc.size + 1 ≤ _; omega)
        change _ = _ ++ [32] at u1
        change _ = acc.size + 1 at y1
        obtain ⟨a2, u2, y2, g2⟩ := add_op a1 (mkB rs[jj]) (by rw [mkB_size]; omega)
        rw [mkB_size] at y2
        change _ = _ ++ rs[jj] at u2
        obtain ⟨a3, u3, y3, g3⟩ := add_op a2 ⟨#[10]⟩ (by show a2.size + 1 ≤ _; omega)
        change _ = _ ++ [10] at u3
        have UA := Lib.hid (show a3.data.toList = headR x.data.toList l0 ++ (rs.take (jj + 1)).flatMap lineR by rw [u3, u2, u1, RA.out, List.take_succ_eq_append_getElem hlt, List.flatMap_append, List.flatMap_cons, List.flatMap_nil]; simp [lineR])
        generalize mkB rs[jj] = z at hcell g2
        clear u1 u2 u3 y1 y2 y3 hl2
        go_wp2
        go_roundg (rs.length - (jj + 1))
        case measure => omega
        case rel => exact ⟨jj + 1, a3, by omega, by omega, rfl, by go_num, UA.out, rfl⟩
      · have hltz : ¬ (jj : Int) + 1 < (rs.length : Int) + 1 := by omega
        have hra := RA.out
        rw [List.take_of_length_le (by omega)] at hra
        have hfin := Lib.hid (bytes_is hra)
        clear RA hra
        go_wp2
        go_ret
        exact ⟨by rw [← hfin.out]; rfl, RW.out⟩
end Go.Proofs.YtlcfpmdamehopaaGreatDoor.PA
namespace Go.Proofs.YtlcfpmdamehopaaGreatDoor.PA
open Go.RowKit Go.Proofs.YtlcfpmdamehopaaGreatDoorW.PrintWords Go.Proofs.YtlcfpmdamehopaaGreatDoorW.PrintLast Go.Proofs.YtlcfpmdamehopaaGreatDoorW.PrintMore

theorem lines_C (w : World) (ls : List (List UInt8)) (hn : ls.length ≤ 9223372036854775807) : Kd.C Kd.string (w.alloc (.cells (lineCells ls) 9)) (some ⟨w.heap.size, 0, none⟩) (ls.map mkB).length (ls.map mkB) := by
  refine ⟨rfl, by rw [List.length_map]; omega, fun _ => ⟨_, rfl, fun j x hx => ?_⟩⟩
  obtain ⟨hj, rfl⟩ := List.getElem?_eq_some_iff.1 hx
  refine ⟨[.string (ls.map mkB)[j]], rfl, rfl, fun i u hu => ?_⟩
  cases i with
  | succ i => cases hu
  | zero =>
    cases hu
    rw [List.length_map] at hj
    rw [show j * Kd.string.sz + 0 = j from by show j * 1 + 0 = j; omega, show (⟨w.heap.size, 0, none⟩ : Addr).add j = ⟨w.heap.size, j, none⟩ from by unfold Addr.add; split <;> simp_all]
    rw [cell_of_row _ _ _ _ _ _ (heap_alloc_new w _), lineCells_at ls j hj, List.getElem_map]
def valueF (s : List UInt8) : Bool := !(Lib.hasPrefix s [32]) && !(Lib.containsS (((linesL s).map mkB).drop 1) ⟨#[]⟩) && !(((linesL s).map mkB).any fun x => belowF x 32)
theorem value1_enters : ∀ args w, (callFunc 176 args).run Tryz.prog w = .ok (.enter 176 args) w := enters_of Tryz.func176 (by kernel_rfl) rfl
set_option maxHeartbeats 400000 in
theorem value1_any (x : ByteArray) (W : World) (hx : x.size ≤ 9223372036854775807) : Calls Tryz.prog 176 #[.string x] W fun e w' => e = .returned (.bool (belowF x 32)) ∧ Below W.heap.size W w' := by
  have hb := stanza_below.calls x 32 W hx
  generalize belowF x 32 = r at hb ⊢
  go_enter Tryz.func176, Tryz.ntmps176
  go_wp2_with (go_at_call 96; with_reducible refine hb.mono ?_; rintro e w' ⟨rfl, hb⟩)
  go_ret
  exact ⟨rfl, hb⟩
set_option maxRecDepth 20000 in
set_option maxHeartbeats 2000000 in
theorem value_calls (s : ByteArray) (w : World) (hs : s.size < 4294967281) (hG : GlobMaxLen w) :
    Calls Tryz.prog 142 #[.string s] w fun e w' => e = .returned (.bool (valueF s.data.toList)) ∧ Below w.heap.size w w' := by
  obtain ⟨m, hm⟩ := hG
  have hsp := Tryz.strings_Split s ⟨#[10]⟩ m w hs hm (by decide)
  rw [splitB_lines, splitB_len] at hsp
  change Calls _ _ _ _ fun e w' => _ ∧ w' = w.alloc (.cells (lineCells (linesL s.data.toList)) 9) at hsp
  have hpre := Tryz.strings_HasPrefix s ⟨#[32]⟩
  rw [show (⟨#[32]⟩ : ByteArray).data.toList = [32] from rfl] at hpre
  have hll := lines_len s.data.toList
  have hl1 := line_len1 s.data.toList
  rw [data_length] at hll hl1
  have hne : 0 < (linesL s.data.toList).length := by rw [← splitB_len]; omega
  have hb1 := alloc_below w (.cells (lineCells (linesL s.data.toList)) 9)
  unfold valueF
  generalize linesL s.data.toList = ls at hsp hll hl1 hne hb1 ⊢
  have hC := lines_C w ls (by omega)
  have hD := Kd.C_drop (c := ls.length) (m := 1) hC (by rw [List.length_map]; omega) (by rw [List.length_map]; omega)
  have hcon := (contains_calls _ (ls.length - 1) ((ls.map mkB).drop 1) ⟨#[]⟩ _ hD)
  have hany := con175 Kd.string rfl 176 #[] value1_enters (some ⟨w.heap.size, 0, none⟩) ls.length (ls.map mkB) (fun x => belowF x 32) _ hC (by
    intro x hx cs W' hb' hK
    obtain rfl := K_string hK
    obtain ⟨y, hy, rfl⟩ := List.mem_map.1 hx
    have := hl1 y hy
    exact value1_any _ W' (by rw [mkB_size]; omega))
  generalize Lib.containsS ((ls.map mkB).drop 1) ⟨#[]⟩ = b2 at hcon ⊢
  generalize ((ls.map mkB).any fun x => belowF x 32) = b3 at hany ⊢
  generalize Lib.hasPrefix s.data.toList [32] = b1 at hpre ⊢
  have HB := Lib.hid hb1
  rw [List.length_map] at hany
  rw [List.length_drop, List.length_map] at hcon
  clear hC hD hb1 hm hl1
  generalize ls.length = n at hsp hany hcon hll hne
  obtain rfl | ⟨q, rfl⟩ : n = 1 ∨ ∃ q, n = q + 2 := by
    rcases Nat.lt_or_ge 1 n with h | h
    · exact .inr ⟨n - 2, by omega⟩
    · exact .inl (by omega)
  · rw [if_pos rfl] at hcon
    change Calls _ _ #[.slice (some ⟨w.heap.size, 0, none⟩) 0 0, _] _ _ at hcon
    cases b1 with
    | true =>
      go_enter Tryz.func142, Tryz.ntmps142
      go_wp2_with (first | (go_at_call 53; with_reducible refine hsp.mono ?_; rintro e w1 ⟨rfl, rfl⟩) | (go_at_call 92; with_reducible refine (hpre _).mono ?_; rintro e w1 ⟨rfl, rfl⟩))
      go_ret
      exact ⟨rfl, HB.out⟩
    | false =>
      cases b2 with
      | true =>
        go_enter Tryz.func142, Tryz.ntmps142
        go_wp2_with (first | (go_at_call 53; with_reducible refine hsp.mono ?_; rintro e w1 ⟨rfl, rfl⟩) | (go_at_call 92; with_reducible refine (hpre _).mono ?_; rintro e w1 ⟨rfl, rfl⟩) | (go_at_call 174; with_reducible refine hcon.mono ?_; rintro e w1 ⟨rfl, rfl⟩))
        go_ret
        exact ⟨rfl, HB.out⟩
      | false =>
        go_enter Tryz.func142, Tryz.ntmps142
        go_wp2_with (first | (go_at_call 53; with_reducible refine hsp.mono ?_; rintro e w1 ⟨rfl, rfl⟩) | (go_at_call 92; with_reducible refine (hpre _).mono ?_; rintro e w1 ⟨rfl, rfl⟩) | (go_at_call 174; with_reducible refine hcon.mono ?_; rintro e w1 ⟨rfl, rfl⟩) | (go_at_call 175; with_reducible refine hany.mono ?_; rintro e w1 ⟨rfl, hb3⟩))
        go_ret
        exact ⟨rfl, HB.out.trans (hb3.mono HB.out.size)⟩
  · rw [if_neg (by omega), Option.map_some, show (⟨w.heap.size, 0, none⟩ : Addr).add (1 * Kd.string.sz) = ⟨w.heap.size, 1, none⟩ from by show Addr.add _ 1 = _; unfold Addr.add; split <;> simp_all] at hcon
    change Calls _ _ #[.slice (some ⟨w.heap.size, 1, none⟩) (q + 1) (q + 1), _] _ _ at hcon
    have q1 : (1 : Int) ≤ ((q : Int) + 2) := by omega
    cases b1 with
    | true =>
      go_enter Tryz.func142, Tryz.ntmps142
      go_wp2_with (first | (go_at_call 53; with_reducible refine hsp.mono ?_; rintro e w1 ⟨rfl, rfl⟩) | (go_at_call 92; with_reducible refine (hpre _).mono ?_; rintro e w1 ⟨rfl, rfl⟩))
      go_ret
      exact ⟨rfl, HB.out⟩
    | false =>
      cases b2 with
      | true =>
        go_enter Tryz.func142, Tryz.ntmps142
        go_wp2_with (first | (go_at_call 53; with_reducible refine hsp.mono ?_; rintro e w1 ⟨rfl, rfl⟩) | (go_at_call 92; with_reducible refine (hpre _).mono ?_; rintro e w1 ⟨rfl, rfl⟩) | (go_at_call 174; with_reducible refine hcon.mono ?_; rintro e w1 ⟨rfl, rfl⟩))
        go_ret
        exact ⟨rfl, HB.out⟩
      | false =>
        go_enter Tryz.func142, Tryz.ntmps142
        go_wp2_with (first | (go_at_call 53; with_reducible refine hsp.mono ?_; rintro e w1 ⟨rfl, rfl⟩) | (go_at_call 92; with_reducible refine (hpre _).mono ?_; rintro e w1 ⟨rfl, rfl⟩) | (go_at_call 174; with_reducible refine hcon.mono ?_; rintro e w1 ⟨rfl, rfl⟩) | (go_at_call 175; with_reducible refine hany.mono ?_; rintro e w1 ⟨rfl, hb3⟩))
        go_ret
        exact ⟨rfl, HB.out.trans (hb3.mono HB.out.size)⟩

def fineF (pre : List Fd) (f : Fd) : Bool := !((getG pre f.f0).isSome) && nameL f.f0.data.toList && valueF f.f1.data.toList
def fineAll : List Fd → List Fd → Bool
  | _, [] => true
  | pre, f :: r => fineF pre f && fineAll (pre ++ [f]) r
def rightS (st : List Fd) : Bool := fineAll [] st && (decide (0 < st.length) && decide (st.length ≤ 40))
theorem fineAll_step (st : List Fd) (k : Nat) (hk : k < st.length) : fineAll (st.take k) (st.drop k) = (fineF (st.take k) st[k] && fineAll (st.take (k + 1)) (st.drop (k + 1))) := by
  rw [List.drop_eq_getElem_cons hk, fineAll, List.take_succ_eq_append_getElem hk]
set_option maxRecDepth 20000 in
set_option maxHeartbeats 4000000 in
theorem right_calls (A : Option Addr) (c : Nat) (st : List Fd) (w : World) (hr : Kd.C k60 w A st.length st) (hc : st.length ≤ c) (hG : GlobMaxLen w) (hv : ∀ f ∈ st, f.f1.size < 4294967281) :
    Calls Tryz.prog 108 #[.slice A st.length c] w fun e w' => e = .returned (.bool (rightS st)) ∧ Below w.heap.size w w' := by
  have hn : st.length ≤ 9223372036854775807 := hr.2.1
  have HG := Lib.hid hG
  have HV := Lib.hid hv
  have H1 := Lib.hid hr
  have HQ := Lib.hid hc
  clear hG hv hr hc
  go_enter Tryz.func108, Tryz.ntmps108
  go_wp2
  go_loopg [3, 4, 5, 6, 9] st.length (fun gg _ _ _ _ s9 wr => ∃ kk : Nat, kk ≤ st.length ∧ st.length - kk ≤ gg ∧ s9 = .int .i64 kk ∧ Aside (Below w.heap.size w wr) ∧ Aside (fineAll [] st = fineAll (st.take kk) (st.drop kk)))
  case atStart => exact ⟨0, Nat.zero_le _, by omega, rfl, Below.refl _ w, rfl⟩
  case round =>
    obtain ⟨kk, hkk, hg, rfl, BW, AF⟩ := hrel
    by_cases hlt : kk < st.length
    · have hltz : (kk : Int) < (st.length : Int) := by omega
      have hr1 := H1.out
      obtain ⟨ad, rfl⟩ := C_addr hr1 (by omega)
      obtain ⟨cs, hlen, hK, hcell0⟩ := C_elem (Kd.C_below hr1 BW.out) kk hlt
      obtain rfl := k60_open hK
      have l0 : wr.cell? (ad.add (kk * 2)) = some (.string st[kk].f0) := by
        have h := hcell0 0 _ rfl
        rw [show kk * k60.sz + 0 = kk * 2 from rfl] at h; exact h
      have l1 : wr.cell? ⟨(ad.add (kk * 2)).block, (ad.add (kk * 2)).off + 1, none⟩ = some (.string st[kk].f1) := by
        have h := hcell0 1 _ rfl
        rw [show kk * k60.sz + 1 = kk * 2 + 1 from rfl, add_field _ _ _ (by decide)] at h; exact h
      have hst := AF.out
      rw [fineAll_step st kk hlt] at hst
      have hval := value_calls st[kk].f1
      have hnam := fun w' => stanza_Name.calls st[kk].f0 _ w' rfl
      have hvs := HV.out _ (List.getElem_mem hlt)
      have htk : (st.take kk).length = kk := by rw [List.length_take]; omega
      have hget := fun (W : World) (hb : Below w.heap.size w W) => stanza_Get.calls (some ad) c (st.take kk) st[kk].f0 _ _ W (Kd.C_take (Kd.C_below hr1 hb) hkk) (by have := HQ.out; omega) (get_is (st.take kk) st[kk].f0)
      rw [htk] at hget
      clear hK hcell0 hr1 hlen
      unfold fineF at hst
      generalize getG (st.take kk) st[kk].f0 = gg0 at hget hst
      generalize nameL st[kk].f0.data.toList = n0 at hnam hst
      generalize valueF st[kk].f1.data.toList = v0 at hval hst
      generalize st[kk].f0 = x0 at *
      generalize st[kk].f1 = x1 at *
      have HST := Lib.hid hst
      clear hst AF
      have q0 : (0 : Int) ≤ (kk : Int) := by omega
      have q2 : kk ≤ c := by have := HQ.out; omega
      have q1 : (kk : Int) ≤ (c : Int) := by omega
      have bW : Below w.heap.size w (wr.alloc (.cells #[.string x0, .string x1] 60)) := BW.out.alloc BW.out.size _
      have BA := Lib.hid bW
      have hb0 : wr.heap.size < (wr.alloc (.cells #[.string x0, .string x1] 60)).heap.size := by simp
      have f0 : (wr.alloc (.cells #[.string x0, .string x1] 60)).cell? ⟨wr.heap.size, 0, none⟩ = some (.string x0) := by rw [cell_of_row _ _ _ _ _ _ (heap_alloc_new wr _)]; rfl
      have f1 : (wr.alloc (.cells #[.string x0, .string x1] 60)).cell? ⟨wr.heap.size, 1, none⟩ = some (.string x1) := by rw [cell_of_row _ _ _ _ _ _ (heap_alloc_new wr _)]; rfl
      clear bW
      go_wp2
      generalize (wr.alloc (.cells #[.string x0, .string x1] 60)) = wa at BA hb0 f0 f1 ⊢
      clear l0 l1
      have hbd : Below w.heap.size w wa.drew := by apply below_drew1; exact BA.out
      have hg6 := (hget _ hbd).mono fun e w' h => (⟨h.1, below_step hbd h.2, h.2⟩ : e = .returned (.tuple #[.string (gg0.getD ⟨#[]⟩), .bool gg0.isSome]) ∧ Below w.heap.size w w' ∧ Below wa.drew.heap.size wa.drew w')
      have d0 := fun w' (h : Below wa.drew.heap.size wa.drew w') => pw_cell_below h (show wa.drew.cell? ⟨wr.heap.size, 0, none⟩ = some (.string x0) by simpa using f0)
      have d1 := fun w' (h : Below wa.drew.heap.size wa.drew w') => pw_cell_below h (show wa.drew.cell? ⟨wr.heap.size, 1, none⟩ = some (.string x1) by simpa using f1)
      clear hget
      go_region_with (refine hg6.mono ?_; rintro e w6 ⟨rfl, hb6, hk6⟩)
      have e0 := d0 w6 hk6
      have e1 := d1 w6 hk6
      have B6 := Lib.hid hb6
      clear d0 d1 hg6 hbd f0 f1 hb0 hk6 hb6 BA
      cases gg0 with
      | some y =>
        have hF := Lib.hid (show rightS st = false by unfold rightS; rw [HST.out]; simp)
        clear HST
        dsimp only [Option.isSome, Option.getD]
        go_wp2
        go_ret
        exact ⟨by rw [hF.out]; rfl, B6.out⟩
      | none =>
        cases n0 with
        | false =>
          have hF := Lib.hid (show rightS st = false by unfold rightS; rw [HST.out]; simp)
          clear HST
          dsimp only [Option.isSome, Option.getD]
          go_wp2_with (go_at_call 125; with_reducible refine (hnam _).mono ?_; rintro e w7 ⟨rfl, hb7⟩)
          go_ret
          exact ⟨by rw [hF.out]; rfl, below_step B6.out hb7⟩
        | true =>
          cases v0 with
          | false =>
            have hF := Lib.hid (show rightS st = false by unfold rightS; rw [HST.out]; simp)
            clear HST
            dsimp only [Option.isSome, Option.getD]
            go_wp2_with (first | (go_at_call 125; with_reducible refine (hnam _).mono ?_; rintro e w7 ⟨rfl, hb7⟩; have B7 := Lib.hid (below_step B6.out hb7); have e7 := pw_cell_below hb7 e1) | (go_at_call 142; with_reducible refine (hval _ hvs (HG.out.below B7.out)).mono ?_; rintro e w8 ⟨rfl, hb8⟩))
            go_ret
            exact ⟨by rw [hF.out]; rfl, below_step B7.out hb8⟩
          | true =>
            have hF := Lib.hid (show fineAll [] st = fineAll (st.take (kk + 1)) (st.drop (kk + 1)) by rw [HST.out]; simp)
            clear HST
            dsimp only [Option.isSome, Option.getD]
            go_wp2_with (first | (go_at_call 125; with_reducible refine (hnam _).mono ?_; rintro e w7 ⟨rfl, hb7⟩; have B7 := Lib.hid (below_step B6.out hb7); have e7 := pw_cell_below hb7 e1) | (go_at_call 142; with_reducible refine (hval _ hvs (HG.out.below B7.out)).mono ?_; rintro e w8 ⟨rfl, hb8⟩; have B8 := Lib.hid (below_step B7.out hb8)))
            go_roundg (st.length - (kk + 1))
            case measure => omega
            case rel => exact ⟨kk + 1, by omega, by omega, by go_num, B8.out, hF.out⟩
    · have hltz : ¬ (kk : Int) < (st.length : Int) := by omega
      have hst := AF.out
      rw [List.take_of_length_le (by omega), List.drop_eq_nil_of_le (by omega)] at hst
      have hres : rightS st = (decide ((0 : Int) < (st.length : Int)) && decide ((st.length : Int) ≤ 40)) := by
        unfold rightS
        rw [hst]
        show (true && _) = _
        rw [Bool.true_and]
        congr 1 <;> exact decide_eq_decide.2 (by omega)
      have HRES := Lib.hid hres
      clear hres hst AF
      by_cases p1 : (0 : Int) < (st.length : Int)
      · by_cases p2 : (st.length : Int) ≤ 40
        · go_wp2
          go_ret
          exact ⟨by rw [HRES.out, decide_eq_true p1, decide_eq_true p2]; rfl, BW.out⟩
        · go_wp2
          go_ret
          exact ⟨by rw [HRES.out, decide_eq_true p1, decide_eq_false (by omega)]; rfl, BW.out⟩
      · go_wp2
        go_ret
        exact ⟨by rw [HRES.out, decide_eq_false (by omega)]; rfl, BW.out⟩

theorem strCells_mk (l : List UInt8) : Lib.strCells ⟨l.toArray⟩ = Lib.byteCells l := by unfold Lib.strCells Lib.byteCells; simp
theorem isBF_below {T e : TypeId} {B b : Nat} {bs : List Value} {w w' : World} (h : Lib.IsBuilderF T e B b bs w) (hb : Below w.heap.size w w') : Lib.IsBuilderF T e B b bs w' := by
  have key : ∀ p, Lib.BuilderAtF T e B b p bs w → Lib.BuilderAtF T e B b p bs w' := by
    rintro p ⟨hB, v, hv, hown, hne⟩
    exact ⟨hB, v, (hb.block b (Array.getElem?_eq_some_iff.1 hv).1).trans hv, hown.kept (row := none) ⟨hb.os, hb.tape, hb.output, hb.size, fun k hk _ => hb.block k hk⟩ (Classical.em _), hne⟩
  rcases h with h | h
  · exact .inl (key _ h)
  · exact .inr (key _ h)
/-- The builder holds a text; below B all is as it was. -/
def TextB (B b : Nat) (w0 W : World) (l : List UInt8) : Prop := Lib.IsBuilderF 72 5 B b (Lib.byteCells l) W ∧ Below B w0 W ∧ B ≤ W.heap.size
theorem TextB.below {B b : Nat} {w0 W W' : World} {l : List UInt8} (h : TextB B b w0 W l) (hb : Below W.heap.size W W') : TextB B b w0 W' l := ⟨isBF_below h.1 hb, h.2.1.trans (hb.mono h.2.2), Nat.le_trans h.2.2 hb.size⟩
theorem TextB.bel {B b : Nat} {w0 W : World} {l : List UInt8} (h : TextB B b w0 W l) : Below B w0 W := h.2.1
theorem TextB.lt {B b : Nat} {w0 W : World} {l : List UInt8} (h : TextB B b w0 W l) : b < W.heap.size := by
  rcases h.1 with ⟨_, v, h, _⟩ | ⟨_, v, h, _⟩
  · exact (Array.getElem?_eq_some_iff.1 h).1
  · exact (Array.getElem?_eq_some_iff.1 h).1
theorem new_text {w w1 : World} (hb : Below w.heap.size w w1) : TextB w.heap.size w1.heap.size w (w1.alloc (.cells #[.pointer none, .slice none 0 0] 72)) [] :=
  ⟨Lib.IsBuilderF.of (.inl ⟨hb.size, .slice none 0 0, heap_alloc_new _ _, own_nil _ _ _ _, by simp [Value.ownBlock]⟩), hb.alloc hb.size _, by have := hb.size; simp; omega⟩
theorem write_text (B b : Nat) (w0 W : World) (l m : List UInt8) (h : TextB B b w0 W l) (hl : l.length + m.length ≤ 140737488355328) :
    Calls Tryz.prog 39 #[.pointer (some ⟨b, 0, none⟩), .string ⟨m.toArray⟩] W fun e w' => (∃ v, e = .returned v) ∧ TextB B b w0 w' (l ++ m) ∧ Lib.OthersKept 5 (some b) W w' := by
  refine (Any.Builder_WriteString_k Tryz.lays166 Tryz.Builder_Extra_166 B b _ ⟨m.toArray⟩ W h.1 (by simp [Lib.byteCells_length, ByteArray.size]; omega) h.2.2).mono ?_
  rintro e w' ⟨rfl, hB, hb, ho⟩
  refine ⟨⟨_, rfl⟩, ⟨.inr ?_, h.2.1.trans hb, Nat.le_trans h.2.2 hb.size⟩, ho⟩
  rw [strCells_mk] at hB
  have e2 : Lib.byteCells (l ++ m) = Lib.byteCells l ++ Lib.byteCells m := by unfold Lib.byteCells; simp
  rw [e2]; exact hB
theorem write_byte (B b : Nat) (w0 W : World) (l : List UInt8) (n : Nat) (hn : n < 256) (h : TextB B b w0 W l) (hl : l.length + 1 ≤ 140737488355328) :
    Calls Tryz.prog 109 #[.pointer (some ⟨b, 0, none⟩), .int .u8 n] W fun e w' => e = .returned .nilIface ∧ TextB B b w0 w' (l ++ [n.toUInt8]) ∧ Lib.OthersKept 5 (some b) W w' := by
  refine (Any.Builder_WriteByte_k Tryz.lays167 Tryz.Builder_Extra_167 B b _ n W h.1 (by simp [Lib.byteCells_length]; omega) h.2.2).mono ?_
  rintro e w' ⟨rfl, hB, hb, ho⟩
  refine ⟨rfl, ⟨.inr ?_, h.2.1.trans hb, Nat.le_trans h.2.2 hb.size⟩, ho⟩
  have e2 : Lib.byteCells (l ++ [n.toUInt8]) = Lib.byteCells l ++ [.int .u8 n] := by
    unfold Lib.byteCells
    rw [List.map_append]
    congr 1
    show [Value.int .u8 (n.toUInt8.toNat : Int)] = _
    rw [show n.toUInt8.toNat = n from by simp; omega]
  rw [e2]; exact hB
theorem write_32 (B b : Nat) (w0 W : World) (l : List UInt8) (h : TextB B b w0 W l) (hl : l.length + 1 ≤ 140737488355328) :
    Calls Tryz.prog 109 #[.pointer (some ⟨b, 0, none⟩), .int .u8 32] W fun e w' => e = .returned .nilIface ∧ TextB B b w0 w' (l ++ [32]) ∧ Lib.OthersKept 5 (some b) W w' := write_byte B b w0 W l 32 (by decide) h hl
theorem write_10 (B b : Nat) (w0 W : World) (l : List UInt8) (h : TextB B b w0 W l) (hl : l.length + 1 ≤ 140737488355328) :
    Calls Tryz.prog 109 #[.pointer (some ⟨b, 0, none⟩), .int .u8 10] W fun e w' => e = .returned .nilIface ∧ TextB B b w0 w' (l ++ [10]) ∧ Lib.OthersKept 5 (some b) W w' := write_byte B b w0 W l 10 (by decide) h hl
theorem read_text (B b : Nat) (w0 W : World) (l : List UInt8) (h : TextB B b w0 W l) :
    Calls Tryz.prog 40 #[.pointer (some ⟨b, 0, none⟩)] W fun e w' => e = .returned (.string ⟨l.toArray⟩) ∧ Below B w0 w' :=
  (Tryz.Builder_String_any_f B b l W h.1 h.2.2).mono fun _ _ ⟨he, _, hb⟩ => ⟨he, h.2.1.trans hb⟩
theorem kept_row {W w' : World} {b g : Nat} {t : TypeId} {cs : Array Value} (h : Lib.OthersKept 5 (some b) W w') (hg : W.heap[g]? = some (.cells cs t (0, 0))) (hne : g ≠ b) (ht : t ≠ 5) : w'.heap[g]? = some (.cells cs t (0, 0)) :=
  h g _ hg (fun e => hne (Option.some.inj e)) (fun c fz e => ht (by cases e; rfl))
def spaceT : List UInt8 → List UInt8
  | [] => []
  | c :: _ => if c.toNat = 10 then [] else [32]
def moreL (s : List UInt8) : List UInt8 := Lib.replaceAll s [10] [10, 32]
def fieldT (f : Fd) : List UInt8 := f.f0.data.toList ++ [58] ++ spaceT f.f1.data.toList ++ (moreL f.f1.data.toList ++ [10])
def stanzaT (st : List Fd) : List UInt8 := st.flatMap fieldT
def textS : List (List Fd) → List UInt8
  | [] => []
  | st :: r => stanzaT st ++ r.flatMap fun st => 10 :: stanzaT st
theorem text_step (l : List (List Fd)) (k : Nat) (h : k < l.length) : textS (l.take (k + 1)) = textS (l.take k) ++ (if k = 0 then [] else [10]) ++ stanzaT l[k] := by
  cases l with
  | nil => cases h
  | cons st r =>
    cases k with
    | zero => simp [textS]
    | succ k =>
      have hk : k < r.length := by simpa using h
      rw [List.take_succ_cons, List.take_succ_cons, textS, textS, List.take_succ_eq_append_getElem hk, List.flatMap_append, if_neg (by omega)]
      simp
theorem text_take (l : List (List Fd)) (k : Nat) : ∀ d, (textS (l.take k)).length ≤ (textS (l.take (k + d))).length := by
  intro d
  induction d with
  | zero => exact Nat.le_refl _
  | succ d ih =>
    refine Nat.le_trans ih ?_
    by_cases h : k + d < l.length
    · rw [show k + (d + 1) = k + d + 1 by omega, text_step l _ h, List.length_append, List.length_append]; omega
    · rw [List.take_of_length_le (by omega), List.take_of_length_le (by omega)]; exact Nat.le_refl _
theorem text_len (l : List (List Fd)) (k : Nat) (h : k < l.length) : (textS (l.take k)).length + (if k = 0 then ([] : List UInt8) else [10]).length + (stanzaT l[k]).length ≤ (textS l).length := by
  have h1 := text_take l (k + 1) (l.length - (k + 1))
  rw [show k + 1 + (l.length - (k + 1)) = l.length by omega, List.take_length, text_step l k h, List.length_append, List.length_append] at h1
  exact h1
theorem field_len (c : List Fd) (j : Nat) (h : j < c.length) : ((c.take j).flatMap fieldT).length + (fieldT c[j]).length ≤ (stanzaT c).length := by
  have e : stanzaT c = (c.take j).flatMap fieldT ++ (fieldT c[j] ++ (c.drop (j + 1)).flatMap fieldT) := by
    unfold stanzaT
    conv => lhs; rw [← List.take_append_drop j c, List.drop_eq_getElem_cons h, List.flatMap_append, List.flatMap_cons]
  rw [e]
  simp only [List.length_append]
  omega
theorem add_lists (x y : List UInt8) (h : x.length + y.length ≤ 9223372036854775807) (w : World) : (Op.stringOp .add ⟨x.toArray⟩ ⟨y.toArray⟩).run Tryz.prog w = .ok (.string ⟨(x ++ y).toArray⟩) w := by
  rw [run_string_add_sum w _ _ (by simp only [ByteArray.size, List.size_toArray]; omega), ByteArray.mk_append_mk]
theorem replace_calls (v : ByteArray) (W : World) (hs : v.size < 4294967281) (hG : GlobMaxLen W) : Calls Tryz.prog 110 #[.string v, .string ⟨#[10]⟩, .string ⟨#[10, 32]⟩] W fun e w' => e = .returned (.string ⟨(moreL v.data.toList).toArray⟩) ∧ Below W.heap.size W w' := by
  obtain ⟨m, hm⟩ := hG
  have hc := Lib.countB_le ⟨#[10]⟩ (by decide) _ v (Nat.le_refl _)
  exact Tryz.strings_ReplaceAll v ⟨#[10]⟩ ⟨#[10, 32]⟩ m W hs hm (by decide) (by show v.size + Lib.countB v ⟨#[10]⟩ * 2 ≤ _; omega)
set_option maxRecDepth 20000 in
set_option maxHeartbeats 8000000 in
theorem text_calls (A : Option Addr) (c : Nat) (l : List (List Fd)) (w : World) (hr : Kd.C (Kd.slice 60 k60) w A l.length l) (hG : GlobMaxLen w) (hv : ∀ st ∈ l, ∀ f ∈ st, f.f1.size < 4294967281) (hlen : (textS l).length ≤ 140737488355328) :
    Calls Tryz.prog 68 #[.slice A l.length c] w fun e w' => e = .returned (.string ⟨(textS l).toArray⟩) ∧ Below w.heap.size w w' := by
  have hn : l.length ≤ 9223372036854775807 := hr.2.1
  have T0 := Lib.hid (new_text (Below.refl w.heap.size w))
  have HG := Lib.hid hG
  have HV := Lib.hid hv
  have H1 := Lib.hid hr
  have HL := Lib.hid hlen
  clear hG hv hr hlen
  go_enter Tryz.func68, Tryz.ntmps68
  go_wp2
  go_loopg [4, 5, 7, 10] l.length (fun gg _ _ _ s10 wr => ∃ kk : Nat, kk ≤ l.length ∧ l.length - kk ≤ gg ∧ s10 = .int .i64 kk ∧ Aside (TextB w.heap.size w.heap.size w wr (textS (l.take kk))))
  case atStart => exact ⟨0, Nat.zero_le _, by omega, rfl, T0.out⟩
  case round =>
    obtain ⟨kk, hkk, hg, rfl, RT⟩ := hrel
    by_cases hlt : kk < l.length
    · have hltz : (kk : Int) < (l.length : Int) := by omega
      have hr1 := H1.out
      obtain ⟨ad, rfl⟩ := C_addr hr1 (by omega)
      obtain ⟨cs, hlen', hK, hcell0⟩ := C_elem hr1 kk hlt
      obtain ⟨Ac, cc, rfl, hle, hC⟩ := hK
      have hx : wr.cell? (ad.add kk) = some (.slice Ac l[kk].length cc) := pw_cell_below RT.out.bel (by have h := hcell0 0 _ rfl; simpa [Kd.slice] using h)
      have hpre := Nat.le_trans (text_len l kk hlt) HL.out
      have hvk := HV.out _ (List.getElem_mem hlt)
      have hst := text_step l kk hlt
      generalize l[kk] = st at hx hpre hvk hst hC hle
      generalize textS (l.take kk) = base at RT hpre hst
      have hcn : st.length ≤ 9223372036854775807 := hC.2.1
      have HC := Lib.hid hC
      have HVK := Lib.hid hvk
      clear hcell0 hlen' hr1 hC hvk
      by_cases hk0 : kk = 0
      · have hk1 : ¬ (0 : Int) < (kk : Int) := by omega
        rw [if_pos hk0, List.append_nil] at hst
        rw [if_pos hk0] at hpre
        have HS := Lib.hid hst
        have HP := Lib.hid hpre
        clear hst hpre hk1
        subst hk0
        have hx0 : wr.cell? ad = some (.slice Ac st.length cc) := by simpa [Addr.add] using hx
        clear hx
        go_wp2
        go_loopg [7, 20] st.length (fun gg _ s20 WR => ∃ jj : Nat, jj ≤ st.length ∧ st.length - jj ≤ gg ∧ s20 = .int .i64 jj ∧ Aside (TextB w.heap.size w.heap.size w WR (base ++ (st.take jj).flatMap fieldT)))
        case atStart => exact ⟨0, Nat.zero_le _, by omega, rfl, by rw [List.take_zero, List.flatMap_nil, List.append_nil]; exact RT.out⟩
        case round =>
          obtain ⟨jj, hjj, hg2, rfl, RT2⟩ := hrel
          by_cases hjl : jj < st.length
          · have hjlz : (jj : Int) < (st.length : Int) := by omega
            have hC2 := HC.out
            obtain ⟨ad2, rfl⟩ := C_addr hC2 (by omega)
            obtain ⟨cs, hlen2, hK, hcell0⟩ := C_elem (Kd.C_below hC2 RT2.out.bel) jj hjl
            obtain rfl := k60_open hK
            have l0 : wr.cell? (ad2.add (jj * 2)) = some (.string st[jj].f0) := by
              have h := hcell0 0 _ rfl
              rw [show jj * k60.sz + 0 = jj * 2 from rfl] at h; exact h
            have l1 : wr.cell? ⟨(ad2.add (jj * 2)).block, (ad2.add (jj * 2)).off + 1, none⟩ = some (.string st[jj].f1) := by
              have h := hcell0 1 _ rfl
              rw [show jj * k60.sz + 1 = jj * 2 + 1 from rfl, add_field _ _ _ (by decide)] at h; exact h
            have hfl := Nat.le_trans (Nat.add_le_add_left (field_len st jj hjl) (base.length + ([] : List UInt8).length)) HP.out
            have hvj := HVK.out _ (List.getElem_mem hjl)
            have hst2 : base ++ (st.take (jj + 1)).flatMap fieldT = base ++ (st.take jj).flatMap fieldT ++ fieldT st[jj] := by
              rw [List.take_succ_eq_append_getElem hjl, List.flatMap_append]; simp
            have hfl2 : (base ++ (st.take jj).flatMap fieldT).length + (fieldT st[jj]).length ≤ 140737488355328 := by
              rw [List.length_append]; simp only [List.length_nil] at hfl; omega
            generalize base ++ (st.take jj).flatMap fieldT = b5 at RT2 hst2 hfl2
            clear hfl hcell0 hlen2 hC2 hK
            have hst3 : fieldT st[jj] = st[jj].f0.data.toList ++ [58] ++ spaceT st[jj].f1.data.toList ++ (moreL st[jj].f1.data.toList ++ [10]) := rfl
            rw [hst3] at hst2 hfl2
            clear hst3
            have ha := (mk_toList st[jj].f0).symm
            generalize st[jj].f0.data.toList = a at hst2 hfl2 ha
            generalize st[jj].f0 = x0 at l0 ha
            subst ha
            generalize st[jj].f1 = v at l1 hvj hst2 hfl2
            have hrep := fun W => replace_calls v W hvj
            generalize moreL v.data.toList = mv at hst2 hfl2 hrep
            simp only [List.length_append, List.length_singleton] at hfl2
            have e1 : ∀ w : World, (Op.stringOp .add (mkB a) ⟨#[58]⟩).run Tryz.prog w = .ok (.string ⟨(a ++ [58]).toArray⟩) w := add_lists a [58] (by rw [List.length_singleton]; omega)
            have e2 : ∀ w : World, (Op.stringOp .add ⟨mv.toArray⟩ ⟨#[10]⟩).run Tryz.prog w = .ok (.string ⟨(mv ++ [10]).toArray⟩) w := add_lists mv [10] (by rw [List.length_singleton]; omega)
            have TA := Lib.hid (RT2.out.below (alloc_below wr (.cells #[.string (mkB a), .string v] 60)))
            have hgb : wr.heap.size ≠ w.heap.size := by have := RT2.out.lt; omega
            have X0 := Lib.hid (heap_alloc_new wr (.cells #[.string (mkB a), .string v] 60))
            have f0 : (wr.alloc (.cells #[.string (mkB a), .string v] 60)).cell? ⟨wr.heap.size, 0, none⟩ = some (.string (mkB a)) := by rw [cell_of_row _ _ _ _ _ _ (heap_alloc_new wr _)]; rfl
            have c1 : ∀ W : World, W.heap[wr.heap.size]? = some (.cells #[.string (mkB a), .string v] 60 (0, 0)) → W.cell? ⟨wr.heap.size, 1, none⟩ = some (.string v) := fun W h => by rw [cell_of_row _ _ _ _ _ _ h]; rfl
            have HS2 := Lib.hid hst2
            have HF2 := Lib.hid hfl2
            clear hst2 hfl2
            cases hv0 : v.data.toList with
            | nil =>
              obtain rfl : v = ⟨#[]⟩ := by cases v with | mk d => cases d with | mk l => cases hv0; rfl
              have HS2 := Lib.hid (show base ++ (st.take (jj + 1)).flatMap fieldT = b5 ++ (a ++ [58] ++ ([] : List UInt8) ++ (mv ++ [10])) from HS2.out)
              have HF2 := Lib.hid (show b5.length + (a.length + 1 + ([] : List UInt8).length + (mv.length + 1)) ≤ 140737488355328 from HF2.out)
              have HW1 := Lib.hid (show (b5 ++ (a ++ [58])).length + 0 + (mv ++ [10]).length ≤ 140737488355328 by have := HF2.out; simp only [List.length_append, List.length_singleton] at this ⊢; omega)
              have w1 := write_text w.heap.size w.heap.size w _ b5 (a ++ [58]) TA.out (by have := HW1.out; rw [List.length_append] at this; omega)
              skip
              go_wp2_with (first | (go_at_call 39; with_reducible refine w1.mono ?_; rintro e w6 ⟨⟨v6, rfl⟩, t6, o6⟩; have T6 := Lib.hid t6; have r6 := kept_row o6 X0.out hgb (by decide); have X6 := Lib.hid r6; have g6 := c1 _ r6; clear t6 o6 r6) | (go_at_call 110; with_reducible refine (hrep _ (HG.out.below T6.out.bel)).mono ?_; rintro e w8 ⟨rfl, hb8⟩; have w9 := write_text w.heap.size w.heap.size w _ _ (mv ++ [10]) (T6.out.below hb8) (by have := HW1.out; simp only [List.length_append, List.length_singleton] at this ⊢; omega); clear hb8) | (go_at_call 39; with_reducible refine w9.mono ?_; rintro e w10 ⟨⟨v10, rfl⟩, t10, o10⟩; have T10 := Lib.hid t10; clear t10 o10))
              go_roundg (st.length - (jj + 1))
              case measure => omega
              case rel => exact ⟨jj + 1, by omega, by omega, by go_num, by rw [HS2.out]; rw [show b5 ++ (a ++ [58] ++ ([] : List UInt8) ++ (mv ++ [10])) = b5 ++ (a ++ [58]) ++ (mv ++ [10]) by simp]; exact T10.out⟩
            | cons x s' =>
              have hne : ¬ v = ⟨#[]⟩ := by rintro rfl; cases hv0
              have hsz : v.size = s'.length + 1 := by rw [← data_length, hv0]; rfl
              have hx : ∀ h : 0 < v.size, ((v[0]'h).toNat : Int) = (x.toNat : Int) := by
                intro h
                congr 2
                show v.data[0] = x
                have : v.data.toList[0]'(by rw [hv0]; exact Nat.succ_pos _) = x := by simp [hv0]
                simpa using this
              have hne2 : (v.toList = []) = False := by rw [ByteArray.toList_eq, hv0]; simp
              have q3 : (0 < v.size) = True := eq_true (by omega)
              by_cases h10 : x.toNat = 10
              · have hsp : spaceT v.data.toList = [] := by rw [hv0]; simp [spaceT, h10]
                rw [hsp] at HS2 HF2
                rw [h10] at hx
                clear hsp hv0 hsz
                have HW1 := Lib.hid (show (b5 ++ (a ++ [58])).length + 0 + (mv ++ [10]).length ≤ 140737488355328 by have := HF2.out; simp only [List.length_append, List.length_singleton] at this ⊢; omega)
                have w1 := write_text w.heap.size w.heap.size w _ b5 (a ++ [58]) TA.out (by have := HW1.out; rw [List.length_append] at this; omega)
                skip
                go_wp2_with (first | (go_at_call 39; with_reducible refine w1.mono ?_; rintro e w6 ⟨⟨v6, rfl⟩, t6, o6⟩; have T6 := Lib.hid t6; have r6 := kept_row o6 X0.out hgb (by decide); have X6 := Lib.hid r6; have g6 := c1 _ r6; clear t6 o6 r6) | (go_at_call 110; with_reducible refine (hrep _ (HG.out.below T6.out.bel)).mono ?_; rintro e w8 ⟨rfl, hb8⟩; have w9 := write_text w.heap.size w.heap.size w _ _ (mv ++ [10]) (T6.out.below hb8) (by have := HW1.out; simp only [List.length_append, List.length_singleton] at this ⊢; omega); clear hb8) | (go_at_call 39; with_reducible refine w9.mono ?_; rintro e w10 ⟨⟨v10, rfl⟩, t10, o10⟩; have T10 := Lib.hid t10; clear t10 o10))
                go_roundg (st.length - (jj + 1))
                case measure => omega
                case rel => exact ⟨jj + 1, by omega, by omega, by go_num, by rw [HS2.out]; rw [show b5 ++ (a ++ [58] ++ ([] : List UInt8) ++ (mv ++ [10])) = b5 ++ (a ++ [58]) ++ (mv ++ [10]) by simp]; exact T10.out⟩
              · have hsp : spaceT v.data.toList = [32] := by rw [hv0]; simp [spaceT, h10]
                rw [hsp] at HS2 HF2
                have hx10 : ¬ (x.toNat : Int) = 10 := by omega
                generalize (x.toNat : Int) = xi at hx hx10
                have q4 : (xi != 10) = true := bne_iff_ne.2 hx10
                have q5 : v.toList.isEmpty = false := by rw [ByteArray.toList_eq, hv0]; rfl
                clear hsp hv0 hsz h10
                have HW1 := Lib.hid (show (b5 ++ (a ++ [58])).length + 1 + (mv ++ [10]).length ≤ 140737488355328 by have := HF2.out; simp only [List.length_append, List.length_singleton] at this ⊢; omega)
                have w1 := write_text w.heap.size w.heap.size w _ b5 (a ++ [58]) TA.out (by have := HW1.out; rw [List.length_append] at this; omega)
                skip
                go_wp2_with (first | (go_at_call 39; with_reducible refine w1.mono ?_; rintro e w6 ⟨⟨v6, rfl⟩, t6, o6⟩; have T6 := Lib.hid t6; have r6 := kept_row o6 X0.out hgb (by decide); have X6 := Lib.hid r6; have g6 := c1 _ r6; clear t6 o6 r6) | (go_at_call 109; with_reducible refine (write_32 w.heap.size w.heap.size w _ _ T6.out (by have := HW1.out; simp only [List.length_append, List.length_singleton] at this ⊢; omega)).mono ?_; rintro e w7 ⟨rfl, t7, o7⟩; have T7 := Lib.hid t7; have r7 := kept_row o7 X6.out hgb (by decide); have g7 := c1 _ r7; clear t7 o7 r7) | (go_at_call 110; with_reducible refine (hrep _ (HG.out.below T7.out.bel)).mono ?_; rintro e w8 ⟨rfl, hb8⟩; have w9 := write_text w.heap.size w.heap.size w _ _ (mv ++ [10]) (T7.out.below hb8) (by have := HW1.out; simp only [List.length_append, List.length_singleton] at this ⊢; omega); clear hb8) | (go_at_call 39; with_reducible refine w9.mono ?_; rintro e w10 ⟨⟨v10, rfl⟩, t10, o10⟩; have T10 := Lib.hid t10; clear t10 o10))
                go_roundg (st.length - (jj + 1))
                case measure => omega
                case rel => exact ⟨jj + 1, by omega, by omega, by go_num, by rw [HS2.out]; rw [show b5 ++ (a ++ [58] ++ ([32] : List UInt8) ++ (mv ++ [10])) = b5 ++ (a ++ [58]) ++ [32] ++ (mv ++ [10]) by simp]; exact T10.out⟩
          · have hjlz : ¬ (jj : Int) < (st.length : Int) := by omega
            rw [List.take_of_length_le (by omega)] at RT2
            have T9 := Lib.hid (show TextB w.heap.size w.heap.size w wr (textS (l.take (0 + 1))) by rw [HS.out]; exact RT2.out)
            clear RT2
            go_wp2
            go_roundg (l.length - (0 + 1))
            case measure => omega
            case rel => exact ⟨0 + 1, by omega, by omega, by go_num, T9.out⟩
      · have hk1 : (0 : Int) < (kk : Int) := by omega
        rw [if_neg hk0] at hst hpre
        have HS := Lib.hid hst
        have HP0 := Lib.hid hpre
        have hwb := write_10 w.heap.size w.heap.size w wr base RT.out (by rw [List.length_singleton] at hpre; omega)
        clear hst hpre
        go_wp2_with (go_at_call 109; with_reducible refine hwb.mono ?_; rintro e w4 ⟨rfl, t4, _⟩; have T4 := Lib.hid t4; clear t4)
        have HP := Lib.hid (show (base ++ [10]).length + ([] : List UInt8).length + (stanzaT st).length ≤ 140737488355328 from by rw [List.length_append]; have := HP0.out; simp only [List.length_nil] at this ⊢; omega)
        clear hwb HP0 RT
        have RT : Aside (TextB w.heap.size w.heap.size w w4 (base ++ [10])) := T4.out
        generalize base ++ [10] = base at RT HP HS
        clear T4
        go_loopg [7, 20] st.length (fun gg _ s20 WR => ∃ jj : Nat, jj ≤ st.length ∧ st.length - jj ≤ gg ∧ s20 = .int .i64 jj ∧ Aside (TextB w.heap.size w.heap.size w WR (base ++ (st.take jj).flatMap fieldT)))
        case atStart => exact ⟨0, Nat.zero_le _, by omega, rfl, by rw [List.take_zero, List.flatMap_nil, List.append_nil]; exact RT.out⟩
        case round =>
          obtain ⟨jj, hjj, hg2, rfl, RT2⟩ := hrel
          by_cases hjl : jj < st.length
          · have hjlz : (jj : Int) < (st.length : Int) := by omega
            have hC2 := HC.out
            obtain ⟨ad2, rfl⟩ := C_addr hC2 (by omega)
            obtain ⟨cs, hlen2, hK, hcell0⟩ := C_elem (Kd.C_below hC2 RT2.out.bel) jj hjl
            obtain rfl := k60_open hK
            have l0 : wr.cell? (ad2.add (jj * 2)) = some (.string st[jj].f0) := by
              have h := hcell0 0 _ rfl
              rw [show jj * k60.sz + 0 = jj * 2 from rfl] at h; exact h
            have l1 : wr.cell? ⟨(ad2.add (jj * 2)).block, (ad2.add (jj * 2)).off + 1, none⟩ = some (.string st[jj].f1) := by
              have h := hcell0 1 _ rfl
              rw [show jj * k60.sz + 1 = jj * 2 + 1 from rfl, add_field _ _ _ (by decide)] at h; exact h
            have hfl := Nat.le_trans (Nat.add_le_add_left (field_len st jj hjl) (base.length + ([] : List UInt8).length)) HP.out
            have hvj := HVK.out _ (List.getElem_mem hjl)
            have hst2 : base ++ (st.take (jj + 1)).flatMap fieldT = base ++ (st.take jj).flatMap fieldT ++ fieldT st[jj] := by
              rw [List.take_succ_eq_append_getElem hjl, List.flatMap_append]; simp
            have hfl2 : (base ++ (st.take jj).flatMap fieldT).length + (fieldT st[jj]).length ≤ 140737488355328 := by
              rw [List.length_append]; simp only [List.length_nil] at hfl; omega
            generalize base ++ (st.take jj).flatMap fieldT = b5 at RT2 hst2 hfl2
            clear hfl hcell0 hlen2 hC2 hK
            have hst3 : fieldT st[jj] = st[jj].f0.data.toList ++ [58] ++ spaceT st[jj].f1.data.toList ++ (moreL st[jj].f1.data.toList ++ [10]) := rfl
            rw [hst3] at hst2 hfl2
            clear hst3
            have ha := (mk_toList st[jj].f0).symm
            generalize st[jj].f0.data.toList = a at hst2 hfl2 ha
            generalize st[jj].f0 = x0 at l0 ha
            subst ha
            generalize st[jj].f1 = v at l1 hvj hst2 hfl2
            have hrep := fun W => replace_calls v W hvj
            generalize moreL v.data.toList = mv at hst2 hfl2 hrep
            simp only [List.length_append, List.length_singleton] at hfl2
            have e1 : ∀ w : World, (Op.stringOp .add (mkB a) ⟨#[58]⟩).run Tryz.prog w = .ok (.string ⟨(a ++ [58]).toArray⟩) w := add_lists a [58] (by rw [List.length_singleton]; omega)
            have e2 : ∀ w : World, (Op.stringOp .add ⟨mv.toArray⟩ ⟨#[10]⟩).run Tryz.prog w = .ok (.string ⟨(mv ++ [10]).toArray⟩) w := add_lists mv [10] (by rw [List.length_singleton]; omega)
            have TA := Lib.hid (RT2.out.below (alloc_below wr (.cells #[.string (mkB a), .string v] 60)))
            have hgb : wr.heap.size ≠ w.heap.size := by have := RT2.out.lt; omega
            have X0 := Lib.hid (heap_alloc_new wr (.cells #[.string (mkB a), .string v] 60))
            have f0 : (wr.alloc (.cells #[.string (mkB a), .string v] 60)).cell? ⟨wr.heap.size, 0, none⟩ = some (.string (mkB a)) := by rw [cell_of_row _ _ _ _ _ _ (heap_alloc_new wr _)]; rfl
            have c1 : ∀ W : World, W.heap[wr.heap.size]? = some (.cells #[.string (mkB a), .string v] 60 (0, 0)) → W.cell? ⟨wr.heap.size, 1, none⟩ = some (.string v) := fun W h => by rw [cell_of_row _ _ _ _ _ _ h]; rfl
            have HS2 := Lib.hid hst2
            have HF2 := Lib.hid hfl2
            clear hst2 hfl2
            cases hv0 : v.data.toList with
            | nil =>
              obtain rfl : v = ⟨#[]⟩ := by cases v with | mk d => cases d with | mk l => cases hv0; rfl
              have HS2 := Lib.hid (show base ++ (st.take (jj + 1)).flatMap fieldT = b5 ++ (a ++ [58] ++ ([] : List UInt8) ++ (mv ++ [10])) from HS2.out)
              have HF2 := Lib.hid (show b5.length + (a.length + 1 + ([] : List UInt8).length + (mv.length + 1)) ≤ 140737488355328 from HF2.out)
              have HW1 := Lib.hid (show (b5 ++ (a ++ [58])).length + 0 + (mv ++ [10]).length ≤ 140737488355328 by have := HF2.out; simp only [List.length_append, List.length_singleton] at this ⊢; omega)
              have w1 := write_text w.heap.size w.heap.size w _ b5 (a ++ [58]) TA.out (by have := HW1.out; rw [List.length_append] at this; omega)
              skip
              go_wp2_with (first | (go_at_call 39; with_reducible refine w1.mono ?_; rintro e w6 ⟨⟨v6, rfl⟩, t6, o6⟩; have T6 := Lib.hid t6; have r6 := kept_row o6 X0.out hgb (by decide); have X6 := Lib.hid r6; have g6 := c1 _ r6; clear t6 o6 r6) | (go_at_call 110; with_reducible refine (hrep _ (HG.out.below T6.out.bel)).mono ?_; rintro e w8 ⟨rfl, hb8⟩; have w9 := write_text w.heap.size w.heap.size w _ _ (mv ++ [10]) (T6.out.below hb8) (by have := HW1.out; simp only [List.length_append, List.length_singleton] at this ⊢; omega); clear hb8) | (go_at_call 39; with_reducible refine w9.mono ?_; rintro e w10 ⟨⟨v10, rfl⟩, t10, o10⟩; have T10 := Lib.hid t10; clear t10 o10))
              go_roundg (st.length - (jj + 1))
              case measure => omega
              case rel => exact ⟨jj + 1, by omega, by omega, by go_num, by rw [HS2.out]; rw [show b5 ++ (a ++ [58] ++ ([] : List UInt8) ++ (mv ++ [10])) = b5 ++ (a ++ [58]) ++ (mv ++ [10]) by simp]; exact T10.out⟩
            | cons x s' =>
              have hne : ¬ v = ⟨#[]⟩ := by rintro rfl; cases hv0
              have hsz : v.size = s'.length + 1 := by rw [← data_length, hv0]; rfl
              have hx : ∀ h : 0 < v.size, ((v[0]'h).toNat : Int) = (x.toNat : Int) := by
                intro h
                congr 2
                show v.data[0] = x
                have : v.data.toList[0]'(by rw [hv0]; exact Nat.succ_pos _) = x := by simp [hv0]
                simpa using this
              have hne2 : (v.toList = []) = False := by rw [ByteArray.toList_eq, hv0]; simp
              have q3 : (0 < v.size) = True := eq_true (by omega)
              by_cases h10 : x.toNat = 10
              · have hsp : spaceT v.data.toList = [] := by rw [hv0]; simp [spaceT, h10]
                rw [hsp] at HS2 HF2
                rw [h10] at hx
                clear hsp hv0 hsz
                have HW1 := Lib.hid (show (b5 ++ (a ++ [58])).length + 0 + (mv ++ [10]).length ≤ 140737488355328 by have := HF2.out; simp only [List.length_append, List.length_singleton] at this ⊢; omega)
                have w1 := write_text w.heap.size w.heap.size w _ b5 (a ++ [58]) TA.out (by have := HW1.out; rw [List.length_append] at this; omega)
                skip
                go_wp2_with (first | (go_at_call 39; with_reducible refine w1.mono ?_; rintro e w6 ⟨⟨v6, rfl⟩, t6, o6⟩; have T6 := Lib.hid t6; have r6 := kept_row o6 X0.out hgb (by decide); have X6 := Lib.hid r6; have g6 := c1 _ r6; clear t6 o6 r6) | (go_at_call 110; with_reducible refine (hrep _ (HG.out.below T6.out.bel)).mono ?_; rintro e w8 ⟨rfl, hb8⟩; have w9 := write_text w.heap.size w.heap.size w _ _ (mv ++ [10]) (T6.out.below hb8) (by have := HW1.out; simp only [List.length_append, List.length_singleton] at this ⊢; omega); clear hb8) | (go_at_call 39; with_reducible refine w9.mono ?_; rintro e w10 ⟨⟨v10, rfl⟩, t10, o10⟩; have T10 := Lib.hid t10; clear t10 o10))
                go_roundg (st.length - (jj + 1))
                case measure => omega
                case rel => exact ⟨jj + 1, by omega, by omega, by go_num, by rw [HS2.out]; rw [show b5 ++ (a ++ [58] ++ ([] : List UInt8) ++ (mv ++ [10])) = b5 ++ (a ++ [58]) ++ (mv ++ [10]) by simp]; exact T10.out⟩
              · have hsp : spaceT v.data.toList = [32] := by rw [hv0]; simp [spaceT, h10]
                rw [hsp] at HS2 HF2
                have hx10 : ¬ (x.toNat : Int) = 10 := by omega
                generalize (x.toNat : Int) = xi at hx hx10
                have q4 : (xi != 10) = true := bne_iff_ne.2 hx10
                have q5 : v.toList.isEmpty = false := by rw [ByteArray.toList_eq, hv0]; rfl
                clear hsp hv0 hsz h10
                have HW1 := Lib.hid (show (b5 ++ (a ++ [58])).length + 1 + (mv ++ [10]).length ≤ 140737488355328 by have := HF2.out; simp only [List.length_append, List.length_singleton] at this ⊢; omega)
                have w1 := write_text w.heap.size w.heap.size w _ b5 (a ++ [58]) TA.out (by have := HW1.out; rw [List.length_append] at this; omega)
                skip
                go_wp2_with (first | (go_at_call 39; with_reducible refine w1.mono ?_; rintro e w6 ⟨⟨v6, rfl⟩, t6, o6⟩; have T6 := Lib.hid t6; have r6 := kept_row o6 X0.out hgb (by decide); have X6 := Lib.hid r6; have g6 := c1 _ r6; clear t6 o6 r6) | (go_at_call 109; with_reducible refine (write_32 w.heap.size w.heap.size w _ _ T6.out (by have := HW1.out; simp only [List.length_append, List.length_singleton] at this ⊢; omega)).mono ?_; rintro e w7 ⟨rfl, t7, o7⟩; have T7 := Lib.hid t7; have r7 := kept_row o7 X6.out hgb (by decide); have g7 := c1 _ r7; clear t7 o7 r7) | (go_at_call 110; with_reducible refine (hrep _ (HG.out.below T7.out.bel)).mono ?_; rintro e w8 ⟨rfl, hb8⟩; have w9 := write_text w.heap.size w.heap.size w _ _ (mv ++ [10]) (T7.out.below hb8) (by have := HW1.out; simp only [List.length_append, List.length_singleton] at this ⊢; omega); clear hb8) | (go_at_call 39; with_reducible refine w9.mono ?_; rintro e w10 ⟨⟨v10, rfl⟩, t10, o10⟩; have T10 := Lib.hid t10; clear t10 o10))
                go_roundg (st.length - (jj + 1))
                case measure => omega
                case rel => exact ⟨jj + 1, by omega, by omega, by go_num, by rw [HS2.out]; rw [show b5 ++ (a ++ [58] ++ ([32] : List UInt8) ++ (mv ++ [10])) = b5 ++ (a ++ [58]) ++ [32] ++ (mv ++ [10]) by simp]; exact T10.out⟩
          · have hjlz : ¬ (jj : Int) < (st.length : Int) := by omega
            rw [List.take_of_length_le (by omega)] at RT2
            have T9 := Lib.hid (show TextB w.heap.size w.heap.size w wr (textS (l.take (kk + 1))) by rw [HS.out]; exact RT2.out)
            clear RT2
            go_wp2
            go_roundg (l.length - (kk + 1))
            case measure => omega
            case rel => exact ⟨kk + 1, by omega, by omega, by go_num, T9.out⟩
    · have hltz : ¬ (kk : Int) < (l.length : Int) := by omega
      rw [List.take_of_length_le (by omega)] at RT
      have hrt := read_text w.heap.size w.heap.size w wr _ RT.out
      obtain ⟨tt, htt⟩ : ∃ tt, tt = textS l := ⟨_, rfl⟩
      rw [← htt] at hrt
      have HT := Lib.hid htt
      clear htt HL
      go_wp2_with (go_at_call 40; with_reducible refine hrt.mono ?_; rintro e w7 ⟨rfl, hb7⟩)
      go_ret
      exact ⟨by rw [← HT.out]; rfl, hb7⟩

theorem right1_enters : ∀ args w, (callFunc 107 args).run Tryz.prog w = .ok (.enter 107 args) w := enters_of Tryz.func107 (by kernel_rfl) rfl
set_option maxHeartbeats 400000 in
theorem right1_any (A : Option Addr) (c : Nat) (st : List Fd) (W : World) (hr : Kd.C k60 W A st.length st) (hc : st.length ≤ c) (hG : GlobMaxLen W) (hv : ∀ f ∈ st, f.f1.size < 4294967281) : Calls Tryz.prog 107 #[.slice A st.length c] W fun e w' => e = .returned (.bool (!rightS st)) ∧ Below W.heap.size W w' := by
  have hb := right_calls A c st W hr hc hG hv
  generalize rightS st = r at hb ⊢
  clear hr hG hv
  go_enter Tryz.func107, Tryz.ntmps107
  go_wp2_with (go_at_call 108; with_reducible refine hb.mono ?_; rintro e w' ⟨rfl, hb⟩)
  go_ret
  exact ⟨rfl, hb⟩
def rightL (l : List (List Fd)) : Bool := decide (l.length ≤ 200) && !(l.any fun st => !rightS st) && decide ((textS l).length ≤ 60000)
def fitsT (l : List (List Fd)) : Bool := decide ((textS l).length ≤ 140737488355328) && l.all fun st => st.all fun f => decide (f.f1.size < 4294967281)
def stanza_Right.f (l0 : List (List Fd)) : Option Bool := if fitsT l0 = true then some (rightL l0) else none
def stanza_Print.f (l0 : List (List Fd)) : Option ByteArray := if fitsT l0 = true then some (if rightL l0 = true then ⟨(textS l0).toArray⟩ else ⟨#[]⟩) else none
theorem fits_open {l : List (List Fd)} (h : fitsT l = true) : (textS l).length ≤ 140737488355328 ∧ ∀ st ∈ l, ∀ f ∈ st, f.f1.size < 4294967281 := by
  obtain ⟨h1, h2⟩ := Bool.and_eq_true_iff.1 h
  exact ⟨of_decide_eq_true h1, fun st hs f hf => of_decide_eq_true (List.all_eq_true.1 (List.all_eq_true.1 h2 st hs) f hf)⟩
set_option maxHeartbeats 1000000 in
theorem stanza_Right.calls (A0 : Option Addr) (c0 : Nat) (l0 : List (List Fd)) (r : Bool) (w : World) (hr0 : Kd.C (Kd.slice 60 k60) w A0 l0.length l0) (_hc0 : l0.length ≤ c0) (hG : GlobMaxLen w) (h : stanza_Right.f l0 = some r) :
    Calls Tryz.prog 67 #[.slice A0 l0.length c0] w fun e w' => e = .returned (.bool r) ∧ Below w.heap.size w w' := by
  unfold stanza_Right.f at h
  split at h
  case isFalse => cases h
  case isTrue hf =>
  obtain rfl := Option.some.inj h
  obtain ⟨h1, h2⟩ := fits_open hf
  have hcon := con106 (Kd.slice 60 k60) rfl 107 #[] right1_enters A0 c0 l0 (fun st => !rightS st) w hr0 (by
    intro st hst cs W hb hK
    obtain ⟨Ac, cc, rfl, hle, hC⟩ := hK
    exact right1_any Ac cc st W hC hle (hG.below hb) (h2 st hst))
  have htx := fun W (hb : Below w.heap.size w W) => (text_calls A0 c0 l0 W (Kd.C_below hr0 hb) (hG.below hb) h2 h1).mono fun e w' h => (⟨h.1, hb.trans (h.2.mono hb.size)⟩ : e = .returned (.string ⟨(textS l0).toArray⟩) ∧ Below w.heap.size w w')
  unfold rightL
  obtain ⟨tb, htb⟩ : ∃ tb : ByteArray, tb = ⟨(textS l0).toArray⟩ := ⟨_, rfl⟩
  have hsz : (textS l0).length = tb.size := by rw [htb]; rfl
  rw [← htb] at htx
  rw [hsz]
  generalize (l0.any fun st => !rightS st) = b at hcon ⊢
  clear h h1 h2 hf hr0 hG htb hsz
  by_cases q1 : (l0.length : Int) ≤ 200
  · rw [decide_eq_true (show l0.length ≤ 200 by omega), Bool.true_and]
    cases b with
    | true =>
      go_enter Tryz.func67, Tryz.ntmps67
      go_wp2_with (go_at_call 106; with_reducible refine hcon.mono ?_; rintro e w1 ⟨rfl, hb1⟩)
      go_ret
      exact ⟨rfl, hb1⟩
    | false =>
      rw [show (!false && decide (tb.size ≤ 60000)) = decide ((tb.size : Int) ≤ 60000) from by rw [Bool.not_false, Bool.true_and]; exact decide_eq_decide.2 (by omega)]
      go_enter Tryz.func67, Tryz.ntmps67
      go_wp2_with (first | (go_at_call 106; with_reducible refine hcon.mono ?_; rintro e w1 ⟨rfl, hb1⟩) | (go_at_call 68; with_reducible refine (htx _ hb1).mono ?_; rintro e w2 ⟨rfl, hb2⟩))
      go_ret
      exact ⟨rfl, hb2⟩
  · rw [decide_eq_false (show ¬ l0.length ≤ 200 by omega), Bool.false_and, Bool.false_and]
    clear hcon htx
    go_enter Tryz.func67, Tryz.ntmps67
    go_wp2
    go_ret
    exact ⟨rfl, Below.refl _ _⟩
set_option maxHeartbeats 1000000 in
theorem stanza_Print.calls (A0 : Option Addr) (c0 : Nat) (l0 : List (List Fd)) (r : ByteArray) (w : World) (hr0 : Kd.C (Kd.slice 60 k60) w A0 l0.length l0) (hc0 : l0.length ≤ c0) (hG : GlobMaxLen w) (h : stanza_Print.f l0 = some r) :
    Calls Tryz.prog 32 #[.slice A0 l0.length c0] w fun e w' => e = .returned (.string r) ∧ Below w.heap.size w w' := by
  unfold stanza_Print.f at h
  split at h
  case isFalse => cases h
  case isTrue hf =>
  obtain rfl := Option.some.inj h
  obtain ⟨h1, h2⟩ := fits_open hf
  have hR := stanza_Right.calls A0 c0 l0 (rightL l0) w hr0 hc0 hG (by unfold stanza_Right.f; rw [if_pos hf])
  have htx := fun W (hb : Below w.heap.size w W) => (text_calls A0 c0 l0 W (Kd.C_below hr0 hb) (hG.below hb) h2 h1).mono fun e w' h => (⟨h.1, hb.trans (h.2.mono hb.size)⟩ : e = .returned (.string ⟨(textS l0).toArray⟩) ∧ Below w.heap.size w w')
  generalize rightL l0 = b at hR ⊢
  generalize (⟨(textS l0).toArray⟩ : ByteArray) = tb at htx ⊢
  clear h h1 h2 hf hr0 hG hc0
  cases b with
  | true =>
    rw [if_pos rfl]
    go_enter Tryz.func32, Tryz.ntmps32
    go_wp2_with (first | (go_at_call 67; with_reducible refine hR.mono ?_; rintro e w1 ⟨rfl, hb1⟩) | (go_at_call 68; with_reducible refine (htx _ hb1).mono ?_; rintro e w2 ⟨rfl, hb2⟩))
    go_ret
    exact ⟨rfl, hb2⟩
  | false =>
    rw [if_neg (by decide)]
    clear htx
    go_enter Tryz.func32, Tryz.ntmps32
    go_wp2_with (go_at_call 67; with_reducible refine hR.mono ?_; rintro e w1 ⟨rfl, hb1⟩)
    go_ret
    exact ⟨rfl, hb1⟩
end Go.Proofs.YtlcfpmdamehopaaGreatDoor.PA
-- Printed by gprint.py (wip/ of this repo), over the kit's print.
namespace Go.Proofs.YtlcfpmdamehopaaGreatDoor.PA
open Go.RowKit Go.Proofs.YtlcfpmdamehopaaGreatDoorW.PrintWords Go.Proofs.YtlcfpmdamehopaaGreatDoorW.PrintLast Go.Proofs.YtlcfpmdamehopaaGreatDoorW.PrintMore
attribute [local go_sem] max2_int min2_int max_two min_two max_three min_three max_four min_four   -- for this text's walks alone
set_option linter.unusedVariables false
set_option linter.unusedSimpArgs false

/-! ### keelsonref5_text: function 71 -/
mutual
def keelsonref5_text.l0 : Nat → List (List (S60)) → List Int → Int → Option (ByteArray)
  | 0, _, _, _ => none
  | k + 1, x0, x3, x4 => if x4 < (x0.length : Int) then (if x4 > 0 then (if x3.length < 140737488355328 then (keelsonref5_text.j1 k x0 (x3 ++ [10]) x4) else (none)) else (keelsonref5_text.j1 k x0 x3 x4)) else (some (strOfNums x3))
def keelsonref5_text.j1 : Nat → List (List (S60)) → List Int → Int → Option (ByteArray)
  | 0, _, _, _ => none
  | k + 1, x0, x3, x4 => keelsonref5_text.l1 k x0 x3 x4 0
def keelsonref5_text.l1 : Nat → List (List (S60)) → List Int → Int → Int → Option (ByteArray)
  | 0, _, _, _, _ => none
  | k + 1, x0, x3, x4, x5 => if 0 ≤ x4 then (if x4 < (x0.length : Int) then (if x5 < ((rd_L2 x0 x4).length : Int) then (if 0 ≤ x5 then ((keelsonref5_field.f ((rd_T60 (rd_L2 x0 x4) x5).f0) ((rd_T60 (rd_L2 x0 x4) x5).f1)).bind fun t214 => (if x3.length + t214.size < 140737488355328 then (keelsonref5_text.l1 k x0 (x3 ++ bytesOf t214) x4 (wrap64 (x5 + 1))) else (none))) else (none)) else (keelsonref5_text.l0 k x0 x3 (wrap64 (x4 + 1)))) else (none)) else (none)
end
def keelsonref5_text.f (k : Nat) (l0 : List (List (S60))) : Option (ByteArray) := keelsonref5_text.l0 k l0 ([] : List Int) 0
set_option maxHeartbeats 8000000 in
set_option maxRecDepth 100000 in
theorem keelsonref5_text.calls (k : Nat) (A0 : Option Addr) (c0 : Nat) (l0 : List (List (S60))) (r : ByteArray) (w : World) (hr0 : Kd.C (Kd.slice 60 k60) w A0 l0.length l0) (hc0 : l0.length ≤ c0) (h : keelsonref5_text.f k l0 = some r) :
    Calls Tryz.prog 71 #[.slice A0 l0.length c0] w fun e w' => e = .returned (.string r) ∧ Below w.heap.size w w' := by
  have hu60 := Tryz.underlying60
  have HR0 := Aside0.mk hr0
  have HC0 := Aside0.mk hc0
  clear hr0 hc0
  have HB := Aside0.mk (Below.refl w.heap.size w)
  have H : (keelsonref5_text.l0 k l0 ([] : List Int) 0) = some r := h
  clear h
  have H' := Aside0.mk H
  clear H
  go_enter Tryz.func71, Tryz.ntmps71
  go_wp2
  go_loopg [3, 4] k (fun kq v3 v4 w' => ∃ (x3_1 : List Int) (x4_1 : Int), v4 = .int .i64 x4_1 ∧ Aside0 (keelsonref5_text.l0 kq l0 x3_1 x4_1 = some r) ∧ Aside0 (kq ≤ k) ∧ Aside0 (Kd.R (Kd.int .u8) 5 w' w.heap.size (fun _ => True) v3 x3_1) ∧ Aside0 (Below w.heap.size w w'))
  case atStart => exact ⟨(([] : List Int)), (0), (by first | rfl | (simp; done) | (simp [*]; done)), H', ⟨Nat.le_refl _⟩, ⟨by first | exact Kd.R_nil _ _ _ _ _ | exact Kd.N_nil _ _ _ _ _ | exact Kd.V_nil _ _ _ _ _ | exact Kd.Q_nil _ _ _ _ _ | exact Kd.S_nil _ _ _ _ _⟩, ⟨by repeat (first | (with_reducible first | exact HB.out | apply below_alloc | apply pw_below_drewN | apply below_drew1) | exact HB.out)⟩⟩
  case round =>
    clear H'
    obtain ⟨x3_1, x4_1, rfl, HA, HK1, HO_3, HB⟩ := hrel
    cases gk with
    | zero => exact absurd HA.out (by simp [keelsonref5_text.l0])
    | succ k1 =>
      have H := HA.out
      clear HA
      simp only [keelsonref5_text.l0] at H
      by_cases c2 : x4_1 < (l0.length : Int)
      · rw [if_pos c2] at H
        have c2b0 : decide (x4_1 < (l0.length : Int)) = true := decide_eq_true c2
        clear c2
        have HC3 := Aside0.mk H
        clear H
        go_upto_if 13 with (fail)
        go_cut [3] (fun v3 wc => ∃ (kq : Nat) (x3_2 : List Int), Aside0 (keelsonref5_text.j1 kq l0 x3_2 x4_1 = some r) ∧ Aside0 (kq ≤ k1) ∧ Aside0 (Kd.R (Kd.int .u8) 5 wc w.heap.size (fun _ => True) v3 x3_2) ∧ Aside0 (Below w.heap.size w wc))
        case first =>
          have H := HC3.out
          clear HC3
          by_cases c4 : x4_1 > 0
          · rw [if_pos c4] at H
            have c4b0 : decide (0 < x4_1) = true := decide_eq_true c4
            clear c4
            (first | rw [c4b0] | (simp only [i64_w, i32_w]; rw [c4b0]) | rw [c4b1] | skip)
            by_cases c5 : x3_1.length < 140737488355328
            · rw [if_pos c5] at H
              have LMc5 := Aside0.mk c5
              clear c5
              obtain ⟨y208, hy208⟩ : ∃ y_ : List Int, y_ = (x3_1 ++ [10]) := ⟨_, rfl⟩
              replace H : (keelsonref5_text.j1 k1 l0 y208 x4_1) = some r := by first | (rw [hy208]; with_reducible exact H) | (have H2_ := (Option.bind_some _ _).symm.trans H; rw [hy208]; with_reducible exact H2_) | (have H2_ := (Option.bind_some _ _).symm.trans H; with_reducible exact H2_) | with_reducible exact H | (rw [hy208]; exact H) | exact H
              have Ny208 := Aside0.mk hy208
              clear hy208
              have H' := Aside0.mk H
              clear H
              go_wp2_with (first | ((with_reducible refine gate_builtin (b := .append) (xs := #[.tmp 14, .tmp 15]) rfl ?_); at_builtin; refine Kd.R_append (Kd.int .u8) (w0 := w) w.heap.size rfl (.tmp 14) (.tmp 15) 57 5 (.int .u8 0) 1 rfl Tryz.underlying57 info5 rfl (by decide) (by omega) u3 x3_1 10 [.int .u8 10] (fun _ => True) (fun _ => False) rfl rfl ?aP (fun _ hk => hk.elim) ?aF ?aO ?aB ?aS ?aL ?_; (case aP => exact rfl); (case aB => exact (by repeat (first | (with_reducible first | exact HB.out | apply below_alloc | apply pw_below_drewN | apply below_drew1) | exact HB.out))); (case aF => exact (fun _ _ => trivial)); (case aO => exact (by (with_reducible repeat (first | apply Kd.R_alloc | apply Kd.R_drewN | apply Kd.R_drew)); exact HO_3.out)); (case aS => exact (below_size (by repeat (first | (with_reducible first | exact HB.out | apply below_alloc | apply pw_below_drewN | apply below_drew1) | exact HB.out)))); (case aL => have := LMc5.out; omega); intro v209 w6 ho hb hg hat; rw [← Ny208.out] at ho; have n0_ := Aside0.mk (hb); have n1_ := Aside0.mk (ho); clear HB; clear HO_3; have HB := n0_; have HO210 := n1_; clear n0_ n1_; clear ho hb hg hat))
              go_meet
              case rel => exact ⟨_, (y208), H', ⟨by have := HK1.out; first | omega | exact Nat.le_refl _⟩, ⟨by (with_reducible repeat (first | apply Kd.R_alloc | apply Kd.R_drewN | apply Kd.R_drew)); exact HO210.out⟩, ⟨by repeat (first | (with_reducible first | exact HB.out | apply below_alloc | apply pw_below_drewN | apply below_drew1) | exact HB.out)⟩⟩
            · rw [if_neg c5] at H
              exact absurd H (by simp)
          · rw [if_neg c4] at H
            have c4b0 : decide (0 < x4_1) = false := decide_eq_false c4
            clear c4
            (first | rw [c4b0] | (simp only [i64_w, i32_w]; rw [c4b0]) | rw [c4b1] | skip)
            have H' := Aside0.mk H
            clear H
            go_wp2
            go_meet
            case rel => exact ⟨_, (x3_1), H', ⟨by have := HK1.out; first | omega | exact Nat.le_refl _⟩, ⟨by (with_reducible repeat (first | apply Kd.R_alloc | apply Kd.R_drewN | apply Kd.R_drew)); exact HO_3.out⟩, ⟨by repeat (first | (with_reducible first | exact HB.out | apply below_alloc | apply pw_below_drewN | apply below_drew1) | exact HB.out)⟩⟩
        case rest =>
          clear HC3
          try clear c2
          try clear c2b0
          try clear p2
          try clear c4
          try clear c4b0
          try clear c4b1
          try clear c5
          obtain ⟨kq, x3_2, HA, HJ2, HO_3, HB⟩ := hcut
          cases kq with
          | zero => exact absurd HA.out (by simp [keelsonref5_text.j1])
          | succ kj2 =>
            have H := HA.out
            clear HA
            simp only [keelsonref5_text.j1] at H
            have H' := Aside0.mk H
            clear H
            go_wp2
            go_loopg [3, 5] kj2 (fun kq v3 v5 w' => ∃ (x3_3 : List Int) (x5_3 : Int), v5 = .int .i64 x5_3 ∧ Aside0 (keelsonref5_text.l1 kq l0 x3_3 x4_1 x5_3 = some r) ∧ Aside0 (kq ≤ kj2) ∧ Aside0 (Kd.R (Kd.int .u8) 5 w' w.heap.size (fun _ => True) v3 x3_3) ∧ Aside0 (Below w.heap.size w w'))
            case atStart => exact ⟨(x3_2), (0), (by first | rfl | (simp; done) | (simp [*]; done)), H', ⟨Nat.le_refl _⟩, ⟨by (with_reducible repeat (first | apply Kd.R_alloc | apply Kd.R_drewN | apply Kd.R_drew)); exact HO_3.out⟩, ⟨by repeat (first | (with_reducible first | exact HB.out | apply below_alloc | apply pw_below_drewN | apply below_drew1) | exact HB.out)⟩⟩
            case round =>
              clear H'
              try clear c2
              try clear c2b0
              try clear p2
              try clear c4
              try clear c4b0
              try clear c4b1
              try clear c5
              try clear p2
              obtain ⟨x3_3, x5_3, rfl, HA, HK3, HO_3, HB⟩ := hrel
              cases gk with
              | zero => exact absurd HA.out (by simp [keelsonref5_text.l1])
              | succ k3 =>
                have H := HA.out
                clear HA
                simp only [keelsonref5_text.l1] at H
                by_cases c7 : 0 ≤ x4_1
                · rw [if_pos c7] at H
                  have c7b0 : decide (0 ≤ x4_1) = true := decide_eq_true c7
                  clear c7
                  by_cases c8 : x4_1 < (l0.length : Int)
                  · rw [if_pos c8] at H
                    have c8b0 : decide (x4_1 < (l0.length : Int)) = true := decide_eq_true c8
                    clear c8
                    by_cases c9 : x5_3 < ((rd_L2 l0 x4_1).length : Int)
                    · rw [if_pos c9] at H
                      have c9b0 : decide (x5_3 < ((rd_L2 l0 x4_1).length : Int)) = true := decide_eq_true c9
                      clear c9
                      by_cases c10 : 0 ≤ x5_3
                      · rw [if_pos c10] at H
                        have c10b0 : decide (0 ≤ x5_3) = true := decide_eq_true c10
                        clear c10
                        replace H := Option.bind_eq_some_iff.mp H
                        obtain ⟨t214, A110, H⟩ := H
                        replace H : (if x3_3.length + t214.size < 140737488355328 then (keelsonref5_text.l1 k3 l0 (x3_3 ++ bytesOf t214) x4_1 (wrap64 (x5_3 + 1))) else (none)) = some r := H
                        have A11 := Aside0.mk A110
                        clear A110
                        by_cases c12 : x3_3.length + t214.size < 140737488355328
                        · rw [if_pos c12] at H
                          have LMc12 := Aside0.mk c12
                          clear c12
                          obtain ⟨y215, hy215⟩ : ∃ y_ : List Int, y_ = (x3_3 ++ bytesOf t214) := ⟨_, rfl⟩
                          replace H : (keelsonref5_text.l1 k3 l0 y215 x4_1 (wrap64 (x5_3 + 1))) = some r := by first | (rw [hy215]; with_reducible exact H) | (have H2_ := (Option.bind_some _ _).symm.trans H; rw [hy215]; with_reducible exact H2_) | (have H2_ := (Option.bind_some _ _).symm.trans H; with_reducible exact H2_) | with_reducible exact H | (rw [hy215]; exact H) | exact H
                          have Ny215 := Aside0.mk hy215
                          clear hy215
                          have H' := Aside0.mk H
                          clear H
                          have p211 : 0 ≤ (x4_1 : Int) := of_decide_eq_true (by first | (with_reducible assumption) | assumption)
                          have q211 : x4_1 < (l0.length : Int) := of_decide_eq_true (by first | (with_reducible assumption) | assumption)
                          obtain ⟨ad211, A211_0, c211_0, e211, hx211_0, hl211_0, hi211_0⟩ := at_L2 HR0.out x4_1 p211 q211
                          cases e211
                          replace hx211_0 := (HB.out.cell (World.block_lt_of_cell? w _ hx211_0)).trans hx211_0
                          have HR211_0 := Aside0.mk hi211_0
                          have HC211_0 := Aside0.mk hl211_0
                          clear hi211_0 hl211_0
                          replace p211 := eq_true p211
                          replace q211 := eq_true q211
                          have p212 : 0 ≤ (x4_1 : Int) := of_decide_eq_true (by first | (with_reducible assumption) | assumption)
                          have q212 : x4_1 < (l0.length : Int) := of_decide_eq_true (by first | (with_reducible assumption) | assumption)
                          obtain ⟨ad212, A212_0, c212_0, e212, hx212_0, hl212_0, hi212_0⟩ := at_L2 HR0.out x4_1 p212 q212
                          obtain rfl : ad211 = ad212 := (by injection e212)
                          replace hx212_0 := (HB.out.cell (World.block_lt_of_cell? w _ hx212_0)).trans hx212_0
                          have HR212_0 := Aside0.mk hi212_0
                          have HC212_0 := Aside0.mk hl212_0
                          clear hi212_0 hl212_0
                          replace p212 := eq_true p212
                          replace q212 := eq_true q212
                          have ea_ := Option.some.inj (hx211_0.symm.trans hx212_0)
                          injection ea_ with ea_ en_ ec_
                          subst ea_
                          subst ec_
                          clear en_
                          have p213 : 0 ≤ (x5_3 : Int) := of_decide_eq_true (by first | (with_reducible assumption) | assumption)
                          have q213 : x5_3 < ((rd_L2 l0 x4_1).length : Int) := of_decide_eq_true (by first | (with_reducible assumption) | assumption)
                          obtain ⟨ad213, e213, hx213_0, hx213_1⟩ := at_T60 HR212_0.out x5_3 p213 q213
                          cases e213
                          replace hx213_0 := (HB.out.cell (World.block_lt_of_cell? w _ hx213_0)).trans hx213_0
                          replace hx213_1 := (HB.out.cell (World.block_lt_of_cell? w _ hx213_1)).trans hx213_1
                          replace p213 := eq_true p213
                          replace q213 := eq_true q213
                          go_wp2_with (first | ((with_reducible refine gate_callee (f := 112) rfl ?_); refine goesL_ (some 34) rfl rfl Tryz.func112 (by kernel_rfl) rfl #[.agg #[.string ((rd_T60 (rd_L2 l0 x4_1) x5_3).f0), .string ((rd_T60 (rd_L2 l0 x4_1) x5_3).f1)]] rfl (by (try simp only [List.map_toArray, List.map_cons, List.map_nil]); first | done | rfl | (simp only [List.length_drop, List.length_take]; rfl)) ?_; (with_reducible refine (keelsonref5_field.calls ((rd_T60 (rd_L2 l0 x4_1) x5_3).f0) ((rd_T60 (rd_L2 l0 x4_1) x5_3).f1) t214 _ A11.out).mono ?_); rintro e w13 ⟨rfl, hb⟩; refine ⟨_, rfl, ?_⟩; have n0_ := Aside0.mk (Kd.R_below (by (with_reducible repeat (first | apply Kd.R_alloc | apply Kd.R_drewN | apply Kd.R_drew)); exact HO_3.out) hb); have n1_ := Aside0.mk (below_step (by repeat (first | (with_reducible first | exact HB.out | apply below_alloc | apply pw_below_drewN | apply below_drew1) | exact HB.out)) hb); clear HO_3; clear HB; have HO_3 := n0_; have HB := n1_; clear n0_ n1_; (try clear hb); (try clear hb2); (try clear hk); (try clear hi)) | (at_builtin; refine print_append_str (w0 := w) w.heap.size rfl (.tmp 26) _ 57 9 5 rfl Tryz.underlying57 Tryz.underlying9 info5 u3 x3_3 t214 rfl rfl ?aO ?aB ?aS ?aL ?_; (case aB => exact (by repeat (first | (with_reducible first | exact HB.out | apply below_alloc | apply pw_below_drewN | apply below_drew1) | exact HB.out))); (case aO => exact (Kd.own_of_R (by (with_reducible repeat (first | apply Kd.R_alloc | apply Kd.R_drewN | apply Kd.R_drew)); exact HO_3.out))); (case aS => exact (below_size (by repeat (first | (with_reducible first | exact HB.out | apply below_alloc | apply pw_below_drewN | apply below_drew1) | exact HB.out)))); (case aL => have := LMc12.out; omega); intro v216 w14 ho0 hb hg; have ho := Kd.R_of_own (h1 := fun _ => rfl) (ok := fun _ => True) ho0 (fun _ _ => trivial); clear ho0; have hat := True.intro; rw [← Ny215.out] at ho; change Kd.R (Kd.int .u8) 5 w14 w.heap.size (fun _ => True) v216 y215 at ho; have n0_ := Aside0.mk (hb); have n1_ := Aside0.mk (ho); clear HB; clear HO_3; have HB := n0_; have HO217 := n1_; clear n0_ n1_; clear ho hb hg hat))
                          go_roundg k3
                          case measure => have := HK1.out; have := HJ2.out; have := HK3.out; omega
                          case rel => exact ⟨(y215), (wrap64 (x5_3 + 1)), (by first | rfl | (simp; done) | (simp [*]; done)), H', ⟨by have := HK1.out; have := HJ2.out; have := HK3.out; omega⟩, ⟨by (with_reducible repeat (first | apply Kd.R_alloc | apply Kd.R_drewN | apply Kd.R_drew)); exact HO217.out⟩, ⟨by repeat (first | (with_reducible first | exact HB.out | apply below_alloc | apply pw_below_drewN | apply below_drew1) | exact HB.out)⟩⟩
                        · rw [if_neg c12] at H
                          exact absurd H (by simp)
                      · rw [if_neg c10] at H
                        exact absurd H (by simp)
                    · rw [if_neg c9] at H
                      have c9b0 : decide (x5_3 < ((rd_L2 l0 x4_1).length : Int)) = false := decide_eq_false c9
                      clear c9
                      have H' := Aside0.mk H
                      clear H
                      have p211 : 0 ≤ (x4_1 : Int) := of_decide_eq_true (by first | (with_reducible assumption) | assumption)
                      have q211 : x4_1 < (l0.length : Int) := of_decide_eq_true (by first | (with_reducible assumption) | assumption)
                      obtain ⟨ad211, A211_0, c211_0, e211, hx211_0, hl211_0, hi211_0⟩ := at_L2 HR0.out x4_1 p211 q211
                      cases e211
                      replace hx211_0 := (HB.out.cell (World.block_lt_of_cell? w _ hx211_0)).trans hx211_0
                      have HR211_0 := Aside0.mk hi211_0
                      have HC211_0 := Aside0.mk hl211_0
                      clear hi211_0 hl211_0
                      replace p211 := eq_true p211
                      replace q211 := eq_true q211
                      go_wp2
                      go_roundg k3
                      case measure => have := HK1.out; have := HJ2.out; have := HK3.out; omega
                      case rel => exact ⟨(x3_3), (wrap64 (x4_1 + 1)), (by first | rfl | (simp; done) | (simp [*]; done)), H', ⟨by have := HK1.out; have := HJ2.out; have := HK3.out; omega⟩, ⟨by (with_reducible repeat (first | apply Kd.R_alloc | apply Kd.R_drewN | apply Kd.R_drew)); exact HO_3.out⟩, ⟨by repeat (first | (with_reducible first | exact HB.out | apply below_alloc | apply pw_below_drewN | apply below_drew1) | exact HB.out)⟩⟩
                  · rw [if_neg c8] at H
                    exact absurd H (by simp)
                · rw [if_neg c7] at H
                  exact absurd H (by simp)
      · rw [if_neg c2] at H
        have c2b0 : decide (x4_1 < (l0.length : Int)) = false := decide_eq_false c2
        clear c2
        obtain rfl := Option.some.inj H
        have hcv15 := own_string (P := Tryz.prog) Tryz.underlying57 Tryz.underlying5 Tryz.underlying9 (Kd.own_of_R HO_3.out)
        go_wp2
        go_ret
        exact ⟨by first | rfl | (simp [errW_none, errW_some] <;> rfl) | (simp [*, errW_none, errW_some] <;> rfl), by repeat (first | (with_reducible first | exact HB.out | apply below_alloc | apply pw_below_drewN | apply below_drew1) | exact HB.out)⟩

/-! ### keelsonref5_Right: function 70 -/
def keelsonref5_Right.l0 : Nat → List (List (S60)) → Int → Option (Bool)
  | 0, _, _ => none
  | k + 1, x0, x3 => if x3 < (x0.length : Int) then (if 0 ≤ x3 then ((keelsonref5_stanza.f k (rd_L2 x0 x3)).bind fun t233 => (if t233 = true then (keelsonref5_Right.l0 k x0 (wrap64 (x3 + 1))) else (some false))) else (none)) else (if (x0.length : Int) ≤ 200 then ((keelsonref5_text.f k x0).bind fun t234 => (some (decide ((t234.size : Int) ≤ 60000)))) else (some false))
def keelsonref5_Right.f (k : Nat) (l0 : List (List (S60))) : Option (Bool) := keelsonref5_Right.l0 k l0 0
set_option maxHeartbeats 8000000 in
set_option maxRecDepth 100000 in
theorem keelsonref5_Right.calls (k : Nat) (A0 : Option Addr) (c0 : Nat) (l0 : List (List (S60))) (r : Bool) (w : World) (hr0 : Kd.C (Kd.slice 60 k60) w A0 l0.length l0) (hc0 : l0.length ≤ c0) (h : keelsonref5_Right.f k l0 = some r) :
    Calls Tryz.prog 70 #[.slice A0 l0.length c0] w fun e w' => e = .returned (.bool r) ∧ Below w.heap.size w w' := by
  have HR0 := Aside0.mk hr0
  have HC0 := Aside0.mk hc0
  clear hr0 hc0
  have HB := Aside0.mk (Below.refl w.heap.size w)
  have H : (keelsonref5_Right.l0 k l0 0) = some r := h
  clear h
  have H' := Aside0.mk H
  clear H
  go_enter Tryz.func70, Tryz.ntmps70
  go_wp2
  go_loopg [3] k (fun kq v3 w' => ∃ (x3_1 : Int), v3 = .int .i64 x3_1 ∧ Aside0 (keelsonref5_Right.l0 kq l0 x3_1 = some r) ∧ Aside0 (kq ≤ k) ∧ Aside0 (Below w.heap.size w w'))
  case atStart => exact ⟨(0), (by first | rfl | (simp; done) | (simp [*]; done)), H', ⟨Nat.le_refl _⟩, ⟨by repeat (first | (with_reducible first | exact HB.out | apply below_alloc | apply pw_below_drewN | apply below_drew1) | exact HB.out)⟩⟩
  case round =>
    clear H'
    obtain ⟨x3_1, rfl, HA, HK1, HB⟩ := hrel
    cases gk with
    | zero => exact absurd HA.out (by simp [keelsonref5_Right.l0])
    | succ k1 =>
      have H := HA.out
      clear HA
      simp only [keelsonref5_Right.l0] at H
      by_cases c2 : x3_1 < (l0.length : Int)
      · rw [if_pos c2] at H
        have c2b0 : decide (x3_1 < (l0.length : Int)) = true := decide_eq_true c2
        clear c2
        by_cases c3 : 0 ≤ x3_1
        · rw [if_pos c3] at H
          have c3b0 : decide (0 ≤ x3_1) = true := decide_eq_true c3
          clear c3
          replace H := Option.bind_eq_some_iff.mp H
          obtain ⟨t233, A40, H⟩ := H
          replace H : (if t233 = true then (keelsonref5_Right.l0 k1 l0 (wrap64 (x3_1 + 1))) else (some false)) = some r := H
          have A4 := Aside0.mk A40
          clear A40
          by_cases c5 : t233 = true
          · subst c5
            have H1 : (keelsonref5_Right.l0 k1 l0 (wrap64 (x3_1 + 1))) = some r := by rw [if_pos rfl] at H; exact H
            clear H
            have H := H1
            clear H1
            have H' := Aside0.mk H
            clear H
            have p232 : 0 ≤ (x3_1 : Int) := of_decide_eq_true (by first | (with_reducible assumption) | assumption)
            have q232 : x3_1 < (l0.length : Int) := of_decide_eq_true (by first | (with_reducible assumption) | assumption)
            obtain ⟨ad232, A232_0, c232_0, e232, hx232_0, hl232_0, hi232_0⟩ := at_L2 HR0.out x3_1 p232 q232
            cases e232
            replace hx232_0 := (HB.out.cell (World.block_lt_of_cell? w _ hx232_0)).trans hx232_0
            have HR232_0 := Aside0.mk hi232_0
            have HC232_0 := Aside0.mk hl232_0
            clear hi232_0 hl232_0
            replace p232 := eq_true p232
            replace q232 := eq_true q232
            go_wp2_with (first | ((with_reducible refine gate_callee (f := 111) rfl ?_); refine goesL_ (some 15) rfl rfl Tryz.func111 (by kernel_rfl) rfl #[.slice A232_0 (rd_L2 l0 x3_1).length c232_0] rfl (by (try simp only [List.map_toArray, List.map_cons, List.map_nil]); first | done | rfl | (simp only [List.length_drop, List.length_take]; rfl)) ?_; (with_reducible refine (keelsonref5_stanza.calls k1 _ _ (rd_L2 l0 x3_1) true _ ?side1 ?side2 A4.out).mono ?_); (case side1 => repeat (first | exact (Kd.C_below HR232_0.out HB.out) | (with_reducible refine Kd.C_alloc ?_ _) | (with_reducible refine Kd.C_drewN ?_ _) | (with_reducible refine Kd.C_drew ?_))); (case side2 => exact HC232_0.out); rintro e w6 ⟨rfl, hb⟩; refine ⟨_, rfl, ?_⟩; have n0_ := Aside0.mk (below_step (by repeat (first | (with_reducible first | exact HB.out | apply below_alloc | apply pw_below_drewN | apply below_drew1) | exact HB.out)) hb); clear HB; have HB := n0_; clear n0_; (try clear hb); (try clear hb2); (try clear hk); (try clear hi)))
            go_roundg k1
            case measure => have := HK1.out; omega
            case rel => exact ⟨(wrap64 (x3_1 + 1)), (by first | rfl | (simp; done) | (simp [*]; done)), H', ⟨by have := HK1.out; omega⟩, ⟨by repeat (first | (with_reducible first | exact HB.out | apply below_alloc | apply pw_below_drewN | apply below_drew1) | exact HB.out)⟩⟩
          · replace c5 := Bool.eq_false_iff.mpr c5
            subst c5
            have H1 : (some false) = some r := by rw [if_neg (show ¬ (false = true) by decide)] at H; exact H
            clear H
            have H := H1
            clear H1
            obtain rfl := Option.some.inj H
            have p232 : 0 ≤ (x3_1 : Int) := of_decide_eq_true (by first | (with_reducible assumption) | assumption)
            have q232 : x3_1 < (l0.length : Int) := of_decide_eq_true (by first | (with_reducible assumption) | assumption)
            obtain ⟨ad232, A232_0, c232_0, e232, hx232_0, hl232_0, hi232_0⟩ := at_L2 HR0.out x3_1 p232 q232
            cases e232
            replace hx232_0 := (HB.out.cell (World.block_lt_of_cell? w _ hx232_0)).trans hx232_0
            have HR232_0 := Aside0.mk hi232_0
            have HC232_0 := Aside0.mk hl232_0
            clear hi232_0 hl232_0
            replace p232 := eq_true p232
            replace q232 := eq_true q232
            go_wp2_with (first | ((with_reducible refine gate_callee (f := 111) rfl ?_); refine goesL_ (some 15) rfl rfl Tryz.func111 (by kernel_rfl) rfl #[.slice A232_0 (rd_L2 l0 x3_1).length c232_0] rfl (by (try simp only [List.map_toArray, List.map_cons, List.map_nil]); first | done | rfl | (simp only [List.length_drop, List.length_take]; rfl)) ?_; (with_reducible refine (keelsonref5_stanza.calls k1 _ _ (rd_L2 l0 x3_1) false _ ?side1 ?side2 A4.out).mono ?_); (case side1 => repeat (first | exact (Kd.C_below HR232_0.out HB.out) | (with_reducible refine Kd.C_alloc ?_ _) | (with_reducible refine Kd.C_drewN ?_ _) | (with_reducible refine Kd.C_drew ?_))); (case side2 => exact HC232_0.out); rintro e w7 ⟨rfl, hb⟩; refine ⟨_, rfl, ?_⟩; have n0_ := Aside0.mk (below_step (by repeat (first | (with_reducible first | exact HB.out | apply below_alloc | apply pw_below_drewN | apply below_drew1) | exact HB.out)) hb); clear HB; have HB := n0_; clear n0_; (try clear hb); (try clear hb2); (try clear hk); (try clear hi)))
            go_ret
            exact ⟨by first | rfl | (simp [errW_none, errW_some] <;> rfl) | (simp [*, errW_none, errW_some] <;> rfl), by repeat (first | (with_reducible first | exact HB.out | apply below_alloc | apply pw_below_drewN | apply below_drew1) | exact HB.out)⟩
        · rw [if_neg c3] at H
          exact absurd H (by simp)
      · rw [if_neg c2] at H
        have c2b0 : decide (x3_1 < (l0.length : Int)) = false := decide_eq_false c2
        clear c2
        by_cases c8 : (l0.length : Int) ≤ 200
        · rw [if_pos c8] at H
          have c8b0 : decide ((l0.length : Int) ≤ 200) = true := decide_eq_true c8
          have c8b1 : decide (l0.length ≤ 200) = true := decide_eq_true (by omega)
          clear c8
          replace H := Option.bind_eq_some_iff.mp H
          obtain ⟨t234, A90, H⟩ := H
          replace H : (some (decide ((t234.size : Int) ≤ 60000))) = some r := H
          have A9 := Aside0.mk A90
          clear A90
          obtain rfl := Option.some.inj H
          go_wp2_with (first | (go_at_call 71; (with_reducible refine (keelsonref5_text.calls k1 _ _ l0 t234 _ ?side1 ?side2 A9.out).mono ?_); (case side1 => repeat (first | exact (Kd.C_below HR0.out HB.out) | (with_reducible refine Kd.C_alloc ?_ _) | (with_reducible refine Kd.C_drewN ?_ _) | (with_reducible refine Kd.C_drew ?_))); (case side2 => exact HC0.out); rintro e w10 ⟨rfl, hb⟩; have n0_ := Aside0.mk (below_step (by repeat (first | (with_reducible first | exact HB.out | apply below_alloc | apply pw_below_drewN | apply below_drew1) | exact HB.out)) hb); clear HB; have HB := n0_; clear n0_; (try clear hb); (try clear hb2); (try clear hk); (try clear hi)))
          go_ret
          exact ⟨by first | rfl | (simp [errW_none, errW_some] <;> rfl) | (simp [*, errW_none, errW_some] <;> rfl), by repeat (first | (with_reducible first | exact HB.out | apply below_alloc | apply pw_below_drewN | apply below_drew1) | exact HB.out)⟩
        · rw [if_neg c8] at H
          have c8b0 : decide ((l0.length : Int) ≤ 200) = false := decide_eq_false c8
          have c8b1 : decide (l0.length ≤ 200) = false := decide_eq_false (by omega)
          clear c8
          obtain rfl := Option.some.inj H
          go_wp2
          go_ret
          exact ⟨by first | rfl | (simp [errW_none, errW_some] <;> rfl) | (simp [*, errW_none, errW_some] <;> rfl), by repeat (first | (with_reducible first | exact HB.out | apply below_alloc | apply pw_below_drewN | apply below_drew1) | exact HB.out)⟩

/-! ### keelsonref5_Print: function 34 -/
def keelsonref5_Print.f (k : Nat) (l0 : List (List (S60))) : Option (ByteArray) := (keelsonref5_Right.f k l0).bind fun t235 => (if t235 = true then ((keelsonref5_text.f k l0).bind fun t236 => (some t236)) else (some (⟨#[]⟩ : ByteArray)))
set_option maxHeartbeats 8000000 in
set_option maxRecDepth 100000 in
theorem keelsonref5_Print.calls (k : Nat) (A0 : Option Addr) (c0 : Nat) (l0 : List (List (S60))) (r : ByteArray) (w : World) (hr0 : Kd.C (Kd.slice 60 k60) w A0 l0.length l0) (hc0 : l0.length ≤ c0) (h : keelsonref5_Print.f k l0 = some r) :
    Calls Tryz.prog 34 #[.slice A0 l0.length c0] w fun e w' => e = .returned (.string r) ∧ Below w.heap.size w w' := by
  have HR0 := Aside0.mk hr0
  have HC0 := Aside0.mk hc0
  clear hr0 hc0
  have HB := Aside0.mk (Below.refl w.heap.size w)
  have H : ((keelsonref5_Right.f k l0).bind fun t235 => (if t235 = true then ((keelsonref5_text.f k l0).bind fun t236 => (some t236)) else (some (⟨#[]⟩ : ByteArray)))) = some r := h
  clear h
  replace H := Option.bind_eq_some_iff.mp H
  obtain ⟨t235, A20, H⟩ := H
  replace H : (if t235 = true then ((keelsonref5_text.f k l0).bind fun t236 => (some t236)) else (some (⟨#[]⟩ : ByteArray))) = some r := H
  have A2 := Aside0.mk A20
  clear A20
  by_cases c3 : t235 = true
  · subst c3
    have H1 : ((keelsonref5_text.f k l0).bind fun t236 => (some t236)) = some r := by rw [if_pos rfl] at H; exact H
    clear H
    have H := H1
    clear H1
    replace H := Option.bind_eq_some_iff.mp H
    obtain ⟨t236, A40, H⟩ := H
    replace H : (some t236) = some r := H
    have A4 := Aside0.mk A40
    clear A40
    obtain rfl := Option.some.inj H
    go_enter Tryz.func34, Tryz.ntmps34
    go_wp2_with (first | ((with_reducible refine gate_callee (f := 70) rfl ?_); refine goesL_ (some 5) rfl rfl Tryz.func70 (by kernel_rfl) rfl #[.slice A0 l0.length c0] rfl (by (try simp only [List.map_toArray, List.map_cons, List.map_nil]); first | done | rfl | (simp only [List.length_drop, List.length_take]; rfl)) ?_; (with_reducible refine (keelsonref5_Right.calls k _ _ l0 true _ ?side1 ?side2 A2.out).mono ?_); (case side1 => repeat (first | exact HR0.out | (with_reducible refine Kd.C_alloc ?_ _) | (with_reducible refine Kd.C_drewN ?_ _) | (with_reducible refine Kd.C_drew ?_))); (case side2 => exact HC0.out); rintro e w5 ⟨rfl, hb⟩; refine ⟨_, rfl, ?_⟩; have n0_ := Aside0.mk (below_step (by repeat (first | (with_reducible first | exact HB.out | apply below_alloc | apply pw_below_drewN | apply below_drew1) | exact HB.out)) hb); clear HB; have HB := n0_; clear n0_; (try clear hb); (try clear hb2); (try clear hk); (try clear hi)) | ((with_reducible refine gate_callee (f := 71) rfl ?_); refine goesL_ (some 9) rfl rfl Tryz.func71 (by kernel_rfl) rfl #[.slice A0 l0.length c0] rfl (by (try simp only [List.map_toArray, List.map_cons, List.map_nil]); first | done | rfl | (simp only [List.length_drop, List.length_take]; rfl)) ?_; (with_reducible refine (keelsonref5_text.calls k _ _ l0 t236 _ ?side1 ?side2 A4.out).mono ?_); (case side1 => repeat (first | exact (Kd.C_below HR0.out HB.out) | (with_reducible refine Kd.C_alloc ?_ _) | (with_reducible refine Kd.C_drewN ?_ _) | (with_reducible refine Kd.C_drew ?_))); (case side2 => exact HC0.out); rintro e w6 ⟨rfl, hb⟩; refine ⟨_, rfl, ?_⟩; have n0_ := Aside0.mk (below_step (by repeat (first | (with_reducible first | exact HB.out | apply below_alloc | apply pw_below_drewN | apply below_drew1) | exact HB.out)) hb); clear HB; have HB := n0_; clear n0_; (try clear hb); (try clear hb2); (try clear hk); (try clear hi)))
    go_ret
    exact ⟨by first | rfl | (simp [errW_none, errW_some] <;> rfl) | (simp [*, errW_none, errW_some] <;> rfl), by repeat (first | (with_reducible first | exact HB.out | apply below_alloc | apply pw_below_drewN | apply below_drew1) | exact HB.out)⟩
  · replace c3 := Bool.eq_false_iff.mpr c3
    subst c3
    have H1 : (some (⟨#[]⟩ : ByteArray)) = some r := by rw [if_neg (show ¬ (false = true) by decide)] at H; exact H
    clear H
    have H := H1
    clear H1
    obtain rfl := Option.some.inj H
    go_enter Tryz.func34, Tryz.ntmps34
    go_wp2_with (first | ((with_reducible refine gate_callee (f := 70) rfl ?_); refine goesL_ (some 5) rfl rfl Tryz.func70 (by kernel_rfl) rfl #[.slice A0 l0.length c0] rfl (by (try simp only [List.map_toArray, List.map_cons, List.map_nil]); first | done | rfl | (simp only [List.length_drop, List.length_take]; rfl)) ?_; (with_reducible refine (keelsonref5_Right.calls k _ _ l0 false _ ?side1 ?side2 A2.out).mono ?_); (case side1 => repeat (first | exact HR0.out | (with_reducible refine Kd.C_alloc ?_ _) | (with_reducible refine Kd.C_drewN ?_ _) | (with_reducible refine Kd.C_drew ?_))); (case side2 => exact HC0.out); rintro e w7 ⟨rfl, hb⟩; refine ⟨_, rfl, ?_⟩; have n0_ := Aside0.mk (below_step (by repeat (first | (with_reducible first | exact HB.out | apply below_alloc | apply pw_below_drewN | apply below_drew1) | exact HB.out)) hb); clear HB; have HB := n0_; clear n0_; (try clear hb); (try clear hb2); (try clear hk); (try clear hi)))
    go_ret
    exact ⟨by first | rfl | (simp [errW_none, errW_some] <;> rfl) | (simp [*, errW_none, errW_some] <;> rfl), by repeat (first | (with_reducible first | exact HB.out | apply below_alloc | apply pw_below_drewN | apply below_drew1) | exact HB.out)⟩

end Go.Proofs.YtlcfpmdamehopaaGreatDoor.PA
-- Printed by gprint.py (wip/ of this repo), over the kit's print.
namespace Go.Proofs.YtlcfpmdamehopaaGreatDoor.PA
open Go.RowKit Go.Proofs.YtlcfpmdamehopaaGreatDoorW.PrintWords Go.Proofs.YtlcfpmdamehopaaGreatDoorW.PrintLast Go.Proofs.YtlcfpmdamehopaaGreatDoorW.PrintMore
attribute [local go_sem] max2_int min2_int max_two min_two max_three min_three max_four min_four   -- for this text's walks alone
set_option linter.unusedVariables false
set_option linter.unusedSimpArgs false

/-! ### keelsonref8_Parse: function 9 -/
/-! ### keelsonref8_Print: function 15 -/
def keelsonref8_Print.l0 : Nat → List (S30) → List (List (S60)) → Int → Option (ByteArray)
  | 0, _, _, _ => none
  | k + 1, x0, x3, x4 => if x4 < (x0.length : Int) then (if 0 ≤ x4 then ((keelsonref8_Right.f k ((rd_T30 x0 x4).f0) ((rd_T30 x0 x4).f1) ((rd_T30 x0 x4).f2)).bind fun t239 => (if t239 = true then (if 8 + ((rd_T30 x0 x4).f1).size ≤ 9223372036854775807 then (if ((⟨#[118, 101, 114, 115, 105, 111, 110, 32]⟩ : ByteArray) ++ ((rd_T30 x0 x4).f1)).size + 1 ≤ 9223372036854775807 then ((keelsonref8_decimal.f k ((rd_T30 x0 x4).f2)).bind fun t243 => (if x3.length < 5864062014805 then (keelsonref8_Print.l0 k x0 (x3 ++ [(([(⟨(⟨#[80, 97, 99, 107, 97, 103, 101]⟩ : ByteArray), (rd_T30 x0 x4).f0⟩ : S60), (⟨(⟨#[80, 105, 110]⟩ : ByteArray), ((⟨#[118, 101, 114, 115, 105, 111, 110, 32]⟩ : ByteArray) ++ ((rd_T30 x0 x4).f1)) ++ (⟨#[42]⟩ : ByteArray)⟩ : S60), (⟨(⟨#[80, 105, 110, 45, 80, 114, 105, 111, 114, 105, 116, 121]⟩ : ByteArray), t243⟩ : S60)] : List (S60)))]) (wrap64 (x4 + 1))) else (none))) else (none)) else (none)) else (some (⟨#[]⟩ : ByteArray)))) else (none)) else (if (x0.length : Int) > 64 then (some (⟨#[]⟩ : ByteArray)) else ((keelsonref5_Print.f k x3).bind fun t237 => (some t237)))
def keelsonref8_Print.f (k : Nat) (l0 : List (S30)) : Option (ByteArray) := keelsonref8_Print.l0 k l0 ([] : List (List (S60))) 0
def keelsonref8_Print.T8 : Bool × List (List Nat × List Nat) := (true, [([], []), ([], []), ([], []), ([1, 2], [1, 2]), ([3], [3]), ([4], [4]), ([5], [5]), ([], []), ([], []), ([7, 8], [7, 8]), ([9], [9]), ([10], [10]), ([11], [11]), ([12], [12]), ([13], [13]), ([], []), ([], []), ([15, 16], [15, 16]), ([17], [17]), ([18], [18]), ([19], [19]), ([20], [20]), ([6, 14, 21], [6, 14, 21]), ([22], [22]), ([0, 23, 20], [0, 23]), ([24, 24, 0, 1, 2, 3, 4, 5, 6, 7, 8, 9, 10, 11, 12, 13, 14, 15, 16, 17, 18, 19, 20, 21, 22, 23, 24], [0, 24])])
def keelsonref8_Print.B8 : List Nat := [0, 0, 0, 6, 14, 30, 62, 0, 0, 384, 896, 1920, 3968, 8064, 16256, 0, 0, 98304, 229376, 491520, 1015808, 2064384, 4194302, 8388606, 16777215, 33554431]
theorem keelsonref8_Print.tab8 : rtab .any (opsOf Tryz.f15 8) = keelsonref8_Print.T8 := by kernel_rfl
theorem keelsonref8_Print.bits8 : waitsOk keelsonref8_Print.T8.2 keelsonref8_Print.B8 = true := by kernel_rfl
set_option maxHeartbeats 8000000 in
set_option maxRecDepth 100000 in
theorem keelsonref8_Print.calls (k : Nat) (A0 : Option Addr) (c0 : Nat) (l0 : List (S30)) (r : ByteArray) (w : World) (hr0 : Kd.C k30 w A0 l0.length l0) (hc0 : l0.length ≤ c0) (h : keelsonref8_Print.f k l0 = some r) :
    Calls Tryz.prog 15 #[.slice A0 l0.length c0] w fun e w' => e = .returned (.string r) ∧ Below w.heap.size w w' := by
  have hu30 := Tryz.underlying30
  have hu60 := Tryz.underlying60
  have HR0 := Aside0.mk hr0
  have HC0 := Aside0.mk hc0
  clear hr0 hc0
  have HB := Aside0.mk (Below.refl w.heap.size w)
  have H : (keelsonref8_Print.l0 k l0 ([] : List (List (S60))) 0) = some r := h
  clear h
  have H' := Aside0.mk H
  clear H
  go_enter Tryz.func15, Tryz.ntmps15
  go_wp2
  go_loopg [3, 4] k (fun kq v3 v4 w' => ∃ (x3_1 : List (List (S60))) (x4_1 : Int), v4 = .int .i64 x4_1 ∧ Aside0 (keelsonref8_Print.l0 kq l0 x3_1 x4_1 = some r) ∧ Aside0 (kq ≤ k) ∧ Aside0 (Kd.S (Kd.slice 60 k60) 48 w' w.heap.size (fun _ => True) v3 x3_1) ∧ Aside0 (Below w.heap.size w w'))
  case atStart => exact ⟨(([] : List (List (S60)))), (0), (by first | rfl | (simp; done) | (simp [*]; done)), H', ⟨Nat.le_refl _⟩, ⟨by first | exact Kd.S_nil _ _ _ _ _ | exact Kd.N_nil _ _ _ _ _ | exact Kd.V_nil _ _ _ _ _ | exact Kd.Q_nil _ _ _ _ _ | exact Kd.R_nil _ _ _ _ _⟩, ⟨by repeat (first | (with_reducible first | exact HB.out | apply below_alloc | apply pw_below_drewN | apply below_drew1) | exact HB.out)⟩⟩
  case round =>
    clear H'
    try clear c1
    obtain ⟨x3_1, x4_1, rfl, HA, HK1, HO_3, HB⟩ := hrel
    cases gk with
    | zero => exact absurd HA.out (by simp [keelsonref8_Print.l0])
    | succ k1 =>
      have H := HA.out
      clear HA
      simp only [keelsonref8_Print.l0] at H
      by_cases c2 : x4_1 < (l0.length : Int)
      · rw [if_pos c2] at H
        have c2b0 : decide (x4_1 < (l0.length : Int)) = true := decide_eq_true c2
        clear c2
        by_cases c3 : 0 ≤ x4_1
        · rw [if_pos c3] at H
          have c3b0 : decide (0 ≤ x4_1) = true := decide_eq_true c3
          clear c3
          replace H := Option.bind_eq_some_iff.mp H
          obtain ⟨t239, A40, H⟩ := H
          replace H : (if t239 = true then (if 8 + ((rd_T30 l0 x4_1).f1).size ≤ 9223372036854775807 then (if ((⟨#[118, 101, 114, 115, 105, 111, 110, 32]⟩ : ByteArray) ++ ((rd_T30 l0 x4_1).f1)).size + 1 ≤ 9223372036854775807 then ((keelsonref8_decimal.f k1 ((rd_T30 l0 x4_1).f2)).bind fun t243 => (if x3_1.length < 5864062014805 then (keelsonref8_Print.l0 k1 l0 (x3_1 ++ [(([(⟨(⟨#[80, 97, 99, 107, 97, 103, 101]⟩ : ByteArray), (rd_T30 l0 x4_1).f0⟩ : S60), (⟨(⟨#[80, 105, 110]⟩ : ByteArray), ((⟨#[118, 101, 114, 115, 105, 111, 110, 32]⟩ : ByteArray) ++ ((rd_T30 l0 x4_1).f1)) ++ (⟨#[42]⟩ : ByteArray)⟩ : S60), (⟨(⟨#[80, 105, 110, 45, 80, 114, 105, 111, 114, 105, 116, 121]⟩ : ByteArray), t243⟩ : S60)] : List (S60)))]) (wrap64 (x4_1 + 1))) else (none))) else (none)) else (none)) else (some (⟨#[]⟩ : ByteArray))) = some r := H
          have A4 := Aside0.mk A40
          clear A40
          by_cases c5 : t239 = true
          · subst c5
            have H1 : (if 8 + ((rd_T30 l0 x4_1).f1).size ≤ 9223372036854775807 then (if ((⟨#[118, 101, 114, 115, 105, 111, 110, 32]⟩ : ByteArray) ++ ((rd_T30 l0 x4_1).f1)).size + 1 ≤ 9223372036854775807 then ((keelsonref8_decimal.f k1 ((rd_T30 l0 x4_1).f2)).bind fun t243 => (if x3_1.length < 5864062014805 then (keelsonref8_Print.l0 k1 l0 (x3_1 ++ [(([(⟨(⟨#[80, 97, 99, 107, 97, 103, 101]⟩ : ByteArray), (rd_T30 l0 x4_1).f0⟩ : S60), (⟨(⟨#[80, 105, 110]⟩ : ByteArray), ((⟨#[118, 101, 114, 115, 105, 111, 110, 32]⟩ : ByteArray) ++ ((rd_T30 l0 x4_1).f1)) ++ (⟨#[42]⟩ : ByteArray)⟩ : S60), (⟨(⟨#[80, 105, 110, 45, 80, 114, 105, 111, 114, 105, 116, 121]⟩ : ByteArray), t243⟩ : S60)] : List (S60)))]) (wrap64 (x4_1 + 1))) else (none))) else (none)) else (none)) = some r := by rw [if_pos rfl] at H; exact H
            clear H
            have H := H1
            clear H1
            by_cases c6 : 8 + ((rd_T30 l0 x4_1).f1).size ≤ 9223372036854775807
            · rw [if_pos c6] at H
              have c6b0 := eq_true c6
              have c6b1 : decide (8 + ((rd_T30 l0 x4_1).f1).size ≤ 9223372036854775807) = true := decide_eq_true c6
              try have c6b2 : (9223372036854775807 < 8 + ((rd_T30 l0 x4_1).f1).size) = False := eq_false (Nat.not_lt.2 c6)
              by_cases c7 : ((⟨#[118, 101, 114, 115, 105, 111, 110, 32]⟩ : ByteArray) ++ ((rd_T30 l0 x4_1).f1)).size + 1 ≤ 9223372036854775807
              · rw [if_pos c7] at H
                have c7b0 := eq_true c7
                have c7b1 : decide (((⟨#[118, 101, 114, 115, 105, 111, 110, 32]⟩ : ByteArray) ++ ((rd_T30 l0 x4_1).f1)).size + 1 ≤ 9223372036854775807) = true := decide_eq_true c7
                try have c7b2 : (9223372036854775807 < ((⟨#[118, 101, 114, 115, 105, 111, 110, 32]⟩ : ByteArray) ++ ((rd_T30 l0 x4_1).f1)).size + 1) = False := eq_false (Nat.not_lt.2 c7)
                try (have c7b3 := c7b2; simp only [ByteArray.size_append, show (⟨#[118, 101, 114, 115, 105, 111, 110, 32]⟩ : ByteArray).size = 8 from rfl] at c7b3)
                replace H := Option.bind_eq_some_iff.mp H
                obtain ⟨t243, A80, H⟩ := H
                replace H : (if x3_1.length < 5864062014805 then (keelsonref8_Print.l0 k1 l0 (x3_1 ++ [(([(⟨(⟨#[80, 97, 99, 107, 97, 103, 101]⟩ : ByteArray), (rd_T30 l0 x4_1).f0⟩ : S60), (⟨(⟨#[80, 105, 110]⟩ : ByteArray), ((⟨#[118, 101, 114, 115, 105, 111, 110, 32]⟩ : ByteArray) ++ ((rd_T30 l0 x4_1).f1)) ++ (⟨#[42]⟩ : ByteArray)⟩ : S60), (⟨(⟨#[80, 105, 110, 45, 80, 114, 105, 111, 114, 105, 116, 121]⟩ : ByteArray), t243⟩ : S60)] : List (S60)))]) (wrap64 (x4_1 + 1))) else (none)) = some r := H
                have A8 := Aside0.mk A80
                clear A80
                obtain ⟨y244, hy244⟩ : ∃ y_ : List (S60), y_ = (([(⟨(⟨#[80, 97, 99, 107, 97, 103, 101]⟩ : ByteArray), (rd_T30 l0 x4_1).f0⟩ : S60), (⟨(⟨#[80, 105, 110]⟩ : ByteArray), ((⟨#[118, 101, 114, 115, 105, 111, 110, 32]⟩ : ByteArray) ++ ((rd_T30 l0 x4_1).f1)) ++ (⟨#[42]⟩ : ByteArray)⟩ : S60), (⟨(⟨#[80, 105, 110, 45, 80, 114, 105, 111, 114, 105, 116, 121]⟩ : ByteArray), t243⟩ : S60)] : List (S60))) := ⟨_, rfl⟩
                replace H : (if x3_1.length < 5864062014805 then (keelsonref8_Print.l0 k1 l0 (x3_1 ++ [y244]) (wrap64 (x4_1 + 1))) else (none)) = some r := by first | (rw [hy244]; with_reducible exact H) | (have H2_ := (Option.bind_some _ _).symm.trans H; rw [hy244]; with_reducible exact H2_) | (have H2_ := (Option.bind_some _ _).symm.trans H; with_reducible exact H2_) | with_reducible exact H | (rw [hy244]; exact H) | exact H
                have Ny244 := Aside0.mk hy244
                clear hy244
                by_cases c9 : x3_1.length < 5864062014805
                · rw [if_pos c9] at H
                  have LMc9 := Aside0.mk c9
                  clear c9
                  obtain ⟨y247, hy247⟩ : ∃ y_ : List (List (S60)), y_ = (x3_1 ++ [y244]) := ⟨_, rfl⟩
                  replace H : (keelsonref8_Print.l0 k1 l0 y247 (wrap64 (x4_1 + 1))) = some r := by first | (rw [hy247]; with_reducible exact H) | (have H2_ := (Option.bind_some _ _).symm.trans H; rw [hy247]; with_reducible exact H2_) | (have H2_ := (Option.bind_some _ _).symm.trans H; with_reducible exact H2_) | with_reducible exact H | (rw [hy247]; exact H) | exact H
                  have Ny247 := Aside0.mk hy247
                  clear hy247
                  have H' := Aside0.mk H
                  clear H
                  have p238 : 0 ≤ (x4_1 : Int) := of_decide_eq_true (by first | (with_reducible assumption) | assumption)
                  have q238 : x4_1 < (l0.length : Int) := of_decide_eq_true (by first | (with_reducible assumption) | assumption)
                  obtain ⟨ad238, e238, hx238_0, hx238_1, hx238_2⟩ := at_T30 HR0.out x4_1 p238 q238
                  cases e238
                  replace hx238_0 := (HB.out.cell (World.block_lt_of_cell? w _ hx238_0)).trans hx238_0
                  replace hx238_1 := (HB.out.cell (World.block_lt_of_cell? w _ hx238_1)).trans hx238_1
                  replace hx238_2 := (HB.out.cell (World.block_lt_of_cell? w _ hx238_2)).trans hx238_2
                  replace p238 := eq_true p238
                  replace q238 := eq_true q238
                  try go_wp2_with (first | ((with_reducible refine gate_callee (f := 13) rfl ?_); refine goesL_ (some 16) rfl rfl Tryz.func13 (by kernel_rfl) rfl #[.agg #[.string ((rd_T30 l0 x4_1).f0), .string ((rd_T30 l0 x4_1).f1), .int .i64 ((rd_T30 l0 x4_1).f2)]] rfl (by (try simp only [List.map_toArray, List.map_cons, List.map_nil]); first | done | rfl | (simp only [List.length_drop, List.length_take]; rfl)) ?_; (with_reducible refine (keelsonref8_Right.calls k1 ((rd_T30 l0 x4_1).f0) ((rd_T30 l0 x4_1).f1) ((rd_T30 l0 x4_1).f2) true _ A4.out).mono ?_); rintro e w10 ⟨rfl, hb⟩; refine ⟨_, rfl, ?_⟩; have n0_ := Aside0.mk (Kd.S_below (by (with_reducible repeat (first | apply Kd.S_alloc | apply Kd.S_drewN | apply Kd.S_drew)); exact HO_3.out) hb); have n1_ := Aside0.mk (below_step (by repeat (first | (with_reducible first | exact HB.out | apply below_alloc | apply pw_below_drewN | apply below_drew1) | exact HB.out)) hb); clear HO_3; clear HB; have HO_3 := n0_; have HB := n1_; clear n0_ n1_; (try clear hb); (try clear hb2); (try clear hk); (try clear hi)))
                  have n0_ := Aside0.mk (Kd.S_drew HO_3.out)
                  have n1_ := Aside0.mk (below_drew1 HB.out)
                  clear HO_3
                  clear HB
                  have HO_3 := n0_
                  have HB := n1_
                  clear n0_ n1_
                  have p240 : 0 ≤ (x4_1 : Int) := of_decide_eq_true (by first | (with_reducible assumption) | assumption)
                  have q240 : x4_1 < (l0.length : Int) := of_decide_eq_true (by first | (with_reducible assumption) | assumption)
                  obtain ⟨ad240, e240, hx240_0, hx240_1, hx240_2⟩ := at_T30 HR0.out x4_1 p240 q240
                  have hw240_2 := hx240_2
                  have hw240_1 := hx240_1
                  have hw240_0 := hx240_0
                  obtain rfl : ad238 = ad240 := (by injection e240)
                  replace hx240_0 := (HB.out.cell (World.block_lt_of_cell? w _ hx240_0)).trans hx240_0
                  replace hx240_1 := (HB.out.cell (World.block_lt_of_cell? w _ hx240_1)).trans hx240_1
                  replace hx240_2 := (HB.out.cell (World.block_lt_of_cell? w _ hx240_2)).trans hx240_2
                  replace p240 := eq_true p240
                  replace q240 := eq_true q240
                  have p241 : 0 ≤ (x4_1 : Int) := of_decide_eq_true (by first | (with_reducible assumption) | assumption)
                  have q241 : x4_1 < (l0.length : Int) := of_decide_eq_true (by first | (with_reducible assumption) | assumption)
                  obtain ⟨ad241, e241, hx241_0, hx241_1, hx241_2⟩ := at_T30 HR0.out x4_1 p241 q241
                  have hw241_2 := hx241_2
                  have hw241_1 := hx241_1
                  have hw241_0 := hx241_0
                  obtain rfl : ad238 = ad241 := (by injection e241)
                  replace hx241_0 := (HB.out.cell (World.block_lt_of_cell? w _ hx241_0)).trans hx241_0
                  replace hx241_1 := (HB.out.cell (World.block_lt_of_cell? w _ hx241_1)).trans hx241_1
                  replace hx241_2 := (HB.out.cell (World.block_lt_of_cell? w _ hx241_2)).trans hx241_2
                  replace p241 := eq_true p241
                  replace q241 := eq_true q241
                  have p242 : 0 ≤ (x4_1 : Int) := of_decide_eq_true (by first | (with_reducible assumption) | assumption)
                  have q242 : x4_1 < (l0.length : Int) := of_decide_eq_true (by first | (with_reducible assumption) | assumption)
                  obtain ⟨ad242, e242, hx242_0, hx242_1, hx242_2⟩ := at_T30 HR0.out x4_1 p242 q242
                  have hw242_2 := hx242_2
                  have hw242_1 := hx242_1
                  have hw242_0 := hx242_0
                  obtain rfl : ad238 = ad242 := (by injection e242)
                  replace hx242_0 := (HB.out.cell (World.block_lt_of_cell? w _ hx242_0)).trans hx242_0
                  replace hx242_1 := (HB.out.cell (World.block_lt_of_cell? w _ hx242_1)).trans hx242_1
                  replace hx242_2 := (HB.out.cell (World.block_lt_of_cell? w _ hx242_2)).trans hx242_2
                  replace p242 := eq_true p242
                  replace q242 := eq_true q242
                  refine start_ (n := 26) (S := fun w' => w'.cell? (ad238.add ((x4_1).toNat * 3)) = some (.string ((rd_T30 l0 x4_1).f0)) ∧ w'.cell? ⟨(ad238.add ((x4_1).toNat * 3)).block, (ad238.add ((x4_1).toNat * 3)).off + 1, none⟩ = some (.string ((rd_T30 l0 x4_1).f1)) ∧ w'.cell? ⟨(ad238.add ((x4_1).toNat * 3)).block, (ad238.add ((x4_1).toNat * 3)).off + 2, none⟩ = some (.int .i64 ((rd_T30 l0 x4_1).f2)) ∧ w'.cell? (ad238.add ((x4_1).toNat * 3)) = some (.string ((rd_T30 l0 x4_1).f0)) ∧ w'.cell? ⟨(ad238.add ((x4_1).toNat * 3)).block, (ad238.add ((x4_1).toNat * 3)).off + 1, none⟩ = some (.string ((rd_T30 l0 x4_1).f1)) ∧ w'.cell? ⟨(ad238.add ((x4_1).toNat * 3)).block, (ad238.add ((x4_1).toNat * 3)).off + 2, none⟩ = some (.int .i64 ((rd_T30 l0 x4_1).f2)) ∧ w'.cell? (ad238.add ((x4_1).toNat * 3)) = some (.string ((rd_T30 l0 x4_1).f0)) ∧ w'.cell? ⟨(ad238.add ((x4_1).toNat * 3)).block, (ad238.add ((x4_1).toNat * 3)).off + 1, none⟩ = some (.string ((rd_T30 l0 x4_1).f1)) ∧ w'.cell? ⟨(ad238.add ((x4_1).toNat * 3)).block, (ad238.add ((x4_1).toNat * 3)).off + 2, none⟩ = some (.int .i64 ((rd_T30 l0 x4_1).f2))) (ds := []) #[false, false, false, false, false, false, false, false, false, false, false, false, false, false, false, false, false, false, false, false, false, false, false, false, false, false] (by kernel_rfl) rfl rfl ⟨((HB.out.cell (World.block_lt_of_cell? w _ hw240_0)).trans hw240_0), ((HB.out.cell (World.block_lt_of_cell? w _ hw240_1)).trans hw240_1), ((HB.out.cell (World.block_lt_of_cell? w _ hw240_2)).trans hw240_2), ((HB.out.cell (World.block_lt_of_cell? w _ hw241_0)).trans hw241_0), ((HB.out.cell (World.block_lt_of_cell? w _ hw241_1)).trans hw241_1), ((HB.out.cell (World.block_lt_of_cell? w _ hw241_2)).trans hw241_2), ((HB.out.cell (World.block_lt_of_cell? w _ hw242_0)).trans hw242_0), ((HB.out.cell (World.block_lt_of_cell? w _ hw242_1)).trans hw242_1), ((HB.out.cell (World.block_lt_of_cell? w _ hw242_2)).trans hw242_2)⟩ (fun hHeld => ?_); refine with_tabW keelsonref8_Print.tab8 keelsonref8_Print.bits8 (fun HT_ HW_ => ?_)
                  generalize w10.drew = w11 at HO_3 HB hx240_0 hx240_1 hx240_2 hx241_0 hx241_1 hx241_2 hx242_0 hx242_1 hx242_2 hHeld ⊢
                  refine pure_ (i := 0) (N := some 19) (v := ?_) (a' := ?_) #[true, false, false, false, false, false, false, false, false, false, false, false, false, false, false, false, false, false, false, false, false, false, false, false, false, false] rfl rfl (any_of HT_.out (by kernel_rfl)) (fun _ _ _ h => h) (Or.inl ⟨by rfl, ?_⟩) ?_ ?_
                  rotate_left
                  · intro w'
                    go_simp
                    with_reducible rfl
                  rotate_left
                  · simp only [Act.put, List.setIfInBounds_toArray, List.set_cons_zero, List.set_cons_succ, i64_w, i32_w]
                    rfl
                  refine pure_ (i := 1) (N := some 20) (v := ?_) (a' := ?_) #[true, true, false, false, false, false, false, false, false, false, false, false, false, false, false, false, false, false, false, false, false, false, false, false, false, false] rfl rfl (any_of HT_.out (by kernel_rfl)) (fun _ _ _ h => h) (Or.inl ⟨by rfl, ?_⟩) ?_ ?_
                  rotate_left
                  · intro w'
                    go_simp
                    with_reducible rfl
                  rotate_left
                  · simp only [Act.put, List.setIfInBounds_toArray, List.set_cons_zero, List.set_cons_succ, i64_w, i32_w]
                    rfl
                  refine pure_ (i := 2) (N := some 21) (v := ?_) (a' := ?_) #[true, true, true, false, false, false, false, false, false, false, false, false, false, false, false, false, false, false, false, false, false, false, false, false, false, false] rfl rfl (any_of HT_.out (by kernel_rfl)) (fun _ _ _ h => h) (Or.inl ⟨by rfl, ?_⟩) ?_ ?_
                  rotate_left
                  · intro w'
                    go_simp
                    with_reducible rfl
                  rotate_left
                  · simp only [Act.put, List.setIfInBounds_toArray, List.set_cons_zero, List.set_cons_succ, i64_w, i32_w]
                    rfl
                  refine pure_ (i := 3) (N := some 22) (v := ?_) (a' := ?_) #[true, true, true, true, false, false, false, false, false, false, false, false, false, false, false, false, false, false, false, false, false, false, false, false, false, false] rfl rfl (any_of HT_.out (by kernel_rfl)) (fun _ _ _ h => h) (Or.inl ⟨by rfl, ?_⟩) ?_ ?_
                  rotate_left
                  · intro w'
                    go_simp
                    with_reducible rfl
                  rotate_left
                  · simp only [Act.put, List.setIfInBounds_toArray, List.set_cons_zero, List.set_cons_succ, i64_w, i32_w]
                    rfl
                  refine pure_ (i := 4) (N := some 23) (v := ?_) (a' := ?_) #[true, true, true, true, true, false, false, false, false, false, false, false, false, false, false, false, false, false, false, false, false, false, false, false, false, false] rfl rfl (any_of HT_.out (by kernel_rfl)) (fun _ _ _ h => h) (Or.inl ⟨by rfl, ?_⟩) ?_ ?_
                  rotate_left
                  · intro w'
                    go_simp
                    with_reducible rfl
                  rotate_left
                  · simp only [Act.put, List.setIfInBounds_toArray, List.set_cons_zero, List.set_cons_succ, i64_w, i32_w]
                    rfl
                  refine pure_ (i := 7) (N := some 26) (v := ?_) (a' := ?_) #[true, true, true, true, true, false, false, true, false, false, false, false, false, false, false, false, false, false, false, false, false, false, false, false, false, false] rfl rfl (any_of HT_.out (by kernel_rfl)) (fun _ _ _ h => h) (Or.inl ⟨by rfl, ?_⟩) ?_ ?_
                  rotate_left
                  · intro w'
                    go_simp
                    with_reducible rfl
                  rotate_left
                  · simp only [Act.put, List.setIfInBounds_toArray, List.set_cons_zero, List.set_cons_succ, i64_w, i32_w]
                    rfl
                  refine pure_ (i := 8) (N := some 27) (v := ?_) (a' := ?_) #[true, true, true, true, true, false, false, true, true, false, false, false, false, false, false, false, false, false, false, false, false, false, false, false, false, false] rfl rfl (any_of HT_.out (by kernel_rfl)) (fun _ _ _ h => h) (Or.inl ⟨by rfl, ?_⟩) ?_ ?_
                  rotate_left
                  · intro w'
                    go_simp
                    with_reducible rfl
                  rotate_left
                  · simp only [Act.put, List.setIfInBounds_toArray, List.set_cons_zero, List.set_cons_succ, i64_w, i32_w]
                    rfl
                  refine pure_ (i := 9) (N := some 28) (v := ?_) (a' := ?_) #[true, true, true, true, true, false, false, true, true, true, false, false, false, false, false, false, false, false, false, false, false, false, false, false, false, false] rfl rfl (any_of HT_.out (by kernel_rfl)) (fun _ _ _ h => h) (Or.inl ⟨by rfl, ?_⟩) ?_ ?_
                  rotate_left
                  · intro w'
                    go_simp
                    with_reducible rfl
                  rotate_left
                  · simp only [Act.put, List.setIfInBounds_toArray, List.set_cons_zero, List.set_cons_succ, i64_w, i32_w]
                    rfl
                  refine pure_ (i := 10) (N := some 29) (v := ?_) (a' := ?_) #[true, true, true, true, true, false, false, true, true, true, true, false, false, false, false, false, false, false, false, false, false, false, false, false, false, false] rfl rfl (any_of HT_.out (by kernel_rfl)) (fun _ _ _ h => h) (Or.inl ⟨by rfl, ?_⟩) ?_ ?_
                  rotate_left
                  · intro w'
                    go_simp
                    with_reducible rfl
                  rotate_left
                  · simp only [Act.put, List.setIfInBounds_toArray, List.set_cons_zero, List.set_cons_succ, i64_w, i32_w]
                    rfl
                  refine pure_ (i := 15) (N := some 34) (v := ?_) (a' := ?_) #[true, true, true, true, true, false, false, true, true, true, true, false, false, false, false, true, false, false, false, false, false, false, false, false, false, false] rfl rfl (any_of HT_.out (by kernel_rfl)) (fun _ _ _ h => h) (Or.inl ⟨by rfl, ?_⟩) ?_ ?_
                  rotate_left
                  · intro w'
                    go_simp
                    with_reducible rfl
                  rotate_left
                  · simp only [Act.put, List.setIfInBounds_toArray, List.set_cons_zero, List.set_cons_succ, i64_w, i32_w]
                    rfl
                  refine pure_ (i := 16) (N := some 35) (v := ?_) (a' := ?_) #[true, true, true, true, true, false, false, true, true, true, true, false, false, false, false, true, true, false, false, false, false, false, false, false, false, false] rfl rfl (any_of HT_.out (by kernel_rfl)) (fun _ _ _ h => h) (Or.inl ⟨by rfl, ?_⟩) ?_ ?_
                  rotate_left
                  · intro w'
                    go_simp
                    with_reducible rfl
                  rotate_left
                  · simp only [Act.put, List.setIfInBounds_toArray, List.set_cons_zero, List.set_cons_succ, i64_w, i32_w]
                    rfl
                  refine pure_ (i := 17) (N := some 36) (v := ?_) (a' := ?_) #[true, true, true, true, true, false, false, true, true, true, true, false, false, false, false, true, true, true, false, false, false, false, false, false, false, false] rfl rfl (any_of HT_.out (by kernel_rfl)) (fun _ _ _ h => h) (Or.inl ⟨by rfl, ?_⟩) ?_ ?_
                  rotate_left
                  · intro w'
                    go_simp
                    with_reducible rfl
                  rotate_left
                  · simp only [Act.put, List.setIfInBounds_toArray, List.set_cons_zero, List.set_cons_succ, i64_w, i32_w]
                    rfl
                  refine pure_ (i := 18) (N := some 37) (v := ?_) (a' := ?_) #[true, true, true, true, true, false, false, true, true, true, true, false, false, false, false, true, true, true, true, false, false, false, false, false, false, false] rfl rfl (any_of HT_.out (by kernel_rfl)) (fun _ _ _ h => h) (Or.inl ⟨by rfl, ?_⟩) ?_ ?_
                  rotate_left
                  · intro w'
                    go_simp
                    with_reducible rfl
                  rotate_left
                  · simp only [Act.put, List.setIfInBounds_toArray, List.set_cons_zero, List.set_cons_succ, i64_w, i32_w]
                    rfl
                  refine take_ (i := 5) (N := some 24) (v := ?_) (a' := ?_) #[true, true, true, true, true, true, false, true, true, true, true, false, false, false, false, true, true, true, true, false, false, false, false, false, false, false] rfl rfl (take_ofW HT_.out HW_.out (by kernel_rfl)) (fun _ _ _ h => h) (Or.inl ⟨by rfl, ?_⟩) hHeld ?_ ?_
                  rotate_left
                  · rintro w' ⟨s0, s1, s2, s3, s4, s5, s6, s7, s8⟩
                    go_simp
                    with_reducible rfl
                  rotate_left
                  · simp only [Act.put, List.setIfInBounds_toArray, List.set_cons_zero, List.set_cons_succ, i64_w, i32_w]
                    rfl
                  refine pure_ (i := 6) (N := some 25) (v := ?_) (a' := ?_) #[true, true, true, true, true, true, true, true, true, true, true, false, false, false, false, true, true, true, true, false, false, false, false, false, false, false] rfl rfl (any_of HT_.out (by kernel_rfl)) (fun _ _ _ h => h) (Or.inl ⟨by rfl, ?_⟩) ?_ ?_
                  rotate_left
                  · intro w'
                    go_simp
                    with_reducible rfl
                  rotate_left
                  · simp only [Act.put, List.setIfInBounds_toArray, List.set_cons_zero, List.set_cons_succ, i64_w, i32_w]
                    rfl
                  refine take_ (i := 11) (N := some 30) (v := ?_) (a' := ?_) #[true, true, true, true, true, true, true, true, true, true, true, true, false, false, false, true, true, true, true, false, false, false, false, false, false, false] rfl rfl (take_ofW HT_.out HW_.out (by kernel_rfl)) (fun _ _ _ h => h) (Or.inl ⟨by rfl, ?_⟩) hHeld ?_ ?_
                  rotate_left
                  · rintro w' ⟨s0, s1, s2, s3, s4, s5, s6, s7, s8⟩
                    go_simp
                    with_reducible rfl
                  rotate_left
                  · simp only [Act.put, List.setIfInBounds_toArray, List.set_cons_zero, List.set_cons_succ, i64_w, i32_w]
                    rfl
                  refine pure_ (i := 12) (N := some 31) (v := ?_) (a' := ?_) #[true, true, true, true, true, true, true, true, true, true, true, true, true, false, false, true, true, true, true, false, false, false, false, false, false, false] rfl rfl (any_of HT_.out (by kernel_rfl)) (fun _ _ _ h => h) (Or.inl ⟨by rfl, ?_⟩) ?_ ?_
                  rotate_left
                  · intro w'
                    go_simp
                    with_reducible rfl
                  rotate_left
                  · simp only [Act.put, List.setIfInBounds_toArray, List.set_cons_zero, List.set_cons_succ, i64_w, i32_w]
                    rfl
                  refine pure_ (i := 13) (N := some 32) (v := ?_) (a' := ?_) #[true, true, true, true, true, true, true, true, true, true, true, true, true, true, false, true, true, true, true, false, false, false, false, false, false, false] rfl rfl (any_of HT_.out (by kernel_rfl)) (fun _ _ _ h => h) (Or.inl ⟨by rfl, ?_⟩) ?_ ?_
                  rotate_left
                  · intro w'
                    go_simp
                    with_reducible rfl
                  rotate_left
                  · simp only [Act.put, List.setIfInBounds_toArray, List.set_cons_zero, List.set_cons_succ, i64_w, i32_w]
                    rfl
                  refine pure_ (i := 14) (N := some 33) (v := ?_) (a' := ?_) #[true, true, true, true, true, true, true, true, true, true, true, true, true, true, true, true, true, true, true, false, false, false, false, false, false, false] rfl rfl (any_of HT_.out (by kernel_rfl)) (fun _ _ _ h => h) (Or.inl ⟨by rfl, ?_⟩) ?_ ?_
                  rotate_left
                  · intro w'
                    go_simp
                    with_reducible rfl
                  rotate_left
                  · simp only [Act.put, List.setIfInBounds_toArray, List.set_cons_zero, List.set_cons_succ, i64_w, i32_w]
                    rfl
                  refine take_ (i := 19) (N := some 38) (v := ?_) (a' := ?_) #[true, true, true, true, true, true, true, true, true, true, true, true, true, true, true, true, true, true, true, true, false, false, false, false, false, false] rfl rfl (take_ofW HT_.out HW_.out (by kernel_rfl)) (fun _ _ _ h => h) (Or.inl ⟨by rfl, ?_⟩) hHeld ?_ ?_
                  rotate_left
                  · rintro w' ⟨s0, s1, s2, s3, s4, s5, s6, s7, s8⟩
                    go_simp
                    with_reducible rfl
                  rotate_left
                  · simp only [Act.put, List.setIfInBounds_toArray, List.set_cons_zero, List.set_cons_succ, i64_w, i32_w]
                    rfl
                  refine one_ (i := 20) (N := some 39) #[true, true, true, true, true, true, true, true, true, true, true, true, true, true, true, true, true, true, true, true, true, false, false, false, false, false] rfl rfl (one_of HT_.out (by kernel_rfl)) (by decide) (fun K hK => ?_)
                  refine goes_ Tryz.func33 (by kernel_rfl) rfl #[.int .i64 ((rd_T30 l0 x4_1).f2)] (by rfl) rfl rfl (by (try simp only [List.map_toArray, List.map_cons, List.map_nil]); first | done | rfl | (simp only [List.length_drop, List.length_take]; rfl)) ?_
                  with_reducible refine (keelsonref8_decimal.calls k1 ((rd_T30 l0 x4_1).f2) t243 _ A8.out).mono ?_
                  rintro e w' ⟨rfl, ⟨nd, rfl⟩⟩
                  refine ⟨_, rfl, ?_⟩
                  refine hK.out _ _ ⟨((HB.out.cell (World.block_lt_of_cell? w _ hw240_0)).trans hw240_0), ((HB.out.cell (World.block_lt_of_cell? w _ hw240_1)).trans hw240_1), ((HB.out.cell (World.block_lt_of_cell? w _ hw240_2)).trans hw240_2), ((HB.out.cell (World.block_lt_of_cell? w _ hw241_0)).trans hw241_0), ((HB.out.cell (World.block_lt_of_cell? w _ hw241_1)).trans hw241_1), ((HB.out.cell (World.block_lt_of_cell? w _ hw241_2)).trans hw241_2), ((HB.out.cell (World.block_lt_of_cell? w _ hw242_0)).trans hw242_0), ((HB.out.cell (World.block_lt_of_cell? w _ hw242_1)).trans hw242_1), ((HB.out.cell (World.block_lt_of_cell? w _ hw242_2)).trans hw242_2)⟩ (fun hHeld => ?_)
                  clear hK K
                  refine norm_ (a' := ?_) ?_ ?_
                  rotate_left
                  · show Act.put _ (some 39) _ = _
                    simp only [Act.put, List.setIfInBounds_toArray, List.set_cons_zero, List.set_cons_succ, i64_w, i32_w]
                    rfl
                  refine pure_ (i := 21) (N := some 40) (v := ?_) (a' := ?_) #[true, true, true, true, true, true, true, true, true, true, true, true, true, true, true, true, true, true, true, true, true, true, false, false, false, false] rfl rfl (any_of HT_.out (by kernel_rfl)) (fun _ _ _ h => h) (Or.inl ⟨by rfl, ?_⟩) ?_ ?_
                  rotate_left
                  · intro w'
                    go_simp
                    with_reducible rfl
                  rotate_left
                  · simp only [Act.put, List.setIfInBounds_toArray, List.set_cons_zero, List.set_cons_succ, i64_w, i32_w]
                    rfl
                  refine one_ (i := 22) (N := some 41) #[true, true, true, true, true, true, true, true, true, true, true, true, true, true, true, true, true, true, true, true, true, true, true, false, false, false] rfl rfl (one_of HT_.out (by kernel_rfl)) (by decide) (fun K hK => ?_)
                  refine Kd.R_lit_step k60 _ 60 ?hg (N := 41) ?hd (xs := ([(⟨(⟨#[80, 97, 99, 107, 97, 103, 101]⟩ : ByteArray), (rd_T30 l0 x4_1).f0⟩ : S60), (⟨(⟨#[80, 105, 110]⟩ : ByteArray), ((⟨#[118, 101, 114, 115, 105, 111, 110, 32]⟩ : ByteArray) ++ ((rd_T30 l0 x4_1).f1)) ++ (⟨#[42]⟩ : ByteArray)⟩ : S60), (⟨(⟨#[80, 105, 110, 45, 80, 114, 105, 111, 114, 105, 116, 121]⟩ : ByteArray), t243⟩ : S60)] : List (S60))) (inner := [.string (⟨#[80, 97, 99, 107, 97, 103, 101]⟩ : ByteArray), .string ((rd_T30 l0 x4_1).f0), .string (⟨#[80, 105, 110]⟩ : ByteArray), .string (((⟨#[118, 101, 114, 115, 105, 111, 110, 32]⟩ : ByteArray) ++ ((rd_T30 l0 x4_1).f1)) ++ (⟨#[42]⟩ : ByteArray)), .string (⟨#[80, 105, 110, 45, 80, 114, 105, 111, 114, 105, 116, 121]⟩ : ByteArray), .string t243]) (ok := fun _ => True) (okp := fun _ => True) ?hr ?hp (fun _ hk => hk) trivial (Below.refl _ _) (Nat.le_refl _) (by simp) ?_; (case hd => rfl); (case hg => rfl); (case hr => first | (go_simp; done) | (go_simp; rfl)); (case hp => exact (Reps.c2 (show Kd.M k60 _ _ _ (⟨(⟨#[80, 97, 99, 107, 97, 103, 101]⟩ : ByteArray), (rd_T30 l0 x4_1).f0⟩ : S60) [.string (⟨#[80, 97, 99, 107, 97, 103, 101]⟩ : ByteArray), .string ((rd_T30 l0 x4_1).f0)] from (k60_mkM _ _ _ (⟨(⟨#[80, 97, 99, 107, 97, 103, 101]⟩ : ByteArray), (rd_T30 l0 x4_1).f0⟩ : S60) )) (Reps.c2 (show Kd.M k60 _ _ _ (⟨(⟨#[80, 105, 110]⟩ : ByteArray), ((⟨#[118, 101, 114, 115, 105, 111, 110, 32]⟩ : ByteArray) ++ ((rd_T30 l0 x4_1).f1)) ++ (⟨#[42]⟩ : ByteArray)⟩ : S60) [.string (⟨#[80, 105, 110]⟩ : ByteArray), .string (((⟨#[118, 101, 114, 115, 105, 111, 110, 32]⟩ : ByteArray) ++ ((rd_T30 l0 x4_1).f1)) ++ (⟨#[42]⟩ : ByteArray))] from (k60_mkM _ _ _ (⟨(⟨#[80, 105, 110]⟩ : ByteArray), ((⟨#[118, 101, 114, 115, 105, 111, 110, 32]⟩ : ByteArray) ++ ((rd_T30 l0 x4_1).f1)) ++ (⟨#[42]⟩ : ByteArray)⟩ : S60) )) (Reps.c2 (show Kd.M k60 _ _ _ (⟨(⟨#[80, 105, 110, 45, 80, 114, 105, 111, 114, 105, 116, 121]⟩ : ByteArray), t243⟩ : S60) [.string (⟨#[80, 105, 110, 45, 80, 114, 105, 111, 114, 105, 116, 121]⟩ : ByteArray), .string t243] from (k60_mkM _ _ _ (⟨(⟨#[80, 105, 110, 45, 80, 114, 105, 111, 114, 105, 116, 121]⟩ : ByteArray), t243⟩ : S60) )) (Reps.none _ _)))))
                  intro v245 w12 ho13 hb hg_ hnew_
                  clear hg_ hnew_
                  (first | rw [← Ny244.out] at ho13 | (simp only [Int.reduceToNat] at ho13; rw [← Ny244.out] at ho13))
                  have n0_ := Aside0.mk (Kd.S_elder' (by (with_reducible repeat (first | apply Kd.S_alloc | apply Kd.S_drewN | apply Kd.S_drew)); exact HO_3.out) (Kd.R_base ho13) hb)
                  have n1_ := Aside0.mk (Kd.R_lower ho13 (below_size (by repeat (first | (with_reducible first | exact HB.out | apply below_alloc | apply pw_below_drewN | apply below_drew1) | exact HB.out))))
                  have n2_ := Aside0.mk (below_step (by repeat (first | (with_reducible first | exact HB.out | apply below_alloc | apply pw_below_drewN | apply below_drew1) | exact HB.out)) hb)
                  clear HO_3
                  clear HB
                  have HO_3 := n0_
                  have HO246 := n1_
                  have HB := n2_
                  clear n0_ n1_ n2_
                  clear hb ho13
                  obtain ⟨Ao15, co15, eo15⟩ := Kd.R_slice HO246.out
                  (first | subst eo15 | (injection eo15 with f1_ f2_ f3_; have f4_ := f1_.symm; have f5_ := f3_.symm; clear f1_ f2_ f3_; subst f4_; subst f5_))
                  refine hK.out _ _ ⟨((HB.out.cell (World.block_lt_of_cell? w _ hw240_0)).trans hw240_0), ((HB.out.cell (World.block_lt_of_cell? w _ hw240_1)).trans hw240_1), ((HB.out.cell (World.block_lt_of_cell? w _ hw240_2)).trans hw240_2), ((HB.out.cell (World.block_lt_of_cell? w _ hw241_0)).trans hw241_0), ((HB.out.cell (World.block_lt_of_cell? w _ hw241_1)).trans hw241_1), ((HB.out.cell (World.block_lt_of_cell? w _ hw241_2)).trans hw241_2), ((HB.out.cell (World.block_lt_of_cell? w _ hw242_0)).trans hw242_0), ((HB.out.cell (World.block_lt_of_cell? w _ hw242_1)).trans hw242_1), ((HB.out.cell (World.block_lt_of_cell? w _ hw242_2)).trans hw242_2)⟩ (fun hHeld => ?_)
                  clear hK K
                  refine norm_ (a' := ?_) ?_ ?_
                  rotate_left
                  · show Act.put _ (some 41) _ = _
                    simp only [Act.put, List.setIfInBounds_toArray, List.set_cons_zero, List.set_cons_succ, i64_w, i32_w]
                    rfl
                  refine one_ (i := 23) (N := some 42) #[true, true, true, true, true, true, true, true, true, true, true, true, true, true, true, true, true, true, true, true, true, true, true, true, false, false] rfl rfl (one_of HT_.out (by kernel_rfl)) (by decide) (fun K hK => ?_)
                  refine value_ (w1 := ?_) (v := ?_) (by rfl) rfl ?_ ?_
                  rotate_left 2
                  · go_simp
                    constructor
                    · rfl
                    · rfl
                  refine hK.out _ _ ⟨(World.cell?_alloc_lt _ _ _ (World.block_lt_of_cell? _ _ (((HB.out.cell (World.block_lt_of_cell? w _ hw240_0)).trans hw240_0)))).trans (((HB.out.cell (World.block_lt_of_cell? w _ hw240_0)).trans hw240_0)), (World.cell?_alloc_lt _ _ _ (World.block_lt_of_cell? _ _ (((HB.out.cell (World.block_lt_of_cell? w _ hw240_1)).trans hw240_1)))).trans (((HB.out.cell (World.block_lt_of_cell? w _ hw240_1)).trans hw240_1)), (World.cell?_alloc_lt _ _ _ (World.block_lt_of_cell? _ _ (((HB.out.cell (World.block_lt_of_cell? w _ hw240_2)).trans hw240_2)))).trans (((HB.out.cell (World.block_lt_of_cell? w _ hw240_2)).trans hw240_2)), (World.cell?_alloc_lt _ _ _ (World.block_lt_of_cell? _ _ (((HB.out.cell (World.block_lt_of_cell? w _ hw241_0)).trans hw241_0)))).trans (((HB.out.cell (World.block_lt_of_cell? w _ hw241_0)).trans hw241_0)), (World.cell?_alloc_lt _ _ _ (World.block_lt_of_cell? _ _ (((HB.out.cell (World.block_lt_of_cell? w _ hw241_1)).trans hw241_1)))).trans (((HB.out.cell (World.block_lt_of_cell? w _ hw241_1)).trans hw241_1)), (World.cell?_alloc_lt _ _ _ (World.block_lt_of_cell? _ _ (((HB.out.cell (World.block_lt_of_cell? w _ hw241_2)).trans hw241_2)))).trans (((HB.out.cell (World.block_lt_of_cell? w _ hw241_2)).trans hw241_2)), (World.cell?_alloc_lt _ _ _ (World.block_lt_of_cell? _ _ (((HB.out.cell (World.block_lt_of_cell? w _ hw242_0)).trans hw242_0)))).trans (((HB.out.cell (World.block_lt_of_cell? w _ hw242_0)).trans hw242_0)), (World.cell?_alloc_lt _ _ _ (World.block_lt_of_cell? _ _ (((HB.out.cell (World.block_lt_of_cell? w _ hw242_1)).trans hw242_1)))).trans (((HB.out.cell (World.block_lt_of_cell? w _ hw242_1)).trans hw242_1)), (World.cell?_alloc_lt _ _ _ (World.block_lt_of_cell? _ _ (((HB.out.cell (World.block_lt_of_cell? w _ hw242_2)).trans hw242_2)))).trans (((HB.out.cell (World.block_lt_of_cell? w _ hw242_2)).trans hw242_2))⟩ (fun hHeld => ?_)
                  clear hK K
                  refine norm_ (a' := ?_) ?_ ?_
                  rotate_left
                  · show Act.put _ (some 42) _ = _
                    simp only [Act.put, List.setIfInBounds_toArray, List.set_cons_zero, List.set_cons_succ, i64_w, i32_w]
                    rfl
                  refine one_ (i := 24) (N := some 43) #[true, true, true, true, true, true, true, true, true, true, true, true, true, true, true, true, true, true, true, true, true, true, true, true, true, false] rfl rfl (one_of HT_.out (by kernel_rfl)) (by decide) (fun K hK => ?_)
                  refine Kd.S_append_step (Kd.slice 60 k60) (w0 := w) w.heap.size (by rfl) (.tmp 19) (.tmp 42) 52 48 (.slice none 0 0) 24 rfl Tryz.underlying52 info48 rfl (by decide) (by omega) u3 x3_1 y244 [.slice Ao15 y244.length co15] (fun _ => True) (fun k_ => some k_ = (.slice Ao15 y244.length co15 : Value).ownBlock) rfl rfl ?aP (fun k_ hk_ => ((Kd.R_mono (ok' := fun k_ => ((fun _ => True)) k_ ∧ some k_ ≠ (u3 : Value).ownBlock) (Kd.R_apart' (HO246.out) (Kd.S_typed HO_3.out) (by decide)) (fun k_ hk => ⟨trivial, hk.2⟩))).1 k_ hk_.symm) ?aF ?aO ?aB ?aS ?aL ?_
                  (case aP => exact Kd.M_row (Kd.R_mono (Kd.R_tight rfl (Kd.R_mono (ok' := fun k_ => ((fun _ => True)) k_ ∧ some k_ ≠ (u3 : Value).ownBlock) (Kd.R_apart' (HO246.out) (Kd.S_typed HO_3.out) (by decide)) (fun k_ hk => ⟨trivial, hk.2⟩))) (fun _ h_ => h_)))
                  (case aB => exact (by repeat (first | (with_reducible first | exact HB.out | apply below_alloc | apply pw_below_drewN | apply below_drew1) | exact HB.out)))
                  (case aF => exact (fun _ _ => trivial))
                  (case aO => exact (by (with_reducible repeat (first | apply Kd.S_alloc | apply Kd.S_drewN | apply Kd.S_drew)); exact Kd.S_mono HO_3.out (fun k_ hk => ⟨trivial, fun e_ => hk.2 e_⟩)))
                  (case aS => exact (below_size (by repeat (first | (with_reducible first | exact HB.out | apply below_alloc | apply pw_below_drewN | apply below_drew1) | exact HB.out))))
                  (case aL => have := LMc9.out; omega)
                  intro v248 w14 ho hb hg hat
                  rw [← Ny247.out] at ho
                  have n0_ := Aside0.mk (hb)
                  have n1_ := Aside0.mk (ho)
                  clear HB
                  clear HO_3
                  clear HO246
                  have HB := n0_
                  have HO249 := n1_
                  clear n0_ n1_
                  clear ho hb hg hat
                  refine hK.out _ _ ⟨((HB.out.cell (World.block_lt_of_cell? w _ hw240_0)).trans hw240_0), ((HB.out.cell (World.block_lt_of_cell? w _ hw240_1)).trans hw240_1), ((HB.out.cell (World.block_lt_of_cell? w _ hw240_2)).trans hw240_2), ((HB.out.cell (World.block_lt_of_cell? w _ hw241_0)).trans hw241_0), ((HB.out.cell (World.block_lt_of_cell? w _ hw241_1)).trans hw241_1), ((HB.out.cell (World.block_lt_of_cell? w _ hw241_2)).trans hw241_2), ((HB.out.cell (World.block_lt_of_cell? w _ hw242_0)).trans hw242_0), ((HB.out.cell (World.block_lt_of_cell? w _ hw242_1)).trans hw242_1), ((HB.out.cell (World.block_lt_of_cell? w _ hw242_2)).trans hw242_2)⟩ (fun hHeld => ?_)
                  clear hK K
                  refine norm_ (a' := ?_) ?_ ?_
                  rotate_left
                  · show Act.put _ (some 43) _ = _
                    simp only [Act.put, List.setIfInBounds_toArray, List.set_cons_zero, List.set_cons_succ, i64_w, i32_w]
                    rfl
                  refine pure_ (i := 25) (N := some 3) (v := ?_) (a' := ?_) #[true, true, true, true, true, true, true, true, true, true, true, true, true, true, true, true, true, true, true, true, true, true, true, true, true, true] rfl rfl (any_of HT_.out (by kernel_rfl)) (fun _ _ _ h => h) (Or.inl ⟨by rfl, ?_⟩) ?_ ?_
                  rotate_left
                  · intro w'
                    go_simp
                    with_reducible rfl
                  rotate_left
                  · simp only [Act.put, List.setIfInBounds_toArray, List.set_cons_zero, List.set_cons_succ, i64_w, i32_w]
                    rfl
                  refine done_ (done_of HT_.out (by kernel_rfl)) ?_
                  try go_wp2
                  go_roundg k1
                  case measure => have := HK1.out; omega
                  case rel => exact ⟨(y247), (wrap64 (x4_1 + 1)), (by first | rfl | (simp; done) | (simp [*]; done)), H', ⟨by have := HK1.out; omega⟩, ⟨by (with_reducible repeat (first | apply Kd.S_alloc | apply Kd.S_drewN | apply Kd.S_drew)); exact HO249.out⟩, ⟨by repeat (first | (with_reducible first | exact HB.out | apply below_alloc | apply pw_below_drewN | apply below_drew1) | exact HB.out)⟩⟩
                · rw [if_neg c9] at H
                  exact absurd H (by simp)
              · rw [if_neg c7] at H
                exact absurd H (by simp)
            · rw [if_neg c6] at H
              exact absurd H (by simp)
          · replace c5 := Bool.eq_false_iff.mpr c5
            subst c5
            have H1 : (some (⟨#[]⟩ : ByteArray)) = some r := by rw [if_neg (show ¬ (false = true) by decide)] at H; exact H
            clear H
            have H := H1
            clear H1
            obtain rfl := Option.some.inj H
            have p238 : 0 ≤ (x4_1 : Int) := of_decide_eq_true (by first | (with_reducible assumption) | assumption)
            have q238 : x4_1 < (l0.length : Int) := of_decide_eq_true (by first | (with_reducible assumption) | assumption)
            obtain ⟨ad238, e238, hx238_0, hx238_1, hx238_2⟩ := at_T30 HR0.out x4_1 p238 q238
            cases e238
            replace hx238_0 := (HB.out.cell (World.block_lt_of_cell? w _ hx238_0)).trans hx238_0
            replace hx238_1 := (HB.out.cell (World.block_lt_of_cell? w _ hx238_1)).trans hx238_1
            replace hx238_2 := (HB.out.cell (World.block_lt_of_cell? w _ hx238_2)).trans hx238_2
            replace p238 := eq_true p238
            replace q238 := eq_true q238
            go_wp2_with (first | ((with_reducible refine gate_callee (f := 13) rfl ?_); refine goesL_ (some 16) rfl rfl Tryz.func13 (by kernel_rfl) rfl #[.agg #[.string ((rd_T30 l0 x4_1).f0), .string ((rd_T30 l0 x4_1).f1), .int .i64 ((rd_T30 l0 x4_1).f2)]] rfl (by (try simp only [List.map_toArray, List.map_cons, List.map_nil]); first | done | rfl | (simp only [List.length_drop, List.length_take]; rfl)) ?_; (with_reducible refine (keelsonref8_Right.calls k1 ((rd_T30 l0 x4_1).f0) ((rd_T30 l0 x4_1).f1) ((rd_T30 l0 x4_1).f2) false _ A4.out).mono ?_); rintro e w16 ⟨rfl, hb⟩; refine ⟨_, rfl, ?_⟩; have n0_ := Aside0.mk (Kd.S_below (by (with_reducible repeat (first | apply Kd.S_alloc | apply Kd.S_drewN | apply Kd.S_drew)); exact HO_3.out) hb); have n1_ := Aside0.mk (below_step (by repeat (first | (with_reducible first | exact HB.out | apply below_alloc | apply pw_below_drewN | apply below_drew1) | exact HB.out)) hb); clear HO_3; clear HB; have HO_3 := n0_; have HB := n1_; clear n0_ n1_; (try clear hb); (try clear hb2); (try clear hk); (try clear hi)))
            go_ret
            exact ⟨by first | rfl | (simp [errW_none, errW_some] <;> rfl) | (simp [*, errW_none, errW_some] <;> rfl), by repeat (first | (with_reducible first | exact HB.out | apply below_alloc | apply pw_below_drewN | apply below_drew1) | exact HB.out)⟩
        · rw [if_neg c3] at H
          exact absurd H (by simp)
      · rw [if_neg c2] at H
        have c2b0 : decide (x4_1 < (l0.length : Int)) = false := decide_eq_false c2
        clear c2
        by_cases c17 : (l0.length : Int) > 64
        · rw [if_pos c17] at H
          have c17b0 : decide (64 < (l0.length : Int)) = true := decide_eq_true c17
          have c17b1 : decide (64 < l0.length) = true := decide_eq_true (by omega)
          clear c17
          obtain rfl := Option.some.inj H
          go_wp2
          go_ret
          exact ⟨by first | rfl | (simp [errW_none, errW_some] <;> rfl) | (simp [*, errW_none, errW_some] <;> rfl), by repeat (first | (with_reducible first | exact HB.out | apply below_alloc | apply pw_below_drewN | apply below_drew1) | exact HB.out)⟩
        · rw [if_neg c17] at H
          have c17b0 : decide (64 < (l0.length : Int)) = false := decide_eq_false c17
          have c17b1 : decide (64 < l0.length) = false := decide_eq_false (by omega)
          clear c17
          replace H := Option.bind_eq_some_iff.mp H
          obtain ⟨t237, A180, H⟩ := H
          replace H : (some t237) = some r := H
          have A18 := Aside0.mk A180
          clear A180
          obtain rfl := Option.some.inj H
          obtain ⟨Ao19, co19, eo19⟩ := Kd.S_slice HO_3.out
          subst eo19
          go_wp2_with (first | ((with_reducible refine gate_callee (f := 34) rfl ?_); refine goesL_ (some 48) rfl rfl Tryz.func34 (by kernel_rfl) rfl #[.slice Ao19 x3_1.length co19] rfl (by (try simp only [List.map_toArray, List.map_cons, List.map_nil]); first | done | rfl | (simp only [List.length_drop, List.length_take]; rfl)) ?_; (with_reducible refine (keelsonref5_Print.calls k1 _ _ x3_1 t237 _ ?side1 ?side2 A18.out).mono ?_); (case side1 => repeat (first | exact (Kd.S_reads' HO_3.out).2.2 | (with_reducible refine Kd.C_alloc ?_ _) | (with_reducible refine Kd.C_drewN ?_ _) | (with_reducible refine Kd.C_drew ?_))); (case side2 => exact (Kd.S_reads' HO_3.out).2.1); rintro e w20 ⟨rfl, hb⟩; refine ⟨_, rfl, ?_⟩; have n0_ := Aside0.mk (Kd.S_below (by (with_reducible repeat (first | apply Kd.S_alloc | apply Kd.S_drewN | apply Kd.S_drew)); exact HO_3.out) hb); have n1_ := Aside0.mk (below_step (by repeat (first | (with_reducible first | exact HB.out | apply below_alloc | apply pw_below_drewN | apply below_drew1) | exact HB.out)) hb); clear HO_3; clear HB; have HO_3 := n0_; have HB := n1_; clear n0_ n1_; (try clear hb); (try clear hb2); (try clear hk); (try clear hi)))
          go_ret
          exact ⟨by first | rfl | (simp [errW_none, errW_some] <;> rfl) | (simp [*, errW_none, errW_some] <;> rfl), by repeat (first | (with_reducible first | exact HB.out | apply below_alloc | apply pw_below_drewN | apply below_drew1) | exact HB.out)⟩

end Go.Proofs.YtlcfpmdamehopaaGreatDoor.PA
-- Printed by gprint.py (wip/ of this repo), over the kit's print.
namespace Go.Proofs.YtlcfpmdamehopaaGreatDoor.PA
open Go.RowKit Go.Proofs.YtlcfpmdamehopaaGreatDoorW.PrintWords Go.Proofs.YtlcfpmdamehopaaGreatDoorW.PrintLast Go.Proofs.YtlcfpmdamehopaaGreatDoorW.PrintMore
attribute [local go_sem] max2_int min2_int max_two min_two max_three min_three max_four min_four   -- for this text's walks alone
set_option linter.unusedVariables false
set_option linter.unusedSimpArgs false

theorem eqA30 (d : Nat) (w : World) (x0 y0 : ByteArray) (x1 y1 : ByteArray) (x2 y2 : Int) :
    (Op.equalIn (d + 2) 30 (.agg #[.string x0, .string x1, .int .i64 x2]) (.agg #[.string y0, .string y1, .int .i64 y2])).run Tryz.prog w = .ok (x0.toList == y0.toList && (x1.toList == y1.toList && (x2 == y2))) w := by
  refine eqA_of Tryz.underlying30 (by kernel_rfl) ?_
  refine eqf_cons (by rfl) (by go_simp; rfl) (by go_simp; rfl) (by go_simp) ?_
  refine eqf_cons (by rfl) (by go_simp; rfl) (by go_simp; rfl) (by go_simp) ?_
  exact eqf_last (by rfl) (by go_simp; rfl) (by go_simp; rfl) (by go_simp)
end Go.Proofs.YtlcfpmdamehopaaGreatDoor.PA
-- Printed by gprint.py (wip/ of this repo), over the kit's print.
namespace Go.Proofs.YtlcfpmdamehopaaGreatDoor.PA
open Go.RowKit Go.Proofs.YtlcfpmdamehopaaGreatDoorW.PrintWords Go.Proofs.YtlcfpmdamehopaaGreatDoorW.PrintLast Go.Proofs.YtlcfpmdamehopaaGreatDoorW.PrintMore
attribute [local go_sem] max2_int min2_int max_two min_two max_three min_three max_four min_four   -- for this text's walks alone
set_option linter.unusedVariables false
set_option linter.unusedSimpArgs false

attribute [local go_sem high] eqA30
/-! ### keelsonlaw8_same: function 10 -/
def keelsonlaw8_same.l0 : Nat → List (S30) → List (S30) → Int → Option (Bool)
  | 0, _, _, _ => none
  | k + 1, x0, x1, x5 => if x5 < (x0.length : Int) then (if 0 ≤ x5 then (if x5 < (x1.length : Int) then (if (!((((rd_T30 x0 x5).f0).toList) == (((rd_T30 x1 x5).f0).toList)) || (!((((rd_T30 x0 x5).f1).toList) == (((rd_T30 x1 x5).f1).toList)) || (!(((rd_T30 x0 x5).f2) == ((rd_T30 x1 x5).f2))))) = true then (some false) else (keelsonlaw8_same.l0 k x0 x1 (wrap64 (x5 + 1)))) else (none)) else (none)) else (some true)
def keelsonlaw8_same.f (k : Nat) (l0 : List (S30)) (l1 : List (S30)) : Option (Bool) := if (l0.length : Int) = (l1.length : Int) then (keelsonlaw8_same.l0 k l0 l1 0) else (some false)
set_option maxHeartbeats 8000000 in
set_option maxRecDepth 100000 in
theorem keelsonlaw8_same.calls (k : Nat) (A0 : Option Addr) (c0 : Nat) (l0 : List (S30)) (A1 : Option Addr) (c1 : Nat) (l1 : List (S30)) (r : Bool) (w : World) (hr0 : Kd.C k30 w A0 l0.length l0) (hc0 : l0.length ≤ c0) (hr1 : Kd.C k30 w A1 l1.length l1) (hc1 : l1.length ≤ c1) (h : keelsonlaw8_same.f k l0 l1 = some r) :
    Calls Tryz.prog 10 #[.slice A0 l0.length c0, .slice A1 l1.length c1] w fun e w' => e = .returned (.bool r) ∧ Drawn0 w w' := by
  have hu30 := Tryz.underlying30
  have HR0 := Aside0.mk hr0
  have HC0 := Aside0.mk hc0
  clear hr0 hc0
  have HR1 := Aside0.mk hr1
  have HC1 := Aside0.mk hc1
  clear hr1 hc1
  have H : (if (l0.length : Int) = (l1.length : Int) then (keelsonlaw8_same.l0 k l0 l1 0) else (some false)) = some r := h
  clear h
  by_cases c3 : (l0.length : Int) = (l1.length : Int)
  · rw [if_pos c3] at H
    have c3b0 : ((l0.length : Int) == (l1.length : Int)) = true := beq_iff_eq.mpr c3
    have c3b1 : ((l0.length : Int) != (l1.length : Int)) = false := bne_eq_false_iff_eq.mpr c3
    have c3b2 : (l0.length == l1.length) = true := by first | simpa using c3 | (simp at c3 ⊢; omega)
    clear c3
    have H' := Aside0.mk H
    clear H
    go_enter Tryz.func10, Tryz.ntmps10
    go_wp2
    repeat (go_quiet (fail); try go_wp2)
    go_loopg [5] k (fun kq v5 w' => ∃ (x5_1 : Int), v5 = .int .i64 x5_1 ∧ Aside0 (keelsonlaw8_same.l0 kq l0 l1 x5_1 = some r) ∧ Aside0 (kq ≤ k) ∧ Drawn0 w w')
    case atStart => exact ⟨(0), (by first | rfl | (simp; done) | (simp [*]; done)), H', ⟨Nat.le_refl _⟩, by repeat (first | exact Drawn0.refl _ | apply Drawn0.step)⟩
    case round =>
      clear H'
      try clear c1
      try clear p2
      try clear c3
      try clear c3b0
      try clear c3b1
      try clear c3b2
      obtain ⟨x5_1, rfl, HA, HK1, ⟨m1, rfl⟩⟩ := hrel
      cases gk with
      | zero => exact absurd HA.out (by simp [keelsonlaw8_same.l0])
      | succ k1 =>
        have H := HA.out
        clear HA
        simp only [keelsonlaw8_same.l0] at H
        by_cases c4 : x5_1 < (l0.length : Int)
        · rw [if_pos c4] at H
          have c4b0 : decide (x5_1 < (l0.length : Int)) = true := decide_eq_true c4
          clear c4
          by_cases c5 : 0 ≤ x5_1
          · rw [if_pos c5] at H
            have c5b0 : decide (0 ≤ x5_1) = true := decide_eq_true c5
            clear c5
            by_cases c6 : x5_1 < (l1.length : Int)
            · rw [if_pos c6] at H
              have c6b0 : decide (x5_1 < (l1.length : Int)) = true := decide_eq_true c6
              clear c6
              by_cases c7 : (!((((rd_T30 l0 x5_1).f0).toList) == (((rd_T30 l1 x5_1).f0).toList)) || (!((((rd_T30 l0 x5_1).f1).toList) == (((rd_T30 l1 x5_1).f1).toList)) || (!(((rd_T30 l0 x5_1).f2) == ((rd_T30 l1 x5_1).f2))))) = true
              · rw [if_pos c7] at H
                have c7b0 : (!((((rd_T30 l0 x5_1).f0).toList) == (((rd_T30 l1 x5_1).f0).toList)) || (!((((rd_T30 l0 x5_1).f1).toList) == (((rd_T30 l1 x5_1).f1).toList)) || (!(((rd_T30 l0 x5_1).f2) == ((rd_T30 l1 x5_1).f2))))) = true := c7
                clear c7
                obtain rfl := Option.some.inj H
                have p117 : 0 ≤ (x5_1 : Int) := of_decide_eq_true (by first | (with_reducible assumption) | assumption)
                have q117 : x5_1 < (l0.length : Int) := of_decide_eq_true (by first | (with_reducible assumption) | assumption)
                obtain ⟨ad117, e117, hx117_0, hx117_1, hx117_2⟩ := at_T30 HR0.out x5_1 p117 q117
                cases e117
                replace p117 := eq_true p117
                replace q117 := eq_true q117
                have p118 : 0 ≤ (x5_1 : Int) := of_decide_eq_true (by first | (with_reducible assumption) | assumption)
                have q118 : x5_1 < (l1.length : Int) := of_decide_eq_true (by first | (with_reducible assumption) | assumption)
                obtain ⟨ad118, e118, hx118_0, hx118_1, hx118_2⟩ := at_T30 HR1.out x5_1 p118 q118
                cases e118
                replace p118 := eq_true p118
                replace q118 := eq_true q118
                go_wp2
                repeat (go_quiet (fail); try go_wp2)
                go_ret
                exact ⟨by first | rfl | (simp; done) | (simp [*]; done), by repeat (first | exact Drawn0.refl _ | apply Drawn0.step)⟩
              · rw [if_neg c7] at H
                have c7b0 : (!((((rd_T30 l0 x5_1).f0).toList) == (((rd_T30 l1 x5_1).f0).toList)) || (!((((rd_T30 l0 x5_1).f1).toList) == (((rd_T30 l1 x5_1).f1).toList)) || (!(((rd_T30 l0 x5_1).f2) == ((rd_T30 l1 x5_1).f2))))) = false := by simpa using c7
                clear c7
                have H' := Aside0.mk H
                clear H
                have p117 : 0 ≤ (x5_1 : Int) := of_decide_eq_true (by first | (with_reducible assumption) | assumption)
                have q117 : x5_1 < (l0.length : Int) := of_decide_eq_true (by first | (with_reducible assumption) | assumption)
                obtain ⟨ad117, e117, hx117_0, hx117_1, hx117_2⟩ := at_T30 HR0.out x5_1 p117 q117
                cases e117
                replace p117 := eq_true p117
                replace q117 := eq_true q117
                have p118 : 0 ≤ (x5_1 : Int) := of_decide_eq_true (by first | (with_reducible assumption) | assumption)
                have q118 : x5_1 < (l1.length : Int) := of_decide_eq_true (by first | (with_reducible assumption) | assumption)
                obtain ⟨ad118, e118, hx118_0, hx118_1, hx118_2⟩ := at_T30 HR1.out x5_1 p118 q118
                cases e118
                replace p118 := eq_true p118
                replace q118 := eq_true q118
                go_wp2
                repeat (go_quiet (fail); try go_wp2)
                go_roundg k1
                case measure => have := HK1.out; omega
                case rel => exact ⟨(wrap64 (x5_1 + 1)), (by first | rfl | (simp; done) | (simp [*]; done)), H', ⟨by have := HK1.out; omega⟩, by repeat (first | exact Drawn0.refl _ | apply Drawn0.step)⟩
            · rw [if_neg c6] at H
              exact absurd H (by simp)
          · rw [if_neg c5] at H
            exact absurd H (by simp)
        · rw [if_neg c4] at H
          have c4b0 : decide (x5_1 < (l0.length : Int)) = false := decide_eq_false c4
          clear c4
          obtain rfl := Option.some.inj H
          go_wp2
          repeat (go_quiet (fail); try go_wp2)
          go_ret
          exact ⟨by first | rfl | (simp; done) | (simp [*]; done), by repeat (first | exact Drawn0.refl _ | apply Drawn0.step)⟩
  · rw [if_neg c3] at H
    have c3b0 : ((l0.length : Int) == (l1.length : Int)) = false := beq_eq_false_iff_ne.mpr c3
    have c3b1 : ((l0.length : Int) != (l1.length : Int)) = true := bne_iff_ne.mpr c3
    have c3b2 : (l0.length == l1.length) = false := by first | simpa using c3 | (simp at c3 ⊢; omega)
    obtain rfl := Option.some.inj H
    go_enter Tryz.func10, Tryz.ntmps10
    go_wp2
    repeat (go_quiet (fail); try go_wp2)
    go_ret
    exact ⟨by first | rfl | (simp; done) | (simp [*]; done), by repeat (first | exact Drawn0.refl _ | apply Drawn0.step)⟩

/-! ### keelsonlaw8_small: function 11 -/
def keelsonlaw8_small.l0 : Nat → List (S30) → Int → Option (Bool)
  | 0, _, _ => none
  | k + 1, x0, x3 => if x3 < (x0.length : Int) then (if 0 ≤ x3 then (if (((rd_T30 x0 x3).f0).size : Int) > 100 then (some false) else (if (((rd_T30 x0 x3).f1).size : Int) > 100 then (some false) else (keelsonlaw8_small.l0 k x0 (wrap64 (x3 + 1))))) else (none)) else (some true)
def keelsonlaw8_small.f (k : Nat) (l0 : List (S30)) : Option (Bool) := if (l0.length : Int) > 70 then (some false) else (keelsonlaw8_small.l0 k l0 0)
set_option maxHeartbeats 8000000 in
set_option maxRecDepth 100000 in
theorem keelsonlaw8_small.calls (k : Nat) (A0 : Option Addr) (c0 : Nat) (l0 : List (S30)) (r : Bool) (w : World) (hr0 : Kd.C k30 w A0 l0.length l0) (hc0 : l0.length ≤ c0) (h : keelsonlaw8_small.f k l0 = some r) :
    Calls Tryz.prog 11 #[.slice A0 l0.length c0] w fun e w' => e = .returned (.bool r) ∧ Drawn0 w w' := by
  have HR0 := Aside0.mk hr0
  have HC0 := Aside0.mk hc0
  clear hr0 hc0
  have H : (if (l0.length : Int) > 70 then (some false) else (keelsonlaw8_small.l0 k l0 0)) = some r := h
  clear h
  by_cases c2 : (l0.length : Int) > 70
  · rw [if_pos c2] at H
    have c2b0 : decide (70 < (l0.length : Int)) = true := decide_eq_true c2
    have c2b1 : decide (70 < l0.length) = true := decide_eq_true (by omega)
    clear c2
    obtain rfl := Option.some.inj H
    go_enter Tryz.func11, Tryz.ntmps11
    go_wp2
    go_ret
    exact ⟨by first | rfl | (simp; done) | (simp [*]; done), by repeat (first | exact Drawn0.refl _ | apply Drawn0.step)⟩
  · rw [if_neg c2] at H
    have c2b0 : decide (70 < (l0.length : Int)) = false := decide_eq_false c2
    have c2b1 : decide (70 < l0.length) = false := decide_eq_false (by omega)
    clear c2
    have H' := Aside0.mk H
    clear H
    go_enter Tryz.func11, Tryz.ntmps11
    go_wp2
    go_loopg [3] k (fun kq v3 w' => ∃ (x3_1 : Int), v3 = .int .i64 x3_1 ∧ Aside0 (keelsonlaw8_small.l0 kq l0 x3_1 = some r) ∧ Aside0 (kq ≤ k) ∧ Drawn0 w w')
    case atStart => exact ⟨(0), (by first | rfl | (simp; done) | (simp [*]; done)), H', ⟨Nat.le_refl _⟩, by repeat (first | exact Drawn0.refl _ | apply Drawn0.step)⟩
    case round =>
      clear H'
      try clear c1
      try clear c2
      try clear c2b0
      try clear c2b1
      try clear p2
      obtain ⟨x3_1, rfl, HA, HK1, ⟨m1, rfl⟩⟩ := hrel
      cases gk with
      | zero => exact absurd HA.out (by simp [keelsonlaw8_small.l0])
      | succ k1 =>
        have H := HA.out
        clear HA
        simp only [keelsonlaw8_small.l0] at H
        by_cases c3 : x3_1 < (l0.length : Int)
        · rw [if_pos c3] at H
          have c3b0 : decide (x3_1 < (l0.length : Int)) = true := decide_eq_true c3
          clear c3
          by_cases c4 : 0 ≤ x3_1
          · rw [if_pos c4] at H
            have c4b0 : decide (0 ≤ x3_1) = true := decide_eq_true c4
            clear c4
            by_cases c5 : (((rd_T30 l0 x3_1).f0).size : Int) > 100
            · rw [if_pos c5] at H
              have c5b0 : decide (100 < (((rd_T30 l0 x3_1).f0).size : Int)) = true := decide_eq_true c5
              have c5b1 : decide (100 < ((rd_T30 l0 x3_1).f0).size) = true := decide_eq_true (by omega)
              clear c5
              obtain rfl := Option.some.inj H
              have p195 : 0 ≤ (x3_1 : Int) := of_decide_eq_true (by first | (with_reducible assumption) | assumption)
              have q195 : x3_1 < (l0.length : Int) := of_decide_eq_true (by first | (with_reducible assumption) | assumption)
              obtain ⟨ad195, e195, hx195_0, hx195_1, hx195_2⟩ := at_T30 HR0.out x3_1 p195 q195
              cases e195
              replace p195 := eq_true p195
              replace q195 := eq_true q195
              go_wp2
              go_ret
              exact ⟨by first | rfl | (simp; done) | (simp [*]; done), by repeat (first | exact Drawn0.refl _ | apply Drawn0.step)⟩
            · rw [if_neg c5] at H
              have c5b0 : decide (100 < (((rd_T30 l0 x3_1).f0).size : Int)) = false := decide_eq_false c5
              have c5b1 : decide (100 < ((rd_T30 l0 x3_1).f0).size) = false := decide_eq_false (by omega)
              clear c5
              by_cases c6 : (((rd_T30 l0 x3_1).f1).size : Int) > 100
              · rw [if_pos c6] at H
                have c6b0 : decide (100 < (((rd_T30 l0 x3_1).f1).size : Int)) = true := decide_eq_true c6
                have c6b1 : decide (100 < ((rd_T30 l0 x3_1).f1).size) = true := decide_eq_true (by omega)
                clear c6
                obtain rfl := Option.some.inj H
                have p195 : 0 ≤ (x3_1 : Int) := of_decide_eq_true (by first | (with_reducible assumption) | assumption)
                have q195 : x3_1 < (l0.length : Int) := of_decide_eq_true (by first | (with_reducible assumption) | assumption)
                obtain ⟨ad195, e195, hx195_0, hx195_1, hx195_2⟩ := at_T30 HR0.out x3_1 p195 q195
                cases e195
                replace p195 := eq_true p195
                replace q195 := eq_true q195
                have p196 : 0 ≤ (x3_1 : Int) := of_decide_eq_true (by first | (with_reducible assumption) | assumption)
                have q196 : x3_1 < (l0.length : Int) := of_decide_eq_true (by first | (with_reducible assumption) | assumption)
                obtain ⟨ad196, e196, hx196_0, hx196_1, hx196_2⟩ := at_T30 HR0.out x3_1 p196 q196
                obtain rfl : ad195 = ad196 := (by injection e196)
                replace p196 := eq_true p196
                replace q196 := eq_true q196
                go_wp2
                go_ret
                exact ⟨by first | rfl | (simp; done) | (simp [*]; done), by repeat (first | exact Drawn0.refl _ | apply Drawn0.step)⟩
              · rw [if_neg c6] at H
                have c6b0 : decide (100 < (((rd_T30 l0 x3_1).f1).size : Int)) = false := decide_eq_false c6
                have c6b1 : decide (100 < ((rd_T30 l0 x3_1).f1).size) = false := decide_eq_false (by omega)
                clear c6
                have H' := Aside0.mk H
                clear H
                have p195 : 0 ≤ (x3_1 : Int) := of_decide_eq_true (by first | (with_reducible assumption) | assumption)
                have q195 : x3_1 < (l0.length : Int) := of_decide_eq_true (by first | (with_reducible assumption) | assumption)
                obtain ⟨ad195, e195, hx195_0, hx195_1, hx195_2⟩ := at_T30 HR0.out x3_1 p195 q195
                cases e195
                replace p195 := eq_true p195
                replace q195 := eq_true q195
                have p196 : 0 ≤ (x3_1 : Int) := of_decide_eq_true (by first | (with_reducible assumption) | assumption)
                have q196 : x3_1 < (l0.length : Int) := of_decide_eq_true (by first | (with_reducible assumption) | assumption)
                obtain ⟨ad196, e196, hx196_0, hx196_1, hx196_2⟩ := at_T30 HR0.out x3_1 p196 q196
                obtain rfl : ad195 = ad196 := (by injection e196)
                replace p196 := eq_true p196
                replace q196 := eq_true q196
                go_wp2
                go_roundg k1
                case measure => have := HK1.out; omega
                case rel => exact ⟨(wrap64 (x3_1 + 1)), (by first | rfl | (simp; done) | (simp [*]; done)), H', ⟨by have := HK1.out; omega⟩, by repeat (first | exact Drawn0.refl _ | apply Drawn0.step)⟩
          · rw [if_neg c4] at H
            exact absurd H (by simp)
        · rw [if_neg c3] at H
          have c3b0 : decide (x3_1 < (l0.length : Int)) = false := decide_eq_false c3
          clear c3
          obtain rfl := Option.some.inj H
          go_wp2
          go_ret
          exact ⟨by first | rfl | (simp; done) | (simp [*]; done), by repeat (first | exact Drawn0.refl _ | apply Drawn0.step)⟩

end Go.Proofs.YtlcfpmdamehopaaGreatDoor.PA
/- Pins' texts in program and reference: what is parsed and printed; what was printed is parsed as it was; as plain functions. Conditions: sizes that fit. -/
namespace Go.Proofs.YtlcfpmdamehopaaGreatDoor.PA
open Go.RowKit Go.Proofs.YtlcfpmdamehopaaGreatDoorW.PrintWords Go.Proofs.YtlcfpmdamehopaaGreatDoorW.PrintLast Go.Proofs.YtlcfpmdamehopaaGreatDoorW.PrintMore

theorem lines_consP (c : UInt8) (s : List UInt8) : linesL (c :: s) = if c.toNat = 10 then [] :: linesL s else match linesL s with | l :: ls => (c :: l) :: ls | [] => [[c]] := by rw [linesL]; rfl
theorem lines_total : ∀ s : List UInt8, ((linesL s).map List.length).sum ≤ s.length := by
  intro s
  induction s with
  | nil => simp [linesL]
  | cons c s ih =>
    rw [lines_consP]
    split
    · simp only [List.map_cons, List.sum_cons, List.length_nil, List.length_cons]; omega
    · cases h : linesL s with
      | nil => exact absurd h (lines_ne s)
      | cons l ls =>
        rw [h] at ih
        simp only [List.map_cons, List.sum_cons, List.length_cons] at ih ⊢; omega
theorem read_vals : ∀ (ss : List (List UInt8)) (i : Nat) (l : List (List Fd)) (o : Bool) (N : Nat), FineR l o → ValsLe N l → ValsLe (N + (ss.map List.length).sum) (readG ss i l o).1 := by
  intro ss
  induction ss with
  | nil => intro i l o N _ h; exact h
  | cons s ss ih =>
    intro i l o N hF h
    unfold readG
    cases e : lineG l o s with
    | error q => exact fun st hst => by cases hst
    | ok p =>
      have := ih (i + 1) p.1 p.2 (N + s.length) (fine_line hF e) (vals_line h hF.2.2 e)
      rw [Nat.add_assoc] at this
      exact this
theorem parse_vals (s : List UInt8) : ValsLe 60000 (parseL s).1 := by
  unfold parseL
  split
  · exact fun st hst => by cases hst
  · rename_i h
    intro st hst f hf
    have := read_vals (linesL s) 0 [] false 0 fine_start (vals_start 0) st hst f hf
    have := lines_total s
    omega
abbrev Pn := S30
def pinS (q : ByteArray × ByteArray × Int × Int) : Pn := ⟨q.1, q.2.1, q.2.2.1⟩
def pinsG : List (List Fd) → Nat → List Pn → List Pn × Int × Int
  | [], _, acc => (acc, 0, 0)
  | st :: r, i, acc => if (pinG st).2.2.2 = 0 then pinsG r (i + 1) (acc ++ [pinS (pinG st)]) else ([], (i : Int) + 1, (pinG st).2.2.2)
def parseP (s : List UInt8) : List Pn × Int × Int := if (parseL s).2.2 = 0 then (if (parseL s).1.length > 64 then ([], 0, 8) else pinsG (parseL s).1 0 []) else ([], (parseL s).2.1, (parseL s).2.2)
theorem pparse_loop (l : List (List Fd)) (hl : l.length ≤ 200) (hv : ∀ st ∈ l, ∀ f ∈ st, f.f1.size ≤ 1000000) (d : Nat) : ∀ (i : Nat) (acc : List Pn), i + d = l.length → acc.length = i → Ev (fun k => pins_Parse.l0 k acc l (l.length : Int) (i : Int)) (pinsG (l.drop i) i acc) := by
  induction d with
  | zero =>
    intro i acc hi ha
    refine Ev.succ ?_
    simp only [pins_Parse.l0]
    rw [List.drop_eq_nil_of_le (by omega)]
    exact Ev.neg (by omega) (Ev.some rfl)
  | succ d ih =>
    intro i acc hi ha
    have hil : i < l.length := by omega
    refine Ev.succ ?_
    simp only [pins_Parse.l0]
    rw [wrap_step hil (by omega), rdL_nat l i hil, List.drop_eq_getElem_cons hil, pinsG]
    refine Ev.pos (by omega) (Ev.pos (by omega) (Ev.pos (by omega) (Ev.call (read_is _ (hv _ (List.getElem_mem hil))) ?_)))
    by_cases h : (pinG l[i]).2.2.2 = 0
    · rw [if_pos h]
      exact Ev.pos h (Ev.pos (by omega) (ih (i + 1) _ (by omega) (by simp [ha])))
    · rw [if_neg h]
      exact Ev.neg h (Ev.some (by rw [show ((i + 1 : Nat) : Int) = (i : Int) + 1 from by omega]))
theorem pparse_ev (s : ByteArray) : Ev (fun k => pins_Parse.f k s) (parseP s.data.toList) := by
  have h1 : stanza_Parse.f s = some (parseL s.data.toList) := rfl
  have hf := parse_fine s.data.toList
  have hv := parse_vals s.data.toList
  unfold pins_Parse.f parseP
  refine Ev.call h1 ?_
  generalize parseL s.data.toList = p at *
  by_cases h0 : p.2.2 = 0
  · rw [if_pos h0]
    refine Ev.pos h0 ?_
    by_cases h64 : p.1.length > 64
    · rw [if_pos h64]; exact Ev.pos (by omega) (Ev.some rfl)
    · rw [if_neg h64]
      have := pparse_loop p.1 (by omega) (fun st hst f hf => by have := hv st hst f hf; omega) p.1.length 0 [] (by omega) rfl
      rw [List.drop_zero] at this
      exact Ev.neg (by omega) this
  · rw [if_neg h0]; exact Ev.neg h0 (Ev.some rfl)
theorem rdP_nat (l : List Pn) (i : Nat) (h : i < l.length) : rd_T30 l (i : Int) = l[i] := by
  unfold rd_T30; simp [List.getD_eq_getElem?_getD, List.getElem?_eq_getElem h]
theorem same8_loop (a : List Pn) (hn : a.length ≤ 1000000) (d : Nat) : ∀ i : Nat, i + d = a.length → Ev (fun k => keelsonlaw8_same.l0 k a a (i : Int)) true := by
  induction d with
  | zero =>
    intro i hi
    refine Ev.succ ?_
    simp only [keelsonlaw8_same.l0]
    exact Ev.neg (by omega) (Ev.some rfl)
  | succ d ih =>
    intro i hi
    have hil : i < a.length := by omega
    refine Ev.succ ?_
    simp only [keelsonlaw8_same.l0]
    rw [wrap_step hil (by omega)]
    exact Ev.pos (by omega) (Ev.pos (by omega) (Ev.pos (by omega) (Ev.neg (by simp) (ih (i + 1) (by omega)))))
theorem same8_ev (a : List Pn) (hn : a.length ≤ 1000000) : Ev (fun k => keelsonlaw8_same.f k a a) true := by
  unfold keelsonlaw8_same.f
  exact Ev.pos rfl (same8_loop a hn a.length 0 (by omega))
def rightQ (p : Pn) : Bool := rightP p.f0 p.f1 p.f2
end Go.Proofs.YtlcfpmdamehopaaGreatDoor.PA
/- A pin's stanza is read as that pin; as plain functions. No condition. -/
namespace Go.Proofs.YtlcfpmdamehopaaGreatDoor.PA
open Go.RowKit Go.Proofs.YtlcfpmdamehopaaGreatDoorW.PrintWords Go.Proofs.YtlcfpmdamehopaaGreatDoorW.PrintLast Go.Proofs.YtlcfpmdamehopaaGreatDoorW.PrintMore

def pinV (y : ByteArray) : ByteArray := (headB ++ y) ++ starB
def stPin (p : Pn) : List Fd := [⟨kPack, p.f0⟩, ⟨kPin, pinV p.f1⟩, ⟨kPrio, itoaB p.f2⟩]
theorem right_parts {x y : ByteArray} {z : Int} (h : rightP x y z = true) : (∀ c ∈ y.data.toList, oddC (c.toNat : Int) = false) ∧ (x = starB ∨ relL x.data.toList = true) ∧ y.size ≤ 60 ∧ -1000 ≤ z ∧ z ≤ 1000 := by
  rw [right_split] at h
  unfold okTail at h
  simp only [Bool.and_eq_true, Bool.or_eq_true, decide_eq_true_iff, Bool.not_eq_true', List.any_eq_false] at h
  obtain ⟨h1, ⟨⟨h2, h3⟩, h4⟩, h5⟩ := h
  exact ⟨fun c hc => Bool.eq_false_iff.2 (h1 c hc), h2, h3, h4, h5⟩
theorem pinV_size (y : ByteArray) : (pinV y).size = 9 + y.size := by
  unfold pinV
  rw [ByteArray.size_append, ByteArray.size_append, show headB.size = 8 from rfl, show starB.size = 1 from rfl]; omega
theorem pinV_list (y : ByteArray) : (pinV y).data.toList = headB.data.toList ++ y.data.toList ++ [42] := by
  unfold pinV
  rw [ByteArray.data_append, ByteArray.data_append, Array.toList_append, Array.toList_append]; rfl
theorem pack_pin : ¬ kPack = kPin := by decide
theorem pack_prio : ¬ kPack = kPrio := by decide
theorem pin_prio : ¬ kPin = kPrio := by decide
theorem getG_hit (f : Fd) (r : List Fd) (n : ByteArray) (h : f.f0 = n) : getG (f :: r) n = some f.f1 := by rw [getG_cons, if_pos h]
theorem getG_miss (f : Fd) (r : List Fd) (n : ByteArray) (h : ¬ f.f0 = n) : getG (f :: r) n = getG r n := by rw [getG_cons, if_neg h]
theorem pin_back (p : Pn) (h : rightQ p = true) : pinG (stPin p) = (p.f0, p.f1, p.f2, 0) := by
  obtain ⟨h1, h2, h3, h4⟩ := right_parts h
  have e1 : getG (stPin p) kPack = some p.f0 := getG_hit _ _ _ rfl
  have e2 : getG (stPin p) kPin = some (pinV p.f1) := by unfold stPin; rw [getG_miss _ _ _ pack_pin, getG_hit _ _ _ rfl]
  have e3 : getG (stPin p) kPrio = some (itoaB p.f2) := by unfold stPin; rw [getG_miss _ _ _ pack_prio, getG_miss _ _ _ pin_prio, getG_hit _ _ _ rfl]
  unfold pinG valG
  rw [e1, e2, e3]
  simp only [Option.isSome_some, Bool.and_self, if_true, Option.getD_some]
  have hl := pinV_list p.f1
  have hs := pinV_size p.f1
  have hfit : fitsV (pinV p.f1) = true := by
    unfold fitsV
    have t8 : (headB.data.toList ++ p.f1.data.toList ++ [42]).take 8 = headB.data.toList := by
      rw [List.append_assoc, List.take_append_of_le_length (by decide)]; rfl
    rw [hl, t8, List.getLast?_append]
    rw [decide_eq_true (show 9 ≤ (pinV p.f1).size by omega)]
    simp
  have hcut : cutV (pinV p.f1) = p.f1 := by
    refine bytes_injQ ?_
    rw [cut_is, hl, hs, List.append_assoc, List.drop_append_of_le_length (by decide)]
    rw [show headB.data.toList.drop 8 = [] from rfl, List.nil_append]
    rw [show 9 + p.f1.size - 1 - 8 = p.f1.data.toList.length by rw [data_length]; omega]
    exact List.take_left
  rw [readF_is, hcut, prio_hit p.f2 h4.1 h4.2]
  exact if_pos ⟨hfit, rfl, h⟩
theorem pinsG_back : ∀ (l : List Pn) (i : Nat) (acc : List Pn), (∀ p ∈ l, rightQ p = true) → pinsG (l.map stPin) i acc = (acc ++ l, 0, 0) := by
  intro l
  induction l with
  | nil => intro i acc _; rw [List.map_nil, pinsG, List.append_nil]
  | cons p r ih =>
    intro i acc h
    rw [List.map_cons, pinsG, pin_back p (h p List.mem_cons_self)]
    rw [if_pos rfl, ih _ _ (fun q hq => h q (List.mem_cons_of_mem _ hq)), List.append_assoc]
    rfl
end Go.Proofs.YtlcfpmdamehopaaGreatDoor.PA
/- keelson/pins.first, Priority, Matches: what they come to. No condition. -/
namespace Go.Proofs.YtlcfpmdamehopaaGreatDoor.PA
open Go.RowKit Go.Proofs.YtlcfpmdamehopaaGreatDoorW.PrintWords Go.Proofs.YtlcfpmdamehopaaGreatDoorW.PrintLast Go.Proofs.YtlcfpmdamehopaaGreatDoorW.PrintMore

def namedB (n v : ByteArray) (p : S30) : Bool := decide (p.f0 = n) && Lib.hasPrefix v.data.toList p.f1.data.toList
def wideB (v : ByteArray) (p : S30) : Bool := decide (p.f0 = starB) && Lib.hasPrefix v.data.toList p.f1.data.toList
theorem named_any (n v : ByteArray) (p : S30) (W : World) : Calls Tryz.prog 51 #[.agg #[.string p.f0, .string p.f1, .int .i64 p.f2], .string n, .string v] W fun e w' => e = .returned (.bool (namedB n v p)) ∧ Below W.heap.size W w' := by
  obtain ⟨x, y, z⟩ := p
  unfold namedB
  dsimp only
  have hp := Tryz.strings_HasPrefix v y
  have hse := str_eqB x n
  generalize Lib.hasPrefix v.data.toList y.data.toList = b at hp ⊢
  generalize decide (x = n) = c at hse ⊢
  cases c with
  | false =>
    go_enter Tryz.func51, Tryz.ntmps51
    go_wp2_with (go_at_call 92; with_reducible refine (hp _).mono ?_; rintro e w' ⟨rfl, rfl⟩)
    go_ret
    exact ⟨rfl, (Below.refl _ W).alloc (Nat.le_refl _) _⟩
  | true =>
    go_enter Tryz.func51, Tryz.ntmps51
    go_wp2_with (go_at_call 92; with_reducible refine (hp _).mono ?_; rintro e w' ⟨rfl, rfl⟩)
    go_ret
    exact ⟨rfl, (Below.refl _ W).alloc (Nat.le_refl _) _⟩
theorem wide_any (n v : ByteArray) (p : S30) (W : World) : Calls Tryz.prog 52 #[.agg #[.string p.f0, .string p.f1, .int .i64 p.f2], .string n, .string v] W fun e w' => e = .returned (.bool (wideB v p)) ∧ Below W.heap.size W w' := by
  obtain ⟨x, y, z⟩ := p
  unfold wideB
  dsimp only
  have hp := Tryz.strings_HasPrefix v y
  have hse := star_eq x
  generalize Lib.hasPrefix v.data.toList y.data.toList = b at hp ⊢
  generalize decide (x = starB) = c at hse ⊢
  cases c with
  | false =>
    go_enter Tryz.func52, Tryz.ntmps52
    go_wp2_with (go_at_call 92; with_reducible refine (hp _).mono ?_; rintro e w' ⟨rfl, rfl⟩)
    go_ret
    exact ⟨rfl, (Below.refl _ W).alloc (Nat.le_refl _) _⟩
  | true =>
    go_enter Tryz.func52, Tryz.ntmps52
    go_wp2_with (go_at_call 92; with_reducible refine (hp _).mono ?_; rintro e w' ⟨rfl, rfl⟩)
    go_ret
    exact ⟨rfl, (Below.refl _ W).alloc (Nat.le_refl _) _⟩
/-- A function value of those two, and what it says. -/
def SaysP (g : Nat) (n v : ByteArray) (q : S30 → Bool) : Prop := (∀ args w, (callFunc g args).run Tryz.prog w = .ok (.enter g args) w) ∧ ∀ (p : S30) (W : World), Calls Tryz.prog g #[.agg #[.string p.f0, .string p.f1, .int .i64 p.f2], .string n, .string v] W fun e w' => e = .returned (.bool (q p)) ∧ Below W.heap.size W w'
theorem named_says (n v : ByteArray) : SaysP 51 n v (namedB n v) := ⟨enters_of Tryz.func51 (by kernel_rfl) rfl, named_any n v⟩
theorem wide_says (n v : ByteArray) : SaysP 52 n v (wideB v) := ⟨enters_of Tryz.func52 (by kernel_rfl) rfl, wide_any n v⟩
theorem first1_enters : ∀ args w, (callFunc 91 args).run Tryz.prog w = .ok (.enter 91 args) w := enters_of Tryz.func91 (by kernel_rfl) rfl
set_option maxHeartbeats 400000 in
theorem first1_any (g : Nat) (n v : ByteArray) (q : S30 → Bool) (hg : SaysP g n v q) (p : S30) (ps pn pv : Addr) (W : World) (h1 : W.cell? ps = some (.func (.func g) #[] #[])) (h2 : W.cell? pn = some (.string n)) (h3 : W.cell? pv = some (.string v)) :
    Calls Tryz.prog 91 #[.agg #[.string p.f0, .string p.f1, .int .i64 p.f2], .pointer (some ps), .pointer (some pn), .pointer (some pv)] W fun e w' => e = .returned (.bool (q p)) ∧ Below W.heap.size W w' := by
  have hb1 : Below W.heap.size W (W.alloc (.cells #[.string p.f0, .string p.f1, .int .i64 p.f2] 30)) := (Below.refl _ W).alloc (Nat.le_refl _) _
  have k1 := pw_cell_below hb1 h1
  have k2 := pw_cell_below hb1 h2
  have k3 := pw_cell_below hb1 h3
  obtain ⟨eg, hc⟩ := hg
  have hc2 := fun w1 => (hc p w1)
  generalize q p = r at hc2 ⊢
  obtain ⟨x, y, z⟩ := p
  dsimp only at *
  have HB := Lib.hid hb1
  clear hb1 h1 h2 h3 hc
  go_enter Tryz.func91, Tryz.ntmps91
  go_wp2_with (go_at_fn g; with_reducible refine (hc2 _).mono ?_; rintro e w' ⟨rfl, hb⟩)
  go_ret
  exact ⟨rfl, HB.out.trans (hb.mono HB.out.size)⟩
def firstI (l : List S30) (i : Int) : Int × Bool := if i < 0 then (0, false) else ((rd_T30 l i).f2, true)
def firstF (q : S30 → Bool) (l : List S30) : Int × Bool := firstI l (idxP q l)
theorem idxP_lt {α : Type} (p : α → Bool) (xs : List α) : idxP p xs < xs.length := by
  unfold idxP
  cases e : xs.findIdx? p with
  | none => show (-1 : Int) < _; omega
  | some k => obtain ⟨hk, _, _⟩ := List.findIdx?_eq_some_iff_getElem.1 e; show (k : Int) < _; omega
set_option maxHeartbeats 1000000 in
theorem first_any (g : Nat) (n v : ByteArray) (q : S30 → Bool) (hg : SaysP g n v q) (A0 : Option Addr) (c0 : Nat) (l0 : List S30) (w : World) (hr0 : Kd.C k30 w A0 l0.length l0) :
    Calls Tryz.prog 50 #[.slice A0 l0.length c0, .string n, .string v, .func (.func g) #[] #[]] w fun e w' => e = .returned (.tuple #[.int .i64 (firstF q l0).1, .bool (firstF q l0).2]) ∧ Below w.heap.size w w' := by
  obtain ⟨W, hW⟩ : ∃ W, W = ((w.alloc (.cells #[.string n] 9)).alloc (.cells #[.string v] 9)).alloc (.cells #[.func (.func g) #[] #[]] 91) := ⟨_, rfl⟩
  have hb1 : Below w.heap.size w W := by rw [hW]; exact (((Below.refl _ w).alloc (Nat.le_refl _) _).alloc (by simp) _).alloc (by simp; omega) _
  have c1 : W.cell? ⟨w.heap.size, 0, none⟩ = some (.string n) := by rw [hW]; simp [go_sem]
  have c2 : W.cell? ⟨w.heap.size + 1, 0, none⟩ = some (.string v) := by rw [hW]; simp [go_sem]
  have c3 : W.cell? ⟨w.heap.size + 1 + 1, 0, none⟩ = some (.func (.func g) #[] #[]) := by rw [hW]; simp [go_sem]
  have hi := (idx90 k30 rfl 91 #[.pointer (some ⟨w.heap.size + 1 + 1, 0, none⟩), .pointer (some ⟨w.heap.size, 0, none⟩), .pointer (some ⟨w.heap.size + 1, 0, none⟩)] first1_enters A0 c0 l0 q W (Kd.C_below hr0 hb1) (by
    intro x _ cs W' hb' hK
    obtain rfl := k30_open hK
    exact first1_any g n v q hg x _ _ _ W' (pw_cell_below hb' c3) (pw_cell_below hb' c1) (pw_cell_below hb' c2))).mono fun e w' h => (⟨h.1, hb1.trans (h.2.mono hb1.size)⟩ : e = .returned (.int .i64 (idxP q l0)) ∧ Below w.heap.size w w')
  have hlt := idxP_lt q l0
  unfold firstF
  generalize idxP q l0 = i at hi hlt ⊢
  have hmf := makeFunc_run
  clear c1 c2 c3 hb1
  subst hW
  by_cases h0 : i < 0
  · have e : firstI l0 i = (0, false) := if_pos h0
    rw [e]
    clear hr0 e
    go_enter Tryz.func50, Tryz.ntmps50
    go_wp2_with (go_at_call 90; with_reducible refine hi.mono ?_; rintro e w' ⟨rfl, hb⟩)
    go_ret2
    exact ⟨rfl, hb⟩
  · have e : firstI l0 i = ((rd_T30 l0 i).f2, true) := if_neg h0
    rw [e]
    have h00 : 0 ≤ i := by omega
    obtain ⟨ad, ha, d0, d1, d2⟩ := at_T30 hr0 i h00 hlt
    have hd2 := fun w' (hb : Below w.heap.size w w') => pw_cell_below hb d2
    generalize (rd_T30 l0 i).f2 = z at hd2 ⊢
    subst ha
    clear hr0 e d0 d1 d2
    go_enter Tryz.func50, Tryz.ntmps50
    go_wp2_with (go_at_call 90; with_reducible refine hi.mono ?_; rintro e w' ⟨rfl, hb⟩; have e2 := hd2 _ hb)
    go_ret2
    exact ⟨rfl, hb⟩
def prioF (n v : ByteArray) (l : List S30) : Int := if (firstF (namedB n v) l).2 then (firstF (namedB n v) l).1 else if (firstF (wideB v) l).2 then (firstF (wideB v) l).1 else 500
def pins_Priority.f (l0 : List S30) (n v : ByteArray) : Option Int := some (prioF n v l0)
theorem pins_Priority.calls (A0 : Option Addr) (c0 : Nat) (l0 : List S30) (n v : ByteArray) (r : Int) (w : World) (hr0 : Kd.C k30 w A0 l0.length l0) (_hc0 : l0.length ≤ c0) (h : pins_Priority.f l0 n v = some r) :
    Calls Tryz.prog 22 #[.slice A0 l0.length c0, .string n, .string v] w fun e w' => e = .returned (.int .i64 r) ∧ Below w.heap.size w w' := by
  obtain rfl := Option.some.inj h
  clear h
  have f1 := first_any _ n v _ (named_says n v) A0 c0 l0 w hr0
  have f2 := fun w1 (hb : Below w.heap.size w w1) => (first_any _ n v _ (wide_says n v) A0 c0 l0 w1 (Kd.C_below hr0 hb)).mono fun e w' h => (⟨h.1, hb.trans (h.2.mono hb.size)⟩ : _ ∧ Below w.heap.size w w')
  unfold prioF
  generalize firstF (namedB n v) l0 = a at f1 ⊢
  generalize firstF (wideB v) l0 = b at f2 ⊢
  obtain ⟨a1, a2⟩ := a
  obtain ⟨b1, b2⟩ := b
  clear hr0
  cases a2 with
  | true =>
    go_enter Tryz.func22, Tryz.ntmps22
    go_wp2_with (go_at_call 50; with_reducible refine f1.mono ?_; rintro e w' ⟨rfl, hb⟩)
    go_ret
    exact ⟨rfl, hb⟩
  | false =>
    cases b2 with
    | true =>
      go_enter Tryz.func22, Tryz.ntmps22
      go_wp2_with fail
      with_reducible refine f1.mono ?_
      rintro e w1 ⟨rfl, hb1⟩
      go_wp2_with fail
      with_reducible refine (f2 _ hb1).mono ?_
      rintro e w2 ⟨rfl, hb2⟩
      go_wp2
      go_ret
      exact ⟨rfl, hb2⟩
    | false =>
      go_enter Tryz.func22, Tryz.ntmps22
      go_wp2_with fail
      with_reducible refine f1.mono ?_
      rintro e w1 ⟨rfl, hb1⟩
      go_wp2_with fail
      with_reducible refine (f2 _ hb1).mono ?_
      rintro e w2 ⟨rfl, hb2⟩
      go_wp2
      go_ret
      exact ⟨rfl, hb2⟩
end Go.Proofs.YtlcfpmdamehopaaGreatDoor.PA
-- Printed by gprint.py (wip/ of this repo), over the kit's print.
namespace Go.Proofs.YtlcfpmdamehopaaGreatDoor.PA
open Go.RowKit Go.Proofs.YtlcfpmdamehopaaGreatDoorW.PrintWords Go.Proofs.YtlcfpmdamehopaaGreatDoorW.PrintLast Go.Proofs.YtlcfpmdamehopaaGreatDoorW.PrintMore
attribute [local go_sem] max2_int min2_int max_two min_two max_three min_three max_four min_four   -- for this text's walks alone
set_option linter.unusedVariables false
set_option linter.unusedSimpArgs false

/-! ### keelsonlaw8_shown: function 7 -/
def keelsonlaw8_shown.j0 : Nat → List (S30) → Bool → Option (Bool)
  | 0, _, _ => none
  | k + 1, x1, x22 => if x22 = true then (some false) else ((some (([] : List (S30)) : List (S30))).bind fun y128 => (if y128.length + x1.length < 3518437208883 then ((some (y128 ++ x1 : List (S30))).bind fun y131 => (if y131.length < 3518437208883 then ((some (y131 ++ [(⟨(⟨#[42]⟩ : ByteArray), (⟨#[50]⟩ : ByteArray), 900⟩ : S30)] : List (S30))).bind fun y134 => ((pins_Priority.f y134 (⟨#[97, 98]⟩ : ByteArray) (⟨#[49, 46, 53]⟩ : ByteArray)).bind fun t137 => (if t137 = (-1) then ((pins_Priority.f y134 (⟨#[97, 98]⟩ : ByteArray) (⟨#[50]⟩ : ByteArray)).bind fun t138 => (if t138 = 900 then ((pins_Priority.f y134 (⟨#[99, 100]⟩ : ByteArray) (⟨#[50]⟩ : ByteArray)).bind fun t139 => (if t139 = 900 then ((pins_Priority.f y134 (⟨#[99, 100]⟩ : ByteArray) (⟨#[49]⟩ : ByteArray)).bind fun t140 => (some (t140 == 500))) else (none))) else (none))) else (none)))) else (none))) else (none)))
def keelsonlaw8_shown.f (k : Nat)  : Option (Bool) := (pins_Parse.f k (⟨#[80, 97, 99, 107, 97, 103, 101, 58, 32, 97, 98, 10, 80, 105, 110, 58, 32, 118, 101, 114, 115, 105, 111, 110, 32, 49, 46, 42, 10, 80, 105, 110, 45, 80, 114, 105, 111, 114, 105, 116, 121, 58, 32, 45, 49]⟩ : ByteArray)).bind fun bt119 => ((keelsonlaw8_same.f k bt119.1 (([(⟨(⟨#[97, 98]⟩ : ByteArray), (⟨#[49, 46]⟩ : ByteArray), (-1)⟩ : S30)] : List (S30)))).bind fun t127 => (if t127 = true then (if bt119.2.1 = 0 then (keelsonlaw8_shown.j0 k bt119.1 (bt119.2.2 != 0)) else (keelsonlaw8_shown.j0 k bt119.1 true)) else (keelsonlaw8_shown.j0 k bt119.1 true)))
set_option maxHeartbeats 8000000 in
set_option maxRecDepth 100000 in
theorem keelsonlaw8_shown.calls (k : Nat)  (r : Bool) (w : World) (hG_maxLen : GlobMaxLen w) (hG_numErr : GlobNumErr w) (hG_pow10 : GlobPow10 w) (h : keelsonlaw8_shown.f k  = some r) :
    Calls Tryz.prog 7 #[] w fun e w' => e = .returned (.bool r) ∧ Below w.heap.size w w' := by
  have hu30 := Tryz.underlying30
  have HG_maxLen := Aside0.mk hG_maxLen
  clear hG_maxLen
  have HG_numErr := Aside0.mk hG_numErr
  clear hG_numErr
  have HG_pow10 := Aside0.mk hG_pow10
  clear hG_pow10
  have HB := Aside0.mk (Below.refl w.heap.size w)
  have H : ((pins_Parse.f k (⟨#[80, 97, 99, 107, 97, 103, 101, 58, 32, 97, 98, 10, 80, 105, 110, 58, 32, 118, 101, 114, 115, 105, 111, 110, 32, 49, 46, 42, 10, 80, 105, 110, 45, 80, 114, 105, 111, 114, 105, 116, 121, 58, 32, 45, 49]⟩ : ByteArray)).bind fun bt119 => ((keelsonlaw8_same.f k bt119.1 (([(⟨(⟨#[97, 98]⟩ : ByteArray), (⟨#[49, 46]⟩ : ByteArray), (-1)⟩ : S30)] : List (S30)))).bind fun t127 => (if t127 = true then (if bt119.2.1 = 0 then (keelsonlaw8_shown.j0 k bt119.1 (bt119.2.2 != 0)) else (keelsonlaw8_shown.j0 k bt119.1 true)) else (keelsonlaw8_shown.j0 k bt119.1 true)))) = some r := h
  clear h
  replace H := Option.bind_eq_some_iff.mp H
  obtain ⟨⟨t119, t120, t121⟩, A10, H⟩ := H
  replace H : ((keelsonlaw8_same.f k t119 (([(⟨(⟨#[97, 98]⟩ : ByteArray), (⟨#[49, 46]⟩ : ByteArray), (-1)⟩ : S30)] : List (S30)))).bind fun t127 => (if t127 = true then (if t120 = 0 then (keelsonlaw8_shown.j0 k t119 (t121 != 0)) else (keelsonlaw8_shown.j0 k t119 true)) else (keelsonlaw8_shown.j0 k t119 true))) = some r := H
  have A1 := Aside0.mk A10
  clear A10
  have HC2 := Aside0.mk H
  clear H
  go_enter Tryz.func7, Tryz.ntmps7
  go_upto_region 2 with (first | ((with_reducible refine gate_callee (f := 8) rfl ?_); refine goesL_ (some 6) rfl rfl Tryz.func8 (by kernel_rfl) rfl #[.string (⟨#[80, 97, 99, 107, 97, 103, 101, 58, 32, 97, 98, 10, 80, 105, 110, 58, 32, 118, 101, 114, 115, 105, 111, 110, 32, 49, 46, 42, 10, 80, 105, 110, 45, 80, 114, 105, 111, 114, 105, 116, 121, 58, 32, 45, 49]⟩ : ByteArray)] rfl (by (try simp only [List.map_toArray, List.map_cons, List.map_nil]); first | done | rfl | (simp only [List.length_drop, List.length_take]; rfl)) ?_; (with_reducible refine (pins_Parse.calls k (⟨#[80, 97, 99, 107, 97, 103, 101, 58, 32, 97, 98, 10, 80, 105, 110, 58, 32, 118, 101, 114, 115, 105, 111, 110, 32, 49, 46, 42, 10, 80, 105, 110, 45, 80, 114, 105, 111, 114, 105, 116, 121, 58, 32, 45, 49]⟩ : ByteArray) t119 t120 t121 _ ?side1 ?side2 ?side3 A1.out).mono ?_); (case side1 => exact HG_maxLen.out.below (by repeat (first | (with_reducible first | exact HB.out | apply below_alloc | apply pw_below_drewN | apply below_drew1) | exact HB.out))); (case side2 => exact HG_numErr.out.below (by repeat (first | (with_reducible first | exact HB.out | apply below_alloc | apply pw_below_drewN | apply below_drew1) | exact HB.out))); (case side3 => exact HG_pow10.out.below (by repeat (first | (with_reducible first | exact HB.out | apply below_alloc | apply pw_below_drewN | apply below_drew1) | exact HB.out))); rintro e w3 ⟨v122, rfl, ho0, hb⟩; refine ⟨_, rfl, ?_⟩; have n0_ := Aside0.mk (Kd.R_lower ho0 (below_size (by repeat (first | (with_reducible first | exact HB.out | apply below_alloc | apply pw_below_drewN | apply below_drew1) | exact HB.out)))); have n1_ := Aside0.mk (below_step (by repeat (first | (with_reducible first | exact HB.out | apply below_alloc | apply pw_below_drewN | apply below_drew1) | exact HB.out)) hb); clear HB; have HO123 := n0_; have HB := n1_; clear n0_ n1_; (try clear hb); (try clear hb2); (try clear hk); (try clear hi); (try clear ho0)))
  (try simp only [Act.put, List.setIfInBounds_toArray, List.set_cons_zero, List.set_cons_succ])
  go_cut [22] (fun v22 wc => ∃ (kq : Nat) (x22_1 : Bool), v22 = .bool x22_1 ∧ Aside0 (keelsonlaw8_shown.j0 kq t119 x22_1 = some r) ∧ Aside0 (kq ≤ k) ∧ Aside0 (Kd.R k30 30 wc w.heap.size (fun _ => True) v122 t119) ∧ Aside0 (Below w.heap.size w wc))
  case first =>
    have H := HC2.out
    clear HC2
    obtain ⟨y124, hy124⟩ : ∃ y_ : List (S30), y_ = (([(⟨(⟨#[97, 98]⟩ : ByteArray), (⟨#[49, 46]⟩ : ByteArray), (-1)⟩ : S30)] : List (S30))) := ⟨_, rfl⟩
    replace H : ((keelsonlaw8_same.f k t119 y124).bind fun t127 => (if t127 = true then (if t120 = 0 then (keelsonlaw8_shown.j0 k t119 (t121 != 0)) else (keelsonlaw8_shown.j0 k t119 true)) else (keelsonlaw8_shown.j0 k t119 true))) = some r := by first | (rw [hy124]; with_reducible exact H) | (have H2_ := (Option.bind_some _ _).symm.trans H; rw [hy124]; with_reducible exact H2_) | (have H2_ := (Option.bind_some _ _).symm.trans H; with_reducible exact H2_) | with_reducible exact H | (rw [hy124]; exact H) | exact H
    have Ny124 := Aside0.mk hy124
    clear hy124
    replace H := Option.bind_eq_some_iff.mp H
    obtain ⟨t127, A40, H⟩ := H
    replace H : (if t127 = true then (if t120 = 0 then (keelsonlaw8_shown.j0 k t119 (t121 != 0)) else (keelsonlaw8_shown.j0 k t119 true)) else (keelsonlaw8_shown.j0 k t119 true)) = some r := H
    have A4 := Aside0.mk A40
    clear A40
    by_cases c5 : t127 = true
    · subst c5
      have H1 : (if t120 = 0 then (keelsonlaw8_shown.j0 k t119 (t121 != 0)) else (keelsonlaw8_shown.j0 k t119 true)) = some r := by rw [if_pos rfl] at H; exact H
      clear H
      have H := H1
      clear H1
      by_cases c6 : t120 = 0
      · rw [if_pos c6] at H
        have c6b0 : (t120 == 0) = true := beq_iff_eq.mpr c6
        have c6b1 : (t120 != 0) = false := bne_eq_false_iff_eq.mpr c6
        clear c6
        (first | rw [c6b0] | (simp only [i64_w, i32_w]; rw [c6b0]) | rw [c6b1] | skip)
        have H' := Aside0.mk H
        clear H
        go_wp2_with (first | ((with_reducible refine gate_dst (N := 12) rfl ?_); refine Kd.R_lit k30 _ 30 ?hg (N := 12) ?hd (xs := ([(⟨(⟨#[97, 98]⟩ : ByteArray), (⟨#[49, 46]⟩ : ByteArray), (-1)⟩ : S30)] : List (S30))) (inner := [.string (⟨#[97, 98]⟩ : ByteArray), .string (⟨#[49, 46]⟩ : ByteArray), .int .i64 (-1)]) (ok := fun _ => True) (okp := fun _ => True) ?hr ?hp (fun _ hk => hk) trivial (Below.refl _ _) (Nat.le_refl _) (by simp) ?_; (case hd => rfl); (case hg => rfl); (case hr => first | (go_simp; done) | (go_simp; rfl)); (case hp => exact (Reps.c3 (show Kd.M k30 _ _ _ (⟨(⟨#[97, 98]⟩ : ByteArray), (⟨#[49, 46]⟩ : ByteArray), (-1)⟩ : S30) [.string (⟨#[97, 98]⟩ : ByteArray), .string (⟨#[49, 46]⟩ : ByteArray), .int .i64 (-1)] from (k30_mkM _ _ _ (⟨(⟨#[97, 98]⟩ : ByteArray), (⟨#[49, 46]⟩ : ByteArray), (-1)⟩ : S30) )) (Reps.none _ _))); intro v125 w7 ho8 hb hg_ hnew_; clear hg_ hnew_; (first | rw [← Ny124.out] at ho8 | (simp only [Int.reduceToNat] at ho8; rw [← Ny124.out] at ho8)); have n0_ := Aside0.mk (Kd.R_elder' (by (with_reducible repeat (first | apply Kd.R_alloc | apply Kd.R_drewN | apply Kd.R_drew)); exact HO123.out) (Kd.R_base ho8) hb); have n1_ := Aside0.mk (Kd.R_lower (Kd.R_new' ho8 (Kd.R_lt (by (with_reducible repeat (first | apply Kd.R_alloc | apply Kd.R_drewN | apply Kd.R_drew)); exact HO123.out))) (below_size (by repeat (first | (with_reducible first | exact HB.out | apply below_alloc | apply pw_below_drewN | apply below_drew1) | exact HB.out)))); have n2_ := Aside0.mk (below_step (by repeat (first | (with_reducible first | exact HB.out | apply below_alloc | apply pw_below_drewN | apply below_drew1) | exact HB.out)) hb); clear HO123; clear HB; have HO123 := n0_; have HO126 := n1_; have HB := n2_; clear n0_ n1_ n2_; clear hb ho8; obtain ⟨Ao9, co9, eo9⟩ := Kd.R_slice HO123.out; subst eo9; obtain ⟨Ao10, co10, eo10⟩ := Kd.R_slice HO126.out; subst eo10) | ((with_reducible refine gate_callee (f := 10) rfl ?_); refine goesL_ (some 13) rfl rfl Tryz.func10 (by kernel_rfl) rfl #[.slice Ao9 t119.length co9, .slice Ao10 y124.length co10] rfl (by (try simp only [List.map_toArray, List.map_cons, List.map_nil]); first | done | rfl | (simp only [List.length_drop, List.length_take]; rfl)) ?_; (with_reducible refine (keelsonlaw8_same.calls k _ _ t119 _ _ y124 true _ ?side1 ?side2 ?side3 ?side4 A4.out).mono ?_); (case side1 => repeat (first | exact (Kd.R_reads' HO123.out).2.2 | (with_reducible refine Kd.C_alloc ?_ _) | (with_reducible refine Kd.C_drewN ?_ _) | (with_reducible refine Kd.C_drew ?_))); (case side2 => exact (Kd.R_reads' HO123.out).2.1); (case side3 => repeat (first | exact (Kd.R_reads' HO126.out).2.2 | (with_reducible refine Kd.C_alloc ?_ _) | (with_reducible refine Kd.C_drewN ?_ _) | (with_reducible refine Kd.C_drew ?_))); (case side4 => exact (Kd.R_reads' HO126.out).2.1); rintro e w' ⟨rfl, ⟨nd, rfl⟩⟩; refine ⟨_, rfl, ?_⟩))
        go_meet
        case rel => exact ⟨_, ((t121 != 0)), (by first | rfl | (simp; done) | (simp [*]; done)), H', ⟨by first | omega | exact Nat.le_refl _⟩, ⟨by (with_reducible repeat (first | apply Kd.R_alloc | apply Kd.R_drewN | apply Kd.R_drew)); exact Kd.R_mono HO123.out (fun _ hk => trivial)⟩, ⟨by repeat (first | (with_reducible first | exact HB.out | apply below_alloc | apply pw_below_drewN | apply below_drew1) | exact HB.out)⟩⟩
      · rw [if_neg c6] at H
        have c6b0 : (t120 == 0) = false := beq_eq_false_iff_ne.mpr c6
        have c6b1 : (t120 != 0) = true := bne_iff_ne.mpr c6
        (first | rw [c6b0] | (simp only [i64_w, i32_w]; rw [c6b0]) | rw [c6b1] | skip)
        have H' := Aside0.mk H
        clear H
        go_wp2_with (first | ((with_reducible refine gate_dst (N := 12) rfl ?_); refine Kd.R_lit k30 _ 30 ?hg (N := 12) ?hd (xs := ([(⟨(⟨#[97, 98]⟩ : ByteArray), (⟨#[49, 46]⟩ : ByteArray), (-1)⟩ : S30)] : List (S30))) (inner := [.string (⟨#[97, 98]⟩ : ByteArray), .string (⟨#[49, 46]⟩ : ByteArray), .int .i64 (-1)]) (ok := fun _ => True) (okp := fun _ => True) ?hr ?hp (fun _ hk => hk) trivial (Below.refl _ _) (Nat.le_refl _) (by simp) ?_; (case hd => rfl); (case hg => rfl); (case hr => first | (go_simp; done) | (go_simp; rfl)); (case hp => exact (Reps.c3 (show Kd.M k30 _ _ _ (⟨(⟨#[97, 98]⟩ : ByteArray), (⟨#[49, 46]⟩ : ByteArray), (-1)⟩ : S30) [.string (⟨#[97, 98]⟩ : ByteArray), .string (⟨#[49, 46]⟩ : ByteArray), .int .i64 (-1)] from (k30_mkM _ _ _ (⟨(⟨#[97, 98]⟩ : ByteArray), (⟨#[49, 46]⟩ : ByteArray), (-1)⟩ : S30) )) (Reps.none _ _))); intro v125 w11 ho12 hb hg_ hnew_; clear hg_ hnew_; (first | rw [← Ny124.out] at ho12 | (simp only [Int.reduceToNat] at ho12; rw [← Ny124.out] at ho12)); have n0_ := Aside0.mk (Kd.R_elder' (by (with_reducible repeat (first | apply Kd.R_alloc | apply Kd.R_drewN | apply Kd.R_drew)); exact HO123.out) (Kd.R_base ho12) hb); have n1_ := Aside0.mk (Kd.R_lower (Kd.R_new' ho12 (Kd.R_lt (by (with_reducible repeat (first | apply Kd.R_alloc | apply Kd.R_drewN | apply Kd.R_drew)); exact HO123.out))) (below_size (by repeat (first | (with_reducible first | exact HB.out | apply below_alloc | apply pw_below_drewN | apply below_drew1) | exact HB.out)))); have n2_ := Aside0.mk (below_step (by repeat (first | (with_reducible first | exact HB.out | apply below_alloc | apply pw_below_drewN | apply below_drew1) | exact HB.out)) hb); clear HO123; clear HB; have HO123 := n0_; have HO126 := n1_; have HB := n2_; clear n0_ n1_ n2_; clear hb ho12; obtain ⟨Ao13, co13, eo13⟩ := Kd.R_slice HO123.out; subst eo13; obtain ⟨Ao14, co14, eo14⟩ := Kd.R_slice HO126.out; subst eo14) | ((with_reducible refine gate_callee (f := 10) rfl ?_); refine goesL_ (some 13) rfl rfl Tryz.func10 (by kernel_rfl) rfl #[.slice Ao13 t119.length co13, .slice Ao14 y124.length co14] rfl (by (try simp only [List.map_toArray, List.map_cons, List.map_nil]); first | done | rfl | (simp only [List.length_drop, List.length_take]; rfl)) ?_; (with_reducible refine (keelsonlaw8_same.calls k _ _ t119 _ _ y124 true _ ?side1 ?side2 ?side3 ?side4 A4.out).mono ?_); (case side1 => repeat (first | exact (Kd.R_reads' HO123.out).2.2 | (with_reducible refine Kd.C_alloc ?_ _) | (with_reducible refine Kd.C_drewN ?_ _) | (with_reducible refine Kd.C_drew ?_))); (case side2 => exact (Kd.R_reads' HO123.out).2.1); (case side3 => repeat (first | exact (Kd.R_reads' HO126.out).2.2 | (with_reducible refine Kd.C_alloc ?_ _) | (with_reducible refine Kd.C_drewN ?_ _) | (with_reducible refine Kd.C_drew ?_))); (case side4 => exact (Kd.R_reads' HO126.out).2.1); rintro e w' ⟨rfl, ⟨nd, rfl⟩⟩; refine ⟨_, rfl, ?_⟩))
        go_meet
        case rel => exact ⟨_, (true), (by first | rfl | (simp; done) | (simp [*]; done)), H', ⟨by first | omega | exact Nat.le_refl _⟩, ⟨by (with_reducible repeat (first | apply Kd.R_alloc | apply Kd.R_drewN | apply Kd.R_drew)); exact Kd.R_mono HO123.out (fun _ hk => trivial)⟩, ⟨by repeat (first | (with_reducible first | exact HB.out | apply below_alloc | apply pw_below_drewN | apply below_drew1) | exact HB.out)⟩⟩
    · replace c5 := Bool.eq_false_iff.mpr c5
      subst c5
      have H1 : (keelsonlaw8_shown.j0 k t119 true) = some r := by rw [if_neg (show ¬ (false = true) by decide)] at H; exact H
      clear H
      have H := H1
      clear H1
      have H' := Aside0.mk H
      clear H
      go_wp2_with (first | ((with_reducible refine gate_dst (N := 12) rfl ?_); refine Kd.R_lit k30 _ 30 ?hg (N := 12) ?hd (xs := ([(⟨(⟨#[97, 98]⟩ : ByteArray), (⟨#[49, 46]⟩ : ByteArray), (-1)⟩ : S30)] : List (S30))) (inner := [.string (⟨#[97, 98]⟩ : ByteArray), .string (⟨#[49, 46]⟩ : ByteArray), .int .i64 (-1)]) (ok := fun _ => True) (okp := fun _ => True) ?hr ?hp (fun _ hk => hk) trivial (Below.refl _ _) (Nat.le_refl _) (by simp) ?_; (case hd => rfl); (case hg => rfl); (case hr => first | (go_simp; done) | (go_simp; rfl)); (case hp => exact (Reps.c3 (show Kd.M k30 _ _ _ (⟨(⟨#[97, 98]⟩ : ByteArray), (⟨#[49, 46]⟩ : ByteArray), (-1)⟩ : S30) [.string (⟨#[97, 98]⟩ : ByteArray), .string (⟨#[49, 46]⟩ : ByteArray), .int .i64 (-1)] from (k30_mkM _ _ _ (⟨(⟨#[97, 98]⟩ : ByteArray), (⟨#[49, 46]⟩ : ByteArray), (-1)⟩ : S30) )) (Reps.none _ _))); intro v125 w15 ho16 hb hg_ hnew_; clear hg_ hnew_; (first | rw [← Ny124.out] at ho16 | (simp only [Int.reduceToNat] at ho16; rw [← Ny124.out] at ho16)); have n0_ := Aside0.mk (Kd.R_elder' (by (with_reducible repeat (first | apply Kd.R_alloc | apply Kd.R_drewN | apply Kd.R_drew)); exact HO123.out) (Kd.R_base ho16) hb); have n1_ := Aside0.mk (Kd.R_lower (Kd.R_new' ho16 (Kd.R_lt (by (with_reducible repeat (first | apply Kd.R_alloc | apply Kd.R_drewN | apply Kd.R_drew)); exact HO123.out))) (below_size (by repeat (first | (with_reducible first | exact HB.out | apply below_alloc | apply pw_below_drewN | apply below_drew1) | exact HB.out)))); have n2_ := Aside0.mk (below_step (by repeat (first | (with_reducible first | exact HB.out | apply below_alloc | apply pw_below_drewN | apply below_drew1) | exact HB.out)) hb); clear HO123; clear HB; have HO123 := n0_; have HO126 := n1_; have HB := n2_; clear n0_ n1_ n2_; clear hb ho16; obtain ⟨Ao17, co17, eo17⟩ := Kd.R_slice HO123.out; subst eo17; obtain ⟨Ao18, co18, eo18⟩ := Kd.R_slice HO126.out; subst eo18) | ((with_reducible refine gate_callee (f := 10) rfl ?_); refine goesL_ (some 13) rfl rfl Tryz.func10 (by kernel_rfl) rfl #[.slice Ao17 t119.length co17, .slice Ao18 y124.length co18] rfl (by (try simp only [List.map_toArray, List.map_cons, List.map_nil]); first | done | rfl | (simp only [List.length_drop, List.length_take]; rfl)) ?_; (with_reducible refine (keelsonlaw8_same.calls k _ _ t119 _ _ y124 false _ ?side1 ?side2 ?side3 ?side4 A4.out).mono ?_); (case side1 => repeat (first | exact (Kd.R_reads' HO123.out).2.2 | (with_reducible refine Kd.C_alloc ?_ _) | (with_reducible refine Kd.C_drewN ?_ _) | (with_reducible refine Kd.C_drew ?_))); (case side2 => exact (Kd.R_reads' HO123.out).2.1); (case side3 => repeat (first | exact (Kd.R_reads' HO126.out).2.2 | (with_reducible refine Kd.C_alloc ?_ _) | (with_reducible refine Kd.C_drewN ?_ _) | (with_reducible refine Kd.C_drew ?_))); (case side4 => exact (Kd.R_reads' HO126.out).2.1); rintro e w' ⟨rfl, ⟨nd, rfl⟩⟩; refine ⟨_, rfl, ?_⟩))
      go_meet
      case rel => exact ⟨_, (true), (by first | rfl | (simp; done) | (simp [*]; done)), H', ⟨by first | omega | exact Nat.le_refl _⟩, ⟨by (with_reducible repeat (first | apply Kd.R_alloc | apply Kd.R_drewN | apply Kd.R_drew)); exact Kd.R_mono HO123.out (fun _ hk => trivial)⟩, ⟨by repeat (first | (with_reducible first | exact HB.out | apply below_alloc | apply pw_below_drewN | apply below_drew1) | exact HB.out)⟩⟩
  case rest =>
    clear HC2
    try clear c1
    try clear p2
    try clear c3
    try clear c5
    try clear c6
    try clear c6b0
    try clear c6b1
    try clear c7
    try clear c8
    try clear c10
    obtain ⟨kq, x22_1, rfl, HA, HJ1, HO_1, HB⟩ := hcut
    cases kq with
    | zero => exact absurd HA.out (by simp [keelsonlaw8_shown.j0])
    | succ kj1 =>
      have H := HA.out
      clear HA
      simp only [keelsonlaw8_shown.j0] at H
      by_cases c19 : x22_1 = true
      · subst c19
        have H1 : (some false) = some r := by rw [if_pos rfl] at H; exact H
        clear H
        have H := H1
        clear H1
        obtain rfl := Option.some.inj H
        go_wp2
        go_ret
        exact ⟨by first | rfl | (simp [errW_none, errW_some] <;> rfl) | (simp [*, errW_none, errW_some] <;> rfl), by repeat (first | (with_reducible first | exact HB.out | apply below_alloc | apply pw_below_drewN | apply below_drew1) | exact HB.out)⟩
      · replace c19 := Bool.eq_false_iff.mpr c19
        subst c19
        have H1 : ((some (([] : List (S30)) : List (S30))).bind fun y128 => (if y128.length + t119.length < 3518437208883 then ((some (y128 ++ t119 : List (S30))).bind fun y131 => (if y131.length < 3518437208883 then ((some (y131 ++ [(⟨(⟨#[42]⟩ : ByteArray), (⟨#[50]⟩ : ByteArray), 900⟩ : S30)] : List (S30))).bind fun y134 => ((pins_Priority.f y134 (⟨#[97, 98]⟩ : ByteArray) (⟨#[49, 46, 53]⟩ : ByteArray)).bind fun t137 => (if t137 = (-1) then ((pins_Priority.f y134 (⟨#[97, 98]⟩ : ByteArray) (⟨#[50]⟩ : ByteArray)).bind fun t138 => (if t138 = 900 then ((pins_Priority.f y134 (⟨#[99, 100]⟩ : ByteArray) (⟨#[50]⟩ : ByteArray)).bind fun t139 => (if t139 = 900 then ((pins_Priority.f y134 (⟨#[99, 100]⟩ : ByteArray) (⟨#[49]⟩ : ByteArray)).bind fun t140 => (some (t140 == 500))) else (none))) else (none))) else (none)))) else (none))) else (none))) = some r := by rw [if_neg (show ¬ (false = true) by decide)] at H; exact H
        clear H
        have H := H1
        clear H1
        obtain ⟨y128, hy128⟩ : ∃ y_ : List (S30), y_ = (([] : List (S30))) := ⟨_, rfl⟩
        replace H : (if y128.length + t119.length < 3518437208883 then ((some (y128 ++ t119 : List (S30))).bind fun y131 => (if y131.length < 3518437208883 then ((some (y131 ++ [(⟨(⟨#[42]⟩ : ByteArray), (⟨#[50]⟩ : ByteArray), 900⟩ : S30)] : List (S30))).bind fun y134 => ((pins_Priority.f y134 (⟨#[97, 98]⟩ : ByteArray) (⟨#[49, 46, 53]⟩ : ByteArray)).bind fun t137 => (if t137 = (-1) then ((pins_Priority.f y134 (⟨#[97, 98]⟩ : ByteArray) (⟨#[50]⟩ : ByteArray)).bind fun t138 => (if t138 = 900 then ((pins_Priority.f y134 (⟨#[99, 100]⟩ : ByteArray) (⟨#[50]⟩ : ByteArray)).bind fun t139 => (if t139 = 900 then ((pins_Priority.f y134 (⟨#[99, 100]⟩ : ByteArray) (⟨#[49]⟩ : ByteArray)).bind fun t140 => (some (t140 == 500))) else (none))) else (none))) else (none)))) else (none))) else (none)) = some r := by first | (rw [hy128]; with_reducible exact H) | (have H2_ := (Option.bind_some _ _).symm.trans H; rw [hy128]; with_reducible exact H2_) | (have H2_ := (Option.bind_some _ _).symm.trans H; with_reducible exact H2_) | with_reducible exact H | (rw [hy128]; exact H) | exact H
        have Ny128 := Aside0.mk hy128
        clear hy128
        by_cases c20 : y128.length + t119.length < 3518437208883
        · rw [if_pos c20] at H
          have LMc20 := Aside0.mk c20
          clear c20
          obtain ⟨y131, hy131⟩ : ∃ y_ : List (S30), y_ = (y128 ++ t119) := ⟨_, rfl⟩
          replace H : (if y131.length < 3518437208883 then ((some (y131 ++ [(⟨(⟨#[42]⟩ : ByteArray), (⟨#[50]⟩ : ByteArray), 900⟩ : S30)] : List (S30))).bind fun y134 => ((pins_Priority.f y134 (⟨#[97, 98]⟩ : ByteArray) (⟨#[49, 46, 53]⟩ : ByteArray)).bind fun t137 => (if t137 = (-1) then ((pins_Priority.f y134 (⟨#[97, 98]⟩ : ByteArray) (⟨#[50]⟩ : ByteArray)).bind fun t138 => (if t138 = 900 then ((pins_Priority.f y134 (⟨#[99, 100]⟩ : ByteArray) (⟨#[50]⟩ : ByteArray)).bind fun t139 => (if t139 = 900 then ((pins_Priority.f y134 (⟨#[99, 100]⟩ : ByteArray) (⟨#[49]⟩ : ByteArray)).bind fun t140 => (some (t140 == 500))) else (none))) else (none))) else (none)))) else (none)) = some r := by first | (rw [hy131]; with_reducible exact H) | (have H2_ := (Option.bind_some _ _).symm.trans H; rw [hy131]; with_reducible exact H2_) | (have H2_ := (Option.bind_some _ _).symm.trans H; with_reducible exact H2_) | with_reducible exact H | (rw [hy131]; exact H) | exact H
          have Ny131 := Aside0.mk hy131
          clear hy131
          by_cases c21 : y131.length < 3518437208883
          · rw [if_pos c21] at H
            have LMc21 := Aside0.mk c21
            clear c21
            obtain ⟨y134, hy134⟩ : ∃ y_ : List (S30), y_ = (y131 ++ [(⟨(⟨#[42]⟩ : ByteArray), (⟨#[50]⟩ : ByteArray), 900⟩ : S30)]) := ⟨_, rfl⟩
            replace H : ((pins_Priority.f y134 (⟨#[97, 98]⟩ : ByteArray) (⟨#[49, 46, 53]⟩ : ByteArray)).bind fun t137 => (if t137 = (-1) then ((pins_Priority.f y134 (⟨#[97, 98]⟩ : ByteArray) (⟨#[50]⟩ : ByteArray)).bind fun t138 => (if t138 = 900 then ((pins_Priority.f y134 (⟨#[99, 100]⟩ : ByteArray) (⟨#[50]⟩ : ByteArray)).bind fun t139 => (if t139 = 900 then ((pins_Priority.f y134 (⟨#[99, 100]⟩ : ByteArray) (⟨#[49]⟩ : ByteArray)).bind fun t140 => (some (t140 == 500))) else (none))) else (none))) else (none))) = some r := by first | (rw [hy134]; with_reducible exact H) | (have H2_ := (Option.bind_some _ _).symm.trans H; rw [hy134]; with_reducible exact H2_) | (have H2_ := (Option.bind_some _ _).symm.trans H; with_reducible exact H2_) | with_reducible exact H | (rw [hy134]; exact H) | exact H
            have Ny134 := Aside0.mk hy134
            clear hy134
            replace H := Option.bind_eq_some_iff.mp H
            obtain ⟨t137, A220, H⟩ := H
            replace H : (if t137 = (-1) then ((pins_Priority.f y134 (⟨#[97, 98]⟩ : ByteArray) (⟨#[50]⟩ : ByteArray)).bind fun t138 => (if t138 = 900 then ((pins_Priority.f y134 (⟨#[99, 100]⟩ : ByteArray) (⟨#[50]⟩ : ByteArray)).bind fun t139 => (if t139 = 900 then ((pins_Priority.f y134 (⟨#[99, 100]⟩ : ByteArray) (⟨#[49]⟩ : ByteArray)).bind fun t140 => (some (t140 == 500))) else (none))) else (none))) else (none)) = some r := H
            have A22 := Aside0.mk A220
            clear A220
            by_cases c23 : t137 = (-1)
            · rw [if_pos c23] at H
              have c23b0 : (t137 == (-1)) = true := beq_iff_eq.mpr c23
              have c23b1 : (t137 != (-1)) = false := bne_eq_false_iff_eq.mpr c23
              clear c23
              replace H := Option.bind_eq_some_iff.mp H
              obtain ⟨t138, A240, H⟩ := H
              replace H : (if t138 = 900 then ((pins_Priority.f y134 (⟨#[99, 100]⟩ : ByteArray) (⟨#[50]⟩ : ByteArray)).bind fun t139 => (if t139 = 900 then ((pins_Priority.f y134 (⟨#[99, 100]⟩ : ByteArray) (⟨#[49]⟩ : ByteArray)).bind fun t140 => (some (t140 == 500))) else (none))) else (none)) = some r := H
              have A24 := Aside0.mk A240
              clear A240
              by_cases c25 : t138 = 900
              · rw [if_pos c25] at H
                have c25b0 : (t138 == 900) = true := beq_iff_eq.mpr c25
                have c25b1 : (t138 != 900) = false := bne_eq_false_iff_eq.mpr c25
                clear c25
                replace H := Option.bind_eq_some_iff.mp H
                obtain ⟨t139, A260, H⟩ := H
                replace H : (if t139 = 900 then ((pins_Priority.f y134 (⟨#[99, 100]⟩ : ByteArray) (⟨#[49]⟩ : ByteArray)).bind fun t140 => (some (t140 == 500))) else (none)) = some r := H
                have A26 := Aside0.mk A260
                clear A260
                by_cases c27 : t139 = 900
                · rw [if_pos c27] at H
                  have c27b0 : (t139 == 900) = true := beq_iff_eq.mpr c27
                  have c27b1 : (t139 != 900) = false := bne_eq_false_iff_eq.mpr c27
                  clear c27
                  replace H := Option.bind_eq_some_iff.mp H
                  obtain ⟨t140, A280, H⟩ := H
                  replace H : (some (t140 == 500)) = some r := H
                  have A28 := Aside0.mk A280
                  clear A280
                  obtain rfl := Option.some.inj H
                  go_wp2_with (first | ((with_reducible refine gate_dst (N := 23) rfl ?_); refine Kd.R_lit k30 _ 30 ?hg (N := 23) ?hd (xs := ([] : List (S30))) (inner := []) (ok := fun _ => True) (okp := fun _ => True) ?hr ?hp (fun _ hk => hk) trivial (Below.refl _ _) (Nat.le_refl _) (by simp) ?_; (case hd => rfl); (case hg => rfl); (case hr => first | (go_simp; done) | (go_simp; rfl)); (case hp => exact (Reps.none _ _)); intro v129 w29 ho30 hb hg_ hnew_; clear hg_ hnew_; (first | rw [← Ny128.out] at ho30 | (simp only [Int.reduceToNat] at ho30; rw [← Ny128.out] at ho30)); have n0_ := Aside0.mk (Kd.R_elder' (by (with_reducible repeat (first | apply Kd.R_alloc | apply Kd.R_drewN | apply Kd.R_drew)); exact HO_1.out) (Kd.R_base ho30) hb); have n1_ := Aside0.mk (Kd.R_lower (Kd.R_new' ho30 (Kd.R_lt (by (with_reducible repeat (first | apply Kd.R_alloc | apply Kd.R_drewN | apply Kd.R_drew)); exact HO_1.out))) (below_size (by repeat (first | (with_reducible first | exact HB.out | apply below_alloc | apply pw_below_drewN | apply below_drew1) | exact HB.out)))); have n2_ := Aside0.mk (below_step (by repeat (first | (with_reducible first | exact HB.out | apply below_alloc | apply pw_below_drewN | apply below_drew1) | exact HB.out)) hb); clear HO_1; clear HB; have HO_1 := n0_; have HO130 := n1_; have HB := n2_; clear n0_ n1_ n2_; clear hb ho30; obtain ⟨Ao32, co32, eo32⟩ := Kd.R_slice HO_1.out; subst eo32) | ((with_reducible refine gate_builtin (b := .append) (xs := #[.tmp 23, .tmp 24]) rfl ?_); at_builtin; refine Kd.R_append_rows k30 (w0 := w) w.heap.size rfl (.tmp 23) (.tmp 24) 23 30 (.agg #[(.string ⟨#[]⟩), (.string ⟨#[]⟩), (.int .i64 0)]) 40 rfl Tryz.underlying23 info30 rfl (by decide) (by omega) v129 y128 t119 _ _ _ (fun k_ => some k_ ≠ (.slice Ao32 t119.length co32 : Value).ownBlock) (fun _ => False) rfl rfl ?aO ?aR (fun _ _ h => h) (fun _ h => h.elim) ?aF ?aB ?aS ?aL ?_; (case aR => repeat (first | exact (Kd.R_reads' HO_1.out).2.2 | (with_reducible refine Kd.C_alloc ?_ _) | (with_reducible refine Kd.C_drewN ?_ _) | (with_reducible refine Kd.C_drew ?_))); (case aB => exact (by repeat (first | (with_reducible first | exact HB.out | apply below_alloc | apply pw_below_drewN | apply below_drew1) | exact HB.out))); (case aF => exact (fun k_ hk => Kd.fresh' (Kd.R_lt (by (with_reducible repeat (first | apply Kd.R_alloc | apply Kd.R_drewN | apply Kd.R_drew)); exact HO_1.out)) k_ hk)); (case aO => exact (by (with_reducible repeat (first | apply Kd.R_alloc | apply Kd.R_drewN | apply Kd.R_drew)); exact Kd.R_mono HO130.out (fun _ hk => hk.2))); (case aS => exact (below_size (by repeat (first | (with_reducible first | exact HB.out | apply below_alloc | apply pw_below_drewN | apply below_drew1) | exact HB.out)))); (case aL => have := LMc20.out; omega); intro v132 w31 ho hb hg hat; rw [← Ny131.out] at ho; have n0_ := Aside0.mk (Kd.R_after (ok := (fun _ => True)) (by (with_reducible repeat (first | apply Kd.R_alloc | apply Kd.R_drewN | apply Kd.R_drew)); exact HO_1.out) hg hat); have n1_ := Aside0.mk (hb); have n2_ := Aside0.mk (ho); clear HO_1; clear HB; clear HO130; have HO_1 := n0_; have HB := n1_; have HO133 := n2_; clear n0_ n1_ n2_; clear ho hb hg hat) | ((with_reducible refine gate_builtin (b := .append) (xs := #[.tmp 25, .tmp 27]) rfl ?_); at_builtin; refine Kd.R_append k30 (w0 := w) w.heap.size rfl (.tmp 25) (.tmp 27) 23 30 (.agg #[(.string ⟨#[]⟩), (.string ⟨#[]⟩), (.int .i64 0)]) 40 rfl Tryz.underlying23 info30 rfl (by decide) (by omega) v132 y131 (⟨(⟨#[42]⟩ : ByteArray), (⟨#[50]⟩ : ByteArray), 900⟩ : S30) [.string (⟨#[42]⟩ : ByteArray), .string (⟨#[50]⟩ : ByteArray), .int .i64 900] (fun k_ => some k_ ≠ (.slice Ao32 t119.length co32 : Value).ownBlock) (fun _ => False) rfl rfl ?aP (fun _ hk => hk.elim) ?aF ?aO ?aB ?aS ?aL ?_; (case aP => exact k30_mkM _ _ _ (⟨(⟨#[42]⟩ : ByteArray), (⟨#[50]⟩ : ByteArray), 900⟩ : S30)); (case aB => exact (by repeat (first | (with_reducible first | exact HB.out | apply below_alloc | apply pw_below_drewN | apply below_drew1) | exact HB.out))); (case aF => exact (fun k_ hk => Kd.fresh' (Kd.R_lt (by (with_reducible repeat (first | apply Kd.R_alloc | apply Kd.R_drewN | apply Kd.R_drew)); exact HO_1.out)) k_ hk)); (case aO => exact (by (with_reducible repeat (first | apply Kd.R_alloc | apply Kd.R_drewN | apply Kd.R_drew)); exact HO133.out)); (case aS => exact (below_size (by repeat (first | (with_reducible first | exact HB.out | apply below_alloc | apply pw_below_drewN | apply below_drew1) | exact HB.out)))); (case aL => have := LMc21.out; omega); intro v135 w33 ho hb hg hat; rw [← Ny134.out] at ho; have n0_ := Aside0.mk (Kd.R_after (ok := (fun _ => True)) (by (with_reducible repeat (first | apply Kd.R_alloc | apply Kd.R_drewN | apply Kd.R_drew)); exact HO_1.out) hg hat); have n1_ := Aside0.mk (hb); have n2_ := Aside0.mk (ho); clear HO_1; clear HB; clear HO133; have HO_1 := n0_; have HB := n1_; have HO136 := n2_; clear n0_ n1_ n2_; clear ho hb hg hat; obtain ⟨Ao34, co34, eo34⟩ := Kd.R_slice HO136.out; subst eo34) | ((with_reducible refine gate_callee (f := 22) rfl ?_); refine goesL_ (some 30) rfl rfl Tryz.func22 (by kernel_rfl) rfl #[.slice Ao34 y134.length co34, .string (⟨#[97, 98]⟩ : ByteArray), .string (⟨#[49, 46, 53]⟩ : ByteArray)] rfl (by (try simp only [List.map_toArray, List.map_cons, List.map_nil]); first | done | rfl | (simp only [List.length_drop, List.length_take]; rfl)) ?_; (with_reducible refine (pins_Priority.calls _ _ y134 (⟨#[97, 98]⟩ : ByteArray) (⟨#[49, 46, 53]⟩ : ByteArray) t137 _ ?side1 ?side2 A22.out).mono ?_); (case side1 => repeat (first | exact (Kd.R_reads' HO136.out).2.2 | (with_reducible refine Kd.C_alloc ?_ _) | (with_reducible refine Kd.C_drewN ?_ _) | (with_reducible refine Kd.C_drew ?_))); (case side2 => exact (Kd.R_reads' HO136.out).2.1); rintro e w35 ⟨rfl, hb⟩; refine ⟨_, rfl, ?_⟩; have n0_ := Aside0.mk (Kd.R_below (by (with_reducible repeat (first | apply Kd.R_alloc | apply Kd.R_drewN | apply Kd.R_drew)); exact HO_1.out) hb); have n1_ := Aside0.mk (Kd.R_below (by (with_reducible repeat (first | apply Kd.R_alloc | apply Kd.R_drewN | apply Kd.R_drew)); exact HO136.out) hb); have n2_ := Aside0.mk (below_step (by repeat (first | (with_reducible first | exact HB.out | apply below_alloc | apply pw_below_drewN | apply below_drew1) | exact HB.out)) hb); clear HO_1; clear HO136; clear HB; have HO_1 := n0_; have HO136 := n1_; have HB := n2_; clear n0_ n1_ n2_; (try clear hb); (try clear hb2); (try clear hk); (try clear hi)) | (go_at_call 22; (with_reducible refine (pins_Priority.calls _ _ y134 (⟨#[97, 98]⟩ : ByteArray) (⟨#[50]⟩ : ByteArray) t138 _ ?side1 ?side2 A24.out).mono ?_); (case side1 => repeat (first | exact (Kd.R_reads' HO136.out).2.2 | (with_reducible refine Kd.C_alloc ?_ _) | (with_reducible refine Kd.C_drewN ?_ _) | (with_reducible refine Kd.C_drew ?_))); (case side2 => exact (Kd.R_reads' HO136.out).2.1); rintro e w36 ⟨rfl, hb⟩; have n0_ := Aside0.mk (Kd.R_below (by (with_reducible repeat (first | apply Kd.R_alloc | apply Kd.R_drewN | apply Kd.R_drew)); exact HO_1.out) hb); have n1_ := Aside0.mk (Kd.R_below (by (with_reducible repeat (first | apply Kd.R_alloc | apply Kd.R_drewN | apply Kd.R_drew)); exact HO136.out) hb); have n2_ := Aside0.mk (below_step (by repeat (first | (with_reducible first | exact HB.out | apply below_alloc | apply pw_below_drewN | apply below_drew1) | exact HB.out)) hb); clear HO_1; clear HO136; clear HB; have HO_1 := n0_; have HO136 := n1_; have HB := n2_; clear n0_ n1_ n2_; (try clear hb); (try clear hb2); (try clear hk); (try clear hi)) | (go_at_call 22; (with_reducible refine (pins_Priority.calls _ _ y134 (⟨#[99, 100]⟩ : ByteArray) (⟨#[50]⟩ : ByteArray) t139 _ ?side1 ?side2 A26.out).mono ?_); (case side1 => repeat (first | exact (Kd.R_reads' HO136.out).2.2 | (with_reducible refine Kd.C_alloc ?_ _) | (with_reducible refine Kd.C_drewN ?_ _) | (with_reducible refine Kd.C_drew ?_))); (case side2 => exact (Kd.R_reads' HO136.out).2.1); rintro e w37 ⟨rfl, hb⟩; have n0_ := Aside0.mk (Kd.R_below (by (with_reducible repeat (first | apply Kd.R_alloc | apply Kd.R_drewN | apply Kd.R_drew)); exact HO_1.out) hb); have n1_ := Aside0.mk (Kd.R_below (by (with_reducible repeat (first | apply Kd.R_alloc | apply Kd.R_drewN | apply Kd.R_drew)); exact HO136.out) hb); have n2_ := Aside0.mk (below_step (by repeat (first | (with_reducible first | exact HB.out | apply below_alloc | apply pw_below_drewN | apply below_drew1) | exact HB.out)) hb); clear HO_1; clear HO136; clear HB; have HO_1 := n0_; have HO136 := n1_; have HB := n2_; clear n0_ n1_ n2_; (try clear hb); (try clear hb2); (try clear hk); (try clear hi)) | (go_at_call 22; (with_reducible refine (pins_Priority.calls _ _ y134 (⟨#[99, 100]⟩ : ByteArray) (⟨#[49]⟩ : ByteArray) t140 _ ?side1 ?side2 A28.out).mono ?_); (case side1 => repeat (first | exact (Kd.R_reads' HO136.out).2.2 | (with_reducible refine Kd.C_alloc ?_ _) | (with_reducible refine Kd.C_drewN ?_ _) | (with_reducible refine Kd.C_drew ?_))); (case side2 => exact (Kd.R_reads' HO136.out).2.1); rintro e w38 ⟨rfl, hb⟩; have n0_ := Aside0.mk (Kd.R_below (by (with_reducible repeat (first | apply Kd.R_alloc | apply Kd.R_drewN | apply Kd.R_drew)); exact HO_1.out) hb); have n1_ := Aside0.mk (Kd.R_below (by (with_reducible repeat (first | apply Kd.R_alloc | apply Kd.R_drewN | apply Kd.R_drew)); exact HO136.out) hb); have n2_ := Aside0.mk (below_step (by repeat (first | (with_reducible first | exact HB.out | apply below_alloc | apply pw_below_drewN | apply below_drew1) | exact HB.out)) hb); clear HO_1; clear HO136; clear HB; have HO_1 := n0_; have HO136 := n1_; have HB := n2_; clear n0_ n1_ n2_; (try clear hb); (try clear hb2); (try clear hk); (try clear hi)))
                  go_ret
                  exact ⟨by first | rfl | (simp [errW_none, errW_some] <;> rfl) | (simp [*, errW_none, errW_some] <;> rfl), by repeat (first | (with_reducible first | exact HB.out | apply below_alloc | apply pw_below_drewN | apply below_drew1) | exact HB.out)⟩
                · rw [if_neg c27] at H
                  exact absurd H (by simp)
              · rw [if_neg c25] at H
                exact absurd H (by simp)
            · rw [if_neg c23] at H
              exact absurd H (by simp)
          · rw [if_neg c21] at H
            exact absurd H (by simp)
        · rw [if_neg c20] at H
          exact absurd H (by simp)

end Go.Proofs.YtlcfpmdamehopaaGreatDoor.PA
/- keelsonlaw8's words: its examples hold; whether pins are small. No condition. -/
namespace Go.Proofs.YtlcfpmdamehopaaGreatDoor.PA
open Go.RowKit Go.Proofs.YtlcfpmdamehopaaGreatDoorW.PrintWords Go.Proofs.YtlcfpmdamehopaaGreatDoorW.PrintLast Go.Proofs.YtlcfpmdamehopaaGreatDoorW.PrintMore

def pinA : Pn := ⟨⟨#[97, 98]⟩, ⟨#[49, 46]⟩, -1⟩
theorem itoa_m1 : itoaB (-1) = ⟨#[45, 49]⟩ := by
  unfold itoaB Lib.itoa
  rw [if_pos (by decide), show (-1 : Int).natAbs = 1 from rfl, Lib.decDigits, dif_pos (by decide)]
  rfl
theorem parse_A : parseL [80, 97, 99, 107, 97, 103, 101, 58, 32, 97, 98, 10, 80, 105, 110, 58, 32, 118, 101, 114, 115, 105, 111, 110, 32, 49, 46, 42, 10, 80, 105, 110, 45, 80, 114, 105, 111, 114, 105, 116, 121, 58, 32, 45, 49] = ([stPin pinA], 0, 0) := by
  have e : stPin pinA = [⟨kPack, ⟨#[97, 98]⟩⟩, ⟨kPin, ⟨#[118, 101, 114, 115, 105, 111, 110, 32, 49, 46, 42]⟩⟩, ⟨kPrio, ⟨#[45, 49]⟩⟩] := by
    unfold stPin pinA
    rw [itoa_m1]
    have : pinV ⟨#[49, 46]⟩ = ⟨#[118, 101, 114, 115, 105, 111, 110, 32, 49, 46, 42]⟩ := bytes_injQ (by rw [pinV_list]; rfl)
    rw [this]
  rw [e]
  rfl
theorem right_A : rightQ pinA = true := by decide +kernel
theorem parsed_A : parseP (⟨#[80, 97, 99, 107, 97, 103, 101, 58, 32, 97, 98, 10, 80, 105, 110, 58, 32, 118, 101, 114, 115, 105, 111, 110, 32, 49, 46, 42, 10, 80, 105, 110, 45, 80, 114, 105, 111, 114, 105, 116, 121, 58, 32, 45, 49]⟩ : ByteArray).data.toList = ([pinA], 0, 0) := by
  unfold parseP
  rw [show (⟨#[80, 97, 99, 107, 97, 103, 101, 58, 32, 97, 98, 10, 80, 105, 110, 58, 32, 118, 101, 114, 115, 105, 111, 110, 32, 49, 46, 42, 10, 80, 105, 110, 45, 80, 114, 105, 111, 114, 105, 116, 121, 58, 32, 45, 49]⟩ : ByteArray).data.toList = [80, 97, 99, 107, 97, 103, 101, 58, 32, 97, 98, 10, 80, 105, 110, 58, 32, 118, 101, 114, 115, 105, 111, 110, 32, 49, 46, 42, 10, 80, 105, 110, 45, 80, 114, 105, 111, 114, 105, 116, 121, 58, 32, 45, 49] from rfl, parse_A]
  dsimp only
  rw [if_pos rfl, if_neg (by decide)]
  exact pinsG_back [pinA] 0 [] (fun p hp => by rw [List.mem_singleton.1 hp]; exact right_A)
theorem shown8_ev : Ev (fun k => keelsonlaw8_shown.f k) true := by
  unfold keelsonlaw8_shown.f
  refine Ev.bind (pparse_ev _) ?_
  rw [parsed_A]
  refine Ev.bind (same8_ev [pinA] (by decide)) (Ev.pos rfl (Ev.pos rfl (Ev.succ ?_)))
  simp only [keelsonlaw8_shown.j0]
  refine Ev.neg (by decide) (Ev.let (Ev.pos (by decide) (Ev.let (Ev.pos (by decide) (Ev.let ?_)))))
  refine Ev.call (show pins_Priority.f _ _ _ = some (-1) by decide +kernel) (Ev.pos rfl (Ev.call (show pins_Priority.f _ _ _ = some 900 by decide +kernel) (Ev.pos rfl (Ev.call (show pins_Priority.f _ _ _ = some 900 by decide +kernel) (Ev.pos rfl (Ev.call (show pins_Priority.f _ _ _ = some 500 by decide +kernel) (Ev.some rfl)))))))
def smallP (l : List Pn) : Bool := decide (l.length ≤ 70) && l.all fun p => decide (p.f0.size ≤ 100) && decide (p.f1.size ≤ 100)
theorem small8_loop (a : List Pn) (hn : a.length ≤ 1000000) (d : Nat) : ∀ i : Nat, i + d = a.length → Ev (fun k => keelsonlaw8_small.l0 k a (i : Int)) ((a.drop i).all fun p => decide (p.f0.size ≤ 100) && decide (p.f1.size ≤ 100)) := by
  induction d with
  | zero =>
    intro i hi
    rw [List.drop_eq_nil_of_le (by omega)]
    refine Ev.succ ?_
    simp only [keelsonlaw8_small.l0]
    exact Ev.neg (by omega) (Ev.some rfl)
  | succ d ih =>
    intro i hi
    have hil : i < a.length := by omega
    have hn := ih (i + 1) (by omega)
    refine Ev.succ ?_
    simp only [keelsonlaw8_small.l0]
    rw [wrap_step hil (by omega), rdP_nat a i hil, List.drop_eq_getElem_cons hil, List.all_cons]
    refine Ev.pos (by omega) (Ev.pos (by omega) (Ev.ite2 (fun h => Ev.some ?_) (fun h => Ev.ite2 (fun h2 => Ev.some ?_) (fun h2 => ?_))))
    · rw [decide_eq_false (show ¬ a[i].f0.size ≤ 100 by omega)]; rfl
    · rw [decide_eq_false (show ¬ a[i].f1.size ≤ 100 by omega), Bool.and_false]; rfl
    · rw [decide_eq_true (show a[i].f0.size ≤ 100 by omega), decide_eq_true (show a[i].f1.size ≤ 100 by omega)]; exact hn
theorem small8_ev (a : List Pn) (hn : a.length ≤ 140737488351232) : Ev (fun k => keelsonlaw8_small.f k a) (smallP a) := by
  unfold keelsonlaw8_small.f smallP
  by_cases h : a.length ≤ 70
  · rw [decide_eq_true h, Bool.true_and]
    have := small8_loop a (by omega) a.length 0 (by omega)
    rw [List.drop_zero] at this
    exact Ev.neg (by omega) this
  · rw [decide_eq_false h]
    exact Ev.pos (by omega) (Ev.some rfl)
theorem smallP_sizes {l : List Pn} (h : smallP l = true) : l.length ≤ 70 ∧ ∀ p ∈ l, p.f0.size ≤ 100 ∧ p.f1.size ≤ 100 := by
  unfold smallP at h
  simp only [Bool.and_eq_true, decide_eq_true_iff, List.all_eq_true] at h
  exact h
end Go.Proofs.YtlcfpmdamehopaaGreatDoor.PA
/- What stanzas' texts come to in program and reference: values, fields, texts, whether stanzas are right; as plain functions. Conditions: sizes that fit. -/
namespace Go.Proofs.YtlcfpmdamehopaaGreatDoor.PA
open Go.RowKit Go.Proofs.YtlcfpmdamehopaaGreatDoorW.PrintWords Go.Proofs.YtlcfpmdamehopaaGreatDoorW.PrintLast Go.Proofs.YtlcfpmdamehopaaGreatDoorW.PrintMore

/-! a value -/
def headOk (l0 : List UInt8) : Bool := match l0 with
  | [] => true
  | c :: _ => decide (c.toNat ≠ 32)
def moreOk (l : List UInt8) : Bool := cleanL l && !l.isEmpty
theorem lines_head (s : List UInt8) (l0 : List UInt8) (rs : List (List UInt8)) (h : linesL s = l0 :: rs) : Lib.hasPrefix s [32] = !headOk l0 := by
  cases s with
  | nil => cases h; rfl
  | cons c s =>
    unfold linesL at h
    by_cases h10 : c.toNat = 10
    · rw [if_pos h10] at h
      cases h
      obtain rfl : c = 10 := (byte_is c 10 (by decide)).1 h10
      rfl
    · rw [if_neg h10] at h
      have hc : ∃ t, l0 = c :: t := by
        cases e : linesL s with
        | nil => rw [e] at h; cases h; exact ⟨_, rfl⟩
        | cons l ls => rw [e] at h; cases h; exact ⟨_, rfl⟩
      obtain ⟨t, rfl⟩ := hc
      show ([32] : List UInt8).isPrefixOf (c :: s) = !decide (c.toNat ≠ 32)
      by_cases h32 : c.toNat = 32
      · obtain rfl : c = 32 := (byte_is c 32 (by decide)).1 h32
        simp
      · have h2 : ¬ c = 32 := fun e => h32 (by rw [e]; rfl)
        rw [decide_eq_true h32]
        simp only [List.isPrefixOf, Bool.and_true]
        exact beq_eq_false_iff_ne.2 (Ne.symm h2)
theorem value_is (s : List UInt8) (l0 : List UInt8) (rs : List (List UInt8)) (h : linesL s = l0 :: rs) : valueF s = (cleanL l0 && rs.all moreOk && headOk l0) := by
  unfold valueF
  rw [lines_head s l0 rs h, h, Bool.not_not]
  have e1 : Lib.containsS (((l0 :: rs).map mkB).drop 1) ⟨#[]⟩ = rs.any fun l => l.isEmpty := by
    rw [Bool.eq_iff_iff, Lib.containsS_iff, List.any_eq_true]
    rw [List.map_cons, List.drop_succ_cons, List.drop_zero, List.mem_map]
    constructor
    · rintro ⟨l, hl, e⟩
      refine ⟨l, hl, ?_⟩
      cases l with
      | nil => rfl
      | cons c l => cases e
    · rintro ⟨l, hl, e⟩
      refine ⟨l, hl, ?_⟩
      cases l with
      | nil => rfl
      | cons c l => cases e
  have e2 : (((l0 :: rs).map mkB).any fun x => belowF x 32) = !((l0 :: rs).all cleanL) := by
    rw [List.any_map, List.not_all_eq_any_not]
    congr 1
    funext l
    show belowF (mkB l) 32 = _
    rw [below_clean]; rfl
  rw [e1, e2, Bool.not_not, List.all_cons]
  have e3 : rs.all moreOk = (rs.all cleanL && !(rs.any fun l => l.isEmpty)) := by
    rw [List.not_any_eq_all_not]
    induction rs with
    | nil => rfl
    | cons l rs ih =>
      have ih' : rs.all moreOk = (rs.all cleanL && rs.all fun a => !a.isEmpty) := by
        clear ih e1 e2 h
        induction rs with
        | nil => rfl
        | cons l rs ih => rw [List.all_cons, List.all_cons, List.all_cons, ih]; unfold moreOk; cases cleanL l <;> cases l.isEmpty <;> simp
      rw [List.all_cons, List.all_cons, List.all_cons, ih']
      unfold moreOk
      cases cleanL l <;> cases l.isEmpty <;> simp
  rw [e3]
  cases headOk l0 <;> cases cleanL l0 <;> cases rs.all cleanL <;> cases (rs.any fun l => l.isEmpty) <;> rfl
theorem mkB_toList (l : List UInt8) : (mkB l).toList = l := by rw [ByteArray.toList_eq]; rfl
theorem refvalue_loop (l0 : List UInt8) (rs : List (List UInt8)) (hn : rs.length + 1 ≤ 9223372036854775807) (hs : ∀ l ∈ l0 :: rs, l.length ≤ 4611686018427387904) (d : Nat) : ∀ i : Nat, i + d = rs.length → Ev (fun k => keelsonref5_value.l0 k ((l0 :: rs).map mkB) ((i : Int) + 1)) ((rs.drop i).all moreOk && headOk l0) := by
  induction d with
  | zero =>
    intro i hi
    refine Ev.succ ?_
    simp only [keelsonref5_value.l0]
    rw [List.drop_eq_nil_of_le (by omega)]
    have e0 : rdOf ByteArray.empty ((l0 :: rs).map mkB) 0 = mkB l0 := by
      rw [show (0 : Int) = ((0 : Nat) : Int) from rfl, rdOf_nat _ _ 0 (by simp)]; simp
    rw [e0]
    refine Ev.neg (by simp; omega) (Ev.pos (by simp) ?_)
    rw [mkB_toList, List.all_nil, Bool.true_and]
    cases l0 with
    | nil => exact Ev.pos rfl (Ev.some rfl)
    | cons c t =>
      refine Ev.neg (by simp) (Ev.pos (by rw [mkB_size]; simp) (Ev.some ?_))
      have hb := bt_nat (mkB (c :: t)) 0 (by show 0 < (c :: t).length; simp)
      rw [show ((0 : Nat) : Int) = 0 from rfl] at hb
      rw [hb, show (mkB (c :: t)).data.toList[0]'(by show 0 < (c :: t).length; simp) = c from rfl]
      show ((c.toNat : Int) != 32) = decide (c.toNat ≠ 32)
      rw [Bool.eq_iff_iff, bne_iff_ne, decide_eq_true_iff]
      omega
  | succ d ih =>
    intro i hi
    have hil : i < rs.length := by omega
    refine Ev.succ ?_
    simp only [keelsonref5_value.l0]
    have e1 : rdOf ByteArray.empty ((l0 :: rs).map mkB) ((i : Int) + 1) = mkB rs[i] := by
      rw [show ((i : Int) + 1) = ((i + 1 : Nat) : Int) from rfl, rdOf_nat _ _ (i + 1) (by simp; omega)]; simp
    rw [e1, show wrap64 ((i : Int) + 1 + 1) = (((i + 1 : Nat) : Int) + 1) from by unfold wrap64; omega, List.drop_eq_getElem_cons hil, List.all_cons]
    refine Ev.pos (by simp; omega) (Ev.pos (by omega) (Ev.bind (refclean_ev (mkB rs[i]) (by rw [mkB_size]; exact hs _ (List.mem_cons_of_mem _ (List.getElem_mem hil)))) ?_))
    show Ev _ ((moreOk rs[i] && _) && _)
    unfold moreOk
    rw [show (mkB rs[i]).data.toList = rs[i] from rfl, mkB_toList]
    cases hc : cleanL rs[i] with
    | false => exact Ev.neg (by decide) (Ev.some rfl)
    | true =>
      refine Ev.pos rfl (Ev.pos (by omega) ?_)
      cases hr : rs[i] with
      | nil => exact Ev.pos rfl (Ev.some rfl)
      | cons c t =>
        refine Ev.neg (by simp) ?_
        have := ih (i + 1) (by omega)
        unfold moreOk at this
        simpa using this
theorem refvalue_ev (s : ByteArray) (hs : s.size ≤ 4398046511104) : Ev (fun k => keelsonref5_value.f k s) (valueF s.data.toList) := by
  unfold keelsonref5_value.f
  refine Ev.bind (reflines_ev s hs) ?_
  have hll := lines_len s.data.toList
  have hl1 := line_len1 s.data.toList
  have hl0 := lines_ne s.data.toList
  rw [data_length] at hll hl1
  obtain ⟨l0, rs, e⟩ : ∃ l0 rs, linesL s.data.toList = l0 :: rs := by
    cases h : linesL s.data.toList with
    | nil => exact absurd h hl0
    | cons a b => exact ⟨a, b, rfl⟩
  rw [value_is _ l0 rs e]
  rw [e] at hll hl1 ⊢
  simp only [List.length_cons] at hll
  refine Ev.succ ?_
  simp only [keelsonref5_value.l0]
  have e0 : rdOf ByteArray.empty ((l0 :: rs).map mkB) 0 = mkB l0 := by
    rw [show (0 : Int) = ((0 : Nat) : Int) from rfl, rdOf_nat _ _ 0 (by simp)]; simp
  rw [e0]
  refine Ev.pos (by simp) (Ev.pos (by decide) (Ev.bind (refclean_ev (mkB l0) (by rw [mkB_size]; have := hl1 l0 List.mem_cons_self; omega)) ?_))
  rw [show (mkB l0).data.toList = l0 from rfl]
  cases hc : cleanL l0 with
  | false => exact Ev.neg (by decide) (Ev.some rfl)
  | true =>
    refine Ev.pos rfl (Ev.neg (by decide) ?_)
    have := refvalue_loop l0 rs (by omega) (fun l hl => by have := hl1 l hl; omega) rs.length 0 (by omega)
    rw [List.drop_zero] at this
    rw [Bool.true_and]
    rw [show wrap64 (0 + 1) = (((0 : Nat) : Int) + 1) from by unfold wrap64; rfl]
    exact this

/-! a field's text -/
def esc (c : UInt8) : List UInt8 := if c.toNat = 10 then [10, 32] else [c]
def joinE : List (List UInt8) → List UInt8
  | [] => []
  | l0 :: rs => l0 ++ rs.flatMap fun l => 10 :: 32 :: l
theorem lines_cons (c : UInt8) (s : List UInt8) : linesL (c :: s) = if c.toNat = 10 then [] :: linesL s else match linesL s with | l :: ls => (c :: l) :: ls | [] => [[c]] := by rw [linesL]; rfl
theorem join_esc : ∀ s : List UInt8, joinE (linesL s) = s.flatMap esc := by
  intro s
  induction s with
  | nil => rfl
  | cons c s ih =>
    rw [List.flatMap_cons, ← ih, lines_cons]
    have hne := lines_ne s
    generalize linesL s = ls at hne ⊢
    unfold esc
    by_cases h : c.toNat = 10
    · rw [if_pos h, if_pos h]
      cases ls with
      | nil => exact absurd rfl hne
      | cons l ls => simp [joinE]
    · rw [if_neg h, if_neg h]
      cases ls with
      | nil => exact absurd rfl hne
      | cons l ls => simp [joinE]
theorem replace_lines : ∀ (k : Nat) (s : List UInt8), s.count 10 = k → Lib.replaceK [10] [10, 32] k s = joinE (linesL s) := by
  intro k
  induction k with
  | zero =>
    intro s h
    rw [lines_one s (List.count_eq_zero.1 h)]
    show s = s ++ _
    simp
  | succ k ih =>
    intro s h
    obtain ⟨x, y, rfl, hx⟩ := List.eq_append_cons_of_mem (List.count_pos_iff.1 (show 0 < s.count 10 by omega))
    have hc : y.count 10 = k := by
      rw [List.count_append, List.count_eq_zero.2 hx, List.count_cons_self] at h
      omega
    rw [Lib.replaceK_hit [10] [10, 32] k _ x.length (by rw [Lib.index_one]; exact index_at x y hx), lines_join, lines_one x hx]
    rw [List.take_left' rfl, show List.drop (x.length + [(10 : UInt8)].length) (x ++ 10 :: y) = y from by simp, ih y hc]
    have hne := lines_ne y
    cases e : linesL y with
    | nil => exact absurd e hne
    | cons l ls => simp [joinE]
theorem more_is (s : List UInt8) : moreL s = joinE (linesL s) := by
  unfold moreL Lib.replaceAll Lib.replace Lib.replaceNum
  rw [if_neg (by decide), if_pos (.inl (by decide)), Lib.count_one]
  exact replace_lines _ s rfl
theorem more_len (s : List UInt8) : (moreL s).length ≤ 2 * s.length := by
  rw [more_is, join_esc]
  induction s with
  | nil => exact Nat.le_refl _
  | cons c s ih =>
    rw [List.flatMap_cons, List.length_append, List.length_cons]
    have : (esc c).length ≤ 2 := by unfold esc; split <;> simp
    omega
theorem space_is (s l0 : List UInt8) (rs : List (List UInt8)) (h : linesL s = l0 :: rs) : spaceT s = if l0 = [] then [] else [32] := by
  cases s with
  | nil => cases h; rfl
  | cons c s =>
    rw [lines_cons] at h
    show (if c.toNat = 10 then [] else [32]) = _
    by_cases h10 : c.toNat = 10
    · rw [if_pos h10] at h
      cases h
      rw [if_pos h10, if_pos rfl]
    · rw [if_neg h10] at h
      have hne := lines_ne s
      cases e : linesL s with
      | nil => exact absurd e hne
      | cons l ls =>
        rw [e] at h
        cases h
        rw [if_neg h10, if_neg (by simp)]
theorem tail_is (l0 : List UInt8) (rs : List (List UInt8)) : joinE (l0 :: rs) ++ [10] = l0 ++ [10] ++ rs.flatMap lineR := by
  unfold joinE
  have key : ∀ rs : List (List UInt8), (rs.flatMap fun l => 10 :: 32 :: l) ++ [10] = [10] ++ rs.flatMap lineR := by
    intro rs
    induction rs with
    | nil => rfl
    | cons l rs ih =>
      rw [List.flatMap_cons, List.flatMap_cons, List.append_assoc, ih]
      simp [lineR]
  rw [List.append_assoc, key, List.append_assoc]
theorem field_is (f : Fd) : refFieldT f.f0.data.toList f.f1.data.toList = fieldT f := by
  unfold refFieldT fieldT
  obtain ⟨l0, rs, e⟩ : ∃ l0 rs, linesL f.f1.data.toList = l0 :: rs := by
    cases h : linesL f.f1.data.toList with
    | nil => exact absurd h (lines_ne _)
    | cons a b => exact ⟨a, b, rfl⟩
  rw [space_is _ l0 rs e, more_is, e, tail_is]
  dsimp only
  unfold headR
  by_cases h : l0 = []
  · subst h; simp
  · rw [if_neg h, if_neg h]; simp
theorem fieldT_len (f : Fd) : (fieldT f).length ≤ f.f0.size + 2 * f.f1.size + 3 := by
  have h1 := more_len f.f1.data.toList
  have h2 : (spaceT f.f1.data.toList).length ≤ 1 := by
    unfold spaceT
    split
    · exact Nat.zero_le _
    · split <;> simp
  unfold fieldT
  rw [data_length] at h1
  simp only [List.length_append, List.length_singleton]
  rw [data_length]
  omega
theorem reffield_f (f : Fd) (h0 : f.f0.size ≤ 100) (h1 : f.f1.size ≤ 2000) : keelsonref5_field.f f.f0 f.f1 = some (mkB (fieldT f)) := by
  have := fieldT_len f
  unfold keelsonref5_field.f
  rw [field_is, if_pos ⟨by omega, by omega⟩]

/-! a text -/
def SmallL (l : List (List Fd)) : Prop := l.length ≤ 210 ∧ ∀ st ∈ l, st.length ≤ 45 ∧ ∀ f ∈ st, f.f0.size ≤ 100 ∧ f.f1.size ≤ 2000
theorem flat_len {α : Type} (g : α → List UInt8) (B : Nat) (l : List α) (h : ∀ x ∈ l, (g x).length ≤ B) : (l.flatMap g).length ≤ l.length * B := by
  induction l with
  | nil => simp
  | cons x l ih =>
    rw [List.flatMap_cons, List.length_append, List.length_cons, Nat.add_mul, Nat.one_mul]
    have h1 := h x List.mem_cons_self
    have h2 := ih fun y hy => h y (List.mem_cons_of_mem _ hy)
    omega
theorem stanzaT_len (st : List Fd) (hl : st.length ≤ 45) (h : ∀ f ∈ st, f.f0.size ≤ 100 ∧ f.f1.size ≤ 2000) : (stanzaT st).length ≤ 200000 := by
  have := flat_len fieldT 4103 st (fun f hf => by have := fieldT_len f; have := h f hf; omega)
  unfold stanzaT
  have h2 : st.length * 4103 ≤ 45 * 4103 := Nat.mul_le_mul_right _ hl
  omega
theorem textS_len (l : List (List Fd)) (h : SmallL l) : (textS l).length ≤ 50000000 := by
  have h1 := flat_len (fun st => 10 :: stanzaT st) 200001 l (fun st hst => by
    have := stanzaT_len st (h.2 st hst).1 (h.2 st hst).2
    rw [List.length_cons]; omega)
  have h2 : l.length * 200001 ≤ 210 * 200001 := Nat.mul_le_mul_right _ h.1
  have h3 : (textS l).length ≤ (l.flatMap fun st => 10 :: stanzaT st).length := by
    cases l with
    | nil => exact Nat.le_refl _
    | cons st r =>
      unfold textS
      rw [List.flatMap_cons, List.length_append, List.length_append, List.length_cons]; omega
  omega
def numsU (l : List UInt8) : List Int := l.map fun b => (b.toNat : Int)
theorem nums_str (l : List UInt8) : strOfNums (numsU l) = mkB l := by
  unfold strOfNums numsU mkB
  rw [List.map_map]
  have : ((fun n : Int => UInt8.ofNat n.toNat) ∘ fun b : UInt8 => (b.toNat : Int)) = id := by
    funext b
    show UInt8.ofNat ((b.toNat : Int).toNat) = b
    rw [Int.toNat_natCast]; simp
  rw [this, List.map_id]
theorem reftext_inner (l : List (List Fd)) (hs : SmallL l) (i : Nat) (hi : i < l.length) (r : ByteArray) (acc : List UInt8) (hacc : acc.length + (stanzaT l[i]).length ≤ 50000000)
    (hnext : Ev (fun k => keelsonref5_text.l0 k l (numsU (acc ++ stanzaT l[i])) ((i + 1 : Nat) : Int)) r) (d : Nat) : ∀ j : Nat, j + d = l[i].length → Ev (fun k => keelsonref5_text.l1 k l (numsU (acc ++ (l[i].take j).flatMap fieldT)) (i : Int) (j : Int)) r := by
  have hst := hs.2 _ (List.getElem_mem hi)
  have hln := hs.1
  induction d with
  | zero =>
    intro j hj
    refine Ev.succ ?_
    simp only [keelsonref5_text.l1]
    rw [rdL_nat l i hi, wrap_step hi (by omega), List.take_of_length_le (by omega)]
    exact Ev.pos (by omega) (Ev.pos (by omega) (Ev.neg (by omega) hnext))
  | succ d ih =>
    intro j hj
    have hjl : j < l[i].length := by omega
    have hf := hst.2 _ (List.getElem_mem hjl)
    have hl2 := field_len l[i] j hjl
    have h2 := ih (j + 1) (by omega)
    refine Ev.succ ?_
    simp only [keelsonref5_text.l1]
    rw [rdL_nat l i hi, rdT_nat l[i] j hjl, wrap_step hjl (by omega)]
    refine Ev.pos (by omega) (Ev.pos (by omega) (Ev.pos (by omega) (Ev.pos (by omega) (Ev.call (reffield_f _ hf.1 hf.2) (Ev.pos ?_ ?_)))))
    · rw [mkB_size]; unfold numsU; rw [List.length_map, List.length_append]; omega
    · have e : numsU (acc ++ (l[i].take j).flatMap fieldT) ++ bytesOf (mkB (fieldT l[i][j])) = numsU (acc ++ (l[i].take (j + 1)).flatMap fieldT) := by
        rw [List.take_succ_eq_append_getElem hjl, List.flatMap_append, List.flatMap_cons, List.flatMap_nil, List.append_nil, ← List.append_assoc]
        unfold numsU bytesOf
        rw [List.map_append (l₁ := acc ++ _)]
        rfl
      rw [e]
      exact h2
theorem reftext_loop (l : List (List Fd)) (hs : SmallL l) (d : Nat) : ∀ i : Nat, i + d = l.length → Ev (fun k => keelsonref5_text.l0 k l (numsU (textS (l.take i))) (i : Int)) (mkB (textS l)) := by
  have hln := hs.1
  have htl := textS_len l hs
  induction d with
  | zero =>
    intro i hi
    refine Ev.succ ?_
    simp only [keelsonref5_text.l0]
    rw [List.take_of_length_le (by omega)]
    exact Ev.neg (by omega) (Ev.some (nums_str _))
  | succ d ih =>
    intro i hi
    have hil : i < l.length := by omega
    have h2 := ih (i + 1) (by omega)
    rw [text_step l i hil] at h2
    have hl3 := text_len l i hil
    have key : ∀ acc : List UInt8, acc = textS (l.take i) ++ (if i = 0 then [] else [10]) → Ev (fun k => keelsonref5_text.j1 k l (numsU acc) (i : Int)) (mkB (textS l)) := by
      intro acc ha
      rw [← ha] at h2
      refine Ev.succ ?_
      simp only [keelsonref5_text.j1]
      have := reftext_inner l hs i hil (mkB (textS l)) acc (by rw [ha, List.length_append]; omega) h2 l[i].length 0 (by omega)
      rw [List.take_zero, List.flatMap_nil, List.append_nil] at this
      exact this
    refine Ev.succ ?_
    simp only [keelsonref5_text.l0]
    refine Ev.pos (by omega) ?_
    by_cases h0 : i = 0
    · refine Ev.neg (by omega) (key _ ?_)
      rw [if_pos h0, List.append_nil]
    · refine Ev.pos (by omega) (Ev.pos ?_ ?_)
      · unfold numsU; rw [List.length_map]; omega
      · have := key (textS (l.take i) ++ [10]) (by rw [if_neg h0])
        unfold numsU at this ⊢
        rw [List.map_append] at this
        exact this
theorem reftext_ev (l : List (List Fd)) (hs : SmallL l) : Ev (fun k => keelsonref5_text.f k l) (mkB (textS l)) := by
  unfold keelsonref5_text.f
  exact reftext_loop l hs l.length 0 (by omega)

/-! a stanza -/
theorem get_some (pre : List Fd) (n : ByteArray) : (getG pre n).isSome = pre.any fun f => decide (f.f0 = n) := by
  unfold getG
  rw [Option.isSome_map, Bool.eq_iff_iff, List.find?_isSome, List.any_eq_true]
theorem stanza_inner (st : List Fd) (i : Nat) (hi : i < st.length) (hn : st.length ≤ 45) (r : Bool) (hnext : Ev (fun k => keelsonref5_stanza.l0 k st ((i + 1 : Nat) : Int)) r) (d : Nat) : ∀ j : Nat, j + d = i → Ev (fun k => keelsonref5_stanza.l1 k st (i : Int) (j : Int)) (!(((st.take i).drop j).any fun f => decide (f.f0 = st[i].f0)) && r) := by
  induction d with
  | zero =>
    intro j hj
    refine Ev.succ ?_
    simp only [keelsonref5_stanza.l1]
    rw [wrap_step hi (by omega), List.drop_eq_nil_of_le (by rw [List.length_take]; omega)]
    exact Ev.neg (by omega) (by simpa using hnext)
  | succ d ih =>
    intro j hj
    have hjl : j < st.length := by omega
    have hjt : j < (st.take i).length := by rw [List.length_take]; omega
    refine Ev.succ ?_
    simp only [keelsonref5_stanza.l1]
    rw [rdT_nat st j hjl, rdT_nat st i hi, wrap_step hjl (by omega), List.drop_eq_getElem_cons hjt, List.any_cons, List.getElem_take]
    refine Ev.pos (by omega) (Ev.pos (by omega) (Ev.pos (by omega) (Ev.pos (by omega) (Ev.pos (by omega) ?_))))
    by_cases he : st[j].f0 = st[i].f0
    · rw [decide_eq_true he]
      exact Ev.pos (bstr.2 he) (Ev.some rfl)
    · rw [decide_eq_false he, Bool.false_or]
      exact Ev.neg (fun e => he (bstr.1 e)) (ih (j + 1) (by omega))
theorem refstanza_loop (st : List Fd) (hn : st.length ≤ 45) (hs : ∀ f ∈ st, f.f0.size ≤ 100 ∧ f.f1.size ≤ 2000) (d : Nat) : ∀ i : Nat, i + d = st.length → Ev (fun k => keelsonref5_stanza.l0 k st (i : Int)) (fineAll (st.take i) (st.drop i) && (decide (0 < st.length) && decide (st.length ≤ 40))) := by
  induction d with
  | zero =>
    intro i hi
    refine Ev.succ ?_
    simp only [keelsonref5_stanza.l0]
    rw [List.drop_eq_nil_of_le (by omega)]
    refine Ev.neg (by omega) ?_
    show Ev _ (true && _)
    rw [Bool.true_and]
    by_cases h0 : 0 < st.length
    · rw [decide_eq_true h0, Bool.true_and]
      exact Ev.pos (by omega) (Ev.some (decide_eq_decide.2 (by omega)))
    · rw [decide_eq_false h0, Bool.false_and]
      exact Ev.neg (by omega) (Ev.some rfl)
  | succ d ih =>
    intro i hi
    have hil : i < st.length := by omega
    have hf := hs _ (List.getElem_mem hil)
    have h2 := ih (i + 1) (by omega)
    refine Ev.succ ?_
    simp only [keelsonref5_stanza.l0]
    rw [rdT_nat st i hil, fineAll_step st i hil]
    refine Ev.pos (by omega) (Ev.pos (by omega) (Ev.bind (refname_ev st[i].f0 (by omega)) (Ev.bind (refvalue_ev st[i].f1 (by omega)) ?_)))
    unfold fineF
    rw [get_some]
    cases hN : nameL st[i].f0.data.toList with
    | false =>
      refine Ev.neg (by decide) (Ev.succ ?_)
      simp only [keelsonref5_stanza.j1]
      refine Ev.pos (by first | rfl | trivial) (Ev.some ?_)
      simp
    | true =>
      refine Ev.pos rfl (Ev.succ ?_)
      simp only [keelsonref5_stanza.j1]
      cases hV : valueF st[i].f1.data.toList with
      | false => exact Ev.pos rfl (Ev.some (by simp))
      | true =>
        refine Ev.neg (by decide) ?_
        have := stanza_inner st i hil hn _ h2 i 0 (by omega)
        rw [List.drop_zero] at this
        simpa [Bool.and_assoc] using this
theorem refstanza_ev (st : List Fd) (hn : st.length ≤ 45) (hs : ∀ f ∈ st, f.f0.size ≤ 100 ∧ f.f1.size ≤ 2000) : Ev (fun k => keelsonref5_stanza.f k st) (rightS st) := by
  unfold keelsonref5_stanza.f rightS
  have := refstanza_loop st hn hs st.length 0 (by omega)
  rw [List.take_zero, List.drop_zero] at this
  exact this

/-! all stanzas -/
theorem right_is (l : List (List Fd)) : rightL l = (l.all rightS && (decide (l.length ≤ 200) && decide ((textS l).length ≤ 60000))) := by
  unfold rightL
  have : (!(l.any fun st => !rightS st)) = l.all rightS := by
    rw [List.not_any_eq_all_not]; congr 1; funext st; rw [Bool.not_not]
  rw [this]
  cases l.all rightS <;> cases decide (l.length ≤ 200) <;> simp
theorem refright_loop (l : List (List Fd)) (hs : SmallL l) (d : Nat) : ∀ i : Nat, i + d = l.length → Ev (fun k => keelsonref5_Right.l0 k l (i : Int)) ((l.drop i).all rightS && (decide (l.length ≤ 200) && decide ((textS l).length ≤ 60000))) := by
  have hln := hs.1
  induction d with
  | zero =>
    intro i hi
    refine Ev.succ ?_
    simp only [keelsonref5_Right.l0]
    rw [List.drop_eq_nil_of_le (by omega), List.all_nil, Bool.true_and]
    refine Ev.neg (by omega) ?_
    by_cases h : l.length ≤ 200
    · rw [decide_eq_true h, Bool.true_and]
      exact Ev.pos (by omega) (Ev.bind (reftext_ev l hs) (Ev.some (by rw [mkB_size]; exact decide_eq_decide.2 (by omega))))
    · rw [decide_eq_false h, Bool.false_and]
      exact Ev.neg (by omega) (Ev.some rfl)
  | succ d ih =>
    intro i hi
    have hil : i < l.length := by omega
    have hst := hs.2 _ (List.getElem_mem hil)
    refine Ev.succ ?_
    simp only [keelsonref5_Right.l0]
    rw [rdL_nat l i hil, wrap_step hil (by omega), List.drop_eq_getElem_cons hil, List.all_cons]
    refine Ev.pos (by omega) (Ev.pos (by omega) (Ev.bind (refstanza_ev l[i] hst.1 hst.2) ?_))
    cases rightS l[i] with
    | true => exact Ev.pos rfl (by simpa using ih (i + 1) (by omega))
    | false => exact Ev.neg (by decide) (Ev.some rfl)
theorem refright_ev (l : List (List Fd)) (hs : SmallL l) : Ev (fun k => keelsonref5_Right.f k l) (rightL l) := by
  unfold keelsonref5_Right.f
  have := refright_loop l hs l.length 0 (by omega)
  rw [List.drop_zero] at this
  rw [right_is]
  exact this
def printL (l : List (List Fd)) : ByteArray := if rightL l = true then mkB (textS l) else ⟨#[]⟩
theorem refprint_ev (l : List (List Fd)) (hs : SmallL l) : Ev (fun k => keelsonref5_Print.f k l) (printL l) := by
  unfold keelsonref5_Print.f printL
  refine Ev.bind (refright_ev l hs) ?_
  cases rightL l with
  | true => exact Ev.pos rfl (Ev.bind (reftext_ev l hs) (Ev.some rfl))
  | false => exact Ev.neg (by decide) (Ev.some rfl)
theorem small_fits {l : List (List Fd)} (h : SmallL l) : fitsT l = true := by
  have := textS_len l h
  unfold fitsT
  rw [decide_eq_true (by omega), Bool.true_and, List.all_eq_true]
  intro st hst
  rw [List.all_eq_true]
  intro f hf
  have := (h.2 st hst).2 f hf
  exact decide_eq_true (by omega)
end Go.Proofs.YtlcfpmdamehopaaGreatDoor.PA
/- Right stanzas are read as they were printed, as plain functions. No condition. -/
namespace Go.Proofs.YtlcfpmdamehopaaGreatDoor.PA
open Go.RowKit Go.Proofs.YtlcfpmdamehopaaGreatDoorW.PrintWords Go.Proofs.YtlcfpmdamehopaaGreatDoorW.PrintLast Go.Proofs.YtlcfpmdamehopaaGreatDoorW.PrintMore

end Go.Proofs.YtlcfpmdamehopaaGreatDoor.PA
