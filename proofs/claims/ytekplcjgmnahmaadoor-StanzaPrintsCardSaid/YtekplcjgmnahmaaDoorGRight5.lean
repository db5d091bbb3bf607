/- keelson/stanza.value, right, text, Right, Print: what they come to. Conditions: the library's own number stands in its variable; values have at most 2^32 bytes or so, the whole text at most 2^47. -/
import Derived.Test.YtekplcjgmnahmaaDoorGRefParse5
import Derived.Test.YtekplcjgmnahmaaDoorMStanzaR
import Derived.Test.YtekplcjgmnahmaaDoorGParse5
import Derived.Lib.ReplaceLaws
import Derived.Shelf.Strings.BuilderK
/- keelsonref5.field: a field's lines: what it comes to. Conditions: sizes below 2^42, the text at most 2^47. -/
namespace Go.Proofs.YtekplcjgmnahmaaDoor.PA
open Go.RowKit Go.Proofs.YtekplcjgmnahmaaDoorW.PrintWords Go.Proofs.YtekplcjgmnahmaaDoorW.PrintLast Go.Proofs.YtekplcjgmnahmaaDoorW.PrintMore

theorem add_op (x y : ByteArray) (h : x.size + y.size ≤ 9223372036854775807) : ∃ s : ByteArray, s.data.toList = x.data.toList ++ y.data.toList ∧ s.size = x.size + y.size ∧ ∀ w : World, (Op.stringOp .add x y).run Tryd.prog w = .ok (.string s) w :=
  ⟨x ++ y, by simp [ByteArray.data_append], by simp, fun w => run_string_add_sum w x y h⟩
def lineR (l : List UInt8) : List UInt8 := [32] ++ l ++ [10]
def headR (x l0 : List UInt8) : List UInt8 := x ++ [58] ++ (if l0 = [] then [] else [32] ++ l0) ++ [10]
def refFieldT (x y : List UInt8) : List UInt8 := match linesL y with
  | l0 :: r => headR x l0 ++ r.flatMap lineR
  | [] => []
def keelsonref5_field.f (x y : ByteArray) : Option ByteArray := if y.size ≤ 4398046511104 ∧ (refFieldT x.data.toList y.data.toList).length ≤ 140737488355328 then some (mkB (refFieldT x.data.toList y.data.toList)) else none
theorem mkB_nil : mkB [] = ⟨#[]⟩ := rfl
theorem below_row0 {W w' : World} {g : Nat} {ob : Obj} (h : Below W.heap.size W w') (hg : W.heap[g]? = some ob) : w'.heap[g]? = some ob := by
  rw [h.block g (Array.getElem?_eq_some_iff.1 hg).1]; exact hg
theorem bytes_is {s : ByteArray} {l : List UInt8} (h : s.data.toList = l) : s = mkB l := by rw [← h, mk_toList]
theorem lines_len2 (r : List (List UInt8)) (j : Nat) (h : j < r.length) (base : List UInt8) : (base ++ (r.take j).flatMap lineR).length + (r[j].length + 2) ≤ (base ++ r.flatMap lineR).length := by
  have e : r.flatMap lineR = (r.take j).flatMap lineR ++ (lineR r[j] ++ (r.drop (j + 1)).flatMap lineR) := by
    conv => lhs; rw [← List.take_append_drop j r, List.drop_eq_getElem_cons h, List.flatMap_append, List.flatMap_cons]
  rw [e]
  simp only [List.length_append, lineR, List.length_singleton]
  omega
set_option maxRecDepth 20000 in
set_option maxHeartbeats 4000000 in
theorem keelsonref5_field.calls (x y : ByteArray) (r : ByteArray) (w : World) (h : keelsonref5_field.f x y = some r) :
    Calls Tryd.prog 68 #[.agg #[.string x, .string y]] w fun e w' => e = .returned (.string r) ∧ Below w.heap.size w w' := by
  unfold keelsonref5_field.f at h
  split at h
  case isFalse => cases h
  case isTrue hf =>
  obtain rfl := Option.some.inj h
  obtain ⟨hy, hlen⟩ := hf
  obtain ⟨kl, hkl⟩ := Ev.rounds (reflines_ev y (by omega))
  have hlc := fun w1 => keelsonref5_lines.calls kl y _ w1 hkl
  have hl0 := lines_ne y.data.toList
  have hll := lines_len y.data.toList
  rw [data_length] at hll
  unfold refFieldT at hlen ⊢
  generalize linesL y.data.toList = ls at hlc hl0 hlen hll ⊢
  obtain ⟨l0, rs, rfl⟩ : ∃ l0 rs, ls = l0 :: rs := by
    cases ls with
    | nil => exact absurd rfl hl0
    | cons l0 rs => exact ⟨l0, rs, rfl⟩
  dsimp only at hlen ⊢
  have hn : rs.length + 1 ≤ 4398046511105 := by simp only [List.length_cons] at hll; omega
  have hhead : (headR x.data.toList l0).length ≤ 140737488355328 := by rw [List.length_append] at hlen; omega
  have hx1 : x.size + 1 ≤ 140737488355328 := by
    unfold headR at hhead
    simp only [List.length_append, List.length_singleton] at hhead
    rw [data_length] at hhead
    omega
  obtain ⟨s1, t1, z1, e1⟩ := add_op x ⟨#[58]⟩ (by show x.size + 1 ≤ _; omega)
  change _ = _ ++ [58] at t1
  change _ = x.size + 1 at z1
  have HL := Lib.hid hlen
  clear hlen hkl hl0 hll
  obtain hl | ⟨c0, l0', hl⟩ : l0 = [] ∨ ∃ c s, l0 = c :: s := by
    cases l0 with
    | nil => exact .inl rfl
    | cons c s => exact .inr ⟨c, s, rfl⟩
  · skip
    obtain ⟨s2, t2, z2, e2⟩ := add_op s1 ⟨#[10]⟩ (by show s1.size + 1 ≤ _; omega)
    change _ = _ ++ [10] at t2
    have HLL := Lib.hid hl
    clear hl
    go_enter Tryd.func68, Tryd.ntmps68
    go_wp2_with (go_at_call 31; with_reducible refine (hlc _).mono ?_; rintro e w1 ⟨v1, rfl, ho1, hb1⟩; have B1 := Lib.hid hb1; have c0 : w1.cell? ⟨w.heap.size, 0, none⟩ = some (.string x) := (by rw [cell_of_row _ _ _ _ _ _ (below_row0 hb1 (heap_alloc_new w _))]; simp); obtain ⟨g, cap, cur, rfl, hg, hh, hcs⟩ := strings_block ho1 (by simp); have k0 : w1.cell? ⟨g, 0, none⟩ = some (.string (mkB l0)) := ((cell_of_row _ _ _ _ _ _ hh).trans (hcs 0 (by simp))); clear hb1; rw [HLL.out, mkB_nil] at k0)
    clear k0
    have hR := hcs
    have RC := Lib.hid hh
    have RW := Lib.hid (show Below w.heap.size w w1 from (alloc_below w _).trans (B1.out.mono (alloc_below w _).size))
    have HCS := Lib.hid hcs
    clear hcs hh hR hg B1 ho1
    try rw [show (List.map mkB (l0 :: rs)).length = rs.length + 1 by simp]
    have TS := Lib.hid (show s2.data.toList = headR x.data.toList l0 by rw [t2, t1, HLL.out]; simp [headR])
    go_loopg [4, 5] (rs.length + 1) (fun gg s4 s5 wr => ∃ (jj : Nat) (acc : ByteArray), jj ≤ rs.length ∧ rs.length - jj ≤ gg ∧ s4 = .string acc ∧ s5 = .int .i64 ((jj : Int) + 1) ∧ Aside (acc.data.toList = headR x.data.toList l0 ++ (rs.take jj).flatMap lineR) ∧ Aside (wr = w1))
    case atStart => exact ⟨0, s2, Nat.zero_le _, by omega, rfl, by go_num, by rw [List.take_zero, List.flatMap_nil, List.append_nil]; exact TS.out, rfl⟩
    case round =>
      obtain ⟨jj, acc, hjj, hg, rfl, rfl, RA, RE⟩ := hrel
      have RE0 := RE.out
      subst RE0
      by_cases hlt : jj < rs.length
      · have hltz : (jj : Int) + 1 < (rs.length : Int) + 1 := by omega
        have p0 : (0 ≤ (jj : Int) + 1) = True := eq_true (by omega)
        have hcell : wr.cell? ⟨g, jj + 1, none⟩ = some (.string (mkB rs[jj])) := by
          rw [cell_of_row wr _ _ _ _ _ RC.out, HCS.out (jj + 1) (by simp; omega)]; simp
        have hl2 := Nat.le_trans (lines_len2 rs jj hlt (headR x.data.toList l0)) HL.out
        rw [← RA.out, data_length] at hl2
        obtain ⟨a1, u1, y1, g1⟩ := add_op acc ⟨#[32]⟩ (by show acc.size + 1 ≤ _; omega)
        change _ = _ ++ [32] at u1
        change _ = acc.size + 1 at y1
        obtain ⟨a2, u2, y2, g2⟩ := add_op a1 (mkB rs[jj]) (by rw [mkB_size]; omega)
        rw [mkB_size] at y2
        change _ = _ ++ rs[jj] at u2
        obtain ⟨a3, u3, y3, g3⟩ := add_op a2 ⟨#[10]⟩ (by show a2.size + 1 ≤ _; omega)
        change _ = _ ++ [10] at u3
        have UA := Lib.hid (show a3.data.toList = headR x.data.toList l0 ++ (rs.take (jj + 1)).flatMap lineR by rw [u3, u2, u1, RA.out, List.take_succ_eq_append_getElem hlt, List.flatMap_append, List.flatMap_cons, List.flatMap_nil]; simp [lineR])
        generalize mkB rs[jj] = z at hcell g2
        clear u1 u2 u3 y1 y2 y3 hl2
        go_wp2
        go_roundg (rs.length - (jj + 1))
        case measure => omega
        case rel => exact ⟨jj + 1, a3, by omega, by omega, rfl, by go_num, UA.out, rfl⟩
      · have hltz : ¬ (jj : Int) + 1 < (rs.length : Int) + 1 := by omega
        have hra := RA.out
        rw [List.take_of_length_le (by omega)] at hra
        have hfin := Lib.hid (bytes_is hra)
        clear RA hra
        go_wp2
        go_ret
        exact ⟨by rw [← hfin.out]; rfl, RW.out⟩
  · skip
    have hz : ¬ mkB l0 = ⟨#[]⟩ := by rw [hl]; intro e; cases e
    have hz2 : ((mkB l0).toList = []) = False := by rw [ByteArray.toList_eq, show (mkB l0).data.toList = l0 from rfl, hl]; simp
    have hz3 : (mkB l0).toList.isEmpty = false := by rw [ByteArray.toList_eq, show (mkB l0).data.toList = l0 from rfl, hl]; rfl
    have hh2 : x.size + l0.length + 3 ≤ 140737488355328 := by
      unfold headR at hhead
      rw [if_neg (by rw [hl]; simp)] at hhead
      simp only [List.length_append, List.length_singleton] at hhead
      rw [data_length] at hhead
      omega
    obtain ⟨s2, t2, z2, e2⟩ := add_op s1 ⟨#[32]⟩ (by show s1.size + 1 ≤ _; omega)
    change _ = _ ++ [32] at t2
    change _ = s1.size + 1 at z2
    obtain ⟨s3, t3, z3, e3⟩ := add_op s2 (mkB l0) (by rw [mkB_size]; omega)
    change _ = _ ++ l0 at t3
    rw [mkB_size] at z3
    obtain ⟨s4, t4, z4, e4⟩ := add_op s3 ⟨#[10]⟩ (by show s3.size + 1 ≤ _; omega)
    change _ = _ ++ [10] at t4
    generalize hzz : mkB l0 = z at hz hz2 hz3 e3
    have HLL := Lib.hid hl
    clear hl
    go_enter Tryd.func68, Tryd.ntmps68
    go_wp2_with (go_at_call 31; with_reducible refine (hlc _).mono ?_; rintro e w1 ⟨v1, rfl, ho1, hb1⟩; have B1 := Lib.hid hb1; have c0 : w1.cell? ⟨w.heap.size, 0, none⟩ = some (.string x) := (by rw [cell_of_row _ _ _ _ _ _ (below_row0 hb1 (heap_alloc_new w _))]; simp); obtain ⟨g, cap, cur, rfl, hg, hh, hcs⟩ := strings_block ho1 (by simp); have k0 : w1.cell? ⟨g, 0, none⟩ = some (.string (mkB l0)) := ((cell_of_row _ _ _ _ _ _ hh).trans (hcs 0 (by simp))); clear hb1; rw [hzz] at k0)
    clear k0
    have hR := hcs
    have RC := Lib.hid hh
    have RW := Lib.hid (show Below w.heap.size w w1 from (alloc_below w _).trans (B1.out.mono (alloc_below w _).size))
    have HCS := Lib.hid hcs
    clear hcs hh hR hg B1 ho1
    try rw [show (List.map mkB (l0 :: rs)).length = rs.length + 1 by simp]
    have TS := Lib.hid (show s4.data.toList = headR x.data.toList l0 by rw [t4, t3, t2, t1]; unfold headR; rw [if_neg (by rw [HLL.out]; simp)]; simp)
    go_loopg [4, 5] (rs.length + 1) (fun gg s4 s5 wr => ∃ (jj : Nat) (acc : ByteArray), jj ≤ rs.length ∧ rs.length - jj ≤ gg ∧ s4 = .string acc ∧ s5 = .int .i64 ((jj : Int) + 1) ∧ Aside (acc.data.toList = headR x.data.toList l0 ++ (rs.take jj).flatMap lineR) ∧ Aside (wr = w1))
    case atStart => exact ⟨0, s4, Nat.zero_le _, by omega, rfl, by go_num, by rw [List.take_zero, List.flatMap_nil, List.append_nil]; exact TS.out, rfl⟩
    case round =>
      obtain ⟨jj, acc, hjj, hg, rfl, rfl, RA, RE⟩ := hrel
      have RE0 := RE.out
      subst RE0
      by_cases hlt : jj < rs.length
      · have hltz : (jj : Int) + 1 < (rs.length : Int) + 1 := by omega
        have p0 : (0 ≤ (jj : Int) + 1) = True := eq_true (by omega)
        have hcell : wr.cell? ⟨g, jj + 1, none⟩ = some (.string (mkB rs[jj])) := by
          rw [cell_of_row wr _ _ _ _ _ RC.out, HCS.out (jj + 1) (by simp; omega)]; simp
        have hl2 := Nat.le_trans (lines_len2 rs jj hlt (headR x.data.toList l0)) HL.out
        rw [← RA.out, data_length] at hl2
        obtain ⟨a1, u1, y1, g1⟩ := add_op acc ⟨#[32]⟩ (by show acc.size + 1 ≤ _; omega)
        change _ = _ ++ [32] at u1
        change _ = acc.size + 1 at y1
        obtain ⟨a2, u2, y2, g2⟩ := add_op a1 (mkB rs[jj]) (by rw [mkB_size]; omega)
        rw [mkB_size] at y2
        change _ = _ ++ rs[jj] at u2
        obtain ⟨a3, u3, y3, g3⟩ := add_op a2 ⟨#[10]⟩ (by show a2.size + 1 ≤ _; omega)
        change _ = _ ++ [10] at u3
        have UA := Lib.hid (show a3.data.toList = headR x.data.toList l0 ++ (rs.take (jj + 1)).flatMap lineR by rw [u3, u2, u1, RA.out, List.take_succ_eq_append_getElem hlt, List.flatMap_append, List.flatMap_cons, List.flatMap_nil]; simp [lineR])
        generalize mkB rs[jj] = z at hcell g2
        clear u1 u2 u3 y1 y2 y3 hl2
        go_wp2
        go_roundg (rs.length - (jj + 1))
        case measure => omega
        case rel => exact ⟨jj + 1, a3, by omega, by omega, rfl, by go_num, UA.out, rfl⟩
      · have hltz : ¬ (jj : Int) + 1 < (rs.length : Int) + 1 := by omega
        have hra := RA.out
        rw [List.take_of_length_le (by omega)] at hra
        have hfin := Lib.hid (bytes_is hra)
        clear RA hra
        go_wp2
        go_ret
        exact ⟨by rw [← hfin.out]; rfl, RW.out⟩
end Go.Proofs.YtekplcjgmnahmaaDoor.PA
namespace Go.Proofs.YtekplcjgmnahmaaDoor.PA
open Go.RowKit Go.Proofs.YtekplcjgmnahmaaDoorW.PrintWords Go.Proofs.YtekplcjgmnahmaaDoorW.PrintLast Go.Proofs.YtekplcjgmnahmaaDoorW.PrintMore

theorem lines_C (w : World) (ls : List (List UInt8)) (hn : ls.length ≤ 9223372036854775807) : Kd.C Kd.string (w.alloc (.cells (lineCells ls) 9)) (some ⟨w.heap.size, 0, none⟩) (ls.map mkB).length (ls.map mkB) := by
  refine ⟨rfl, by rw [List.length_map]; omega, fun _ => ⟨_, rfl, fun j x hx => ?_⟩⟩
  obtain ⟨hj, rfl⟩ := List.getElem?_eq_some_iff.1 hx
  refine ⟨[.string (ls.map mkB)[j]], rfl, rfl, fun i u hu => ?_⟩
  cases i with
  | succ i => cases hu
  | zero =>
    cases hu
    rw [List.length_map] at hj
    rw [show j * Kd.string.sz + 0 = j from by show j * 1 + 0 = j; omega, show (⟨w.heap.size, 0, none⟩ : Addr).add j = ⟨w.heap.size, j, none⟩ from by unfold Addr.add; split <;> simp_all]
    rw [cell_of_row _ _ _ _ _ _ (heap_alloc_new w _), lineCells_at ls j hj, List.getElem_map]
def valueF (s : List UInt8) : Bool := !(Lib.hasPrefix s [32]) && !(Lib.containsS (((linesL s).map mkB).drop 1) ⟨#[]⟩) && !(((linesL s).map mkB).any fun x => belowF x 32)
theorem value1_enters : ∀ args w, (callFunc 78 args).run Tryd.prog w = .ok (.enter 78 args) w := enters_of Tryd.func78 (by kernel_rfl) rfl
set_option maxHeartbeats 400000 in
theorem value1_any (x : ByteArray) (W : World) (hx : x.size ≤ 9223372036854775807) : Calls Tryd.prog 78 #[.string x] W fun e w' => e = .returned (.bool (belowF x 32)) ∧ Below W.heap.size W w' := by
  have hb := stanza_below.calls x 32 W hx
  generalize belowF x 32 = r at hb ⊢
  go_enter Tryd.func78, Tryd.ntmps78
  go_wp2_with (go_at_call 52; with_reducible refine hb.mono ?_; rintro e w' ⟨rfl, hb⟩)
  go_ret
  exact ⟨rfl, hb⟩
set_option maxRecDepth 20000 in
set_option maxHeartbeats 2000000 in
theorem value_calls (s : ByteArray) (w : World) (hs : s.size < 4294967281) (hG : GlobMaxLen w) :
    Calls Tryd.prog 62 #[.string s] w fun e w' => e = .returned (.bool (valueF s.data.toList)) ∧ Below w.heap.size w w' := by
  obtain ⟨m, hm⟩ := hG
  have hsp := Tryd.strings_Split s ⟨#[10]⟩ m w hs hm (by decide)
  rw [splitB_lines, splitB_len] at hsp
  change Calls _ _ _ _ fun e w' => _ ∧ w' = w.alloc (.cells (lineCells (linesL s.data.toList)) 9) at hsp
  have hpre := Tryd.strings_HasPrefix s ⟨#[32]⟩
  rw [show (⟨#[32]⟩ : ByteArray).data.toList = [32] from rfl] at hpre
  have hll := lines_len s.data.toList
  have hl1 := line_len1 s.data.toList
  rw [data_length] at hll hl1
  have hne : 0 < (linesL s.data.toList).length := by rw [← splitB_len]; omega
  have hb1 := alloc_below w (.cells (lineCells (linesL s.data.toList)) 9)
  unfold valueF
  generalize linesL s.data.toList = ls at hsp hll hl1 hne hb1 ⊢
  have hC := lines_C w ls (by omega)
  have hD := Kd.C_drop (c := ls.length) (m := 1) hC (by rw [List.length_map]; omega) (by rw [List.length_map]; omega)
  have hcon := (contains_calls _ (ls.length - 1) ((ls.map mkB).drop 1) ⟨#[]⟩ _ hD)
  have hany := con77 Kd.string rfl 78 #[] value1_enters (some ⟨w.heap.size, 0, none⟩) ls.length (ls.map mkB) (fun x => belowF x 32) _ hC (by
    intro x hx cs W' hb' hK
    obtain rfl := K_string hK
    obtain ⟨y, hy, rfl⟩ := List.mem_map.1 hx
    have := hl1 y hy
    exact value1_any _ W' (by rw [mkB_size]; omega))
  generalize Lib.containsS ((ls.map mkB).drop 1) ⟨#[]⟩ = b2 at hcon ⊢
  generalize ((ls.map mkB).any fun x => belowF x 32) = b3 at hany ⊢
  generalize Lib.hasPrefix s.data.toList [32] = b1 at hpre ⊢
  have HB := Lib.hid hb1
  rw [List.length_map] at hany
  rw [List.length_drop, List.length_map] at hcon
  clear hC hD hb1 hm hl1
  generalize ls.length = n at hsp hany hcon hll hne
  obtain rfl | ⟨q, rfl⟩ : n = 1 ∨ ∃ q, n = q + 2 := by
    rcases Nat.lt_or_ge 1 n with h | h
    · exact .inr ⟨n - 2, by omega⟩
    · exact .inl (by omega)
  · rw [if_pos rfl] at hcon
    change Calls _ _ #[.slice (some ⟨w.heap.size, 0, none⟩) 0 0, _] _ _ at hcon
    cases b1 with
    | true =>
      go_enter Tryd.func62, Tryd.ntmps62
      go_wp2_with (first | (go_at_call 29; with_reducible refine hsp.mono ?_; rintro e w1 ⟨rfl, rfl⟩) | (go_at_call 76; with_reducible refine (hpre _).mono ?_; rintro e w1 ⟨rfl, rfl⟩))
      go_ret
      exact ⟨rfl, HB.out⟩
    | false =>
      cases b2 with
      | true =>
        go_enter Tryd.func62, Tryd.ntmps62
        go_wp2_with (first | (go_at_call 29; with_reducible refine hsp.mono ?_; rintro e w1 ⟨rfl, rfl⟩) | (go_at_call 76; with_reducible refine (hpre _).mono ?_; rintro e w1 ⟨rfl, rfl⟩) | (go_at_call 37; with_reducible refine hcon.mono ?_; rintro e w1 ⟨rfl, rfl⟩))
        go_ret
        exact ⟨rfl, HB.out⟩
      | false =>
        go_enter Tryd.func62, Tryd.ntmps62
        go_wp2_with (first | (go_at_call 29; with_reducible refine hsp.mono ?_; rintro e w1 ⟨rfl, rfl⟩) | (go_at_call 76; with_reducible refine (hpre _).mono ?_; rintro e w1 ⟨rfl, rfl⟩) | (go_at_call 37; with_reducible refine hcon.mono ?_; rintro e w1 ⟨rfl, rfl⟩) | (go_at_call 77; with_reducible refine hany.mono ?_; rintro e w1 ⟨rfl, hb3⟩))
        go_ret
        exact ⟨rfl, HB.out.trans (hb3.mono HB.out.size)⟩
  · rw [if_neg (by omega), Option.map_some, show (⟨w.heap.size, 0, none⟩ : Addr).add (1 * Kd.string.sz) = ⟨w.heap.size, 1, none⟩ from by show Addr.add _ 1 = _; unfold Addr.add; split <;> simp_all] at hcon
    change Calls _ _ #[.slice (some ⟨w.heap.size, 1, none⟩) (q + 1) (q + 1), _] _ _ at hcon
    have q1 : (1 : Int) ≤ ((q : Int) + 2) := by omega
    cases b1 with
    | true =>
      go_enter Tryd.func62, Tryd.ntmps62
      go_wp2_with (first | (go_at_call 29; with_reducible refine hsp.mono ?_; rintro e w1 ⟨rfl, rfl⟩) | (go_at_call 76; with_reducible refine (hpre _).mono ?_; rintro e w1 ⟨rfl, rfl⟩))
      go_ret
      exact ⟨rfl, HB.out⟩
    | false =>
      cases b2 with
      | true =>
        go_enter Tryd.func62, Tryd.ntmps62
        go_wp2_with (first | (go_at_call 29; with_reducible refine hsp.mono ?_; rintro e w1 ⟨rfl, rfl⟩) | (go_at_call 76; with_reducible refine (hpre _).mono ?_; rintro e w1 ⟨rfl, rfl⟩) | (go_at_call 37; with_reducible refine hcon.mono ?_; rintro e w1 ⟨rfl, rfl⟩))
        go_ret
        exact ⟨rfl, HB.out⟩
      | false =>
        go_enter Tryd.func62, Tryd.ntmps62
        go_wp2_with (first | (go_at_call 29; with_reducible refine hsp.mono ?_; rintro e w1 ⟨rfl, rfl⟩) | (go_at_call 76; with_reducible refine (hpre _).mono ?_; rintro e w1 ⟨rfl, rfl⟩) | (go_at_call 37; with_reducible refine hcon.mono ?_; rintro e w1 ⟨rfl, rfl⟩) | (go_at_call 77; with_reducible refine hany.mono ?_; rintro e w1 ⟨rfl, hb3⟩))
        go_ret
        exact ⟨rfl, HB.out.trans (hb3.mono HB.out.size)⟩

def fineF (pre : List Fd) (f : Fd) : Bool := !((getG pre f.f0).isSome) && nameL f.f0.data.toList && valueF f.f1.data.toList
def fineAll : List Fd → List Fd → Bool
  | _, [] => true
  | pre, f :: r => fineF pre f && fineAll (pre ++ [f]) r
def rightS (st : List Fd) : Bool := fineAll [] st && (decide (0 < st.length) && decide (st.length ≤ 40))
theorem fineAll_step (st : List Fd) (k : Nat) (hk : k < st.length) : fineAll (st.take k) (st.drop k) = (fineF (st.take k) st[k] && fineAll (st.take (k + 1)) (st.drop (k + 1))) := by
  rw [List.drop_eq_getElem_cons hk, fineAll, List.take_succ_eq_append_getElem hk]
set_option maxRecDepth 20000 in
set_option maxHeartbeats 4000000 in
theorem right_calls (A : Option Addr) (c : Nat) (st : List Fd) (w : World) (hr : Kd.C k49 w A st.length st) (hc : st.length ≤ c) (hG : GlobMaxLen w) (hv : ∀ f ∈ st, f.f1.size < 4294967281) :
    Calls Tryd.prog 45 #[.slice A st.length c] w fun e w' => e = .returned (.bool (rightS st)) ∧ Below w.heap.size w w' := by
  have hn : st.length ≤ 9223372036854775807 := hr.2.1
  have HG := Lib.hid hG
  have HV := Lib.hid hv
  have H1 := Lib.hid hr
  have HQ := Lib.hid hc
  clear hG hv hr hc
  go_enter Tryd.func45, Tryd.ntmps45
  go_wp2
  go_loopg [3, 4, 5, 6, 9] st.length (fun gg _ _ _ _ s9 wr => ∃ kk : Nat, kk ≤ st.length ∧ st.length - kk ≤ gg ∧ s9 = .int .i64 kk ∧ Aside (Below w.heap.size w wr) ∧ Aside (fineAll [] st = fineAll (st.take kk) (st.drop kk)))
  case atStart => exact ⟨0, Nat.zero_le _, by omega, rfl, Below.refl _ w, rfl⟩
  case round =>
    obtain ⟨kk, hkk, hg, rfl, BW, AF⟩ := hrel
    by_cases hlt : kk < st.length
    · have hltz : (kk : Int) < (st.length : Int) := by omega
      have hr1 := H1.out
      obtain ⟨ad, rfl⟩ := C_addr hr1 (by omega)
      obtain ⟨cs, hlen, hK, hcell0⟩ := C_elem (Kd.C_below hr1 BW.out) kk hlt
      obtain rfl := k49_open hK
      have l0 : wr.cell? (ad.add (kk * 2)) = some (.string st[kk].f0) := by
        have h := hcell0 0 _ rfl
        rw [show kk * k49.sz + 0 = kk * 2 from rfl] at h; exact h
      have l1 : wr.cell? ⟨(ad.add (kk * 2)).block, (ad.add (kk * 2)).off + 1, none⟩ = some (.string st[kk].f1) := by
        have h := hcell0 1 _ rfl
        rw [show kk * k49.sz + 1 = kk * 2 + 1 from rfl, add_field _ _ _ (by decide)] at h; exact h
      have hst := AF.out
      rw [fineAll_step st kk hlt] at hst
      have hval := value_calls st[kk].f1
      have hnam := fun w' => stanza_Name.calls st[kk].f0 _ w' rfl
      have hvs := HV.out _ (List.getElem_mem hlt)
      have htk : (st.take kk).length = kk := by rw [List.length_take]; omega
      have hget := fun (W : World) (hb : Below w.heap.size w W) => stanza_Get.calls (some ad) c (st.take kk) st[kk].f0 _ _ W (Kd.C_take (Kd.C_below hr1 hb) hkk) (by have := HQ.out; omega) (get_is (st.take kk) st[kk].f0)
      rw [htk] at hget
      clear hK hcell0 hr1 hlen
      unfold fineF at hst
      generalize getG (st.take kk) st[kk].f0 = gg0 at hget hst
      generalize nameL st[kk].f0.data.toList = n0 at hnam hst
      generalize valueF st[kk].f1.data.toList = v0 at hval hst
      generalize st[kk].f0 = x0 at *
      generalize st[kk].f1 = x1 at *
      have HST := Lib.hid hst
      clear hst AF
      have q0 : (0 : Int) ≤ (kk : Int) := by omega
      have q2 : kk ≤ c := by have := HQ.out; omega
      have q1 : (kk : Int) ≤ (c : Int) := by omega
      have bW : Below w.heap.size w (wr.alloc (.cells #[.string x0, .string x1] 49)) := BW.out.alloc BW.out.size _
      have BA := Lib.hid bW
      have hb0 : wr.heap.size < (wr.alloc (.cells #[.string x0, .string x1] 49)).heap.size := by simp
      have f0 : (wr.alloc (.cells #[.string x0, .string x1] 49)).cell? ⟨wr.heap.size, 0, none⟩ = some (.string x0) := by rw [cell_of_row _ _ _ _ _ _ (heap_alloc_new wr _)]; rfl
      have f1 : (wr.alloc (.cells #[.string x0, .string x1] 49)).cell? ⟨wr.heap.size, 1, none⟩ = some (.string x1) := by rw [cell_of_row _ _ _ _ _ _ (heap_alloc_new wr _)]; rfl
      clear bW
      go_wp2
      generalize (wr.alloc (.cells #[.string x0, .string x1] 49)) = wa at BA hb0 f0 f1 ⊢
      clear l0 l1
      have hbd : Below w.heap.size w wa.drew := by apply below_drew1; exact BA.out
      have hg6 := (hget _ hbd).mono fun e w' h => (⟨h.1, below_step hbd h.2, h.2⟩ : e = .returned (.tuple #[.string (gg0.getD ⟨#[]⟩), .bool gg0.isSome]) ∧ Below w.heap.size w w' ∧ Below wa.drew.heap.size wa.drew w')
      have d0 := fun w' (h : Below wa.drew.heap.size wa.drew w') => pw_cell_below h (show wa.drew.cell? ⟨wr.heap.size, 0, none⟩ = some (.string x0) by simpa using f0)
      have d1 := fun w' (h : Below wa.drew.heap.size wa.drew w') => pw_cell_below h (show wa.drew.cell? ⟨wr.heap.size, 1, none⟩ = some (.string x1) by simpa using f1)
      clear hget
      go_region_with (refine hg6.mono ?_; rintro e w6 ⟨rfl, hb6, hk6⟩)
      have e0 := d0 w6 hk6
      have e1 := d1 w6 hk6
      have B6 := Lib.hid hb6
      clear d0 d1 hg6 hbd f0 f1 hb0 hk6 hb6 BA
      cases gg0 with
      | some y =>
        have hF := Lib.hid (show rightS st = false by unfold rightS; rw [HST.out]; simp)
        clear HST
        dsimp only [Option.isSome, Option.getD]
        go_wp2
        go_ret
        exact ⟨by rw [hF.out]; rfl, B6.out⟩
      | none =>
        cases n0 with
        | false =>
          have hF := Lib.hid (show rightS st = false by unfold rightS; rw [HST.out]; simp)
          clear HST
          dsimp only [Option.isSome, Option.getD]
          go_wp2_with (go_at_call 23; with_reducible refine (hnam _).mono ?_; rintro e w7 ⟨rfl, hb7⟩)
          go_ret
          exact ⟨by rw [hF.out]; rfl, below_step B6.out hb7⟩
        | true =>
          cases v0 with
          | false =>
            have hF := Lib.hid (show rightS st = false by unfold rightS; rw [HST.out]; simp)
            clear HST
            dsimp only [Option.isSome, Option.getD]
            go_wp2_with (first | (go_at_call 23; with_reducible refine (hnam _).mono ?_; rintro e w7 ⟨rfl, hb7⟩; have B7 := Lib.hid (below_step B6.out hb7); have e7 := pw_cell_below hb7 e1) | (go_at_call 62; with_reducible refine (hval _ hvs (HG.out.below B7.out)).mono ?_; rintro e w8 ⟨rfl, hb8⟩))
            go_ret
            exact ⟨by rw [hF.out]; rfl, below_step B7.out hb8⟩
          | true =>
            have hF := Lib.hid (show fineAll [] st = fineAll (st.take (kk + 1)) (st.drop (kk + 1)) by rw [HST.out]; simp)
            clear HST
            dsimp only [Option.isSome, Option.getD]
            go_wp2_with (first | (go_at_call 23; with_reducible refine (hnam _).mono ?_; rintro e w7 ⟨rfl, hb7⟩; have B7 := Lib.hid (below_step B6.out hb7); have e7 := pw_cell_below hb7 e1) | (go_at_call 62; with_reducible refine (hval _ hvs (HG.out.below B7.out)).mono ?_; rintro e w8 ⟨rfl, hb8⟩; have B8 := Lib.hid (below_step B7.out hb8)))
            go_roundg (st.length - (kk + 1))
            case measure => omega
            case rel => exact ⟨kk + 1, by omega, by omega, by go_num, B8.out, hF.out⟩
    · have hltz : ¬ (kk : Int) < (st.length : Int) := by omega
      have hst := AF.out
      rw [List.take_of_length_le (by omega), List.drop_eq_nil_of_le (by omega)] at hst
      have hres : rightS st = (decide ((0 : Int) < (st.length : Int)) && decide ((st.length : Int) ≤ 40)) := by
        unfold rightS
        rw [hst]
        show (true && _) = _
        rw [Bool.true_and]
        congr 1 <;> exact decide_eq_decide.2 (by omega)
      have HRES := Lib.hid hres
      clear hres hst AF
      by_cases p1 : (0 : Int) < (st.length : Int)
      · by_cases p2 : (st.length : Int) ≤ 40
        · go_wp2
          go_ret
          exact ⟨by rw [HRES.out, decide_eq_true p1, decide_eq_true p2]; rfl, BW.out⟩
        · go_wp2
          go_ret
          exact ⟨by rw [HRES.out, decide_eq_true p1, decide_eq_false (by omega)]; rfl, BW.out⟩
      · go_wp2
        go_ret
        exact ⟨by rw [HRES.out, decide_eq_false (by omega)]; rfl, BW.out⟩

theorem strCells_mk (l : List UInt8) : Lib.strCells ⟨l.toArray⟩ = Lib.byteCells l := by unfold Lib.strCells Lib.byteCells; simp
theorem isBF_below {T e : TypeId} {B b : Nat} {bs : List Value} {w w' : World} (h : Lib.IsBuilderF T e B b bs w) (hb : Below w.heap.size w w') : Lib.IsBuilderF T e B b bs w' := by
  have key : ∀ p, Lib.BuilderAtF T e B b p bs w → Lib.BuilderAtF T e B b p bs w' := by
    rintro p ⟨hB, v, hv, hown, hne⟩
    exact ⟨hB, v, (hb.block b (Array.getElem?_eq_some_iff.1 hv).1).trans hv, hown.kept (row := none) ⟨hb.os, hb.tape, hb.output, hb.size, fun k hk _ => hb.block k hk⟩ (Classical.em _), hne⟩
  rcases h with h | h
  · exact .inl (key _ h)
  · exact .inr (key _ h)
/-- The builder holds a text; below B all is as it was. -/
def TextB (B b : Nat) (w0 W : World) (l : List UInt8) : Prop := Lib.IsBuilderF 88 5 B b (Lib.byteCells l) W ∧ Below B w0 W ∧ B ≤ W.heap.size
theorem TextB.below {B b : Nat} {w0 W W' : World} {l : List UInt8} (h : TextB B b w0 W l) (hb : Below W.heap.size W W') : TextB B b w0 W' l := ⟨isBF_below h.1 hb, h.2.1.trans (hb.mono h.2.2), Nat.le_trans h.2.2 hb.size⟩
theorem TextB.bel {B b : Nat} {w0 W : World} {l : List UInt8} (h : TextB B b w0 W l) : Below B w0 W := h.2.1
theorem TextB.lt {B b : Nat} {w0 W : World} {l : List UInt8} (h : TextB B b w0 W l) : b < W.heap.size := by
  rcases h.1 with ⟨_, v, h, _⟩ | ⟨_, v, h, _⟩
  · exact (Array.getElem?_eq_some_iff.1 h).1
  · exact (Array.getElem?_eq_some_iff.1 h).1
theorem new_text {w w1 : World} (hb : Below w.heap.size w w1) : TextB w.heap.size w1.heap.size w (w1.alloc (.cells #[.pointer none, .slice none 0 0] 88)) [] :=
  ⟨Lib.IsBuilderF.of (.inl ⟨hb.size, .slice none 0 0, heap_alloc_new _ _, own_nil _ _ _ _, by simp [Value.ownBlock]⟩), hb.alloc hb.size _, by have := hb.size; simp; omega⟩
theorem write_text (B b : Nat) (w0 W : World) (l m : List UInt8) (h : TextB B b w0 W l) (hl : l.length + m.length ≤ 140737488355328) :
    Calls Tryd.prog 64 #[.pointer (some ⟨b, 0, none⟩), .string ⟨m.toArray⟩] W fun e w' => (∃ v, e = .returned v) ∧ TextB B b w0 w' (l ++ m) ∧ Lib.OthersKept 5 (some b) W w' := by
  refine (Any.Builder_WriteString_k Tryd.lays166 Tryd.Builder_Extra_166 B b _ ⟨m.toArray⟩ W h.1 (by simp [Lib.byteCells_length, ByteArray.size]; omega) h.2.2).mono ?_
  rintro e w' ⟨rfl, hB, hb, ho⟩
  refine ⟨⟨_, rfl⟩, ⟨.inr ?_, h.2.1.trans hb, Nat.le_trans h.2.2 hb.size⟩, ho⟩
  rw [strCells_mk] at hB
  have e2 : Lib.byteCells (l ++ m) = Lib.byteCells l ++ Lib.byteCells m := by unfold Lib.byteCells; simp
  rw [e2]; exact hB
theorem write_byte (B b : Nat) (w0 W : World) (l : List UInt8) (n : Nat) (hn : n < 256) (h : TextB B b w0 W l) (hl : l.length + 1 ≤ 140737488355328) :
    Calls Tryd.prog 63 #[.pointer (some ⟨b, 0, none⟩), .int .u8 n] W fun e w' => e = .returned .nilIface ∧ TextB B b w0 w' (l ++ [n.toUInt8]) ∧ Lib.OthersKept 5 (some b) W w' := by
  refine (Any.Builder_WriteByte_k Tryd.lays167 Tryd.Builder_Extra_167 B b _ n W h.1 (by simp [Lib.byteCells_length]; omega) h.2.2).mono ?_
  rintro e w' ⟨rfl, hB, hb, ho⟩
  refine ⟨rfl, ⟨.inr ?_, h.2.1.trans hb, Nat.le_trans h.2.2 hb.size⟩, ho⟩
  have e2 : Lib.byteCells (l ++ [n.toUInt8]) = Lib.byteCells l ++ [.int .u8 n] := by
    unfold Lib.byteCells
    rw [List.map_append]
    congr 1
    show [Value.int .u8 (n.toUInt8.toNat : Int)] = _
    rw [show n.toUInt8.toNat = n from by simp; omega]
  rw [e2]; exact hB
theorem write_32 (B b : Nat) (w0 W : World) (l : List UInt8) (h : TextB B b w0 W l) (hl : l.length + 1 ≤ 140737488355328) :
    Calls Tryd.prog 63 #[.pointer (some ⟨b, 0, none⟩), .int .u8 32] W fun e w' => e = .returned .nilIface ∧ TextB B b w0 w' (l ++ [32]) ∧ Lib.OthersKept 5 (some b) W w' := write_byte B b w0 W l 32 (by decide) h hl
theorem write_10 (B b : Nat) (w0 W : World) (l : List UInt8) (h : TextB B b w0 W l) (hl : l.length + 1 ≤ 140737488355328) :
    Calls Tryd.prog 63 #[.pointer (some ⟨b, 0, none⟩), .int .u8 10] W fun e w' => e = .returned .nilIface ∧ TextB B b w0 w' (l ++ [10]) ∧ Lib.OthersKept 5 (some b) W w' := write_byte B b w0 W l 10 (by decide) h hl
theorem read_text (B b : Nat) (w0 W : World) (l : List UInt8) (h : TextB B b w0 W l) :
    Calls Tryd.prog 66 #[.pointer (some ⟨b, 0, none⟩)] W fun e w' => e = .returned (.string ⟨l.toArray⟩) ∧ Below B w0 w' :=
  (Tryd.Builder_String_any_f B b l W h.1 h.2.2).mono fun _ _ ⟨he, _, hb⟩ => ⟨he, h.2.1.trans hb⟩
theorem kept_row {W w' : World} {b g : Nat} {t : TypeId} {cs : Array Value} (h : Lib.OthersKept 5 (some b) W w') (hg : W.heap[g]? = some (.cells cs t (0, 0))) (hne : g ≠ b) (ht : t ≠ 5) : w'.heap[g]? = some (.cells cs t (0, 0)) :=
  h g _ hg (fun e => hne (Option.some.inj e)) (fun c fz e => ht (by cases e; rfl))
theorem below_row {W w' : World} {g : Nat} {ob : Obj} (h : Below W.heap.size W w') (hg : W.heap[g]? = some ob) : w'.heap[g]? = some ob := by
  rw [h.block g (Array.getElem?_eq_some_iff.1 hg).1]; exact hg

def spaceT : List UInt8 → List UInt8
  | [] => []
  | c :: _ => if c.toNat = 10 then [] else [32]
def moreL (s : List UInt8) : List UInt8 := Lib.replaceAll s [10] [10, 32]
def fieldT (f : Fd) : List UInt8 := f.f0.data.toList ++ [58] ++ spaceT f.f1.data.toList ++ (moreL f.f1.data.toList ++ [10])
def stanzaT (st : List Fd) : List UInt8 := st.flatMap fieldT
def textS : List (List Fd) → List UInt8
  | [] => []
  | st :: r => stanzaT st ++ r.flatMap fun st => 10 :: stanzaT st
theorem text_step (l : List (List Fd)) (k : Nat) (h : k < l.length) : textS (l.take (k + 1)) = textS (l.take k) ++ (if k = 0 then [] else [10]) ++ stanzaT l[k] := by
  cases l with
  | nil => cases h
  | cons st r =>
    cases k with
    | zero => simp [textS]
    | succ k =>
      have hk : k < r.length := by simpa using h
      rw [List.take_succ_cons, List.take_succ_cons, textS, textS, List.take_succ_eq_append_getElem hk, List.flatMap_append, if_neg (by omega)]
      simp
theorem text_take (l : List (List Fd)) (k : Nat) : ∀ d, (textS (l.take k)).length ≤ (textS (l.take (k + d))).length := by
  intro d
  induction d with
  | zero => exact Nat.le_refl _
  | succ d ih =>
    refine Nat.le_trans ih ?_
    by_cases h : k + d < l.length
    · rw [show k + (d + 1) = k + d + 1 by omega, text_step l _ h, List.length_append, List.length_append]; omega
    · rw [List.take_of_length_le (by omega), List.take_of_length_le (by omega)]; exact Nat.le_refl _
theorem text_len (l : List (List Fd)) (k : Nat) (h : k < l.length) : (textS (l.take k)).length + (if k = 0 then ([] : List UInt8) else [10]).length + (stanzaT l[k]).length ≤ (textS l).length := by
  have h1 := text_take l (k + 1) (l.length - (k + 1))
  rw [show k + 1 + (l.length - (k + 1)) = l.length by omega, List.take_length, text_step l k h, List.length_append, List.length_append] at h1
  exact h1
theorem field_len (c : List Fd) (j : Nat) (h : j < c.length) : ((c.take j).flatMap fieldT).length + (fieldT c[j]).length ≤ (stanzaT c).length := by
  have e : stanzaT c = (c.take j).flatMap fieldT ++ (fieldT c[j] ++ (c.drop (j + 1)).flatMap fieldT) := by
    unfold stanzaT
    conv => lhs; rw [← List.take_append_drop j c, List.drop_eq_getElem_cons h, List.flatMap_append, List.flatMap_cons]
  rw [e]
  simp only [List.length_append]
  omega
theorem add_lists (x y : List UInt8) (h : x.length + y.length ≤ 9223372036854775807) (w : World) : (Op.stringOp .add ⟨x.toArray⟩ ⟨y.toArray⟩).run Tryd.prog w = .ok (.string ⟨(x ++ y).toArray⟩) w := by
  rw [run_string_add_sum w _ _ (by simp only [ByteArray.size, List.size_toArray]; omega), ByteArray.mk_append_mk]
theorem replace_calls (v : ByteArray) (W : World) (hs : v.size < 4294967281) (hG : GlobMaxLen W) : Calls Tryd.prog 65 #[.string v, .string ⟨#[10]⟩, .string ⟨#[10, 32]⟩] W fun e w' => e = .returned (.string ⟨(moreL v.data.toList).toArray⟩) ∧ Below W.heap.size W w' := by
  obtain ⟨m, hm⟩ := hG
  have hc := Lib.countB_le ⟨#[10]⟩ (by decide) _ v (Nat.le_refl _)
  exact Tryd.strings_ReplaceAll v ⟨#[10]⟩ ⟨#[10, 32]⟩ m W hs hm (by decide) (by show v.size + Lib.countB v ⟨#[10]⟩ * 2 ≤ _; omega)
set_option maxRecDepth 20000 in
set_option maxHeartbeats 8000000 in
theorem text_calls (A : Option Addr) (c : Nat) (l : List (List Fd)) (w : World) (hr : Kd.C (Kd.slice 49 k49) w A l.length l) (hG : GlobMaxLen w) (hv : ∀ st ∈ l, ∀ f ∈ st, f.f1.size < 4294967281) (hlen : (textS l).length ≤ 140737488355328) :
    Calls Tryd.prog 46 #[.slice A l.length c] w fun e w' => e = .returned (.string ⟨(textS l).toArray⟩) ∧ Below w.heap.size w w' := by
  have hn : l.length ≤ 9223372036854775807 := hr.2.1
  have T0 := Lib.hid (new_text (Below.refl w.heap.size w))
  have HG := Lib.hid hG
  have HV := Lib.hid hv
  have H1 := Lib.hid hr
  have HL := Lib.hid hlen
  clear hG hv hr hlen
  go_enter Tryd.func46, Tryd.ntmps46
  go_wp2
  go_loopg [4, 5, 7, 10] l.length (fun gg _ _ _ s10 wr => ∃ kk : Nat, kk ≤ l.length ∧ l.length - kk ≤ gg ∧ s10 = .int .i64 kk ∧ Aside (TextB w.heap.size w.heap.size w wr (textS (l.take kk))))
  case atStart => exact ⟨0, Nat.zero_le _, by omega, rfl, T0.out⟩
  case round =>
    obtain ⟨kk, hkk, hg, rfl, RT⟩ := hrel
    by_cases hlt : kk < l.length
    · have hltz : (kk : Int) < (l.length : Int) := by omega
      have hr1 := H1.out
      obtain ⟨ad, rfl⟩ := C_addr hr1 (by omega)
      obtain ⟨cs, hlen', hK, hcell0⟩ := C_elem hr1 kk hlt
      obtain ⟨Ac, cc, rfl, hle, hC⟩ := hK
      have hx : wr.cell? (ad.add kk) = some (.slice Ac l[kk].length cc) := pw_cell_below RT.out.bel (by have h := hcell0 0 _ rfl; simpa [Kd.slice] using h)
      have hpre := Nat.le_trans (text_len l kk hlt) HL.out
      have hvk := HV.out _ (List.getElem_mem hlt)
      have hst := text_step l kk hlt
      generalize l[kk] = st at hx hpre hvk hst hC hle
      generalize textS (l.take kk) = base at RT hpre hst
      have hcn : st.length ≤ 9223372036854775807 := hC.2.1
      have HC := Lib.hid hC
      have HVK := Lib.hid hvk
      clear hcell0 hlen' hr1 hC hvk
      by_cases hk0 : kk = 0
      · have hk1 : ¬ (0 : Int) < (kk : Int) := by omega
        rw [if_pos hk0, List.append_nil] at hst
        rw [if_pos hk0] at hpre
        have HS := Lib.hid hst
        have HP := Lib.hid hpre
        clear hst hpre hk1
        subst hk0
        have hx0 : wr.cell? ad = some (.slice Ac st.length cc) := by simpa [Addr.add] using hx
        clear hx
        go_wp2
        go_loopg [7, 20] st.length (fun gg _ s20 WR => ∃ jj : Nat, jj ≤ st.length ∧ st.length - jj ≤ gg ∧ s20 = .int .i64 jj ∧ Aside (TextB w.heap.size w.heap.size w WR (base ++ (st.take jj).flatMap fieldT)))
        case atStart => exact ⟨0, Nat.zero_le _, by omega, rfl, by rw [List.take_zero, List.flatMap_nil, List.append_nil]; exact RT.out⟩
        case round =>
          obtain ⟨jj, hjj, hg2, rfl, RT2⟩ := hrel
          by_cases hjl : jj < st.length
          · have hjlz : (jj : Int) < (st.length : Int) := by omega
            have hC2 := HC.out
            obtain ⟨ad2, rfl⟩ := C_addr hC2 (by omega)
            obtain ⟨cs, hlen2, hK, hcell0⟩ := C_elem (Kd.C_below hC2 RT2.out.bel) jj hjl
            obtain rfl := k49_open hK
            have l0 : wr.cell? (ad2.add (jj * 2)) = some (.string st[jj].f0) := by
              have h := hcell0 0 _ rfl
              rw [show jj * k49.sz + 0 = jj * 2 from rfl] at h; exact h
            have l1 : wr.cell? ⟨(ad2.add (jj * 2)).block, (ad2.add (jj * 2)).off + 1, none⟩ = some (.string st[jj].f1) := by
              have h := hcell0 1 _ rfl
              rw [show jj * k49.sz + 1 = jj * 2 + 1 from rfl, add_field _ _ _ (by decide)] at h; exact h
            have hfl := Nat.le_trans (Nat.add_le_add_left (field_len st jj hjl) (base.length + ([] : List UInt8).length)) HP.out
            have hvj := HVK.out _ (List.getElem_mem hjl)
            have hst2 : base ++ (st.take (jj + 1)).flatMap fieldT = base ++ (st.take jj).flatMap fieldT ++ fieldT st[jj] := by
              rw [List.take_succ_eq_append_getElem hjl, List.flatMap_append]; simp
            have hfl2 : (base ++ (st.take jj).flatMap fieldT).length + (fieldT st[jj]).length ≤ 140737488355328 := by
              rw [List.length_append]; simp only [List.length_nil] at hfl; omega
            generalize base ++ (st.take jj).flatMap fieldT = b5 at RT2 hst2 hfl2
            clear hfl hcell0 hlen2 hC2 hK
            have hst3 : fieldT st[jj] = st[jj].f0.data.toList ++ [58] ++ spaceT st[jj].f1.data.toList ++ (moreL st[jj].f1.data.toList ++ [10]) := rfl
            rw [hst3] at hst2 hfl2
            clear hst3
            have ha := (mk_toList st[jj].f0).symm
            generalize st[jj].f0.data.toList = a at hst2 hfl2 ha
            generalize st[jj].f0 = x0 at l0 ha
            subst ha
            generalize st[jj].f1 = v at l1 hvj hst2 hfl2
            have hrep := fun W => replace_calls v W hvj
            generalize moreL v.data.toList = mv at hst2 hfl2 hrep
            simp only [List.length_append, List.length_singleton] at hfl2
            have e1 : ∀ w : World, (Op.stringOp .add (mkB a) ⟨#[58]⟩).run Tryd.prog w = .ok (.string ⟨(a ++ [58]).toArray⟩) w := add_lists a [58] (by rw [List.length_singleton]; omega)
            have e2 : ∀ w : World, (Op.stringOp .add ⟨mv.toArray⟩ ⟨#[10]⟩).run Tryd.prog w = .ok (.string ⟨(mv ++ [10]).toArray⟩) w := add_lists mv [10] (by rw [List.length_singleton]; omega)
            have TA := Lib.hid (RT2.out.below (alloc_below wr (.cells #[.string (mkB a), .string v] 49)))
            have hgb : wr.heap.size ≠ w.heap.size := by have := RT2.out.lt; omega
            have X0 := Lib.hid (heap_alloc_new wr (.cells #[.string (mkB a), .string v] 49))
            have f0 : (wr.alloc (.cells #[.string (mkB a), .string v] 49)).cell? ⟨wr.heap.size, 0, none⟩ = some (.string (mkB a)) := by rw [cell_of_row _ _ _ _ _ _ (heap_alloc_new wr _)]; rfl
            have c1 : ∀ W : World, W.heap[wr.heap.size]? = some (.cells #[.string (mkB a), .string v] 49 (0, 0)) → W.cell? ⟨wr.heap.size, 1, none⟩ = some (.string v) := fun W h => by rw [cell_of_row _ _ _ _ _ _ h]; rfl
            have HS2 := Lib.hid hst2
            have HF2 := Lib.hid hfl2
            clear hst2 hfl2
            cases hv0 : v.data.toList with
            | nil =>
              obtain rfl : v = ⟨#[]⟩ := by cases v with | mk d => cases d with | mk l => cases hv0; rfl
              have HS2 := Lib.hid (show base ++ (st.take (jj + 1)).flatMap fieldT = b5 ++ (a ++ [58] ++ ([] : List UInt8) ++ (mv ++ [10])) from HS2.out)
              have HF2 := Lib.hid (show b5.length + (a.length + 1 + ([] : List UInt8).length + (mv.length + 1)) ≤ 140737488355328 from HF2.out)
              have HW1 := Lib.hid (show (b5 ++ (a ++ [58])).length + 0 + (mv ++ [10]).length ≤ 140737488355328 by have := HF2.out; simp only [List.length_append, List.length_singleton] at this ⊢; omega)
              have w1 := write_text w.heap.size w.heap.size w _ b5 (a ++ [58]) TA.out (by have := HW1.out; rw [List.length_append] at this; omega)
              skip
              go_wp2_with (first | (go_at_call 64; with_reducible refine w1.mono ?_; rintro e w6 ⟨⟨v6, rfl⟩, t6, o6⟩; have T6 := Lib.hid t6; have r6 := kept_row o6 X0.out hgb (by decide); have X6 := Lib.hid r6; have g6 := c1 _ r6; clear t6 o6 r6) | (go_at_call 65; with_reducible refine (hrep _ (HG.out.below T6.out.bel)).mono ?_; rintro e w8 ⟨rfl, hb8⟩; have w9 := write_text w.heap.size w.heap.size w _ _ (mv ++ [10]) (T6.out.below hb8) (by have := HW1.out; simp only [List.length_append, List.length_singleton] at this ⊢; omega); clear hb8) | (go_at_call 64; with_reducible refine w9.mono ?_; rintro e w10 ⟨⟨v10, rfl⟩, t10, o10⟩; have T10 := Lib.hid t10; clear t10 o10))
              go_roundg (st.length - (jj + 1))
              case measure => omega
              case rel => exact ⟨jj + 1, by omega, by omega, by go_num, by rw [HS2.out]; rw [show b5 ++ (a ++ [58] ++ ([] : List UInt8) ++ (mv ++ [10])) = b5 ++ (a ++ [58]) ++ (mv ++ [10]) by simp]; exact T10.out⟩
            | cons x s' =>
              have hne : ¬ v = ⟨#[]⟩ := by rintro rfl; cases hv0
              have hsz : v.size = s'.length + 1 := by rw [← data_length, hv0]; rfl
              have hx : ∀ h : 0 < v.size, ((v[0]'h).toNat : Int) = (x.toNat : Int) := by
                intro h
                congr 2
                show v.data[0] = x
                have : v.data.toList[0]'(by rw [hv0]; exact Nat.succ_pos _) = x := by simp [hv0]
                simpa using this
              have hne2 : (v.toList = []) = False := by rw [ByteArray.toList_eq, hv0]; simp
              have q3 : (0 < v.size) = True := eq_true (by omega)
              by_cases h10 : x.toNat = 10
              · have hsp : spaceT v.data.toList = [] := by rw [hv0]; simp [spaceT, h10]
                rw [hsp] at HS2 HF2
                rw [h10] at hx
                clear hsp hv0 hsz
                have HW1 := Lib.hid (show (b5 ++ (a ++ [58])).length + 0 + (mv ++ [10]).length ≤ 140737488355328 by have := HF2.out; simp only [List.length_append, List.length_singleton] at this ⊢; omega)
                have w1 := write_text w.heap.size w.heap.size w _ b5 (a ++ [58]) TA.out (by have := HW1.out; rw [List.length_append] at this; omega)
                skip
                go_wp2_with (first | (go_at_call 64; with_reducible refine w1.mono ?_; rintro e w6 ⟨⟨v6, rfl⟩, t6, o6⟩; have T6 := Lib.hid t6; have r6 := kept_row o6 X0.out hgb (by decide); have X6 := Lib.hid r6; have g6 := c1 _ r6; clear t6 o6 r6) | (go_at_call 65; with_reducible refine (hrep _ (HG.out.below T6.out.bel)).mono ?_; rintro e w8 ⟨rfl, hb8⟩; have w9 := write_text w.heap.size w.heap.size w _ _ (mv ++ [10]) (T6.out.below hb8) (by have := HW1.out; simp only [List.length_append, List.length_singleton] at this ⊢; omega); clear hb8) | (go_at_call 64; with_reducible refine w9.mono ?_; rintro e w10 ⟨⟨v10, rfl⟩, t10, o10⟩; have T10 := Lib.hid t10; clear t10 o10))
                go_roundg (st.length - (jj + 1))
                case measure => omega
                case rel => exact ⟨jj + 1, by omega, by omega, by go_num, by rw [HS2.out]; rw [show b5 ++ (a ++ [58] ++ ([] : List UInt8) ++ (mv ++ [10])) = b5 ++ (a ++ [58]) ++ (mv ++ [10]) by simp]; exact T10.out⟩
              · have hsp : spaceT v.data.toList = [32] := by rw [hv0]; simp [spaceT, h10]
                rw [hsp] at HS2 HF2
                have hx10 : ¬ (x.toNat : Int) = 10 := by omega
                generalize (x.toNat : Int) = xi at hx hx10
                have q4 : (xi != 10) = true := bne_iff_ne.2 hx10
                have q5 : v.toList.isEmpty = false := by rw [ByteArray.toList_eq, hv0]; rfl
                clear hsp hv0 hsz h10
                have HW1 := Lib.hid (show (b5 ++ (a ++ [58])).length + 1 + (mv ++ [10]).length ≤ 140737488355328 by have := HF2.out; simp only [List.length_append, List.length_singleton] at this ⊢; omega)
                have w1 := write_text w.heap.size w.heap.size w _ b5 (a ++ [58]) TA.out (by have := HW1.out; rw [List.length_append] at this; omega)
                skip
                go_wp2_with (first | (go_at_call 64; with_reducible refine w1.mono ?_; rintro e w6 ⟨⟨v6, rfl⟩, t6, o6⟩; have T6 := Lib.hid t6; have r6 := kept_row o6 X0.out hgb (by decide); have X6 := Lib.hid r6; have g6 := c1 _ r6; clear t6 o6 r6) | (go_at_call 63; with_reducible refine (write_32 w.heap.size w.heap.size w _ _ T6.out (by have := HW1.out; simp only [List.length_append, List.length_singleton] at this ⊢; omega)).mono ?_; rintro e w7 ⟨rfl, t7, o7⟩; have T7 := Lib.hid t7; have r7 := kept_row o7 X6.out hgb (by decide); have g7 := c1 _ r7; clear t7 o7 r7) | (go_at_call 65; with_reducible refine (hrep _ (HG.out.below T7.out.bel)).mono ?_; rintro e w8 ⟨rfl, hb8⟩; have w9 := write_text w.heap.size w.heap.size w _ _ (mv ++ [10]) (T7.out.below hb8) (by have := HW1.out; simp only [List.length_append, List.length_singleton] at this ⊢; omega); clear hb8) | (go_at_call 64; with_reducible refine w9.mono ?_; rintro e w10 ⟨⟨v10, rfl⟩, t10, o10⟩; have T10 := Lib.hid t10; clear t10 o10))
                go_roundg (st.length - (jj + 1))
                case measure => omega
                case rel => exact ⟨jj + 1, by omega, by omega, by go_num, by rw [HS2.out]; rw [show b5 ++ (a ++ [58] ++ ([32] : List UInt8) ++ (mv ++ [10])) = b5 ++ (a ++ [58]) ++ [32] ++ (mv ++ [10]) by simp]; exact T10.out⟩
          · have hjlz : ¬ (jj : Int) < (st.length : Int) := by omega
            rw [List.take_of_length_le (by omega)] at RT2
            have T9 := Lib.hid (show TextB w.heap.size w.heap.size w wr (textS (l.take (0 + 1))) by rw [HS.out]; exact RT2.out)
            clear RT2
            go_wp2
            go_roundg (l.length - (0 + 1))
            case measure => omega
            case rel => exact ⟨0 + 1, by omega, by omega, by go_num, T9.out⟩
      · have hk1 : (0 : Int) < (kk : Int) := by omega
        rw [if_neg hk0] at hst hpre
        have HS := Lib.hid hst
        have HP0 := Lib.hid hpre
        have hwb := write_10 w.heap.size w.heap.size w wr base RT.out (by rw [List.length_singleton] at hpre; omega)
        clear hst hpre
        go_wp2_with (go_at_call 63; with_reducible refine hwb.mono ?_; rintro e w4 ⟨rfl, t4, _⟩; have T4 := Lib.hid t4; clear t4)
        have HP := Lib.hid (show (base ++ [10]).length + ([] : List UInt8).length + (stanzaT st).length ≤ 140737488355328 from by rw [List.length_append]; have := HP0.out; simp only [List.length_nil] at this ⊢; omega)
        clear hwb HP0 RT
        have RT : Aside (TextB w.heap.size w.heap.size w w4 (base ++ [10])) := T4.out
        generalize base ++ [10] = base at RT HP HS
        clear T4
        go_loopg [7, 20] st.length (fun gg _ s20 WR => ∃ jj : Nat, jj ≤ st.length ∧ st.length - jj ≤ gg ∧ s20 = .int .i64 jj ∧ Aside (TextB w.heap.size w.heap.size w WR (base ++ (st.take jj).flatMap fieldT)))
        case atStart => exact ⟨0, Nat.zero_le _, by omega, rfl, by rw [List.take_zero, List.flatMap_nil, List.append_nil]; exact RT.out⟩
        case round =>
          obtain ⟨jj, hjj, hg2, rfl, RT2⟩ := hrel
          by_cases hjl : jj < st.length
          · have hjlz : (jj : Int) < (st.length : Int) := by omega
            have hC2 := HC.out
            obtain ⟨ad2, rfl⟩ := C_addr hC2 (by omega)
            obtain ⟨cs, hlen2, hK, hcell0⟩ := C_elem (Kd.C_below hC2 RT2.out.bel) jj hjl
            obtain rfl := k49_open hK
            have l0 : wr.cell? (ad2.add (jj * 2)) = some (.string st[jj].f0) := by
              have h := hcell0 0 _ rfl
              rw [show jj * k49.sz + 0 = jj * 2 from rfl] at h; exact h
            have l1 : wr.cell? ⟨(ad2.add (jj * 2)).block, (ad2.add (jj * 2)).off + 1, none⟩ = some (.string st[jj].f1) := by
              have h := hcell0 1 _ rfl
              rw [show jj * k49.sz + 1 = jj * 2 + 1 from rfl, add_field _ _ _ (by decide)] at h; exact h
            have hfl := Nat.le_trans (Nat.add_le_add_left (field_len st jj hjl) (base.length + ([] : List UInt8).length)) HP.out
            have hvj := HVK.out _ (List.getElem_mem hjl)
            have hst2 : base ++ (st.take (jj + 1)).flatMap fieldT = base ++ (st.take jj).flatMap fieldT ++ fieldT st[jj] := by
              rw [List.take_succ_eq_append_getElem hjl, List.flatMap_append]; simp
            have hfl2 : (base ++ (st.take jj).flatMap fieldT).length + (fieldT st[jj]).length ≤ 140737488355328 := by
              rw [List.length_append]; simp only [List.length_nil] at hfl; omega
            generalize base ++ (st.take jj).flatMap fieldT = b5 at RT2 hst2 hfl2
            clear hfl hcell0 hlen2 hC2 hK
            have hst3 : fieldT st[jj] = st[jj].f0.data.toList ++ [58] ++ spaceT st[jj].f1.data.toList ++ (moreL st[jj].f1.data.toList ++ [10]) := rfl
            rw [hst3] at hst2 hfl2
            clear hst3
            have ha := (mk_toList st[jj].f0).symm
            generalize st[jj].f0.data.toList = a at hst2 hfl2 ha
            generalize st[jj].f0 = x0 at l0 ha
            subst ha
            generalize st[jj].f1 = v at l1 hvj hst2 hfl2
            have hrep := fun W => replace_calls v W hvj
            generalize moreL v.data.toList = mv at hst2 hfl2 hrep
            simp only [List.length_append, List.length_singleton] at hfl2
            have e1 : ∀ w : World, (Op.stringOp .add (mkB a) ⟨#[58]⟩).run Tryd.prog w = .ok (.string ⟨(a ++ [58]).toArray⟩) w := add_lists a [58] (by rw [List.length_singleton]; omega)
            have e2 : ∀ w : World, (Op.stringOp .add ⟨mv.toArray⟩ ⟨#[10]⟩).run Tryd.prog w = .ok (.string ⟨(mv ++ [10]).toArray⟩) w := add_lists mv [10] (by rw [List.length_singleton]; omega)
            have TA := Lib.hid (RT2.out.below (alloc_below wr (.cells #[.string (mkB a), .string v] 49)))
            have hgb : wr.heap.size ≠ w.heap.size := by have := RT2.out.lt; omega
            have X0 := Lib.hid (heap_alloc_new wr (.cells #[.string (mkB a), .string v] 49))
            have f0 : (wr.alloc (.cells #[.string (mkB a), .string v] 49)).cell? ⟨wr.heap.size, 0, none⟩ = some (.string (mkB a)) := by rw [cell_of_row _ _ _ _ _ _ (heap_alloc_new wr _)]; rfl
            have c1 : ∀ W : World, W.heap[wr.heap.size]? = some (.cells #[.string (mkB a), .string v] 49 (0, 0)) → W.cell? ⟨wr.heap.size, 1, none⟩ = some (.string v) := fun W h => by rw [cell_of_row _ _ _ _ _ _ h]; rfl
            have HS2 := Lib.hid hst2
            have HF2 := Lib.hid hfl2
            clear hst2 hfl2
            cases hv0 : v.data.toList with
            | nil =>
              obtain rfl : v = ⟨#[]⟩ := by cases v with | mk d => cases d with | mk l => cases hv0; rfl
              have HS2 := Lib.hid (show base ++ (st.take (jj + 1)).flatMap fieldT = b5 ++ (a ++ [58] ++ ([] : List UInt8) ++ (mv ++ [10])) from HS2.out)
              have HF2 := Lib.hid (show b5.length + (a.length + 1 + ([] : List UInt8).length + (mv.length + 1)) ≤ 140737488355328 from HF2.out)
              have HW1 := Lib.hid (show (b5 ++ (a ++ [58])).length + 0 + (mv ++ [10]).length ≤ 140737488355328 by have := HF2.out; simp only [List.length_append, List.length_singleton] at this ⊢; omega)
              have w1 := write_text w.heap.size w.heap.size w _ b5 (a ++ [58]) TA.out (by have := HW1.out; rw [List.length_append] at this; omega)
              skip
              go_wp2_with (first | (go_at_call 64; with_reducible refine w1.mono ?_; rintro e w6 ⟨⟨v6, rfl⟩, t6, o6⟩; have T6 := Lib.hid t6; have r6 := kept_row o6 X0.out hgb (by decide); have X6 := Lib.hid r6; have g6 := c1 _ r6; clear t6 o6 r6) | (go_at_call 65; with_reducible refine (hrep _ (HG.out.below T6.out.bel)).mono ?_; rintro e w8 ⟨rfl, hb8⟩; have w9 := write_text w.heap.size w.heap.size w _ _ (mv ++ [10]) (T6.out.below hb8) (by have := HW1.out; simp only [List.length_append, List.length_singleton] at this ⊢; omega); clear hb8) | (go_at_call 64; with_reducible refine w9.mono ?_; rintro e w10 ⟨⟨v10, rfl⟩, t10, o10⟩; have T10 := Lib.hid t10; clear t10 o10))
              go_roundg (st.length - (jj + 1))
              case measure => omega
              case rel => exact ⟨jj + 1, by omega, by omega, by go_num, by rw [HS2.out]; rw [show b5 ++ (a ++ [58] ++ ([] : List UInt8) ++ (mv ++ [10])) = b5 ++ (a ++ [58]) ++ (mv ++ [10]) by simp]; exact T10.out⟩
            | cons x s' =>
              have hne : ¬ v = ⟨#[]⟩ := by rintro rfl; cases hv0
              have hsz : v.size = s'.length + 1 := by rw [← data_length, hv0]; rfl
              have hx : ∀ h : 0 < v.size, ((v[0]'h).toNat : Int) = (x.toNat : Int) := by
                intro h
                congr 2
                show v.data[0] = x
                have : v.data.toList[0]'(by rw [hv0]; exact Nat.succ_pos _) = x := by simp [hv0]
                simpa using this
              have hne2 : (v.toList = []) = False := by rw [ByteArray.toList_eq, hv0]; simp
              have q3 : (0 < v.size) = True := eq_true (by omega)
              by_cases h10 : x.toNat = 10
              · have hsp : spaceT v.data.toList = [] := by rw [hv0]; simp [spaceT, h10]
                rw [hsp] at HS2 HF2
                rw [h10] at hx
                clear hsp hv0 hsz
                have HW1 := Lib.hid (show (b5 ++ (a ++ [58])).length + 0 + (mv ++ [10]).length ≤ 140737488355328 by have := HF2.out; simp only [List.length_append, List.length_singleton] at this ⊢; omega)
                have w1 := write_text w.heap.size w.heap.size w _ b5 (a ++ [58]) TA.out (by have := HW1.out; rw [List.length_append] at this; omega)
                skip
                go_wp2_with (first | (go_at_call 64; with_reducible refine w1.mono ?_; rintro e w6 ⟨⟨v6, rfl⟩, t6, o6⟩; have T6 := Lib.hid t6; have r6 := kept_row o6 X0.out hgb (by decide); have X6 := Lib.hid r6; have g6 := c1 _ r6; clear t6 o6 r6) | (go_at_call 65; with_reducible refine (hrep _ (HG.out.below T6.out.bel)).mono ?_; rintro e w8 ⟨rfl, hb8⟩; have w9 := write_text w.heap.size w.heap.size w _ _ (mv ++ [10]) (T6.out.below hb8) (by have := HW1.out; simp only [List.length_append, List.length_singleton] at this ⊢; omega); clear hb8) | (go_at_call 64; with_reducible refine w9.mono ?_; rintro e w10 ⟨⟨v10, rfl⟩, t10, o10⟩; have T10 := Lib.hid t10; clear t10 o10))
                go_roundg (st.length - (jj + 1))
                case measure => omega
                case rel => exact ⟨jj + 1, by omega, by omega, by go_num, by rw [HS2.out]; rw [show b5 ++ (a ++ [58] ++ ([] : List UInt8) ++ (mv ++ [10])) = b5 ++ (a ++ [58]) ++ (mv ++ [10]) by simp]; exact T10.out⟩
              · have hsp : spaceT v.data.toList = [32] := by rw [hv0]; simp [spaceT, h10]
                rw [hsp] at HS2 HF2
                have hx10 : ¬ (x.toNat : Int) = 10 := by omega
                generalize (x.toNat : Int) = xi at hx hx10
                have q4 : (xi != 10) = true := bne_iff_ne.2 hx10
                have q5 : v.toList.isEmpty = false := by rw [ByteArray.toList_eq, hv0]; rfl
                clear hsp hv0 hsz h10
                have HW1 := Lib.hid (show (b5 ++ (a ++ [58])).length + 1 + (mv ++ [10]).length ≤ 140737488355328 by have := HF2.out; simp only [List.length_append, List.length_singleton] at this ⊢; omega)
                have w1 := write_text w.heap.size w.heap.size w _ b5 (a ++ [58]) TA.out (by have := HW1.out; rw [List.length_append] at this; omega)
                skip
                go_wp2_with (first | (go_at_call 64; with_reducible refine w1.mono ?_; rintro e w6 ⟨⟨v6, rfl⟩, t6, o6⟩; have T6 := Lib.hid t6; have r6 := kept_row o6 X0.out hgb (by decide); have X6 := Lib.hid r6; have g6 := c1 _ r6; clear t6 o6 r6) | (go_at_call 63; with_reducible refine (write_32 w.heap.size w.heap.size w _ _ T6.out (by have := HW1.out; simp only [List.length_append, List.length_singleton] at this ⊢; omega)).mono ?_; rintro e w7 ⟨rfl, t7, o7⟩; have T7 := Lib.hid t7; have r7 := kept_row o7 X6.out hgb (by decide); have g7 := c1 _ r7; clear t7 o7 r7) | (go_at_call 65; with_reducible refine (hrep _ (HG.out.below T7.out.bel)).mono ?_; rintro e w8 ⟨rfl, hb8⟩; have w9 := write_text w.heap.size w.heap.size w _ _ (mv ++ [10]) (T7.out.below hb8) (by have := HW1.out; simp only [List.length_append, List.length_singleton] at this ⊢; omega); clear hb8) | (go_at_call 64; with_reducible refine w9.mono ?_; rintro e w10 ⟨⟨v10, rfl⟩, t10, o10⟩; have T10 := Lib.hid t10; clear t10 o10))
                go_roundg (st.length - (jj + 1))
                case measure => omega
                case rel => exact ⟨jj + 1, by omega, by omega, by go_num, by rw [HS2.out]; rw [show b5 ++ (a ++ [58] ++ ([32] : List UInt8) ++ (mv ++ [10])) = b5 ++ (a ++ [58]) ++ [32] ++ (mv ++ [10]) by simp]; exact T10.out⟩
          · have hjlz : ¬ (jj : Int) < (st.length : Int) := by omega
            rw [List.take_of_length_le (by omega)] at RT2
            have T9 := Lib.hid (show TextB w.heap.size w.heap.size w wr (textS (l.take (kk + 1))) by rw [HS.out]; exact RT2.out)
            clear RT2
            go_wp2
            go_roundg (l.length - (kk + 1))
            case measure => omega
            case rel => exact ⟨kk + 1, by omega, by omega, by go_num, T9.out⟩
    · have hltz : ¬ (kk : Int) < (l.length : Int) := by omega
      rw [List.take_of_length_le (by omega)] at RT
      have hrt := read_text w.heap.size w.heap.size w wr _ RT.out
      obtain ⟨tt, htt⟩ : ∃ tt, tt = textS l := ⟨_, rfl⟩
      rw [← htt] at hrt
      have HT := Lib.hid htt
      clear htt HL
      go_wp2_with (go_at_call 66; with_reducible refine hrt.mono ?_; rintro e w7 ⟨rfl, hb7⟩)
      go_ret
      exact ⟨by rw [← HT.out]; rfl, hb7⟩

theorem right1_enters : ∀ args w, (callFunc 44 args).run Tryd.prog w = .ok (.enter 44 args) w := enters_of Tryd.func44 (by kernel_rfl) rfl
set_option maxHeartbeats 400000 in
theorem right1_any (A : Option Addr) (c : Nat) (st : List Fd) (W : World) (hr : Kd.C k49 W A st.length st) (hc : st.length ≤ c) (hG : GlobMaxLen W) (hv : ∀ f ∈ st, f.f1.size < 4294967281) : Calls Tryd.prog 44 #[.slice A st.length c] W fun e w' => e = .returned (.bool (!rightS st)) ∧ Below W.heap.size W w' := by
  have hb := right_calls A c st W hr hc hG hv
  generalize rightS st = r at hb ⊢
  clear hr hG hv
  go_enter Tryd.func44, Tryd.ntmps44
  go_wp2_with (go_at_call 45; with_reducible refine hb.mono ?_; rintro e w' ⟨rfl, hb⟩)
  go_ret
  exact ⟨rfl, hb⟩
def rightL (l : List (List Fd)) : Bool := decide (l.length ≤ 200) && !(l.any fun st => !rightS st) && decide ((textS l).length ≤ 60000)
def fitsT (l : List (List Fd)) : Bool := decide ((textS l).length ≤ 140737488355328) && l.all fun st => st.all fun f => decide (f.f1.size < 4294967281)
def stanza_Right.f (l0 : List (List Fd)) : Option Bool := if fitsT l0 = true then some (rightL l0) else none
def stanza_Print.f (l0 : List (List Fd)) : Option ByteArray := if fitsT l0 = true then some (if rightL l0 = true then ⟨(textS l0).toArray⟩ else ⟨#[]⟩) else none
theorem fits_open {l : List (List Fd)} (h : fitsT l = true) : (textS l).length ≤ 140737488355328 ∧ ∀ st ∈ l, ∀ f ∈ st, f.f1.size < 4294967281 := by
  obtain ⟨h1, h2⟩ := Bool.and_eq_true_iff.1 h
  exact ⟨of_decide_eq_true h1, fun st hs f hf => of_decide_eq_true (List.all_eq_true.1 (List.all_eq_true.1 h2 st hs) f hf)⟩
set_option maxHeartbeats 1000000 in
theorem stanza_Right.calls (A0 : Option Addr) (c0 : Nat) (l0 : List (List Fd)) (r : Bool) (w : World) (hr0 : Kd.C (Kd.slice 49 k49) w A0 l0.length l0) (_hc0 : l0.length ≤ c0) (hG : GlobMaxLen w) (h : stanza_Right.f l0 = some r) :
    Calls Tryd.prog 25 #[.slice A0 l0.length c0] w fun e w' => e = .returned (.bool r) ∧ Below w.heap.size w w' := by
  unfold stanza_Right.f at h
  split at h
  case isFalse => cases h
  case isTrue hf =>
  obtain rfl := Option.some.inj h
  obtain ⟨h1, h2⟩ := fits_open hf
  have hcon := con43 (Kd.slice 49 k49) rfl 44 #[] right1_enters A0 c0 l0 (fun st => !rightS st) w hr0 (by
    intro st hst cs W hb hK
    obtain ⟨Ac, cc, rfl, hle, hC⟩ := hK
    exact right1_any Ac cc st W hC hle (hG.below hb) (h2 st hst))
  have htx := fun W (hb : Below w.heap.size w W) => (text_calls A0 c0 l0 W (Kd.C_below hr0 hb) (hG.below hb) h2 h1).mono fun e w' h => (⟨h.1, hb.trans (h.2.mono hb.size)⟩ : e = .returned (.string ⟨(textS l0).toArray⟩) ∧ Below w.heap.size w w')
  unfold rightL
  obtain ⟨tb, htb⟩ : ∃ tb : ByteArray, tb = ⟨(textS l0).toArray⟩ := ⟨_, rfl⟩
  have hsz : (textS l0).length = tb.size := by rw [htb]; rfl
  rw [← htb] at htx
  rw [hsz]
  generalize (l0.any fun st => !rightS st) = b at hcon ⊢
  clear h h1 h2 hf hr0 hG htb hsz
  by_cases q1 : (l0.length : Int) ≤ 200
  · rw [decide_eq_true (show l0.length ≤ 200 by omega), Bool.true_and]
    cases b with
    | true =>
      go_enter Tryd.func25, Tryd.ntmps25
      go_wp2_with (go_at_call 43; with_reducible refine hcon.mono ?_; rintro e w1 ⟨rfl, hb1⟩)
      go_ret
      exact ⟨rfl, hb1⟩
    | false =>
      rw [show (!false && decide (tb.size ≤ 60000)) = decide ((tb.size : Int) ≤ 60000) from by rw [Bool.not_false, Bool.true_and]; exact decide_eq_decide.2 (by omega)]
      go_enter Tryd.func25, Tryd.ntmps25
      go_wp2_with (first | (go_at_call 43; with_reducible refine hcon.mono ?_; rintro e w1 ⟨rfl, hb1⟩) | (go_at_call 46; with_reducible refine (htx _ hb1).mono ?_; rintro e w2 ⟨rfl, hb2⟩))
      go_ret
      exact ⟨rfl, hb2⟩
  · rw [decide_eq_false (show ¬ l0.length ≤ 200 by omega), Bool.false_and, Bool.false_and]
    clear hcon htx
    go_enter Tryd.func25, Tryd.ntmps25
    go_wp2
    go_ret
    exact ⟨rfl, Below.refl _ _⟩
set_option maxHeartbeats 1000000 in
theorem stanza_Print.calls (A0 : Option Addr) (c0 : Nat) (l0 : List (List Fd)) (r : ByteArray) (w : World) (hr0 : Kd.C (Kd.slice 49 k49) w A0 l0.length l0) (hc0 : l0.length ≤ c0) (hG : GlobMaxLen w) (h : stanza_Print.f l0 = some r) :
    Calls Tryd.prog 27 #[.slice A0 l0.length c0] w fun e w' => e = .returned (.string r) ∧ Below w.heap.size w w' := by
  unfold stanza_Print.f at h
  split at h
  case isFalse => cases h
  case isTrue hf =>
  obtain rfl := Option.some.inj h
  obtain ⟨h1, h2⟩ := fits_open hf
  have hR := stanza_Right.calls A0 c0 l0 (rightL l0) w hr0 hc0 hG (by unfold stanza_Right.f; rw [if_pos hf])
  have htx := fun W (hb : Below w.heap.size w W) => (text_calls A0 c0 l0 W (Kd.C_below hr0 hb) (hG.below hb) h2 h1).mono fun e w' h => (⟨h.1, hb.trans (h.2.mono hb.size)⟩ : e = .returned (.string ⟨(textS l0).toArray⟩) ∧ Below w.heap.size w w')
  generalize rightL l0 = b at hR ⊢
  generalize (⟨(textS l0).toArray⟩ : ByteArray) = tb at htx ⊢
  clear h h1 h2 hf hr0 hG hc0
  cases b with
  | true =>
    rw [if_pos rfl]
    go_enter Tryd.func27, Tryd.ntmps27
    go_wp2_with (first | (go_at_call 25; with_reducible refine hR.mono ?_; rintro e w1 ⟨rfl, hb1⟩) | (go_at_call 46; with_reducible refine (htx _ hb1).mono ?_; rintro e w2 ⟨rfl, hb2⟩))
    go_ret
    exact ⟨rfl, hb2⟩
  | false =>
    rw [if_neg (by decide)]
    clear htx
    go_enter Tryd.func27, Tryd.ntmps27
    go_wp2_with (go_at_call 25; with_reducible refine hR.mono ?_; rintro e w1 ⟨rfl, hb1⟩)
    go_ret
    exact ⟨rfl, hb1⟩
end Go.Proofs.YtekplcjgmnahmaaDoor.PA
