/- keelson/stanza.Parse: what it comes to. The one premise on the world: the library's own number stands in its variable. -/
import Derived.Test.YtekplcjgmnahmaaDoorGLine5
namespace Go.Proofs.YtekplcjgmnahmaaDoor.PA
open Go.RowKit Go.Proofs.YtekplcjgmnahmaaDoorW.PrintWords Go.Proofs.YtekplcjgmnahmaaDoorW.PrintLast Go.Proofs.YtekplcjgmnahmaaDoorW.PrintMore

theorem lines_len : ∀ s : List UInt8, (linesL s).length ≤ s.length + 1 := by
  intro s
  induction s with
  | nil => exact Nat.le_refl _
  | cons c s ih =>
    unfold linesL
    split
    · simp only [List.length_cons]; omega
    · split
      · rename_i e; rw [e] at ih; simp only [List.length_cons] at ih ⊢; omega
      · simp
theorem line_len1 : ∀ s : List UInt8, ∀ x ∈ linesL s, x.length ≤ s.length := by
  intro s
  induction s with
  | nil => intro x hx; simp [linesL] at hx; subst hx; exact Nat.le_refl _
  | cons c s ih =>
    intro x hx
    unfold linesL at hx
    split at hx
    · rcases List.mem_cons.1 hx with h | h
      · subst h; exact Nat.zero_le _
      · exact Nat.le_trans (ih x h) (Nat.le_succ _)
    · split at hx
      · rename_i l ls e
        rcases List.mem_cons.1 hx with h | h
        · subst h
          have := ih l (by rw [e]; exact List.mem_cons_self)
          simp only [List.length_cons]; omega
        · exact Nat.le_trans (ih x (by rw [e]; exact List.mem_cons_of_mem _ h)) (Nat.le_succ _)
      · rw [List.mem_singleton] at hx; subst hx; simp
theorem ValsLe.mono {N M : Nat} {l : List (List Fd)} (h : ValsLe N l) (hm : N ≤ M) : ValsLe M l := fun st hst f hf => Nat.le_trans (h st hst f hf) hm
theorem S_nil (w : World) (base : Nat) : Kd.S (Kd.slice 49 k49) 36 w base (fun _ => True) (.slice none 0 0) [] := ⟨fun _ => 0, Kd.R_nil _ _ _ _ _⟩
theorem read_step (ss : List (List UInt8)) (kk : Nat) (l : List (List Fd)) (o : Bool) (hk : kk < ss.length) : readG (ss.drop kk) kk l o = match lineG l o ss[kk] with
    | .error e => ([], (kk : Int) + 1, e)
    | .ok (l', o') => readG (ss.drop (kk + 1)) (kk + 1) l' o' := by
  rw [List.drop_eq_getElem_cons hk, readG]
  cases lineG l o ss[kk] <;> rfl
def lineCells (ls : List (List UInt8)) : Array Value := ((ls.map mkB).map Value.string).toArray
theorem lineCells_at (ls : List (List UInt8)) (k : Nat) (hk : k < ls.length) : (lineCells ls)[k]? = some (.string (mkB ls[k])) := by
  simp [lineCells, hk]
def stanza_Parse.f (a0 : ByteArray) : Option (List (List Fd) × Int × Int) := some (parseL a0.data.toList)

set_option maxRecDepth 20000 in
set_option maxHeartbeats 4000000 in
theorem stanza_Parse.calls (a0 : ByteArray) (r1 : List (List Fd)) (r2 r3 : Int) (w : World) (hG : GlobMaxLen w) (h : stanza_Parse.f a0 = some (r1, r2, r3)) :
    Calls Tryd.prog 10 #[.string a0] w fun e w' => ∃ v0_ : Value, e = .returned (.tuple #[v0_, .int .i64 r2, .int .i64 r3]) ∧ Kd.S (Kd.slice 49 k49) 36 w' w.heap.size (fun _ => True) v0_ r1 ∧ Below w.heap.size w w' := by
  have h := Option.some.inj h
  have hsz : a0.size = a0.data.toList.length := (data_length a0).symm
  unfold parseL at h
  split at h
  case isTrue hbig =>
    cases h
    have q1 : (60000 : Int) < (a0.size : Int) := by omega
    clear hbig hsz
    go_enter Tryd.func10, Tryd.ntmps10
    go_wp2
    go_ret3
    exact ⟨_, rfl, S_nil _ _, Below.refl _ _⟩
  case isFalse hbig =>
    have q1 : ¬ (60000 : Int) < (a0.size : Int) := by omega
    have hb1 := alloc_below w (.cells #[.slice none 0 0, .bool false] 57)
    obtain ⟨m, hm⟩ := hG.below hb1
    have hsp := Tryd.strings_Split a0 ⟨#[10]⟩ m _ (by omega) hm (by decide)
    rw [splitB_lines, splitB_len, show (w.alloc (.cells #[.slice none 0 0, .bool false] 57)).heap.size = w.heap.size + 1 by simp] at hsp
    have hll := lines_len a0.data.toList
    have hl1 := line_len1 a0.data.toList
    generalize linesL a0.data.toList = ls at h hsp hll hl1
    change Calls _ _ _ _ fun e w' => _ ∧ w' = (w.alloc (.cells #[.slice none 0 0, .bool false] 57)).alloc (.cells (lineCells ls) 9) at hsp
    have hst : RdP 36 57 w.heap.size w ((w.alloc (.cells #[.slice none 0 0, .bool false] 57)).alloc (.cells (lineCells ls) 9)) w.heap.size [⟨w.heap.size + 1, lineCells ls, 9⟩] (.slice none 0 0) [] [] false := by
      have h1 := (RdP.start (TS := 36) hb1 hb1.size (Nat.le_refl _) (heap_alloc_new w _)).move (alloc_below (w.alloc (.cells #[.slice none 0 0, .bool false] 57)) (.cells (lineCells ls) 9))
      refine ⟨h1.bel, h1.base, h1.hrb, h1.cell, h1.row, h1.rows, h1.apart, fun q hq => ?_⟩
      rw [List.mem_singleton] at hq
      subst hq
      refine ⟨?_, (show 36 ≠ 9 by decide), (show 57 ≠ 9 by decide), (show 49 ≠ 9 by decide)⟩
      have := heap_alloc_new (w.alloc (.cells #[.slice none 0 0, .bool false] 57)) (.cells (lineCells ls) 9)
      rw [show (w.alloc (.cells #[.slice none 0 0, .bool false] 57)).heap.size = w.heap.size + 1 by simp] at this
      exact this
    have HS := Lib.hid hst
    have HG := Lib.hid hG
    have HR := Lib.hid h
    have HL1 := Lib.hid hl1
    clear hst hm hb1 h hl1 hsz hG
    go_enter Tryd.func10, Tryd.ntmps10
    go_wp2_with (go_at_call 29; with_reducible refine hsp.mono ?_; rintro e w1 ⟨rfl, rfl⟩)
    have hn : ls.length < 9223372036854775807 := by omega
    clear hsp q1
    go_loopg [6, 7, 8, 15] ls.length (fun gg _ _ _ s15 wr => ∃ (kk : Nat) (l : List (List Fd)) (o : Bool) (v : Value) (vs : List Value), kk ≤ ls.length ∧ ls.length - kk ≤ gg ∧ s15 = .int .i64 kk ∧ Aside (RdP 36 57 w.heap.size w wr w.heap.size [⟨w.heap.size + 1, lineCells ls, 9⟩] v vs l o) ∧ Aside (FineR l o) ∧ Aside (ValsLe (kk * 60000) l) ∧ Aside (readG (ls.drop kk) kk l o = (r1, r2, r3)))
    case atStart => exact ⟨0, [], false, _, _, Nat.zero_le _, by omega, rfl, HS.out, fine_start, vals_start _, by rw [List.drop_zero]; exact HR.out⟩
    case round =>
      obtain ⟨kk, l, o, v, vs, hkk, hg, rfl, RP, RF, RV, RR⟩ := hrel
      by_cases hlt : kk < ls.length
      · have hltz : (kk : Int) < (ls.length : Int) := by omega
        have hcell : wr.cell? ⟨w.heap.size + 1, kk, none⟩ = some (.string (mkB ls[kk])) := by
          rw [cell_of_row wr _ kk _ _ _ (RP.out.guest _ (List.mem_singleton.2 rfl)).1, lineCells_at ls kk hlt]
        have hlk := HL1.out ls[kk] (List.getElem_mem hlt)
        have hlc := line_calls w wr w.heap.size [⟨w.heap.size + 1, lineCells ls, 9⟩] (by intro q hq; rw [List.mem_singleton] at hq; subst hq; exact (show 9 ≠ 24 by decide)) v vs l o (mkB ls[kk]) (kk * 60000) (by rw [mkB_size]; omega) HG.out RF.out RV.out (by rw [mkB_size]; omega) RP.out
        have hrs := RR.out
        rw [read_step ls kk l o hlt] at hrs
        have hfl := fun l' o' => fine_line (l' := l') (o' := o') (s := ls[kk]) RF.out
        have hvl := fun l' o' => vals_line (l' := l') (o' := o') (s := ls[kk]) RV.out RF.out.2.2
        rw [show (mkB ls[kk]).data.toList = ls[kk] from rfl] at hlc
        cases hq : lineG l o ls[kk] with
        | error q =>
          have hq0 := line_err hq
          rw [hq] at hlc hrs
          have hq1 : (q != 0) = true := bne_iff_ne.2 hq0
          cases hrs
          dsimp only at hlc
          have hwr : IntKind.i64.wrap ((kk : Int) + 1) = (kk : Int) + 1 := by rw [i64_w]; unfold wrap64; omega
          clear hfl hvl RF RV RR
          go_wp2_with (go_at_call 30; with_reducible refine hlc.mono ?_; rintro e w3 ⟨rfl, hb3⟩)
          go_ret3
          exact ⟨_, rfl, S_nil _ _, hb3⟩
        | ok p =>
          rw [hq] at hlc hrs
          dsimp only at hlc hrs
          have HF := Lib.hid (hfl p.1 p.2 hq)
          have HV := Lib.hid ((hvl p.1 p.2 hq).mono (show kk * 60000 + ls[kk].length ≤ (kk + 1) * 60000 by omega))
          have HRR := Lib.hid hrs
          clear hfl hvl RF RV RR hrs
          go_wp2_with (go_at_call 30; with_reducible refine hlc.mono ?_; rintro e w3 ⟨rfl, v3, vs3, h3⟩; have H3 := Lib.hid h3; clear h3)
          go_roundg (ls.length - (kk + 1))
          case measure => omega
          case rel => exact ⟨kk + 1, p.1, p.2, v3, vs3, by omega, by omega, by go_num, H3.out, HF.out, HV.out, HRR.out⟩
      · have hltz : ¬ (kk : Int) < (ls.length : Int) := by omega
        have hrs := RR.out
        rw [List.drop_eq_nil_of_le (by omega)] at hrs
        cases hrs
        have k0 := RP.out.cell0
        have HSS := Lib.hid (RP.out.S (by decide))
        have HBB := Lib.hid RP.out.bel
        clear RF RV RR RP
        go_wp2
        go_ret3
        exact ⟨_, rfl, HSS.out, HBB.out⟩
end Go.Proofs.YtekplcjgmnahmaaDoor.PA
