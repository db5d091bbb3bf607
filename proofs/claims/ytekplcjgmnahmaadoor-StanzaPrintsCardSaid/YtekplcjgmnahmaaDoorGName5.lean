/- keelson/stanza.below, Name: what they come to. No condition but that a text has a size that fits a number. -/
import Derived.Test.YtekplcjgmnahmaaDoorGIdx5
import Derived.Test.YtekplcjgmnahmaaDoorGMake
import Derived.Test.YtekplcjgmnahmaaDoorShelf
import Derived.Test.YtekplcjgmnahmaaDoorMStanza0
namespace Go.Proofs.YtekplcjgmnahmaaDoor.PA
open Go.RowKit Go.Proofs.YtekplcjgmnahmaaDoorW.PrintWords Go.Proofs.YtekplcjgmnahmaaDoorW.PrintLast Go.Proofs.YtekplcjgmnahmaaDoorW.PrintMore

theorem bytes_C (W : World) (e : TypeId) (s : ByteArray) (hs : s.size ≤ 9223372036854775807) : Kd.C (Kd.int .u8) (Lib.bytesWorld W e s) (some ⟨W.heap.size, 0, none⟩) (bytesOf s).length (bytesOf s) := by
  rw [bytesOf_length]
  exact Kd.C_of_reads (d := (0 : Int)) (bytes_reads W e s hs)
theorem K_int {k : IntKind} {w : World} {x : Int} {cs : List Value} (h : (Kd.int k).K w x cs) : cs = [.int k x] := h
theorem K_string {w : World} {x : ByteArray} {cs : List Value} (h : Kd.string.K w x cs) : cs = [.string x] := h

theorem below1_enters : ∀ args w, (callFunc 72 args).run Tryd.prog w = .ok (.enter 72 args) w := enters_of Tryd.func72 (by kernel_rfl) rfl
theorem below1_any (c b : Int) (p : Addr) (W : World) (hp : W.cell? p = some (.int .u8 b)) : Calls Tryd.prog 72 #[.int .u8 c, .pointer (some p)] W fun e w' => e = .returned (.bool (decide (c < b))) ∧ w' = W := by
  go_enter Tryd.func72, Tryd.ntmps72
  by_cases h : c < b
  · go_wp2
    go_ret
    exact ⟨by simp [h], rfl⟩
  · go_wp2
    go_ret
    exact ⟨by simp [h], rfl⟩
def belowF (s : ByteArray) (b : Int) : Bool := (bytesOf s).any fun c => decide (c < b)
set_option maxRecDepth 20000 in
set_option maxHeartbeats 1000000 in
theorem stanza_below.calls (s : ByteArray) (b : Int) (w : World) (hs : s.size ≤ 9223372036854775807) :
    Calls Tryd.prog 52 #[.string s, .int .u8 b] w fun e w' => e = .returned (.bool (belowF s b)) ∧ Below w.heap.size w w' := by
  have kb := fun W => print_bytes (P := Tryd.prog) 9 71 5 Tryd.underlying9 Tryd.underlying71 Tryd.underlying5 s W
  have hmf := makeFunc_run
  have hcon : ∀ (W : World) (n c : Nat), W.heap.size = n → W.cell? ⟨w.heap.size, 0, none⟩ = some (.int .u8 b) → Calls Tryd.prog 39 #[.slice (some ⟨n, 0, none⟩) s.size c, .func (.func 72) #[] #[.pointer (some ⟨w.heap.size, 0, none⟩)]] (Lib.bytesWorld W 5 s) fun e w' => e = .returned (.bool (belowF s b)) ∧ Below (Lib.bytesWorld W 5 s).heap.size (Lib.bytesWorld W 5 s) w' := by
    rintro W n c rfl hc
    have hb : Below W.heap.size W (Lib.bytesWorld W 5 s) := bytes_below (Below.refl _ _) (Nat.le_refl _) _ _
    rw [← bytesOf_length s]
    refine con39 (Kd.int .u8) rfl 72 _ below1_enters _ c (bytesOf s) (fun c => decide (c < b)) _ (bytes_C W _ s hs) ?_
    intro x _ cs W' hb' hK
    obtain rfl := K_int hK
    exact (below1_any x b _ W' (pw_cell_below hb' (pw_cell_below hb hc))).mono fun e w' h => ⟨h.1, by rw [h.2]; exact Below.refl _ _⟩
  generalize belowF s b = r at hcon
  go_enter Tryd.func52, Tryd.ntmps52
  go_wp2_with (go_at_call 39; with_reducible refine (hcon _ _ _ (by simp [go_sem]) (by simp [go_sem])).mono ?_; rintro e w' ⟨rfl, hb⟩)
  go_ret
  exact ⟨rfl, (bytes_below ((Below.refl _ w).alloc (Nat.le_refl _) _) (by simp) _ _).trans (hb.mono (by simp [Lib.bytesWorld_size]; omega))⟩

def lettersL : List UInt8 := [97, 98, 99, 100, 101, 102, 103, 104, 105, 106, 107, 108, 109, 110, 111, 112, 113, 114, 115, 116, 117, 118, 119, 120, 121, 122, 65, 66, 67, 68, 69, 70, 71, 72, 73, 74, 75, 76, 77, 78, 79, 80, 81, 82, 83, 84, 85, 86, 87, 88, 89, 90]
def signsL : List UInt8 := lettersL ++ [48, 49, 50, 51, 52, 53, 54, 55, 56, 57, 45]
theorem letters_are : ∀ n, n < 256 → decide (0 ≤ Lib.indexByte lettersL n.toUInt8) = isLetter n.toUInt8 := by decide +kernel
theorem signs_are : ∀ n, n < 256 → decide (Lib.indexByte signsL n.toUInt8 < 0) = !isSign n.toUInt8 := by decide +kernel
theorem letter_is (c : UInt8) : decide (0 ≤ Lib.indexByte lettersL c) = isLetter c := by
  have := letters_are c.toNat c.toNat_lt
  rwa [show c.toNat.toUInt8 = c from by simp] at this
theorem sign_is (c : UInt8) : decide (Lib.indexByte signsL c < 0) = !isSign c := by
  have := signs_are c.toNat c.toNat_lt
  rwa [show c.toNat.toUInt8 = c from by simp] at this
theorem name1_enters : ∀ args w, (callFunc 40 args).run Tryd.prog w = .ok (.enter 40 args) w := enters_of Tryd.func40 (by kernel_rfl) rfl
theorem name1_any (c : Int) (W : World) : Calls Tryd.prog 40 #[.int .u8 c] W fun e w' => e = .returned (.bool (decide (Lib.indexByte signsL c.toNat.toUInt8 < 0))) ∧ w' = W := by
  have h := Tryd.strings_IndexByte ⟨signsL.toArray⟩ c W
  rw [show (⟨signsL.toArray⟩ : ByteArray).data.toList = signsL from rfl] at h
  generalize Lib.indexByte signsL c.toNat.toUInt8 = q at h ⊢
  simp only [signsL, lettersL, List.cons_append, List.nil_append] at h
  go_enter Tryd.func40, Tryd.ntmps40
  go_wp2_with (go_at_call 38; with_reducible refine h.mono ?_; rintro e w' ⟨rfl, rfl⟩)
  go_ret
  exact ⟨rfl, rfl⟩
def stanza_Name.f (a0 : ByteArray) : Option Bool := some (nameL a0.data.toList)
theorem bytes_any (s : ByteArray) : ((bytesOf s).any fun c => decide (Lib.indexByte signsL c.toNat.toUInt8 < 0)) = !(s.data.toList.all isSign) := by
  unfold bytesOf
  rw [List.any_map, List.not_all_eq_any_not]
  congr 1
  funext c
  show decide (Lib.indexByte signsL ((c.toNat : Int).toNat.toUInt8) < 0) = _
  rw [Int.toNat_natCast, show c.toNat.toUInt8 = c from by simp, sign_is]
set_option maxRecDepth 20000 in
set_option maxHeartbeats 1000000 in
theorem stanza_Name.calls (a0 : ByteArray) (r : Bool) (w : World) (h : stanza_Name.f a0 = some r) :
    Calls Tryd.prog 23 #[.string a0] w fun e w' => e = .returned (.bool r) ∧ Below w.heap.size w w' := by
  obtain rfl := Option.some.inj h
  clear h
  cases hl : a0.data.toList with
  | nil =>
    obtain rfl : a0 = ⟨#[]⟩ := by cases a0 with | mk d => cases d with | mk l => cases hl; rfl
    go_enter Tryd.func23, Tryd.ntmps23
    go_wp2
    go_ret
    exact ⟨rfl, Below.refl _ _⟩
  | cons c s =>
    have hne : ¬ a0 = ⟨#[]⟩ := by rintro rfl; cases hl
    have hsz : a0.size = s.length + 1 := by rw [← data_length, hl]; rfl
    by_cases h40 : s.length + 1 ≤ 40
    case neg =>
      have h40' : ¬ (a0.size : Int) ≤ 40 := by omega
      go_enter Tryd.func23, Tryd.ntmps23
      go_wp2
      all_goals
        go_ret
        exact ⟨by rw [show nameL (c :: s) = false from by simp [nameL, h40]]; rfl, Below.refl _ _⟩
    case pos =>
      have h0 := Tryd.strings_IndexByte ⟨lettersL.toArray⟩ (c.toNat : Int)
      rw [show (⟨lettersL.toArray⟩ : ByteArray).data.toList = lettersL from rfl, Int.toNat_natCast, show c.toNat.toUInt8 = c from by simp] at h0
      have hx : ∀ h : 0 < a0.size, ((a0[0]'h).toNat : Int) = (c.toNat : Int) := by
        intro h
        congr 2
        show a0.data[0] = c
        have : a0.data.toList[0]'(by rw [hl]; exact Nat.succ_pos _) = c := by simp [hl]
        simpa using this
      have hL := letter_is c
      have hne2 : (a0.toList = []) = False := by rw [ByteArray.toList_eq, hl]; simp
      have q1 : ((0 : Int) < (a0.size : Int)) = True := eq_true (by omega)
      have q2 : ((a0.size : Int) ≤ 40) = True := eq_true (by omega)
      have q3 : (0 < a0.size) = True := eq_true (by omega)
      have kb := fun W => print_bytes (P := Tryd.prog) 9 71 5 Tryd.underlying9 Tryd.underlying71 Tryd.underlying5 a0 W
      have hcon : ∀ (W : World) (n c : Nat), W.heap.size = n → Calls Tryd.prog 39 #[.slice (some ⟨n, 0, none⟩) a0.size c, .func (.func 40) #[] #[]] (Lib.bytesWorld W 5 a0) fun e w' => e = .returned (.bool (!(a0.data.toList.all isSign))) ∧ Below (Lib.bytesWorld W 5 a0).heap.size (Lib.bytesWorld W 5 a0) w' := by
        rintro W n c rfl
        rw [← bytes_any, ← bytesOf_length a0]
        refine con39 (Kd.int .u8) rfl 40 _ name1_enters _ c (bytesOf a0) (fun c => decide (Lib.indexByte signsL c.toNat.toUInt8 < 0)) _ (bytes_C W _ a0 (by omega)) ?_
        intro x _ cs W' hb' hK
        obtain rfl := K_int hK
        exact (name1_any x W').mono fun e w' h => ⟨h.1, by rw [h.2]; exact Below.refl _ _⟩
      rw [hl] at hcon
      have hres : nameL (c :: s) = (isLetter c && (c :: s).all isSign) := by simp [nameL, h40]
      rw [hres]
      generalize (c :: s).all isSign = g at hcon ⊢
      generalize Lib.indexByte lettersL c = q at h0 hL
      generalize isLetter c = g2 at hL ⊢
      simp only [lettersL] at h0
      generalize (c.toNat : Int) = ci at hx h0
      clear hres h40 hne hl hsz
      subst hL
      by_cases hq : 0 ≤ q
      · have hq0 : ¬ q < 0 := by omega
        go_enter Tryd.func23, Tryd.ntmps23
        go_wp2_with (first | (go_at_call 38; with_reducible refine (h0 _).mono ?_; rintro e w' ⟨rfl, rfl⟩) | (go_at_call 39; with_reducible refine (hcon _ _ _ (by simp [go_sem])).mono ?_; rintro e w' ⟨rfl, hb⟩))
        go_ret
        exact ⟨by rw [decide_eq_true (show 0 ≤ q by omega), Bool.true_and]; first | rfl | simp [hne2], (bytes_below (Below.refl _ _) (Nat.le_refl _) _ _).trans (hb.mono (by simp [Lib.bytesWorld_size]))⟩
      · go_enter Tryd.func23, Tryd.ntmps23
        go_wp2_with (go_at_call 38; with_reducible refine (h0 _).mono ?_; rintro e w' ⟨rfl, rfl⟩)
        go_ret
        exact ⟨by rw [decide_eq_false (show ¬ 0 ≤ q by omega), Bool.false_and]; first | rfl | simp, Below.refl _ _⟩
end Go.Proofs.YtekplcjgmnahmaaDoor.PA
