/- Texts of this claim, part 1 of 4: contracts of the functions that the law comes to, and what they come to as plain functions. Conditions: sizes that fit. -/
import Derived.Test.YtlcfpmdamehopaaGreatDoorProg
import Derived.WalkKit
import Derived.KernelRfl
import Derived.Outline
import Derived.Deep.LoopGhost
import Derived.Deep.Draws
import Derived.Deep.QuietTactic
import Derived.Deep.DeepCutAuto
import Derived.Deep.CutBlock
import Derived.Deep.RegionHeld3
import Derived.BigQuiet
import Derived.WideLaws
import Derived.OwnWalk
import Derived.Lib.Hide
import Derived.Shelf.Abstract
import Derived.Test.YtlcfpmdamehopaaGreatDoorWWords
import Derived.Test.YtlcfpmdamehopaaGreatDoorWLast
import Derived.Test.YtlcfpmdamehopaaGreatDoorWMore
import Derived.Test.YtlcfpmdamehopaaGreatDoorWGuard
import Derived.Test.YtlcfpmdamehopaaGreatDoorWN
import Derived.Test.YtlcfpmdamehopaaGreatDoorWShare
import Derived.Test.YtlcfpmdamehopaaGreatDoorWKept
import Derived.Below
import Derived.Deep.AppendLies
import Derived.Maps.AppendAt
import Derived.Laws.BytesArg
import Derived.Laws.MakeOwn
import Derived.Laws.OwnMore
import Derived.Deep.OwnRows
import Derived.Tactics
import Derived.Lib.ConvBytes
import Derived.Laws.Slices
import Derived.RowKit3
import Derived.Laws.Rows
import Derived.Lib.AppendStr
import Derived.ArgAppend
import Derived.Laws.IdiomCopy
import Derived.OrdersHeld
import Derived.Laws.BitsLemmas
import Derived.RowKit
import Derived.Test.YtlcfpmdamehopaaGreatDoorWTab
import Derived.Test.YtlcfpmdamehopaaGreatDoorWApart
import Derived.Test.YtlcfpmdamehopaaGreatDoorWFoot
import Derived.Test.YtlcfpmdamehopaaGreatDoorWEqStruct
import Derived.Test.YtlcfpmdamehopaaGreatDoorWRepsOne
import Derived.Lib.Strings
import Derived.Lib.CutLaws
import Derived.Lib.SplitLaws
import Derived.Lib.IndexBytes
import Derived.Lib.TrimByte
import Derived.Shelf.Strings.Builder1
import Derived.Shelf.Strings.Builder2
import Derived.Shelf.Strings.Trim
import Derived.Shelf.Small.Utf8
import Derived.Shelf.Small.Bits
import Derived.Shelf.Small.Strs
import Derived.Shelf.Small.Wraps
import Derived.Shelf.Strings.BuilderF
import Derived.Shelf.Strings.BuilderK
import Derived.Shelf.Utf8.RuneCount
import Derived.Shelf.Strings.Builder2Cap
import Derived.Shelf.Strconv.Atoi
import Derived.Shelf.Strconv.Itoa0
import Derived.Shelf.Strconv.Itoa1
import Derived.Shelf.LaysM
import Derived.Shelf.Strconv.Itoa2
import Derived.Shelf.Strconv.Itoa3
import Derived.Shelf.Strconv.AtoiErrFast
import Derived.Shelf.Strconv.ParseIntEmpty
import Derived.Shelf.Strconv.AtoiFail
import Derived.Shelf.Strconv.Clone
import Derived.Shelf.Strconv.SyntaxError
import Derived.Shelf.LaysC
import Derived.Shelf.Strconv.ToError
import Derived.Shelf.Strconv.Lower
import Derived.Shelf.Strconv.ParseUint10
import Derived.Shelf.Strconv.ParseUint10Empty
import Derived.Shelf.Strconv.ParseUint10Any
import Derived.Shelf.Strconv.ParseInt10
import Derived.Shelf.Strconv.AtoiLong
import Derived.Shelf.Strconv.AtoiInnerAll
import Derived.Shelf.Strconv.RangeError
import Derived.Shelf.Strconv.ToErrorRange
import Derived.Shelf.Strconv.AtoiAll
import Derived.Shelf.Strconv.ErrVarAll
import Derived.Shelf.Strconv.ParseUintEmpty
import Derived.Shelf.Strconv.ParseUint10b32
import Derived.Shelf.Strconv.ParseUint10b16
import Derived.Shelf.Strings.Search1
import Derived.Shelf.Strings.Search2
import Derived.Shelf.Strings.Search3
import Derived.Shelf.Strings.Cut
import Derived.Shelf.Strings.Count
import Derived.Shelf.Strings.Shaped
import Derived.Shelf.Strings.Prefix
import Derived.Shelf.Strings.Split
import Derived.Shelf.Strings.Replace
import Derived.Shelf.Strings.SplitShaped
import Derived.Shelf.Unicode.Decode
import Derived.Shelf.Strings.Runes
import Derived.Shelf.Strings.RuneCount
import Derived.Shelf.Strings.AsciiSet
import Derived.Shelf.Strings.Explode
import Derived.Shelf.Unicode.DecodeSlow
import Derived.Shelf.Unicode.DecodeAny
import Derived.Shelf.Slices.Turned
import Derived.Ground.Names2Prog
import Derived.Shelf.Slices.Clone
import Derived.Shelf.Slices.CompactI
import Derived.Shelf.Slices.SearchI
import Derived.Shelf.Slices.Cells
import Derived.Ground.SlgnProg
import Derived.Shelf.SlicesE.Clone
import Derived.Ground.SlsfProg
import Derived.Shelf.SlSortCmp.Insertion
import Derived.Shelf.SlSortCmp.SiftDown1
import Derived.Shelf.SlSortCmp.HeapSort1
import Derived.Shelf.SlSortCmp.Insertion1
import Derived.Shelf.SlSortCmp.Median1
import Derived.Shelf.SlSortCmp.Pivot1
import Derived.Shelf.SlSortCmp.ReverseRange1
import Derived.Shelf.SlSortCmp.PartialInsertion1
import Derived.Shelf.SlSortCmp.PartitionEqual1
import Derived.Shelf.SlSortCmp.Partition1
import Derived.Shelf.SlSortCmp.Pdq1
import Derived.Shelf.SlSortCmp.Whole1
import Derived.Shelf.SlSortCmp.NoneTotal
import Derived.Lib.SliceRun
import Derived.StillTailTactics
import Derived.Deep.RegionLaw
import Derived.Lib.LaidTab
import Derived.Lib.AtoiAll
import Derived.Lib.ItoaNum
import Derived.HandedShaped
import Derived.Handed
import Derived.Test.YtlcfpmdamehopaaGreatDoorRows
import Derived.LaidLaws
import Derived.ProofKit
import Derived.Shelf.Vars
import Derived.ChangeArms
import Derived.ChangeOld
import Derived.SizedLaws
import Derived.DataReads
/- Small words for the walks by hand: the place of the first element with a property; what a predicate handed to the library owes. No condition. -/
namespace Go.Proofs.YtlcfpmdamehopaaGreatDoor.PA
open Go.RowKit Go.Proofs.YtlcfpmdamehopaaGreatDoorW.PrintWords Go.Proofs.YtlcfpmdamehopaaGreatDoorW.PrintLast Go.Proofs.YtlcfpmdamehopaaGreatDoorW.PrintMore

/-- The place of the first element with p, or -1. -/
def idxP {α : Type} (p : α → Bool) (xs : List α) : Int := match xs.findIdx? p with | some j => (j : Int) | none => -1
theorem idxP_hit {α : Type} {p : α → Bool} {xs : List α} {k : Nat} (hk : k < xs.length) (hp : p xs[k] = true) (h : ∀ j (hj : j < xs.length), j < k → p xs[j] = false) : idxP p xs = (k : Int) := by
  have e : xs.findIdx? p = some k := by
    rw [List.findIdx?_eq_some_iff_getElem]
    exact ⟨hk, hp, fun j hj => by rw [h j (by omega) hj]; decide⟩
  unfold idxP; rw [e]
theorem idxP_miss {α : Type} {p : α → Bool} {xs : List α} (h : ∀ j (hj : j < xs.length), p xs[j] = false) : idxP p xs = -1 := by
  have e : xs.findIdx? p = none := by
    rw [List.findIdx?_eq_none_iff]
    intro x hx
    obtain ⟨j, hj, rfl⟩ := List.getElem_of_mem hx
    exact h j hj
  unfold idxP; rw [e]
theorem idxP_any {α : Type} (p : α → Bool) (xs : List α) : decide (0 ≤ idxP p xs) = xs.any p := by
  unfold idxP
  cases e : xs.findIdx? p with
  | none =>
    rw [List.findIdx?_eq_none_iff] at e
    have : xs.any p = false := by
      rw [List.any_eq_false]; intro x hx; rw [e x hx]; decide
    rw [this]; rfl
  | some k =>
    obtain ⟨hk, hp, _⟩ := List.findIdx?_eq_some_iff_getElem.1 e
    have : xs.any p = true := List.any_eq_true.2 ⟨_, List.getElem_mem hk, hp⟩
    rw [this]; show decide (0 ≤ (k : Int)) = true; exact decide_eq_true (by omega)

/-- What is owed by a predicate that is handed over: at each element, in each world in which all that lay in w lies. -/
def PredOn {α : Type} (d : Kd α) (mkv : List Value → Value) (g : Nat) (lb : Array Value) (p : α → Bool) (xs : List α) (w : World) : Prop :=
  ∀ x ∈ xs, ∀ cs W, Below w.heap.size w W → d.K W x cs → Calls Tryz.prog g (#[mkv cs] ++ lb) W fun e w' => e = .returned (.bool (p x)) ∧ Below W.heap.size W w'
def oneV : List Value → Value | v :: _ => v | [] => .nilIface
def aggV (cs : List Value) : Value := .agg cs.toArray

theorem C_elem {α : Type} {d : Kd α} {w : World} {ad : Addr} {xs : List α} (h : d.C w (some ad) xs.length xs) (j : Nat) (hj : j < xs.length) :
    ∃ c, c.length = d.sz ∧ d.K w xs[j] c ∧ ∀ i u, c[i]? = some u → w.cell? (ad.add (j * d.sz + i)) = some u := by
  obtain ⟨ad', e, hc⟩ := h.2.2 (by omega)
  cases e
  exact hc j _ (List.getElem?_eq_getElem hj)
theorem C_nil {α : Type} (d : Kd α) (w : World) (A : Option Addr) : d.C w A 0 [] := ⟨rfl, by omega, fun h => absurd h (by omega)⟩
theorem C_addr {α : Type} {d : Kd α} {w : World} {A : Option Addr} {xs : List α} (h : d.C w A xs.length xs) (hn : 0 < xs.length) : ∃ ad, A = some ad := by
  obtain ⟨ad, e, _⟩ := h.2.2 hn
  exact ⟨ad, e⟩
end Go.Proofs.YtlcfpmdamehopaaGreatDoor.PA
/- A number of the library's own stands in its variable, and stays there. No condition. -/
namespace Go.Proofs.YtlcfpmdamehopaaGreatDoor.PA
open Go.RowKit Go.Proofs.YtlcfpmdamehopaaGreatDoorW.PrintWords Go.Proofs.YtlcfpmdamehopaaGreatDoorW.PrintLast Go.Proofs.YtlcfpmdamehopaaGreatDoorW.PrintMore

def GlobMaxLen (w : World) : Prop := ∃ m, w.cell? ⟨0, 0, none⟩ = some (.int .i64 m)
theorem GlobMaxLen.below {w W : World} (h : GlobMaxLen w) (hb : Below w.heap.size w W) : GlobMaxLen W := by
  obtain ⟨m, h⟩ := h
  exact ⟨m, pw_cell_below hb h⟩
end Go.Proofs.YtlcfpmdamehopaaGreatDoor.PA
-- Printed by gprint.py (wip/ of this repo), over the kit's print.
namespace Go.Proofs.YtlcfpmdamehopaaGreatDoor.PA
open Go.RowKit Go.Proofs.YtlcfpmdamehopaaGreatDoorW.PrintWords Go.Proofs.YtlcfpmdamehopaaGreatDoorW.PrintLast Go.Proofs.YtlcfpmdamehopaaGreatDoorW.PrintMore
attribute [local go_sem] max2_int min2_int max_two min_two max_three min_three max_four min_four   -- for this text's walks alone
set_option linter.unusedVariables false
set_option linter.unusedSimpArgs false



def errW : Option Int → Value
  | none => .nilIface
  | some c => .iface 148 (.int .i64 c)
theorem errW_none : errW none = .nilIface := rfl
theorem errW_some (c : Int) : errW (some c) = .iface 148 (.int .i64 c) := rfl

theorem info5 : (Tryz.prog.info? 5).map (fun i => (i.zero, i.size, i.bytes)) = some (some (.int .u8 0), 1, 1) := by kernel_rfl
theorem info9 : (Tryz.prog.info? 9).map (fun i => (i.zero, i.size, i.bytes)) = some (some (.string ⟨#[]⟩), 1, 16) := by kernel_rfl
theorem info30 : (Tryz.prog.info? 30).map (fun i => (i.zero, i.size, i.bytes)) = some (some (.agg #[(.string ⟨#[]⟩), (.string ⟨#[]⟩), (.int .i64 0)]), 3, 40) := by kernel_rfl
theorem info48 : (Tryz.prog.info? 48).map (fun i => (i.zero, i.size, i.bytes)) = some (some (.slice none 0 0), 1, 24) := by kernel_rfl
theorem info49 : (Tryz.prog.info? 49).map (fun i => (i.zero, i.size, i.bytes)) = some (some (.slice none 0 0), 1, 24) := by kernel_rfl
theorem info60 : (Tryz.prog.info? 60).map (fun i => (i.zero, i.size, i.bytes)) = some (some (.agg #[(.string ⟨#[]⟩), (.string ⟨#[]⟩)]), 2, 32) := by kernel_rfl
/-! #### struct type 60 -/
structure S60 where
  f0 : ByteArray
  f1 : ByteArray
def z60 : S60 := ⟨(⟨#[]⟩ : ByteArray), (⟨#[]⟩ : ByteArray)⟩
def k60 : Kd S60 := Kd.iso (Kd.pair Kd.string Kd.string) (fun x : S60 => (x.f0, x.f1))
theorem k60_open {w : World} {x : S60} {cs : List Value} (h : k60.K w x cs) : cs = [.string x.f0, .string x.f1] := by
  obtain ⟨_, _, rfl, rfl, rfl⟩ := h
  exact rfl
theorem k60_mkM (w : World) (base : Nat) (ok : Nat → Prop) (x : S60)  : k60.M w base ok x [.string x.f0, .string x.f1] := ⟨[.string x.f0], [.string x.f1], rfl, rfl, rfl⟩
def rd_T60 (xs : List S60) (i : Int) : S60 := xs.getD i.toNat z60
theorem at_T60 {w : World} {A : Option Addr} {n : Nat} {xs : List S60} (h : Kd.C k60 w A n xs) (i : Int) (h0 : 0 ≤ i) (h1 : i < n) : ∃ ad , A = some ad ∧ w.cell? (ad.add (i.toNat * 2)) = some (.string (rd_T60 xs i).f0) ∧ w.cell? ⟨(ad.add (i.toNat * 2)).block, (ad.add (i.toNat * 2)).off + 1, none⟩ = some (.string (rd_T60 xs i).f1) := by
  obtain ⟨ad, c, e, _, hK, hc0⟩ := Kd.C_get h z60 i h0 h1
  have hc : ∀ j u, c[j]? = some u → w.cell? (ad.add (i.toNat * 2 + j)) = some u := hc0
  obtain rfl := k60_open hK
  exact ⟨ad, e, hc 0 _ rfl, by rw [← add_field _ _ 1 (by omega)]; exact hc 1 _ rfl⟩

def rd_L2 (xs : List (List S60)) (i : Int) : (List S60) := xs.getD i.toNat ([] : List S60)
theorem at_L2 {w : World} {A : Option Addr} {n : Nat} {xs : List (List S60)} (h : Kd.C (Kd.slice 60 k60) w A n xs) (i : Int) (h0 : 0 ≤ i) (h1 : i < n) : ∃ ad A0 c0, A = some ad ∧ w.cell? (ad.add i.toNat) = some (.slice A0 (rd_L2 xs i).length c0) ∧ (rd_L2 xs i).length ≤ c0 ∧ k60.C w A0 (rd_L2 xs i).length (rd_L2 xs i) := by
  obtain ⟨ad, c, e, _, hK, hc0⟩ := Kd.C_get h ([] : List S60) i h0 h1
  have hc : ∀ j u, c[j]? = some u → w.cell? (ad.add (i.toNat * 1 + j)) = some u := hc0
  obtain ⟨A0, c0, rfl, l0, g0⟩ := hK
  exact ⟨ad, A0, c0, e, by have hq := hc 0 _ rfl; rwa [Nat.mul_one, Nat.add_zero] at hq, l0, g0⟩

/-! #### struct type 30 -/
structure S30 where
  f0 : ByteArray
  f1 : ByteArray
  f2 : Int
def z30 : S30 := ⟨(⟨#[]⟩ : ByteArray), (⟨#[]⟩ : ByteArray), (0 : Int)⟩
def k30 : Kd S30 := Kd.iso (Kd.pair Kd.string (Kd.pair Kd.string (Kd.int .i64))) (fun x : S30 => (x.f0, x.f1, x.f2))
theorem k30_open {w : World} {x : S30} {cs : List Value} (h : k30.K w x cs) : cs = [.string x.f0, .string x.f1, .int .i64 x.f2] := by
  obtain ⟨_, _, rfl, rfl, ⟨_, _, rfl, rfl, rfl⟩⟩ := h
  exact rfl
theorem k30_mkM (w : World) (base : Nat) (ok : Nat → Prop) (x : S30)  : k30.M w base ok x [.string x.f0, .string x.f1, .int .i64 x.f2] := ⟨[.string x.f0], [.string x.f1, .int .i64 x.f2], rfl, rfl, ⟨[.string x.f1], [.int .i64 x.f2], rfl, rfl, rfl⟩⟩
def rd_T30 (xs : List S30) (i : Int) : S30 := xs.getD i.toNat z30
theorem at_T30 {w : World} {A : Option Addr} {n : Nat} {xs : List S30} (h : Kd.C k30 w A n xs) (i : Int) (h0 : 0 ≤ i) (h1 : i < n) : ∃ ad , A = some ad ∧ w.cell? (ad.add (i.toNat * 3)) = some (.string (rd_T30 xs i).f0) ∧ w.cell? ⟨(ad.add (i.toNat * 3)).block, (ad.add (i.toNat * 3)).off + 1, none⟩ = some (.string (rd_T30 xs i).f1) ∧ w.cell? ⟨(ad.add (i.toNat * 3)).block, (ad.add (i.toNat * 3)).off + 2, none⟩ = some (.int .i64 (rd_T30 xs i).f2) := by
  obtain ⟨ad, c, e, _, hK, hc0⟩ := Kd.C_get h z30 i h0 h1
  have hc : ∀ j u, c[j]? = some u → w.cell? (ad.add (i.toNat * 3 + j)) = some u := hc0
  obtain rfl := k30_open hK
  exact ⟨ad, e, hc 0 _ rfl, by rw [← add_field _ _ 1 (by omega)]; exact hc 1 _ rfl, by rw [← add_field _ _ 2 (by omega)]; exact hc 2 _ rfl⟩

end Go.Proofs.YtlcfpmdamehopaaGreatDoor.PA
/- What a text of stanzas is read as, as a plain function. No condition. -/
namespace Go.Proofs.YtlcfpmdamehopaaGreatDoor.PA
abbrev Fd := S60
def isLetter (c : UInt8) : Bool := (decide (97 ≤ c.toNat) && decide (c.toNat ≤ 122)) || (decide (65 ≤ c.toNat) && decide (c.toNat ≤ 90))
def isSign (c : UInt8) : Bool := isLetter c || (decide (48 ≤ c.toNat) && decide (c.toNat ≤ 57)) || decide (c.toNat = 45)
def nameL : List UInt8 → Bool
  | [] => false
  | c :: s => decide (s.length + 1 ≤ 40) && isLetter c && (c :: s).all isSign
def cleanL (s : List UInt8) : Bool := s.all fun c => decide (32 ≤ c.toNat)
def trimL (s : List UInt8) : List UInt8 := s.dropWhile fun c => decide (c.toNat = 32)
def colonL : List UInt8 → List UInt8 × List UInt8 × Bool
  | [] => ([], [], false)
  | c :: s => if c.toNat = 58 then ([], s, true) else (c :: (colonL s).1, (colonL s).2.1, (colonL s).2.2)
def linesL : List UInt8 → List (List UInt8)
  | [] => [[]]
  | c :: s => if c.toNat = 10 then [] :: linesL s else match linesL s with
    | l :: ls => (c :: l) :: ls
    | [] => [[c]]
def mkB (l : List UInt8) : ByteArray := ⟨l.toArray⟩
/-- A field whose name is n: its value, if there is one. -/
def getG (st : List Fd) (n : ByteArray) : Option ByteArray := (st.find? fun f => decide (f.f0 = n)).map (·.f1)
def lastS (l : List (List Fd)) : List Fd := l.getLastD []
def fieldG (l : List (List Fd)) (o : Bool) (s : List UInt8) : Except Int (List (List Fd) × Bool) :=
  if (colonL s).2.2 && nameL (colonL s).1 then
    if o then
      if (getG (lastS l) (mkB (colonL s).1)).isSome then .error 7
      else if (lastS l).length < 40 then .ok (l.dropLast ++ [lastS l ++ [⟨mkB (colonL s).1, mkB (trimL (colonL s).2.1)⟩]], true) else .error 8
    else if l.length < 200 then .ok (l ++ [[⟨mkB (colonL s).1, mkB (trimL (colonL s).2.1)⟩]], true) else .error 8
  else .error 5
def moreF (t : List UInt8) (f : Fd) : Fd := ⟨f.f0, mkB (f.f1.data.toList ++ 10 :: t)⟩
def moreS (t : List UInt8) (st : List Fd) : List Fd := match st.getLast? with
  | some f => st.dropLast ++ [moreF t f]
  | none => st
def lineG (l : List (List Fd)) (o : Bool) (s : List UInt8) : Except Int (List (List Fd) × Bool) :=
  if cleanL s then
    match s with
    | [] => .ok (l, false)
    | c :: t => if c.toNat ≠ 32 then fieldG l o s else if o && !t.isEmpty then .ok (l.dropLast ++ [moreS t (lastS l)], true) else .error 5
  else .error 5
def readG : List (List UInt8) → Nat → List (List Fd) → Bool → List (List Fd) × Int × Int
  | [], _, l, _ => (l, 0, 0)
  | s :: ss, i, l, o => match lineG l o s with
    | .error e => ([], (i : Int) + 1, e)
    | .ok (l', o') => readG ss (i + 1) l' o'
def parseL (s : List UInt8) : List (List Fd) × Int × Int := if s.length > 60000 then ([], 0, 9) else readG (linesL s) 0 [] false
/-- Of an open reader the last stanza is there, and has a field. -/
def FineR (l : List (List Fd)) (o : Bool) : Prop := l.length ≤ 200 ∧ (∀ st ∈ l, st ≠ [] ∧ st.length ≤ 40) ∧ (o = true → l ≠ [])
theorem fine_start : FineR [] false := ⟨by simp, by simp, by simp⟩
theorem lastS_mem {l : List (List Fd)} (h : l ≠ []) : lastS l ∈ l := by
  unfold lastS; rw [List.getLastD_eq_getLast?, List.getLast?_eq_some_getLast h]; exact List.getLast_mem h
theorem split_last {l : List (List Fd)} (h : l ≠ []) : l.dropLast ++ [lastS l] = l := by
  unfold lastS; rw [List.getLastD_eq_getLast?, List.getLast?_eq_some_getLast h]; exact List.dropLast_concat_getLast h
theorem moreS_len (t : List UInt8) (st : List Fd) : (moreS t st).length = st.length := by
  unfold moreS
  cases h : st.getLast? with
  | none => rfl
  | some f =>
    have hne : st ≠ [] := by rintro rfl; simp at h
    have := List.length_pos_iff.2 hne
    simp only [List.length_append, List.length_dropLast, List.length_singleton]
    omega
theorem fine_line {l l' : List (List Fd)} {o o' : Bool} {s : List UInt8} (h : FineR l o) (e : lineG l o s = .ok (l', o')) : FineR l' o' := by
  obtain ⟨h1, h2, h3⟩ := h
  have key : ∀ st : List Fd, l ≠ [] → st ≠ [] → st.length ≤ 40 → FineR (l.dropLast ++ [st]) true := by
    intro st hl hs hs2
    have hp := List.length_pos_iff.2 hl
    refine ⟨by simp only [List.length_append, List.length_dropLast, List.length_singleton]; omega, ?_, by simp⟩
    intro x hx
    rcases List.mem_append.1 hx with hx | hx
    · exact h2 x (List.dropLast_subset _ hx)
    · rw [List.mem_singleton] at hx; subst hx; exact ⟨hs, hs2⟩
  unfold lineG at e
  split at e
  case isFalse => cases e
  cases s with
  | nil => cases e; exact ⟨h1, h2, by simp⟩
  | cons c t =>
    dsimp only at e
    split at e
    · unfold fieldG at e
      split at e
      case isFalse => cases e
      split at e
      · rename_i ho
        have hl := h3 ho
        split at e
        · cases e
        · split at e
          · rename_i h40
            cases e
            exact key _ hl (by simp) (by simp only [List.length_append, List.length_singleton]; omega)
          · cases e
      · split at e
        · rename_i h200
          cases e
          refine ⟨by simp only [List.length_append, List.length_singleton]; omega, ?_, by simp⟩
          intro x hx
          rcases List.mem_append.1 hx with hx | hx
          · exact h2 x hx
          · rw [List.mem_singleton] at hx; subst hx; exact ⟨by simp, by simp⟩
        · cases e
    · split at e
      · rename_i ho
        cases e
        have hl := h3 (Bool.and_eq_true_iff.1 ho).1
        have hm := h2 _ (lastS_mem hl)
        refine key _ hl ?_ (by rw [moreS_len]; exact hm.2)
        intro hn
        have := moreS_len t (lastS l)
        rw [hn] at this
        exact hm.1 (List.length_eq_zero_iff.1 this.symm)
      · cases e
/-- No value is longer than N. -/
def ValsLe (N : Nat) (l : List (List Fd)) : Prop := ∀ st ∈ l, ∀ f ∈ st, f.f1.size ≤ N
theorem vals_start (N : Nat) : ValsLe N [] := fun _ h => by cases h
theorem mkB_size (l : List UInt8) : (mkB l).size = l.length := rfl
theorem trim_len : ∀ s : List UInt8, (trimL s).length ≤ s.length := fun _ => (List.dropWhile_sublist _).length_le
theorem colon_len : ∀ s : List UInt8, (colonL s).2.1.length ≤ s.length := by
  intro s
  induction s with
  | nil => exact Nat.le_refl _
  | cons c s ih =>
    unfold colonL
    split
    · exact Nat.le_succ _
    · exact Nat.le_trans ih (Nat.le_succ _)
theorem vals_line {N : Nat} {l l' : List (List Fd)} {o o' : Bool} {s : List UInt8} (h : ValsLe N l) (ho : o = true → l ≠ []) (e : lineG l o s = .ok (l', o')) : ValsLe (N + s.length) l' := by
  have h' : ValsLe (N + s.length) l := fun st hst f hf => Nat.le_trans (h st hst f hf) (Nat.le_add_right _ _)
  have hd : ∀ st ∈ l.dropLast, ∀ f ∈ st, f.f1.size ≤ N + s.length := fun st hst => h' st (List.dropLast_subset _ hst)
  have key : ∀ (l0 : List (List Fd)) (x : List Fd), (∀ st ∈ l0, ∀ f ∈ st, f.f1.size ≤ N + s.length) → (∀ f ∈ x, f.f1.size ≤ N + s.length) → ValsLe (N + s.length) (l0 ++ [x]) := by
    intro l0 x h1 h2 st hst
    rcases List.mem_append.1 hst with hst | hst
    · exact h1 st hst
    · rw [List.mem_singleton] at hst; subst hst; exact h2
  have hnew : (mkB (trimL (colonL s).2.1)).size ≤ N + s.length := by
    rw [mkB_size]; have := trim_len (colonL s).2.1; have := colon_len s; omega
  unfold lineG at e
  split at e
  case isFalse => cases e
  cases s with
  | nil => cases e; exact h'
  | cons c t =>
    dsimp only at e
    split at e
    · unfold fieldG at e
      split at e
      case isFalse => cases e
      split at e
      · rename_i hh
        split at e
        · cases e
        · split at e
          · cases e
            refine key _ _ hd fun f hf => ?_
            rcases List.mem_append.1 hf with hf | hf
            · exact h' _ (lastS_mem (ho hh)) f hf
            · rw [List.mem_singleton] at hf; subst hf; exact hnew
          · cases e
      · split at e
        · cases e
          refine key _ _ h' fun f hf => ?_
          rw [List.mem_singleton] at hf; subst hf; exact hnew
        · cases e
    · split at e
      · rename_i hh
        cases e
        have hl := ho (Bool.and_eq_true_iff.1 hh).1
        refine key _ _ hd ?_
        have hm := h' _ (lastS_mem hl)
        have hm0 := h _ (lastS_mem hl)
        unfold moreS
        cases hg : (lastS l).getLast? with
        | none => exact hm
        | some f0 =>
          intro f hf
          rcases List.mem_append.1 hf with hf | hf
          · exact hm f (List.dropLast_subset _ hf)
          · rw [List.mem_singleton] at hf
            subst hf
            have := hm0 f0 (List.mem_of_getLast? hg)
            show (mkB (f0.f1.data.toList ++ 10 :: t)).size ≤ _
            rw [mkB_size, List.length_append, List.length_cons, List.length_cons]
            have e2 : f0.f1.data.toList.length = f0.f1.size := by rw [Array.length_toList]; rfl
            omega
      · cases e
end Go.Proofs.YtlcfpmdamehopaaGreatDoor.PA
/- A reader of stanzas on the heap: a block of its own with the slice of stanzas and a flag; each stanza a row of its own, the last one apart from the others. What is asked of the element types: that they are three. -/
namespace Go.Proofs.YtlcfpmdamehopaaGreatDoor.PA
open Go.RowKit Go.Proofs.YtlcfpmdamehopaaGreatDoorW.PrintWords Go.Proofs.YtlcfpmdamehopaaGreatDoorW.PrintLast Go.Proofs.YtlcfpmdamehopaaGreatDoorW.PrintMore

def fcells : List Fd → List Value
  | [] => []
  | f :: x => .string f.f0 :: .string f.f1 :: fcells x
theorem fcells_len (x : List Fd) : (fcells x).length = x.length * 2 := by
  induction x with
  | nil => rfl
  | cons f x ih => simp only [fcells, List.length_cons, ih]; omega
theorem fcells_app (x y : List Fd) : fcells (x ++ y) = fcells x ++ fcells y := by
  induction x with
  | nil => rfl
  | cons f x ih => simp only [fcells, List.cons_append, ih]
/-- A stanza: a row of the call's own. -/
abbrev OwnF (B : Nat) (W : World) (v : Value) (x : List Fd) : Prop := W.ownsRow B 60 2 v x.length (fcells x)
def RowsF (B : Nat) (W : World) (vs : List Value) (l : List (List Fd)) : Prop := vs.length = l.length ∧ ∀ (j : Nat) (v : Value) (x : List Fd), vs[j]? = some v → l[j]? = some x → OwnF B W v x
theorem RowsF.nil (B : Nat) (W : World) : RowsF B W [] [] := ⟨rfl, fun j v x h _ => by simp at h⟩
theorem RowsF.snoc {B : Nat} {W : World} {vs : List Value} {l : List (List Fd)} {z : Value} {x : List Fd} (h : RowsF B W vs l) (hz : OwnF B W z x) : RowsF B W (vs ++ [z]) (l ++ [x]) := by
  refine ⟨by simp [h.1], fun j v y hv hy => ?_⟩
  have hlen := h.1
  rcases Nat.lt_or_ge j vs.length with hj | hj
  · rw [List.getElem?_append_left hj] at hv
    rw [List.getElem?_append_left (by omega)] at hy
    exact h.2 j v y hv hy
  · have h1 := (List.getElem?_eq_some_iff.1 hv).1
    simp only [List.length_append, List.length_singleton] at h1
    obtain rfl : j = vs.length := by omega
    rw [List.getElem?_append_right (Nat.le_refl _), Nat.sub_self] at hv
    rw [hlen, List.getElem?_append_right (Nat.le_refl _), Nat.sub_self] at hy
    cases hv
    cases hy
    exact hz
theorem RowsF.init {B : Nat} {W : World} {vs : List Value} {l : List (List Fd)} {z : Value} {x : List Fd} (h : RowsF B W (vs ++ [z]) (l ++ [x])) : RowsF B W vs l ∧ OwnF B W z x := by
  have hl : vs.length = l.length := by have := h.1; simp only [List.length_append, List.length_singleton] at this; omega
  refine ⟨⟨hl, fun j v y hv hy => h.2 j v y ?_ ?_⟩, h.2 vs.length z x ?_ ?_⟩
  · rw [List.getElem?_append_left (List.getElem?_eq_some_iff.1 hv).1]; exact hv
  · rw [List.getElem?_append_left (List.getElem?_eq_some_iff.1 hy).1]; exact hy
  · rw [List.getElem?_append_right (Nat.le_refl _), Nat.sub_self]; rfl
  · rw [hl, List.getElem?_append_right (Nat.le_refl _), Nat.sub_self]; rfl
theorem RowsF.move {B : Nat} {W W1 : World} {vs : List Value} {l : List (List Fd)} (h : RowsF B W vs l) (hm : ∀ v ∈ vs, ∀ k, v.ownBlock = some k → k < W.heap.size → W1.heap[k]? = W.heap[k]?) : RowsF B W1 vs l :=
  ⟨h.1, fun j v x hv hx => own_move (h.2 j v x hv hx) fun k hk => hm v (List.mem_of_getElem? hv) k hk (own_lt (h.2 j v x hv hx) k hk)⟩
theorem RowsF.mem {B : Nat} {W : World} {vs : List Value} {l : List (List Fd)} (h : RowsF B W vs l) {v : Value} (hv : v ∈ vs) : ∃ x, OwnF B W v x := by
  obtain ⟨j, hj, e⟩ := List.getElem_of_mem hv
  have hl := h.1
  exact ⟨_, h.2 j v _ (by rw [List.getElem?_eq_getElem hj, e]) (List.getElem?_eq_getElem (by omega))⟩

/-- A block that stands by: of another type. -/
structure Guest where
  b : Nat
  cs : Array Value
  t : TypeId
/-- The stanzas' rows and their slice, apart from the reader's own block. The last stanza lies apart from the others. -/
structure RdP (TS TR B : Nat) (w0 W : World) (rb : Nat) (gs : List Guest) (v : Value) (vs : List Value) (l : List (List Fd)) (o : Bool) : Prop where
  bel : Below B w0 W
  base : B ≤ W.heap.size
  hrb : B ≤ rb
  cell : W.heap[rb]? = some (.cells #[v, .bool o] TR (0, 0))
  row : W.ownsRow B TS 1 v l.length vs
  rows : RowsF B W vs l
  apart : vs.Pairwise fun u z => ∀ k, u.ownBlock = some k → z.ownBlock ≠ some k
  guest : ∀ q ∈ gs, W.heap[q.b]? = some (.cells q.cs q.t (0, 0)) ∧ TS ≠ q.t ∧ TR ≠ q.t ∧ 60 ≠ q.t
section
variable {TS TR B : Nat} {w0 W : World} {rb : Nat} {gs : List Guest} {v : Value} {vs : List Value} {l : List (List Fd)} {o : Bool}
theorem RdP.start (hb : Below B w0 W) (hB : B ≤ W.heap.size) (hrb : B ≤ rb) (hc : W.heap[rb]? = some (.cells #[.slice none 0 0, .bool false] TR (0, 0))) : RdP TS TR B w0 W rb [] (.slice none 0 0) [] [] false :=
  ⟨hb, hB, hrb, hc, own_nil _ _ _ _, RowsF.nil _ _, List.Pairwise.nil, fun q hq => by cases hq⟩
theorem RdP.move (h : RdP TS TR B w0 W rb gs v vs l o) {W1 : World} (hb : Below W.heap.size W W1) : RdP TS TR B w0 W1 rb gs v vs l o where
  bel := h.bel.trans (hb.mono h.base)
  base := Nat.le_trans h.base hb.size
  hrb := h.hrb
  cell := by rw [hb.block _ (Array.getElem?_eq_some_iff.1 h.cell).1]; exact h.cell
  row := pw_own_below h.row hb
  rows := h.rows.move fun _ _ k _ hk => hb.block k hk
  apart := h.apart
  guest q hq := ⟨by rw [hb.block _ (Array.getElem?_eq_some_iff.1 (h.guest q hq).1).1]; exact (h.guest q hq).1, (h.guest q hq).2⟩
theorem RdP.lt (h : RdP TS TR B w0 W rb gs v vs l o) : rb < W.heap.size := (Array.getElem?_eq_some_iff.1 h.cell).1
theorem RdP.cell0 (h : RdP TS TR B w0 W rb gs v vs l o) : W.cell? ⟨rb, 0, none⟩ = some v := by rw [cell_of_row W rb 0 _ _ _ h.cell]; rfl
theorem RdP.cell1 (h : RdP TS TR B w0 W rb gs v vs l o) : W.cell? ⟨rb, 1, none⟩ = some (.bool o) := by rw [cell_of_row W rb 1 _ _ _ h.cell]; rfl
theorem RdP.frozen (h : RdP TS TR B w0 W rb gs v vs l o) (j : Nat) : W.frozen? ⟨rb, j, none⟩ = false := frozen_of_row W rb j _ _ h.cell
theorem RdP.slice (h : RdP TS TR B w0 W rb gs v vs l o) (hl : l ≠ []) : ∃ g cap, v = .slice (some ⟨g, 0, none⟩) l.length cap ∧ B ≤ g ∧ g < W.heap.size := by
  rcases h.row.2 with ⟨_, e⟩ | ⟨g, cap, cur, e, hg, hh, _⟩
  · exact absurd (List.length_eq_zero_iff.1 e) hl
  · exact ⟨g, cap, e, hg, (Array.getElem?_eq_some_iff.1 hh).1⟩
theorem RdP.anySlice (h : RdP TS TR B w0 W rb gs v vs l o) : ∃ A cap, v = .slice A l.length cap := own_slice h.row
theorem heap_set_ne (W : World) (a : Addr) (u : Value) (k : Nat) (h : k ≠ a.block) : (W.setCell a u).heap[k]? = W.heap[k]? := Below.heap_setCell W a u k h
theorem guest_ne {W : World} {a b : Nat} {ca cb : Array Value} {ta tb : TypeId} (ha : W.heap[a]? = some (.cells ca ta (0, 0))) (hb : W.heap[b]? = some (.cells cb tb (0, 0))) (hne : tb ≠ ta) : a ≠ b := by
  rintro rfl
  rw [ha] at hb
  injection hb with hb
  injection hb with _ hb
  exact hne hb.symm
/-- A flag, written. -/
theorem RdP.flag (h : RdP TS TR B w0 W rb gs v vs l o) (hTS : TS ≠ TR) (hTF : 60 ≠ TR) (o' : Bool) : RdP TS TR B w0 (W.setCell ⟨rb, 1, none⟩ (.bool o')) rb gs v vs l o' where
  bel := h.bel.setCell h.hrb _
  base := by simpa using h.base
  hrb := h.hrb
  cell := by rw [heap_setCell_same W rb 1 _ _ _ h.cell]; rfl
  row := own_setCell h.row (own_ne h.row h.cell hTS) _
  rows := h.rows.move fun u hu k hk _ => by
    obtain ⟨x, hx⟩ := h.rows.mem hu
    exact heap_set_ne W _ _ k (by have := own_ne hx h.cell hTF; rw [hk] at this; rintro rfl; exact this rfl)
  apart := h.apart
  guest q hq := ⟨by rw [heap_set_ne W _ _ q.b (guest_ne (h.guest q hq).1 h.cell (h.guest q hq).2.2.1)]; exact (h.guest q hq).1, (h.guest q hq).2⟩
/-- The slice of stanzas has grown by an empty one, and stands in the reader, which is open. -/
theorem RdP.pushed (h : RdP TS TR B w0 W rb gs v vs l o) (hTS : TS ≠ TR) (hTF : 60 ≠ TR) (hFS : 60 ≠ TS) {v1 : Value} {w1 : World} (h1 : w1.ownsRow B TS 1 v1 (l.length + 1) (vs ++ [.slice none 0 0])) (hb : Below B w0 w1) (hg : W.grownBy w1 v.ownBlock)
    : RdP TS TR B w0 ((w1.setCell ⟨rb, 0, none⟩ v1).setCell ⟨rb, 1, none⟩ (.bool true)) rb gs v1 (vs ++ [.slice none 0 0]) (l ++ [[]]) true := by
  have hc1 : w1.heap[rb]? = some (.cells #[v, .bool o] TR (0, 0)) := by rw [hg.block rb h.lt (own_ne h.row h.cell hTS)]; exact h.cell
  have hc2 : (w1.setCell ⟨rb, 0, none⟩ v1).heap[rb]? = some (.cells #[v1, .bool o] TR (0, 0)) := by rw [heap_setCell_same w1 rb 0 _ _ _ hc1]; rfl
  have hr1 : RowsF B w1 vs l := h.rows.move fun u hu k hk hlt => by
    obtain ⟨x, hx⟩ := h.rows.mem hu
    refine hg.block k hlt ?_
    rcases own_type_ne hx h.row hFS with e | e
    · rw [hk] at e; cases e
    · rw [hk] at e; exact e
  refine ⟨(hb.setCell h.hrb _).setCell h.hrb _, ?_, h.hrb, ?_, ?_, ?_, ?_, ?_⟩
  · simpa using Nat.le_trans h.base hg.size
  · rw [heap_setCell_same _ rb 1 _ _ _ hc2]; rfl
  · rw [List.length_append]
    exact own_setCell (own_setCell h1 (own_ne h1 hc1 hTS) _) (own_ne h1 hc1 hTS) _
  · refine RowsF.snoc (hr1.move fun u hu k hk _ => ?_) (own_nil _ _ _ _)
    obtain ⟨x, hx⟩ := hr1.mem hu
    have hne : k ≠ rb := by have := own_ne hx hc1 hTF; rw [hk] at this; rintro rfl; exact this rfl
    rw [heap_set_ne _ _ _ k hne, heap_set_ne _ _ _ k hne]
  · refine List.pairwise_append.2 ⟨h.apart, List.pairwise_singleton _ _, ?_⟩
    intro u _ z hz k _
    rw [List.mem_singleton] at hz
    subst hz
    simp [Value.ownBlock]
  · intro q hq
    obtain ⟨q1, q2, q3, q4⟩ := h.guest q hq
    have q5 : w1.heap[q.b]? = some (.cells q.cs q.t (0, 0)) := by rw [hg.block q.b (Array.getElem?_eq_some_iff.1 q1).1 (own_ne h.row q1 q2)]; exact q1
    have hne := guest_ne q5 hc1 q3
    exact ⟨by rw [heap_set_ne _ _ _ q.b hne, heap_set_ne _ _ _ q.b hne]; exact q5, q2, q3, q4⟩
/-- The last stanza's slice. -/
theorem RdP.last (h : RdP TS TR B w0 W rb gs v vs l o) (hl : l ≠ []) : ∃ us z, vs = us ++ [z] ∧ RowsF B W us l.dropLast ∧ OwnF B W z (lastS l) ∧ us.length + 1 = l.length := by
  have hlen := h.rows.1
  have hv : vs ≠ [] := by rintro rfl; exact hl (List.length_eq_zero_iff.1 hlen.symm)
  have e := (List.dropLast_concat_getLast hv).symm
  have e2 := (split_last hl).symm
  have hr := h.rows
  rw [e, e2] at hr
  refine ⟨vs.dropLast, vs.getLast hv, e, hr.init.1, hr.init.2, ?_⟩
  have := List.length_pos_iff.2 hl
  rw [List.length_dropLast]; omega
/-- Another row stands for the last stanza: one that is apart. -/
theorem RdP.put {us : List Value} {z z1 : Value} {x1 : List Fd} {g cap : Nat} {w1 : World} (h : RdP TS TR B w0 W rb gs v vs l o) (hl : l ≠ []) (hTS : TS ≠ TR) (hTF : 60 ≠ TR) (hFS : 60 ≠ TS) (hv : v = .slice (some ⟨g, 0, none⟩) l.length cap) (hvs : vs = us ++ [z])
    (hb : Below B w0 w1) (hg : W.grownBy w1 z.ownBlock) (h1 : OwnF B w1 z1 x1) (hat : z1.ownBlock = z.ownBlock ∨ ∃ b, z1.ownBlock = some b ∧ W.heap.size ≤ b) :
    RdP TS TR B w0 (w1.setCell ⟨g, l.length - 1, none⟩ z1) rb gs v (us ++ [z1]) (l.dropLast ++ [x1]) o := by
  obtain ⟨us', z', e, hru, hz, hlen⟩ := h.last hl
  obtain ⟨rfl, e2⟩ := List.append_inj' (hvs.symm.trans e) rfl
  cases e2
  have hc1 : w1.heap[rb]? = some (.cells #[v, .bool o] TR (0, 0)) := by rw [hg.block rb h.lt (own_ne hz h.cell hTF)]; exact h.cell
  have hrow1 : w1.ownsRow B TS 1 v l.length vs := own_other h.row hg (own_type_ne h.row hz (Ne.symm hFS))
  have hgo : v.ownBlock = some g := by rw [hv]; rfl
  have hBg : B ≤ g := own_base h.row g hgo
  have hst := hrow1
  rw [hv] at hst
  have hst1 := (World.ownsRow.stored hst (l.length - 1) z1).1
  have hne : rb ≠ g := by have := own_ne hrow1 hc1 hTS; rw [hgo] at this; rintro rfl; exact this rfl
  have hF : ∀ u x, OwnF B w1 u x → ∀ k, u.ownBlock = some k → k ≠ g := by
    intro u x hx k hk
    rcases own_type_ne hx hrow1 hFS with e | e
    · rw [hk] at e; cases e
    · rw [hk, hgo] at e; rintro rfl; exact e rfl
  have hap := h.apart
  rw [hvs] at hap
  obtain ⟨ap1, _, ap2⟩ := List.pairwise_append.1 hap
  have hru1 : RowsF B w1 us l.dropLast := hru.move fun u hu k hk hlt => hg.block k hlt (fun e => ap2 u hu z (List.mem_singleton.2 rfl) k hk e.symm)
  have hll : (l.dropLast ++ [x1]).length = l.length := by simp only [List.length_append, List.length_dropLast, List.length_singleton]; omega
  refine ⟨hb.setCell hBg _, ?_, h.hrb, ?_, ?_, ?_, ?_, ?_⟩
  · simpa using Nat.le_trans h.base hg.size
  · rw [heap_set_ne _ _ _ rb hne]; exact hc1
  · rw [hll, hv]
    have e3 : vs.set (l.length - 1) z1 = us ++ [z1] := by
      rw [hvs, List.set_append_right _ _ (by omega), show l.length - 1 - us.length = 0 by omega]; rfl
    rw [e3] at hst1
    exact hst1
  · refine RowsF.snoc (hru1.move fun u hu k hk _ => ?_) (own_move h1 fun k hk => ?_)
    · obtain ⟨x, hx⟩ := hru1.mem hu
      exact heap_set_ne _ _ _ k (hF u x hx k hk)
    · exact heap_set_ne _ _ _ k (hF z1 x1 h1 k hk)
  · refine List.pairwise_append.2 ⟨ap1, List.pairwise_singleton _ _, ?_⟩
    intro u hu z2 hz2 k hk
    rw [List.mem_singleton] at hz2
    subst hz2
    rcases hat with e5 | ⟨b, e5, hbs⟩
    · rw [e5]; exact ap2 u hu z (List.mem_singleton.2 rfl) k hk
    · rw [e5]
      obtain ⟨x, hx⟩ := hru.mem hu
      have := own_lt hx k hk
      intro e6
      cases e6
      omega
  · intro q hq
    obtain ⟨q1, q2, q3, q4⟩ := h.guest q hq
    have q5 : w1.heap[q.b]? = some (.cells q.cs q.t (0, 0)) := by rw [hg.block q.b (Array.getElem?_eq_some_iff.1 q1).1 (own_ne hz q1 q4)]; exact q1
    have hne : q.b ≠ g := by have := own_ne hrow1 q5 q2; rw [hgo] at this; intro e; exact this (by rw [e])
    exact ⟨by rw [heap_set_ne _ _ _ q.b hne]; exact q5, q2, q3, q4⟩
/-- The value of the last stanza's last field, written in place. -/
theorem RdP.value {us : List Value} {z : Value} {g cap : Nat} {x : List Fd} {f : Fd} (h : RdP TS TR B w0 W rb gs v vs l o) (hl : l ≠ []) (hTF : 60 ≠ TR) (hFS : 60 ≠ TS) (hvs : vs = us ++ [z]) (hx : lastS l = x ++ [f]) (hz : z = .slice (some ⟨g, 0, none⟩) (x.length + 1) cap) (s : ByteArray) :
    RdP TS TR B w0 (W.setCell ⟨g, x.length * 2 + 1, none⟩ (.string s)) rb gs v vs (l.dropLast ++ [x ++ [⟨f.f0, s⟩]]) o := by
  obtain ⟨us', z', e, hru, hzo, hlen⟩ := h.last hl
  obtain ⟨rfl, e2⟩ := List.append_inj' (hvs.symm.trans e) rfl
  cases e2
  rw [hx] at hzo
  have hgo : z.ownBlock = some g := by rw [hz]; rfl
  have hBg : B ≤ g := own_base hzo g hgo
  have hzl : (x ++ [f]).length = x.length + 1 := by simp
  have hll : (l.dropLast ++ [x ++ [(⟨f.f0, s⟩ : Fd)]]).length = l.length := by simp only [List.length_append, List.length_dropLast, List.length_singleton]; omega
  have hst := hzo
  unfold OwnF at hst
  rw [hz, hzl] at hst
  have hst1 := (World.ownsRow.stored hst (x.length * 2 + 1) (.string s)).1
  have hne : rb ≠ g := by have := own_ne hzo h.cell hTF; rw [hgo] at this; rintro rfl; exact this rfl
  refine ⟨h.bel.setCell hBg _, by simpa using h.base, h.hrb, ?_, ?_, ?_, h.apart, ?_⟩
  · rw [heap_set_ne _ _ _ rb hne]; exact h.cell
  · rw [hll]
    refine own_setCell h.row ?_ _
    rcases own_type_ne hzo h.row hFS with e | e
    · rw [hgo] at e; cases e
    · rw [hgo] at e; exact e
  · have hap := h.apart
    rw [hvs] at hap
    obtain ⟨_, _, ap2⟩ := List.pairwise_append.1 hap
    rw [hvs]
    refine RowsF.snoc (hru.move fun u hu k hk _ => heap_set_ne _ _ _ k (fun e => ap2 u hu z (List.mem_singleton.2 rfl) k hk (by rw [hgo, e]))) ?_
    show (W.setCell _ _).ownsRow B _ 2 z (x ++ [(⟨f.f0, s⟩ : Fd)]).length _
    rw [show (x ++ [(⟨f.f0, s⟩ : Fd)]).length = x.length + 1 by simp, hz]
    have e3 : (fcells (x ++ [f])).set (x.length * 2 + 1) (.string s) = fcells (x ++ [(⟨f.f0, s⟩ : Fd)]) := by
      rw [fcells_app, fcells_app, List.set_append_right _ _ (by rw [fcells_len]; omega), fcells_len, show x.length * 2 + 1 - x.length * 2 = 1 by omega]; rfl
    rw [e3] at hst1
    exact hst1
  · intro q hq
    obtain ⟨q1, q2, q3, q4⟩ := h.guest q hq
    have hne : q.b ≠ g := by have := own_ne hzo q1 q4; rw [hgo] at this; intro e; exact this (by rw [e])
    exact ⟨by rw [heap_set_ne _ _ _ q.b hne]; exact q1, q2, q3, q4⟩
/-- What was read, as a row of rows of the call's own, no two of which lie in one block. -/
theorem fcells_reps (w : World) (base : Nat) (ok : Nat → Prop) : ∀ x : List Fd, Reps (k60.M w base ok) 2 x (fcells x)
  | [] => Reps.none _ _
  | f :: x => by
    have h := fcells_reps w base ok x
    refine ⟨fcells_len _, fun j p hp => ?_⟩
    cases j with
    | zero => cases hp; exact k60_mkM w base ok f
    | succ j =>
      have := h.2 j p hp
      rw [show (j + 1) * 2 = j * 2 + 1 + 1 by omega]
      exact this
def ownerOf (vs : List Value) (k : Nat) : Nat := vs.findIdx fun v => decide (v.ownBlock = some k)
theorem ownerOf_at {vs : List Value} (h : vs.Pairwise fun u z => ∀ k, u.ownBlock = some k → z.ownBlock ≠ some k) {j : Nat} {v : Value} (hv : vs[j]? = some v) {k : Nat} (hk : v.ownBlock = some k) : ownerOf vs k = j := by
  obtain ⟨hj, rfl⟩ := List.getElem?_eq_some_iff.1 hv
  unfold ownerOf
  rw [List.findIdx_eq hj]
  refine ⟨decide_eq_true hk, fun i hi => ?_⟩
  refine decide_eq_false fun e => ?_
  exact List.pairwise_iff_getElem.1 h i j (by omega) hj hi k e hk
theorem RdP.S (h : RdP TS TR B w0 W rb gs v vs l o) (hFS : 60 ≠ TS) : Kd.S (Kd.slice 60 k60) TS W B (fun _ => True) v l := by
  refine ⟨ownerOf vs, fun _ _ => trivial, vs, by rw [List.length_zipIdx]; exact h.row, ?_⟩
  have hlen := h.rows.1
  refine ⟨by rw [List.length_zipIdx, hlen]; exact (Nat.mul_one _).symm, fun j p hp => ?_⟩
  obtain ⟨x, i⟩ := p
  rw [List.getElem?_zipIdx] at hp
  cases e : l[j]? with
  | none => rw [e] at hp; cases hp
  | some y =>
    rw [e] at hp
    simp only [Option.map_some, Nat.zero_add, Option.some.injEq, Prod.mk.injEq] at hp
    obtain ⟨rfl, rfl⟩ := hp
    have hj : j < vs.length := by have := (List.getElem?_eq_some_iff.1 e).1; omega
    have hown := h.rows.2 j vs[j] y (List.getElem?_eq_getElem hj) e
    rw [show (Kd.tag (ownerOf vs) (Kd.slice 60 k60)).sz = 1 from rfl, Nat.mul_one, List.drop_eq_getElem_cons hj]
    refine ⟨vs[j], rfl, fun k hk => ⟨⟨trivial, ?_⟩, ownerOf_at h.apart (List.getElem?_eq_getElem hj) hk⟩, fcells y, hown, fcells_reps _ _ _ y⟩
    rcases own_type_ne hown h.row hFS with e | e
    · rw [e] at hk; cases hk
    · rw [← hk]; exact e
end
end Go.Proofs.YtlcfpmdamehopaaGreatDoor.PA
/- Two texts of stanzas with empty lines ahead, between and behind are read as the stanzas of both, as plain functions. No condition. -/
namespace Go.Proofs.YtlcfpmdamehopaaGreatDoor.PA
theorem line_err {l : List (List Fd)} {o : Bool} {s : List UInt8} {e : Int} (h : lineG l o s = .error e) : e ≠ 0 := by
  unfold lineG at h
  split at h
  case isFalse => cases h; decide
  split at h
  · cases h
  · split at h
    · unfold fieldG at h
      split at h
      case isFalse => cases h; decide
      split at h
      · split at h
        · cases h; decide
        · split at h <;> cases h
          decide
      · split at h <;> cases h
        decide
    · split at h <;> cases h
      decide
theorem lines_ne (s : List UInt8) : linesL s ≠ [] := by
  cases s with
  | nil => simp [linesL]
  | cons c s =>
    unfold linesL
    split
    · simp
    · split <;> simp
theorem lines_join (y : List UInt8) : ∀ x : List UInt8, linesL (x ++ 10 :: y) = linesL x ++ linesL y := by
  intro x
  induction x with
  | nil => rfl
  | cons c x ih =>
    rw [List.cons_append, linesL, linesL]
    by_cases h : c.toNat = 10
    · rw [if_pos h, if_pos h, ih]; rfl
    · rw [if_neg h, if_neg h, ih]
      cases e : linesL x with
      | nil => exact absurd e (lines_ne x)
      | cons l ls => rfl
end Go.Proofs.YtlcfpmdamehopaaGreatDoor.PA
/- The library's Cut at a colon, Split at a line feed, TrimLeft of spaces: as the plain functions of MStanza0 say. No condition. -/
namespace Go.Proofs.YtlcfpmdamehopaaGreatDoor.PA
open Go
theorem byte_is (c : UInt8) (n : Nat) (h : n < 256) : (c.toNat = n) ↔ c = n.toUInt8 := by
  constructor
  · intro e; rw [← e]; simp
  · intro e; rw [e]; simp; omega
theorem cut_colon : ∀ s : List UInt8, Lib.cut s [58] = colonL s := by
  intro s
  unfold Lib.cut
  rw [Lib.index_one]
  induction s with
  | nil => rfl
  | cons c s ih =>
    by_cases h : c.toNat = 58
    · have h' : c = 58 := (byte_is c 58 (by decide)).1 h
      subst h'
      rfl
    · have h' : (c == 58) = false := beq_eq_false_iff_ne.2 fun e => h ((byte_is c 58 (by decide)).2 e)
      have hge := Lib.indexByte_ge s 58
      have hv : Lib.indexByte (c :: s) 58 = if Lib.indexByte s 58 == -1 then -1 else Lib.indexByte s 58 + 1 := by rw [Lib.indexByte, h', if_neg (by decide)]
      rw [colonL, if_neg h, ← ih]
      by_cases hn : Lib.indexByte s 58 = -1
      · rw [hv, hn]; rfl
      · rw [hv, if_neg (fun e => hn (beq_iff_eq.1 e))]
        rw [if_pos (show 0 ≤ Lib.indexByte s 58 + 1 by omega), if_pos (show 0 ≤ Lib.indexByte s 58 by omega), show (Lib.indexByte s 58 + 1).toNat = (Lib.indexByte s 58).toNat + 1 by omega]
        rfl
theorem trim_space (s : List UInt8) : Lib.trimLeftB s 32 = trimL s := by
  unfold Lib.trimLeftB trimL
  congr 1
  funext c
  rw [Bool.eq_iff_iff, beq_iff_eq, decide_eq_true_iff]
  exact ((byte_is c 32 (by decide))).symm
theorem index_at : ∀ x y : List UInt8, 10 ∉ x → Lib.indexByte (x ++ 10 :: y) 10 = (x.length : Int) := by
  intro x
  induction x with
  | nil => intro y _; rfl
  | cons c x ih =>
    intro y h
    have h1 : (c == 10) = false := beq_eq_false_iff_ne.2 fun e => h (by rw [e]; exact List.mem_cons_self)
    have h2 := ih y (fun e => h (List.mem_cons_of_mem _ e))
    rw [List.cons_append, Lib.indexByte, h1, if_neg (by decide), h2, if_neg (by simp <;> omega)]
    simp
theorem lines_one : ∀ x : List UInt8, 10 ∉ x → linesL x = [x] := by
  intro x
  induction x with
  | nil => intro _; rfl
  | cons c x ih =>
    intro h
    have h1 : ¬ c.toNat = 10 := fun e => h (by rw [(byte_is c 10 (by decide)).1 e]; exact List.mem_cons_self)
    rw [linesL, if_neg h1, ih (fun e => h (List.mem_cons_of_mem _ e))]
theorem split_lines : ∀ (k : Nat) (s : List UInt8), s.count 10 = k → Lib.splitK [10] 0 k s = linesL s := by
  intro k
  induction k with
  | zero =>
    intro s h
    rw [lines_one s (List.count_eq_zero.1 h)]; rfl
  | succ k ih =>
    intro s h
    obtain ⟨x, y, rfl, hx⟩ := List.eq_append_cons_of_mem (List.count_pos_iff.1 (show 0 < s.count 10 by omega))
    rw [Lib.splitK, Lib.index_one, index_at x y hx, if_neg (by simp <;> omega), lines_join, lines_one x hx]
    have hc : y.count 10 = k := by
      rw [List.count_append, List.count_eq_zero.2 hx, List.count_cons_self] at h
      omega
    rw [show ((x.length : Int).toNat + 0) = x.length by omega, List.take_left' rfl, show (x.length : Int).toNat + [(10 : UInt8)].length = x.length + 1 by simp, show List.drop (x.length + 1) (x ++ 10 :: y) = y from by simp, ih y hc]
    rfl
theorem mk_toList (s : ByteArray) : mkB s.data.toList = s := by cases s; rfl
theorem splitB_lines (s : ByteArray) : Lib.splitB ⟨#[10]⟩ 0 (Lib.countB s ⟨#[10]⟩) s = (linesL s.data.toList).map mkB := by
  have h := Lib.splitB_data ⟨#[10]⟩ 0 (Lib.countB s ⟨#[10]⟩) s
  rw [show (⟨#[10]⟩ : ByteArray).data.toList = [10] from rfl, split_lines _ s.data.toList (by show _ = Lib.count _ _; exact (Lib.count_one 10 _).symm)] at h
  rw [← h, List.map_map]
  have : (mkB ∘ fun s : ByteArray => s.data.toList) = id := by funext s; exact mk_toList s
  rw [this, List.map_id]
theorem splitB_len (s : ByteArray) : Lib.countB s ⟨#[10]⟩ + 1 = (linesL s.data.toList).length := by
  have h := Lib.splitB_all ⟨#[10]⟩ (by decide) 0 _ s rfl
  rw [splitB_lines, List.length_map] at h
  exact h.symm
end Go.Proofs.YtlcfpmdamehopaaGreatDoor.PA
/- slices.IndexFunc, slices.ContainsFunc at this seat's instances: the place of the first element at which the predicate holds. What is asked: the slice reads as xs, and the predicate gives its answer at each element. -/
namespace Go.Proofs.YtlcfpmdamehopaaGreatDoor.PA
open Go.RowKit Go.Proofs.YtlcfpmdamehopaaGreatDoorW.PrintWords Go.Proofs.YtlcfpmdamehopaaGreatDoorW.PrintLast Go.Proofs.YtlcfpmdamehopaaGreatDoorW.PrintMore

set_option maxHeartbeats 2000000 in
theorem idx127 {α : Type} (d : Kd α) (hd : d.sz = 2) (g : Nat) (lb : Array Value) (eg : ∀ args w, (callFunc g args).run Tryz.prog w = .ok (.enter g args) w) (A : Option Addr) (c : Nat) (xs : List α) (p : α → Bool) (w : World)
    (hC : d.C w A xs.length xs) (hp : PredOn d aggV g lb p xs w) :
    Calls Tryz.prog 127 #[.slice A xs.length c, .func (.func g) #[] lb] w fun e w' => e = .returned (.int .i64 (idxP p xs)) ∧ Below w.heap.size w w' := by
  have hn : xs.length ≤ 9223372036854775807 := hC.2.1
  go_enter Tryz.func127, Tryz.ntmps127
  go_wp2
  go_loopg [5, 8] xs.length (fun gg _ s8 wr => ∃ kk : Nat, kk ≤ xs.length ∧ xs.length - kk ≤ gg ∧ s8 = .int .i64 kk ∧ Aside (Below w.heap.size w wr) ∧ Aside (∀ j (hj : j < xs.length), j < kk → p xs[j] = false))
  case atStart => exact ⟨0, Nat.zero_le _, by omega, rfl, Below.refl _ w, fun j _ hj => absurd hj (Nat.not_lt_zero _)⟩
  case round =>
    obtain ⟨kk, hkk, hg, rfl, BW, A0⟩ := hrel
    by_cases hlt : kk < xs.length
    · have hltz : (kk : Int) < (xs.length : Int) := by omega
      obtain ⟨ad, rfl⟩ := C_addr hC (by omega)
      obtain ⟨cs, hlen, hK, hcell0⟩ := C_elem (Kd.C_below hC BW.out) kk hlt
      have hcall := hp _ (List.getElem_mem hlt) cs wr BW.out hK
      rw [hd] at hlen
      obtain ⟨c0, c1, rfl⟩ : ∃ c0 c1, cs = [c0, c1] := by
        match cs, hlen with
        | [c0, c1], _ => exact ⟨c0, c1, rfl⟩
      have l0 : wr.cell? (ad.add (kk * 2)) = some c0 := by
        have h := hcell0 0 c0 rfl
        rw [hd] at h; simpa using h
      have l1 : wr.cell? ⟨(ad.add (kk * 2)).block, (ad.add (kk * 2)).off + 1, none⟩ = some c1 := by
        have h := hcell0 1 c1 rfl
        rw [hd, add_field _ _ _ (by decide)] at h; exact h
      replace hcall : Calls Tryz.prog g (#[.agg #[c0, c1]] ++ lb) wr _ := hcall
      clear hC hp hcell0 hlen
      cases hq : p xs[kk] with
      | true =>
        rw [hq] at hcall
        have Q := Lib.hid hq
        clear hq
        have hcw := hcall.mono fun e w' h => (⟨h.1, BW.out.trans (h.2.mono BW.out.size)⟩ : e = .returned (.bool true) ∧ Below w.heap.size w w')
        clear hcall hK
        go_wp2_with (go_at_fn g; refine hcw.mono ?_; rintro e w' ⟨rfl, hb'⟩)
        go_ret
        exact ⟨by rw [idxP_hit hlt Q.out A0.out] <;> rfl, hb'⟩
      | false =>
        rw [hq] at hcall
        have Q := Lib.hid hq
        clear hq
        have hcw := hcall.mono fun e w' h => (⟨h.1, BW.out.trans (h.2.mono BW.out.size)⟩ : e = .returned (.bool false) ∧ Below w.heap.size w w')
        clear hcall hK
        go_wp2_with (go_at_fn g; refine hcw.mono ?_; rintro e w' ⟨rfl, hb'⟩)
        go_roundg (xs.length - (kk + 1))
        case measure => omega
        case rel =>
          refine ⟨kk + 1, by omega, by omega, by go_num, hb', (show Aside _ from fun j hl hj => ?_)⟩
          by_cases e : j = kk
          · subst e
            exact Q.out
          · exact A0.out j hl (by omega)
    · have hltz : ¬ (kk : Int) < (xs.length : Int) := by omega
      clear hC hp
      go_wp2
      go_ret
      exact ⟨by rw [idxP_miss (fun j hj => A0.out j hj (by omega))] <;> rfl, BW.out⟩


set_option maxHeartbeats 2000000 in
theorem idx62 {α : Type} (d : Kd α) (hd : d.sz = 1) (g : Nat) (lb : Array Value) (eg : ∀ args w, (callFunc g args).run Tryz.prog w = .ok (.enter g args) w) (A : Option Addr) (c : Nat) (xs : List α) (p : α → Bool) (w : World)
    (hC : d.C w A xs.length xs) (hp : PredOn d oneV g lb p xs w) :
    Calls Tryz.prog 62 #[.slice A xs.length c, .func (.func g) #[] lb] w fun e w' => e = .returned (.int .i64 (idxP p xs)) ∧ Below w.heap.size w w' := by
  have hn : xs.length ≤ 9223372036854775807 := hC.2.1
  go_enter Tryz.func62, Tryz.ntmps62
  go_wp2
  go_loopg [5, 8] xs.length (fun gg _ s8 wr => ∃ kk : Nat, kk ≤ xs.length ∧ xs.length - kk ≤ gg ∧ s8 = .int .i64 kk ∧ Aside (Below w.heap.size w wr) ∧ Aside (∀ j (hj : j < xs.length), j < kk → p xs[j] = false))
  case atStart => exact ⟨0, Nat.zero_le _, by omega, rfl, Below.refl _ w, fun j _ hj => absurd hj (Nat.not_lt_zero _)⟩
  case round =>
    obtain ⟨kk, hkk, hg, rfl, BW, A0⟩ := hrel
    by_cases hlt : kk < xs.length
    · have hltz : (kk : Int) < (xs.length : Int) := by omega
      obtain ⟨ad, rfl⟩ := C_addr hC (by omega)
      obtain ⟨cs, hlen, hK, hcell0⟩ := C_elem (Kd.C_below hC BW.out) kk hlt
      have hcall := hp _ (List.getElem_mem hlt) cs wr BW.out hK
      rw [hd] at hlen
      obtain ⟨c0, rfl⟩ : ∃ c0, cs = [c0] := by
        match cs, hlen with
        | [c0], _ => exact ⟨c0, rfl⟩
      have l0 : wr.cell? (ad.add kk) = some c0 := by
        have h := hcell0 0 c0 rfl
        rw [hd] at h; simpa using h
      replace hcall : Calls Tryz.prog g (#[c0] ++ lb) wr _ := hcall
      clear hC hp hcell0 hlen
      cases hq : p xs[kk] with
      | true =>
        rw [hq] at hcall
        have Q := Lib.hid hq
        clear hq
        have hcw := hcall.mono fun e w' h => (⟨h.1, BW.out.trans (h.2.mono BW.out.size)⟩ : e = .returned (.bool true) ∧ Below w.heap.size w w')
        clear hcall hK
        go_wp2_with (go_at_fn g; refine hcw.mono ?_; rintro e w' ⟨rfl, hb'⟩)
        go_ret
        exact ⟨by rw [idxP_hit hlt Q.out A0.out] <;> rfl, hb'⟩
      | false =>
        rw [hq] at hcall
        have Q := Lib.hid hq
        clear hq
        have hcw := hcall.mono fun e w' h => (⟨h.1, BW.out.trans (h.2.mono BW.out.size)⟩ : e = .returned (.bool false) ∧ Below w.heap.size w w')
        clear hcall hK
        go_wp2_with (go_at_fn g; refine hcw.mono ?_; rintro e w' ⟨rfl, hb'⟩)
        go_roundg (xs.length - (kk + 1))
        case measure => omega
        case rel =>
          refine ⟨kk + 1, by omega, by omega, by go_num, hb', (show Aside _ from fun j hl hj => ?_)⟩
          by_cases e : j = kk
          · subst e
            exact Q.out
          · exact A0.out j hl (by omega)
    · have hltz : ¬ (kk : Int) < (xs.length : Int) := by omega
      clear hC hp
      go_wp2
      go_ret
      exact ⟨by rw [idxP_miss (fun j hj => A0.out j hj (by omega))] <;> rfl, BW.out⟩

set_option maxHeartbeats 1000000 in
theorem con27 {α : Type} (d : Kd α) (hd : d.sz = 1) (g : Nat) (lb : Array Value) (eg : ∀ args w, (callFunc g args).run Tryz.prog w = .ok (.enter g args) w) (A : Option Addr) (c : Nat) (xs : List α) (p : α → Bool) (w : World)
    (hC : d.C w A xs.length xs) (hp : PredOn d oneV g lb p xs w) :
    Calls Tryz.prog 27 #[.slice A xs.length c, .func (.func g) #[] lb] w fun e w' => e = .returned (.bool (xs.any p)) ∧ Below w.heap.size w w' := by
  have h := idx62 d hd g lb eg A c xs p w hC hp
  have hany := idxP_any p xs
  generalize xs.any p = r at hany ⊢
  generalize idxP p xs = q at hany h
  subst hany
  clear hC hp
  go_enter Tryz.func27, Tryz.ntmps27
  go_wp2_with (go_at_call 62; refine h.mono ?_; rintro e w' ⟨rfl, hb'⟩)
  go_ret
  exact ⟨rfl, hb'⟩


set_option maxHeartbeats 2000000 in
theorem idx192 {α : Type} (d : Kd α) (hd : d.sz = 1) (g : Nat) (lb : Array Value) (eg : ∀ args w, (callFunc g args).run Tryz.prog w = .ok (.enter g args) w) (A : Option Addr) (c : Nat) (xs : List α) (p : α → Bool) (w : World)
    (hC : d.C w A xs.length xs) (hp : PredOn d oneV g lb p xs w) :
    Calls Tryz.prog 192 #[.slice A xs.length c, .func (.func g) #[] lb] w fun e w' => e = .returned (.int .i64 (idxP p xs)) ∧ Below w.heap.size w w' := by
  have hn : xs.length ≤ 9223372036854775807 := hC.2.1
  go_enter Tryz.func192, Tryz.ntmps192
  go_wp2
  go_loopg [5, 8] xs.length (fun gg _ s8 wr => ∃ kk : Nat, kk ≤ xs.length ∧ xs.length - kk ≤ gg ∧ s8 = .int .i64 kk ∧ Aside (Below w.heap.size w wr) ∧ Aside (∀ j (hj : j < xs.length), j < kk → p xs[j] = false))
  case atStart => exact ⟨0, Nat.zero_le _, by omega, rfl, Below.refl _ w, fun j _ hj => absurd hj (Nat.not_lt_zero _)⟩
  case round =>
    obtain ⟨kk, hkk, hg, rfl, BW, A0⟩ := hrel
    by_cases hlt : kk < xs.length
    · have hltz : (kk : Int) < (xs.length : Int) := by omega
      obtain ⟨ad, rfl⟩ := C_addr hC (by omega)
      obtain ⟨cs, hlen, hK, hcell0⟩ := C_elem (Kd.C_below hC BW.out) kk hlt
      have hcall := hp _ (List.getElem_mem hlt) cs wr BW.out hK
      rw [hd] at hlen
      obtain ⟨c0, rfl⟩ : ∃ c0, cs = [c0] := by
        match cs, hlen with
        | [c0], _ => exact ⟨c0, rfl⟩
      have l0 : wr.cell? (ad.add kk) = some c0 := by
        have h := hcell0 0 c0 rfl
        rw [hd] at h; simpa using h
      replace hcall : Calls Tryz.prog g (#[c0] ++ lb) wr _ := hcall
      clear hC hp hcell0 hlen
      cases hq : p xs[kk] with
      | true =>
        rw [hq] at hcall
        have Q := Lib.hid hq
        clear hq
        have hcw := hcall.mono fun e w' h => (⟨h.1, BW.out.trans (h.2.mono BW.out.size)⟩ : e = .returned (.bool true) ∧ Below w.heap.size w w')
        clear hcall hK
        go_wp2_with (go_at_fn g; refine hcw.mono ?_; rintro e w' ⟨rfl, hb'⟩)
        go_ret
        exact ⟨by rw [idxP_hit hlt Q.out A0.out] <;> rfl, hb'⟩
      | false =>
        rw [hq] at hcall
        have Q := Lib.hid hq
        clear hq
        have hcw := hcall.mono fun e w' h => (⟨h.1, BW.out.trans (h.2.mono BW.out.size)⟩ : e = .returned (.bool false) ∧ Below w.heap.size w w')
        clear hcall hK
        go_wp2_with (go_at_fn g; refine hcw.mono ?_; rintro e w' ⟨rfl, hb'⟩)
        go_roundg (xs.length - (kk + 1))
        case measure => omega
        case rel =>
          refine ⟨kk + 1, by omega, by omega, by go_num, hb', (show Aside _ from fun j hl hj => ?_)⟩
          by_cases e : j = kk
          · subst e
            exact Q.out
          · exact A0.out j hl (by omega)
    · have hltz : ¬ (kk : Int) < (xs.length : Int) := by omega
      clear hC hp
      go_wp2
      go_ret
      exact ⟨by rw [idxP_miss (fun j hj => A0.out j hj (by omega))] <;> rfl, BW.out⟩

set_option maxHeartbeats 1000000 in
theorem con175 {α : Type} (d : Kd α) (hd : d.sz = 1) (g : Nat) (lb : Array Value) (eg : ∀ args w, (callFunc g args).run Tryz.prog w = .ok (.enter g args) w) (A : Option Addr) (c : Nat) (xs : List α) (p : α → Bool) (w : World)
    (hC : d.C w A xs.length xs) (hp : PredOn d oneV g lb p xs w) :
    Calls Tryz.prog 175 #[.slice A xs.length c, .func (.func g) #[] lb] w fun e w' => e = .returned (.bool (xs.any p)) ∧ Below w.heap.size w w' := by
  have h := idx192 d hd g lb eg A c xs p w hC hp
  have hany := idxP_any p xs
  generalize xs.any p = r at hany ⊢
  generalize idxP p xs = q at hany h
  subst hany
  clear hC hp
  go_enter Tryz.func175, Tryz.ntmps175
  go_wp2_with (go_at_call 192; refine h.mono ?_; rintro e w' ⟨rfl, hb'⟩)
  go_ret
  exact ⟨rfl, hb'⟩


set_option maxHeartbeats 2000000 in
theorem idx141 {α : Type} (d : Kd α) (hd : d.sz = 1) (g : Nat) (lb : Array Value) (eg : ∀ args w, (callFunc g args).run Tryz.prog w = .ok (.enter g args) w) (A : Option Addr) (c : Nat) (xs : List α) (p : α → Bool) (w : World)
    (hC : d.C w A xs.length xs) (hp : PredOn d oneV g lb p xs w) :
    Calls Tryz.prog 141 #[.slice A xs.length c, .func (.func g) #[] lb] w fun e w' => e = .returned (.int .i64 (idxP p xs)) ∧ Below w.heap.size w w' := by
  have hn : xs.length ≤ 9223372036854775807 := hC.2.1
  go_enter Tryz.func141, Tryz.ntmps141
  go_wp2
  go_loopg [5, 8] xs.length (fun gg _ s8 wr => ∃ kk : Nat, kk ≤ xs.length ∧ xs.length - kk ≤ gg ∧ s8 = .int .i64 kk ∧ Aside (Below w.heap.size w wr) ∧ Aside (∀ j (hj : j < xs.length), j < kk → p xs[j] = false))
  case atStart => exact ⟨0, Nat.zero_le _, by omega, rfl, Below.refl _ w, fun j _ hj => absurd hj (Nat.not_lt_zero _)⟩
  case round =>
    obtain ⟨kk, hkk, hg, rfl, BW, A0⟩ := hrel
    by_cases hlt : kk < xs.length
    · have hltz : (kk : Int) < (xs.length : Int) := by omega
      obtain ⟨ad, rfl⟩ := C_addr hC (by omega)
      obtain ⟨cs, hlen, hK, hcell0⟩ := C_elem (Kd.C_below hC BW.out) kk hlt
      have hcall := hp _ (List.getElem_mem hlt) cs wr BW.out hK
      rw [hd] at hlen
      obtain ⟨c0, rfl⟩ : ∃ c0, cs = [c0] := by
        match cs, hlen with
        | [c0], _ => exact ⟨c0, rfl⟩
      have l0 : wr.cell? (ad.add kk) = some c0 := by
        have h := hcell0 0 c0 rfl
        rw [hd] at h; simpa using h
      replace hcall : Calls Tryz.prog g (#[c0] ++ lb) wr _ := hcall
      clear hC hp hcell0 hlen
      cases hq : p xs[kk] with
      | true =>
        rw [hq] at hcall
        have Q := Lib.hid hq
        clear hq
        have hcw := hcall.mono fun e w' h => (⟨h.1, BW.out.trans (h.2.mono BW.out.size)⟩ : e = .returned (.bool true) ∧ Below w.heap.size w w')
        clear hcall hK
        go_wp2_with (go_at_fn g; refine hcw.mono ?_; rintro e w' ⟨rfl, hb'⟩)
        go_ret
        exact ⟨by rw [idxP_hit hlt Q.out A0.out] <;> rfl, hb'⟩
      | false =>
        rw [hq] at hcall
        have Q := Lib.hid hq
        clear hq
        have hcw := hcall.mono fun e w' h => (⟨h.1, BW.out.trans (h.2.mono BW.out.size)⟩ : e = .returned (.bool false) ∧ Below w.heap.size w w')
        clear hcall hK
        go_wp2_with (go_at_fn g; refine hcw.mono ?_; rintro e w' ⟨rfl, hb'⟩)
        go_roundg (xs.length - (kk + 1))
        case measure => omega
        case rel =>
          refine ⟨kk + 1, by omega, by omega, by go_num, hb', (show Aside _ from fun j hl hj => ?_)⟩
          by_cases e : j = kk
          · subst e
            exact Q.out
          · exact A0.out j hl (by omega)
    · have hltz : ¬ (kk : Int) < (xs.length : Int) := by omega
      clear hC hp
      go_wp2
      go_ret
      exact ⟨by rw [idxP_miss (fun j hj => A0.out j hj (by omega))] <;> rfl, BW.out⟩

set_option maxHeartbeats 1000000 in
theorem con106 {α : Type} (d : Kd α) (hd : d.sz = 1) (g : Nat) (lb : Array Value) (eg : ∀ args w, (callFunc g args).run Tryz.prog w = .ok (.enter g args) w) (A : Option Addr) (c : Nat) (xs : List α) (p : α → Bool) (w : World)
    (hC : d.C w A xs.length xs) (hp : PredOn d oneV g lb p xs w) :
    Calls Tryz.prog 106 #[.slice A xs.length c, .func (.func g) #[] lb] w fun e w' => e = .returned (.bool (xs.any p)) ∧ Below w.heap.size w w' := by
  have h := idx141 d hd g lb eg A c xs p w hC hp
  have hany := idxP_any p xs
  generalize xs.any p = r at hany ⊢
  generalize idxP p xs = q at hany h
  subst hany
  clear hC hp
  go_enter Tryz.func106, Tryz.ntmps106
  go_wp2_with (go_at_call 141; refine h.mono ?_; rintro e w' ⟨rfl, hb'⟩)
  go_ret
  exact ⟨rfl, hb'⟩


set_option maxHeartbeats 2000000 in
theorem idx90 {α : Type} (d : Kd α) (hd : d.sz = 3) (g : Nat) (lb : Array Value) (eg : ∀ args w, (callFunc g args).run Tryz.prog w = .ok (.enter g args) w) (A : Option Addr) (c : Nat) (xs : List α) (p : α → Bool) (w : World)
    (hC : d.C w A xs.length xs) (hp : PredOn d aggV g lb p xs w) :
    Calls Tryz.prog 90 #[.slice A xs.length c, .func (.func g) #[] lb] w fun e w' => e = .returned (.int .i64 (idxP p xs)) ∧ Below w.heap.size w w' := by
  have hn : xs.length ≤ 9223372036854775807 := hC.2.1
  go_enter Tryz.func90, Tryz.ntmps90
  go_wp2
  go_loopg [5, 8] xs.length (fun gg _ s8 wr => ∃ kk : Nat, kk ≤ xs.length ∧ xs.length - kk ≤ gg ∧ s8 = .int .i64 kk ∧ Aside (Below w.heap.size w wr) ∧ Aside (∀ j (hj : j < xs.length), j < kk → p xs[j] = false))
  case atStart => exact ⟨0, Nat.zero_le _, by omega, rfl, Below.refl _ w, fun j _ hj => absurd hj (Nat.not_lt_zero _)⟩
  case round =>
    obtain ⟨kk, hkk, hg, rfl, BW, A0⟩ := hrel
    by_cases hlt : kk < xs.length
    · have hltz : (kk : Int) < (xs.length : Int) := by omega
      obtain ⟨ad, rfl⟩ := C_addr hC (by omega)
      obtain ⟨cs, hlen, hK, hcell0⟩ := C_elem (Kd.C_below hC BW.out) kk hlt
      have hcall := hp _ (List.getElem_mem hlt) cs wr BW.out hK
      rw [hd] at hlen
      obtain ⟨c0, c1, c2, rfl⟩ : ∃ c0 c1 c2, cs = [c0, c1, c2] := by
        match cs, hlen with
        | [c0, c1, c2], _ => exact ⟨c0, c1, c2, rfl⟩
      have l0 : wr.cell? (ad.add (kk * 3)) = some c0 := by
        have h := hcell0 0 c0 rfl
        rw [hd] at h; simpa using h
      have l1 : wr.cell? ⟨(ad.add (kk * 3)).block, (ad.add (kk * 3)).off + 1, none⟩ = some c1 := by
        have h := hcell0 1 c1 rfl
        rw [hd, add_field _ _ _ (by decide)] at h; exact h
      have l2 : wr.cell? ⟨(ad.add (kk * 3)).block, (ad.add (kk * 3)).off + 2, none⟩ = some c2 := by
        have h := hcell0 2 c2 rfl
        rw [hd, add_field _ _ _ (by decide)] at h; exact h
      replace hcall : Calls Tryz.prog g (#[.agg #[c0, c1, c2]] ++ lb) wr _ := hcall
      clear hC hp hcell0 hlen
      cases hq : p xs[kk] with
      | true =>
        rw [hq] at hcall
        have Q := Lib.hid hq
        clear hq
        have hcw := hcall.mono fun e w' h => (⟨h.1, BW.out.trans (h.2.mono BW.out.size)⟩ : e = .returned (.bool true) ∧ Below w.heap.size w w')
        clear hcall hK
        go_wp2_with (go_at_fn g; refine hcw.mono ?_; rintro e w' ⟨rfl, hb'⟩)
        go_ret
        exact ⟨by rw [idxP_hit hlt Q.out A0.out] <;> rfl, hb'⟩
      | false =>
        rw [hq] at hcall
        have Q := Lib.hid hq
        clear hq
        have hcw := hcall.mono fun e w' h => (⟨h.1, BW.out.trans (h.2.mono BW.out.size)⟩ : e = .returned (.bool false) ∧ Below w.heap.size w w')
        clear hcall hK
        go_wp2_with (go_at_fn g; refine hcw.mono ?_; rintro e w' ⟨rfl, hb'⟩)
        go_roundg (xs.length - (kk + 1))
        case measure => omega
        case rel =>
          refine ⟨kk + 1, by omega, by omega, by go_num, hb', (show Aside _ from fun j hl hj => ?_)⟩
          by_cases e : j = kk
          · subst e
            exact Q.out
          · exact A0.out j hl (by omega)
    · have hltz : ¬ (kk : Int) < (xs.length : Int) := by omega
      clear hC hp
      go_wp2
      go_ret
      exact ⟨by rw [idxP_miss (fun j hj => A0.out j hj (by omega))] <;> rfl, BW.out⟩

end Go.Proofs.YtlcfpmdamehopaaGreatDoor.PA
/- Function values as they are made. No condition. -/
namespace Go.Proofs.YtlcfpmdamehopaaGreatDoor.PA
open Go.RowKit
theorem makeFunc_run (fn : Fn) (first cap : Array Value) (w : World) : (Instr.makeFunc fn first cap).run Tryz.prog w = .ok (.func fn first cap) w := rfl
end Go.Proofs.YtlcfpmdamehopaaGreatDoor.PA
/- The kit's library contracts laid at this seat's dump by the kit's lay-shelf and lay-plain, and by shelf.py of this repo. -/
namespace Go.Proofs
open Go.Shelf
def Tryz.lays169_ren : Go.Shelf.Ren := ⟨fun | 169 => 40 | n => n, fun | 70 => 70 | 9 => 9 | 0 => 0 | 72 => 72 | 37 => 57 | 127 => 116 | 3 => 3 | 5 => 5 | n => n, fun | n => n⟩
theorem Tryz.lays169 : Go.Proofs.Lays.n169 Tryz.prog Tryz.lays169_ren := {
  mixed := by kernel_rfl
  f169 := Tryz.func40.trans (congrArg some (by kernel_rfl))
  t0 := Tryz.underlying0
  a0 := Tryz.isAgg0
  z0 := Tryz.sizeOf0
  v0 := Tryz.zeroValue0
  t3 := Tryz.underlying3
  a3 := Tryz.isAgg3
  z3 := Tryz.sizeOf3
  v3 := Tryz.zeroValue3
  t9 := Tryz.underlying9
  a9 := Tryz.isAgg9
  z9 := Tryz.sizeOf9
  v9 := Tryz.zeroValue9
  t37 := Tryz.underlying57
  a37 := Tryz.isAgg57
  z37 := Tryz.sizeOf57
  v37 := Tryz.zeroValue57
  t70 := Tryz.underlying70
  a70 := Tryz.isAgg70
  z70 := Tryz.sizeOf70
  v70 := Tryz.zeroValue70
  t72 := Tryz.underlying72
  a72 := Tryz.isAgg72
  z72 := Tryz.sizeOf72
  v72 := Tryz.zeroValue72
  t127 := Tryz.underlying116
  a127 := Tryz.isAgg116
  z127 := Tryz.sizeOf116
  v127 := Tryz.zeroValue116 }
theorem Tryz.Builder_Extra_169 : Builder.Extra Tryz.prog Tryz.lays169_ren := {
  sizeBuilder := by kernel_rfl
  liesBuilder := by kernel_rfl
  t5 := Tryz.underlying5
  a5 := Tryz.isAgg5
  z5 := Tryz.sizeOf5
  v5 := Tryz.zeroValue5
  infoByte := by kernel_rfl
  cellsByte := by kernel_rfl
  sizeByte := by kernel_rfl
  neB5 := by decide }
def Tryz.lays161_ren : Go.Shelf.Ren := ⟨fun | 161 => 126 | 231 => 162 | 227 => 163 | 233 => 164 | 235 => 165 | 228 => 185 | 197 => 159 | 151 => 186 | 260 => 184 | 152 => 195 | 137 => 63 | 119 => 197 | 224 => 156 | 225 => 155 | 217 => 104 | 266 => 136 | n => n, fun | 9 => 9 | 4 => 4 | 3 => 3 | 5 => 5 | 117 => 178 | 116 => 177 | 0 => 0 | 124 => 181 | 105 => 173 | 21 => 21 | 119 => 212 | 46 => 137 | 139 => 215 | 138 => 214 | n => n, fun | 3 => 4 | 4 => 5 | n => n⟩
theorem Tryz.lays161 : Go.Proofs.Lays.n161 Tryz.prog Tryz.lays161_ren := {
  mixed := by kernel_rfl
  f119 := Tryz.func197.trans (congrArg some (by kernel_rfl))
  f137 := Tryz.func63.trans (congrArg some (by kernel_rfl))
  f151 := Tryz.func186.trans (congrArg some (by kernel_rfl))
  f152 := Tryz.func195.trans (congrArg some (by kernel_rfl))
  f161 := Tryz.func126.trans (congrArg some (by kernel_rfl))
  f197 := Tryz.func159.trans (congrArg some (by kernel_rfl))
  f217 := Tryz.func104.trans (congrArg some (by kernel_rfl))
  f224 := Tryz.func156.trans (congrArg some (by kernel_rfl))
  f225 := Tryz.func155.trans (congrArg some (by kernel_rfl))
  f227 := Tryz.func163.trans (congrArg some (by kernel_rfl))
  f228 := Tryz.func185.trans (congrArg some (by kernel_rfl))
  f231 := Tryz.func162.trans (congrArg some (by kernel_rfl))
  f233 := Tryz.func164.trans (congrArg some (by kernel_rfl))
  f235 := Tryz.func165.trans (congrArg some (by kernel_rfl))
  f260 := Tryz.func184.trans (congrArg some (by kernel_rfl))
  f266 := Tryz.func136.trans (congrArg some (by kernel_rfl))
  t0 := Tryz.underlying0
  a0 := Tryz.isAgg0
  z0 := Tryz.sizeOf0
  v0 := Tryz.zeroValue0
  t3 := Tryz.underlying3
  a3 := Tryz.isAgg3
  z3 := Tryz.sizeOf3
  v3 := Tryz.zeroValue3
  t4 := Tryz.underlying4
  a4 := Tryz.isAgg4
  z4 := Tryz.sizeOf4
  v4 := Tryz.zeroValue4
  t5 := Tryz.underlying5
  a5 := Tryz.isAgg5
  z5 := Tryz.sizeOf5
  v5 := Tryz.zeroValue5
  t9 := Tryz.underlying9
  a9 := Tryz.isAgg9
  z9 := Tryz.sizeOf9
  v9 := Tryz.zeroValue9
  t21 := Tryz.underlying21
  a21 := Tryz.isAgg21
  z21 := Tryz.sizeOf21
  v21 := Tryz.zeroValue21
  t46 := Tryz.underlying137
  a46 := Tryz.isAgg137
  z46 := Tryz.sizeOf137
  v46 := Tryz.zeroValue137
  t105 := Tryz.underlying173
  a105 := Tryz.isAgg173
  z105 := Tryz.sizeOf173
  v105 := Tryz.zeroValue173
  t116 := Tryz.underlying177
  a116 := Tryz.isAgg177
  z116 := Tryz.sizeOf177
  t117 := Tryz.underlying178
  a117 := Tryz.isAgg178
  z117 := Tryz.sizeOf178
  v117 := Tryz.zeroValue178
  t119 := Tryz.underlying212
  a119 := Tryz.isAgg212
  z119 := Tryz.sizeOf212
  t124 := Tryz.underlying181
  a124 := Tryz.isAgg181
  z124 := Tryz.sizeOf181
  v124 := Tryz.zeroValue181
  t138 := Tryz.underlying214
  a138 := Tryz.isAgg214
  z138 := Tryz.sizeOf214
  v138 := Tryz.zeroValue214
  t139 := Tryz.underlying215
  a139 := Tryz.isAgg215
  z139 := Tryz.sizeOf215
  v139 := Tryz.zeroValue215
  g3 := by kernel_rfl
  g4 := by kernel_rfl }
open Go.RowKit in
/-- strings.TrimLeft: "TrimLeft returns a slice of the string s with all leading Unicode code points contained in cutset removed.": AT A cutset OF ONE ASCII BYTE. The world is as it was. (LAID: no walk: one application.) -/
theorem Tryz.strings_TrimLeft_one (s : ByteArray) (c : UInt8) (hc : c.toNat < 128) (w : World) :
    Calls Tryz.prog 126 #[.string s, .string ⟨#[c]⟩] w fun e w' => e = .returned (.string ⟨(Lib.trimLeftB s.data.toList c).toArray⟩) ∧ w' = w := Any.strings_TrimLeft_one Tryz.lays161 s c hc w
def Tryz.lays137_ren : Go.Shelf.Ren := ⟨fun | 137 => 63 | 217 => 104 | 266 => 136 | n => n, fun | 9 => 9 | 5 => 5 | 3 => 3 | n => n, fun | n => n⟩
theorem Tryz.lays137 : Go.Proofs.Lays.n137 Tryz.prog Tryz.lays137_ren := {
  mixed := by kernel_rfl
  f137 := Tryz.func63.trans (congrArg some (by kernel_rfl))
  f217 := Tryz.func104.trans (congrArg some (by kernel_rfl))
  f266 := Tryz.func136.trans (congrArg some (by kernel_rfl))
  t3 := Tryz.underlying3
  a3 := Tryz.isAgg3
  z3 := Tryz.sizeOf3
  v3 := Tryz.zeroValue3
  t5 := Tryz.underlying5
  a5 := Tryz.isAgg5
  z5 := Tryz.sizeOf5
  v5 := Tryz.zeroValue5
  t9 := Tryz.underlying9
  a9 := Tryz.isAgg9
  z9 := Tryz.sizeOf9
  v9 := Tryz.zeroValue9 }
open Go.RowKit in
/-- strings.IndexByte: "IndexByte returns the index of the first instance of c in s, or -1 if c is not present in s.": IT RETURNS 'Lib.indexByte s c'; the world is as it was. (LAID: no walk: one application.) -/
theorem Tryz.strings_IndexByte (s : ByteArray) (c : Int) (w : World) :
    Calls Tryz.prog 63 #[.string s, .int .u8 c] w fun e w' => e = .returned (.int .i64 (Lib.indexByte s.data.toList c.toNat.toUInt8)) ∧ w' = w := Any.strings_IndexByte Tryz.lays137 s c w
def Tryz.lays103_ren : Go.Shelf.Ren := ⟨fun | 103 => 42 | 210 => 87 | 206 => 120 | n => n, fun | 9 => 9 | 4 => 4 | 24 => 80 | 3 => 3 | n => n, fun | n => n⟩
theorem Tryz.lays103 : Go.Proofs.Lays.n103 Tryz.prog Tryz.lays103_ren := {
  mixed := by kernel_rfl
  f103 := Tryz.func42.trans (congrArg some (by kernel_rfl))
  f206 := Tryz.func120.trans (congrArg some (by kernel_rfl))
  f210 := Tryz.func87.trans (congrArg some (by kernel_rfl))
  t3 := Tryz.underlying3
  a3 := Tryz.isAgg3
  z3 := Tryz.sizeOf3
  v3 := Tryz.zeroValue3
  t4 := Tryz.underlying4
  a4 := Tryz.isAgg4
  z4 := Tryz.sizeOf4
  v4 := Tryz.zeroValue4
  t9 := Tryz.underlying9
  a9 := Tryz.isAgg9
  z9 := Tryz.sizeOf9
  v9 := Tryz.zeroValue9
  t24 := Tryz.underlying80
  a24 := Tryz.isAgg80
  z24 := Tryz.sizeOf80
  v24 := Tryz.zeroValue80 }
open Go.RowKit in
/-- strings.CutPrefix: "CutPrefix returns s without the provided leading prefix string and reports whether it found the prefix. If s doesn't start with prefix, CutPrefix returns s, false. If prefix is the empty string, CutPrefix returns s, true.": IT RETURNS '(Lib.trimPrefix s p, Lib.hasPrefix s p)'; the world is as it was. (LAID: no walk: one application.) -/
theorem Tryz.strings_CutPrefix (s p : ByteArray) (w : World) :
    Calls Tryz.prog 42 #[.string s, .string p] w fun e w' => e = .returned (.tuple #[.string ⟨(Lib.trimPrefix s.data.toList p.data.toList).toArray⟩, .bool (Lib.hasPrefix s.data.toList p.data.toList)]) ∧ w' = w := Any.strings_CutPrefix Tryz.lays103 s p w
def Tryz.lays104_ren : Go.Shelf.Ren := ⟨fun | 104 => 56 | 211 => 99 | 207 => 129 | n => n, fun | 9 => 9 | 4 => 4 | 24 => 80 | 3 => 3 | n => n, fun | n => n⟩
theorem Tryz.lays104 : Go.Proofs.Lays.n104 Tryz.prog Tryz.lays104_ren := {
  mixed := by kernel_rfl
  f104 := Tryz.func56.trans (congrArg some (by kernel_rfl))
  f207 := Tryz.func129.trans (congrArg some (by kernel_rfl))
  f211 := Tryz.func99.trans (congrArg some (by kernel_rfl))
  t3 := Tryz.underlying3
  a3 := Tryz.isAgg3
  z3 := Tryz.sizeOf3
  v3 := Tryz.zeroValue3
  t4 := Tryz.underlying4
  a4 := Tryz.isAgg4
  z4 := Tryz.sizeOf4
  v4 := Tryz.zeroValue4
  t9 := Tryz.underlying9
  a9 := Tryz.isAgg9
  z9 := Tryz.sizeOf9
  v9 := Tryz.zeroValue9
  t24 := Tryz.underlying80
  a24 := Tryz.isAgg80
  z24 := Tryz.sizeOf80
  v24 := Tryz.zeroValue80 }
open Go.RowKit in
/-- strings.CutSuffix: "CutSuffix returns s without the provided ending suffix string and reports whether it found the suffix. If s doesn't end with suffix, CutSuffix returns s, false. If suffix is the empty string, CutSuffix returns s, true.": IT RETURNS '(Lib.trimSuffix s p, Lib.hasSuffix s p)'; the world is as it was. (LAID: no walk: one application.) -/
theorem Tryz.strings_CutSuffix (s p : ByteArray) (w : World) (hs : s.size ≤ 9223372036854775807) :
    Calls Tryz.prog 56 #[.string s, .string p] w fun e w' => e = .returned (.tuple #[.string ⟨(Lib.trimSuffix s.data.toList p.data.toList).toArray⟩, .bool (Lib.hasSuffix s.data.toList p.data.toList)]) ∧ w' = w := Any.strings_CutSuffix Tryz.lays104 s p w hs
open Go.RowKit in
/-- (*strings.Builder).String: "String returns the accumulated string.": WHATEVER THE BUILDER HOLDS; THE FORM '_f': OF A BUILDER THAT MAY HAVE BEEN READ BEFORE; AND IT IS A BUILDER STILL, holding the same bytes: it can be written on. (LAID: no walk: one application.) -/
theorem Tryz.Builder_String_any_f (B b : Nat) (l : List UInt8) (w : World) (h : Lib.IsBuilderF 72 5 B b (Lib.byteCells l) w) (hBw : B ≤ w.heap.size) :
    Calls Tryz.prog 40 #[.pointer (some ⟨b, 0, none⟩)] w fun e w' => e = .returned (.string ⟨l.toArray⟩) ∧ (Lib.IsBuilderF 72 5 B b (Lib.byteCells l) w' ∧ Below B w w') := Any.Builder_String_any_f Tryz.lays169 Tryz.Builder_Extra_169 B b l w h hBw
def Tryz.laysM171_ren : Go.Shelf.Ren := ⟨fun | 171 => 31 | 243 => 66 | 246 => 105 | 283 => 137 | 284 => 138 | 285 => 139 | 286 => 140 | 129 => 154 | 317 => 170 | 318 => 171 | 319 => 172 | 320 => 173 | 337 => 189 | 338 => 190 | n => n, fun | 3 => 3 | 9 => 9 | 2 => 2 | 4 => 4 | 171 => 154 | 0 => 0 | 53 => 155 | 37 => 57 | 5 => 5 | 173 => 158 | 212 => 189 | 51 => 170 | 20 => 20 | 213 => 190 | 46 => 137 | 232 => 217 | 233 => 218 | n => n, fun | 17 => 3 | 18 => 6 | 19 => 7 | n => n⟩
theorem Tryz.laysM171 : Go.Proofs.LaysM.n171 Tryz.prog Tryz.laysM171_ren := {
  mixed := by kernel_rfl
  f129 := Tryz.func154.trans (congrArg some (by kernel_rfl))
  f171 := Tryz.func31.trans (congrArg some (by kernel_rfl))
  f243 := Tryz.func66.trans (congrArg some (by kernel_rfl))
  f246 := Tryz.func105.trans (congrArg some (by kernel_rfl))
  f283 := Tryz.func137.trans (congrArg some (by kernel_rfl))
  f284 := Tryz.func138.trans (congrArg some (by kernel_rfl))
  f285 := Tryz.func139.trans (congrArg some (by kernel_rfl))
  f286 := Tryz.func140.trans (congrArg some (by kernel_rfl))
  f317 := Tryz.func170.trans (congrArg some (by kernel_rfl))
  f318 := Tryz.func171.trans (congrArg some (by kernel_rfl))
  f319 := Tryz.func172.trans (congrArg some (by kernel_rfl))
  f320 := Tryz.func173.trans (congrArg some (by kernel_rfl))
  f337 := Tryz.func189.trans (congrArg some (by kernel_rfl))
  f338 := Tryz.func190.trans (congrArg some (by kernel_rfl))
  t0 := Tryz.underlying0
  a0 := Tryz.isAgg0
  z0 := Tryz.sizeOf0
  v0 := Tryz.zeroValue0
  t2 := Tryz.underlying2
  a2 := Tryz.isAgg2
  z2 := Tryz.sizeOf2
  v2 := Tryz.zeroValue2
  t3 := Tryz.underlying3
  a3 := Tryz.isAgg3
  z3 := Tryz.sizeOf3
  v3 := Tryz.zeroValue3
  t4 := Tryz.underlying4
  a4 := Tryz.isAgg4
  z4 := Tryz.sizeOf4
  v4 := Tryz.zeroValue4
  t5 := Tryz.underlying5
  a5 := Tryz.isAgg5
  z5 := Tryz.sizeOf5
  v5 := Tryz.zeroValue5
  t9 := Tryz.underlying9
  a9 := Tryz.isAgg9
  z9 := Tryz.sizeOf9
  v9 := Tryz.zeroValue9
  t20 := Tryz.underlying20
  a20 := Tryz.isAgg20
  z20 := Tryz.sizeOf20
  v20 := Tryz.zeroValue20
  t37 := Tryz.underlying57
  a37 := Tryz.isAgg57
  z37 := Tryz.sizeOf57
  v37 := Tryz.zeroValue57
  t46 := Tryz.underlying137
  a46 := Tryz.isAgg137
  z46 := Tryz.sizeOf137
  v46 := Tryz.zeroValue137
  t51 := Tryz.underlying170
  a51 := Tryz.isAgg170
  z51 := Tryz.sizeOf170
  v51 := Tryz.zeroValue170
  t53 := Tryz.underlying155
  a53 := Tryz.isAgg155
  z53 := Tryz.sizeOf155
  v53 := Tryz.zeroValue155
  t171 := Tryz.underlying154
  a171 := Tryz.isAgg154
  z171 := Tryz.sizeOf154
  v171 := Tryz.zeroValue154
  t173 := Tryz.underlying158
  a173 := Tryz.isAgg158
  z173 := Tryz.sizeOf158
  v173 := Tryz.zeroValue158
  t212 := Tryz.underlying189
  a212 := Tryz.isAgg189
  z212 := Tryz.sizeOf189
  v212 := Tryz.zeroValue189
  t213 := Tryz.underlying190
  a213 := Tryz.isAgg190
  z213 := Tryz.sizeOf190
  t232 := Tryz.underlying217
  a232 := Tryz.isAgg217
  z232 := Tryz.sizeOf217
  v232 := Tryz.zeroValue217
  t233 := Tryz.underlying218
  a233 := Tryz.isAgg218
  z233 := Tryz.sizeOf218
  v233 := Tryz.zeroValue218
  g17 := by kernel_rfl
  g18 := by kernel_rfl
  g19 := by kernel_rfl
  i0 := by kernel_rfl
  i2 := by kernel_rfl
  i3 := by kernel_rfl
  i4 := by kernel_rfl
  i5 := by kernel_rfl
  i9 := by kernel_rfl
  i20 := by kernel_rfl
  i37 := by kernel_rfl
  i46 := by kernel_rfl
  i51 := by kernel_rfl
  i53 := by kernel_rfl
  i171 := by kernel_rfl
  i173 := by kernel_rfl
  i212 := by kernel_rfl
  i232 := by kernel_rfl
  i233 := by kernel_rfl
  m17 := by kernel_rfl
  m18 := by kernel_rfl
  m19 := by kernel_rfl }
open Go.RowKit Go.Sort Go.Lib in
/-- strconv.Itoa: "Itoa is equivalent to FormatInt(int64(i), 10).": i's DECIMAL NUMERAL ('Lib.itoa': a '-' where i is negative, then the digits), FOR EVERY int. The world behind the call: the world before it, new blocks behind the heap (the library's 'var a [24]byte'), draws. (LAID: no walk: one application.) -/
theorem Tryz.strconv_Itoa (n : Int) (h0 : -9223372036854775808 ≤ n) (h1 : n ≤ 9223372036854775807) (w : World) (htab : Lib.TabIs Tryz.prog w "internal/strconv.uint64pow10" .u64 Lib.pow10Tab) :
    Calls Tryz.prog 31 #[.int .i64 n] w fun e w' => e = .returned (.string ⟨(Lib.itoa n).toArray⟩) ∧ ∃ k os, w' = grow (w.drewN k) os := Any.strconv_Itoa Tryz.laysM171 n h0 h1 w htab
def Tryz.laysC172_ren : Go.Shelf.Ren := ⟨fun | 172 => 57 | 244 => 100 | 245 => 101 | 247 => 130 | 279 => 131 | 280 => 132 | 281 => 133 | 282 => 134 | 287 => 166 | 316 => 167 | 171 => 31 | 205 => 168 | 321 => 187 | 322 => 188 | 243 => 66 | 246 => 105 | 283 => 137 | 284 => 138 | 285 => 139 | 286 => 140 | 129 => 154 | 317 => 170 | 318 => 171 | 319 => 172 | 320 => 173 | 337 => 189 | 338 => 190 | n => n, fun | 9 => 9 | 3 => 3 | 75 => 74 | 76 => 75 | 4 => 4 | 5 => 5 | 167 => 148 | 37 => 57 | 0 => 0 | 85 => 149 | 2 => 2 | 168 => 151 | 53 => 155 | 175 => 182 | 46 => 137 | 210 => 186 | 127 => 116 | 145 => 206 | 143 => 204 | 21 => 21 | 171 => 154 | 173 => 158 | 212 => 189 | 51 => 170 | 20 => 20 | 213 => 190 | 232 => 217 | 233 => 218 | 80 => 77 | n => n, fun | 15 => 1 | 16 => 2 | 17 => 3 | 18 => 6 | 19 => 7 | n => n⟩
theorem Tryz.laysC172 : Go.Proofs.LaysC.n172 Tryz.prog Tryz.laysC172_ren := {
  mixed := by kernel_rfl
  f129 := Tryz.func154.trans (congrArg some (by kernel_rfl))
  f171 := Tryz.func31.trans (congrArg some (by kernel_rfl))
  f172 := Tryz.func57.trans (congrArg some (by kernel_rfl))
  f205 := Tryz.func168.trans (congrArg some (by kernel_rfl))
  f243 := Tryz.func66.trans (congrArg some (by kernel_rfl))
  f244 := Tryz.func100.trans (congrArg some (by kernel_rfl))
  f245 := Tryz.func101.trans (congrArg some (by kernel_rfl))
  f246 := Tryz.func105.trans (congrArg some (by kernel_rfl))
  f247 := Tryz.func130.trans (congrArg some (by kernel_rfl))
  f279 := Tryz.func131.trans (congrArg some (by kernel_rfl))
  f280 := Tryz.func132.trans (congrArg some (by kernel_rfl))
  f281 := Tryz.func133.trans (congrArg some (by kernel_rfl))
  f282 := Tryz.func134.trans (congrArg some (by kernel_rfl))
  f283 := Tryz.func137.trans (congrArg some (by kernel_rfl))
  f284 := Tryz.func138.trans (congrArg some (by kernel_rfl))
  f285 := Tryz.func139.trans (congrArg some (by kernel_rfl))
  f286 := Tryz.func140.trans (congrArg some (by kernel_rfl))
  f287 := Tryz.func166.trans (congrArg some (by kernel_rfl))
  f316 := Tryz.func167.trans (congrArg some (by kernel_rfl))
  f317 := Tryz.func170.trans (congrArg some (by kernel_rfl))
  f318 := Tryz.func171.trans (congrArg some (by kernel_rfl))
  f319 := Tryz.func172.trans (congrArg some (by kernel_rfl))
  f320 := Tryz.func173.trans (congrArg some (by kernel_rfl))
  f321 := Tryz.func187.trans (congrArg some (by kernel_rfl))
  f322 := Tryz.func188.trans (congrArg some (by kernel_rfl))
  f337 := Tryz.func189.trans (congrArg some (by kernel_rfl))
  f338 := Tryz.func190.trans (congrArg some (by kernel_rfl))
  t0 := Tryz.underlying0
  a0 := Tryz.isAgg0
  z0 := Tryz.sizeOf0
  v0 := Tryz.zeroValue0
  t2 := Tryz.underlying2
  a2 := Tryz.isAgg2
  z2 := Tryz.sizeOf2
  v2 := Tryz.zeroValue2
  t3 := Tryz.underlying3
  a3 := Tryz.isAgg3
  z3 := Tryz.sizeOf3
  v3 := Tryz.zeroValue3
  t4 := Tryz.underlying4
  a4 := Tryz.isAgg4
  z4 := Tryz.sizeOf4
  v4 := Tryz.zeroValue4
  t5 := Tryz.underlying5
  a5 := Tryz.isAgg5
  z5 := Tryz.sizeOf5
  v5 := Tryz.zeroValue5
  t9 := Tryz.underlying9
  a9 := Tryz.isAgg9
  z9 := Tryz.sizeOf9
  v9 := Tryz.zeroValue9
  t20 := Tryz.underlying20
  a20 := Tryz.isAgg20
  z20 := Tryz.sizeOf20
  v20 := Tryz.zeroValue20
  t21 := Tryz.underlying21
  a21 := Tryz.isAgg21
  z21 := Tryz.sizeOf21
  v21 := Tryz.zeroValue21
  t37 := Tryz.underlying57
  a37 := Tryz.isAgg57
  z37 := Tryz.sizeOf57
  v37 := Tryz.zeroValue57
  t46 := Tryz.underlying137
  a46 := Tryz.isAgg137
  z46 := Tryz.sizeOf137
  v46 := Tryz.zeroValue137
  t51 := Tryz.underlying170
  a51 := Tryz.isAgg170
  z51 := Tryz.sizeOf170
  v51 := Tryz.zeroValue170
  t53 := Tryz.underlying155
  a53 := Tryz.isAgg155
  z53 := Tryz.sizeOf155
  v53 := Tryz.zeroValue155
  t75 := Tryz.underlying74
  a75 := Tryz.isAgg74
  z75 := Tryz.sizeOf74
  v75 := Tryz.zeroValue74
  t76 := Tryz.underlying75
  a76 := Tryz.isAgg75
  z76 := Tryz.sizeOf75
  v76 := Tryz.zeroValue75
  t85 := Tryz.underlying149
  a85 := Tryz.isAgg149
  z85 := Tryz.sizeOf149
  v85 := Tryz.zeroValue149
  t127 := Tryz.underlying116
  a127 := Tryz.isAgg116
  z127 := Tryz.sizeOf116
  v127 := Tryz.zeroValue116
  t143 := Tryz.underlying204
  a143 := Tryz.isAgg204
  z143 := Tryz.sizeOf204
  v143 := Tryz.zeroValue204
  t145 := Tryz.underlying206
  a145 := Tryz.isAgg206
  z145 := Tryz.sizeOf206
  v145 := Tryz.zeroValue206
  t167 := Tryz.underlying148
  a167 := Tryz.isAgg148
  z167 := Tryz.sizeOf148
  v167 := Tryz.zeroValue148
  t168 := Tryz.underlying151
  a168 := Tryz.isAgg151
  z168 := Tryz.sizeOf151
  v168 := Tryz.zeroValue151
  t171 := Tryz.underlying154
  a171 := Tryz.isAgg154
  z171 := Tryz.sizeOf154
  v171 := Tryz.zeroValue154
  t173 := Tryz.underlying158
  a173 := Tryz.isAgg158
  z173 := Tryz.sizeOf158
  v173 := Tryz.zeroValue158
  t175 := Tryz.underlying182
  a175 := Tryz.isAgg182
  z175 := Tryz.sizeOf182
  v175 := Tryz.zeroValue182
  t210 := Tryz.underlying186
  a210 := Tryz.isAgg186
  z210 := Tryz.sizeOf186
  v210 := Tryz.zeroValue186
  t212 := Tryz.underlying189
  a212 := Tryz.isAgg189
  z212 := Tryz.sizeOf189
  v212 := Tryz.zeroValue189
  t213 := Tryz.underlying190
  a213 := Tryz.isAgg190
  z213 := Tryz.sizeOf190
  t232 := Tryz.underlying217
  a232 := Tryz.isAgg217
  z232 := Tryz.sizeOf217
  v232 := Tryz.zeroValue217
  t233 := Tryz.underlying218
  a233 := Tryz.isAgg218
  z233 := Tryz.sizeOf218
  v233 := Tryz.zeroValue218
  g15 := by kernel_rfl
  g16 := by kernel_rfl
  g17 := by kernel_rfl
  g18 := by kernel_rfl
  g19 := by kernel_rfl
  t80 := Tryz.underlying77
  a80 := Tryz.isAgg77
  z80 := Tryz.sizeOf77
  v80 := Tryz.zeroValue77
  i0 := by kernel_rfl
  i2 := by kernel_rfl
  i3 := by kernel_rfl
  i4 := by kernel_rfl
  i5 := by kernel_rfl
  i9 := by kernel_rfl
  i20 := by kernel_rfl
  i21 := by kernel_rfl
  i37 := by kernel_rfl
  i46 := by kernel_rfl
  i51 := by kernel_rfl
  i53 := by kernel_rfl
  i75 := by kernel_rfl
  i76 := by kernel_rfl
  i80 := by kernel_rfl
  i85 := by kernel_rfl
  i127 := by kernel_rfl
  i143 := by kernel_rfl
  i145 := by kernel_rfl
  i167 := by kernel_rfl
  i168 := by kernel_rfl
  i171 := by kernel_rfl
  i173 := by kernel_rfl
  i175 := by kernel_rfl
  i210 := by kernel_rfl
  i212 := by kernel_rfl
  i232 := by kernel_rfl
  i233 := by kernel_rfl
  m15 := by kernel_rfl
  m16 := by kernel_rfl
  m17 := by kernel_rfl
  m18 := by kernel_rfl
  m19 := by kernel_rfl
  c0 := by kernel_rfl
  c2 := by kernel_rfl
  c3 := by kernel_rfl
  c4 := by kernel_rfl
  c5 := by kernel_rfl
  c9 := by kernel_rfl
  c20 := by kernel_rfl
  c21 := by kernel_rfl
  c37 := by kernel_rfl
  c46 := by kernel_rfl
  c51 := by kernel_rfl
  c53 := by kernel_rfl
  c75 := by kernel_rfl
  c76 := by kernel_rfl
  c80 := by kernel_rfl
  c85 := by kernel_rfl
  c127 := by kernel_rfl
  c143 := by kernel_rfl
  c145 := by kernel_rfl
  c167 := by kernel_rfl
  c168 := by kernel_rfl
  c171 := by kernel_rfl
  c173 := by kernel_rfl
  c175 := by kernel_rfl
  c210 := by kernel_rfl
  c212 := by kernel_rfl
  c213 := by kernel_rfl
  c232 := by kernel_rfl
  c233 := by kernel_rfl }
open Go.RowKit in
/-- strconv.Atoi, AT EVERY STRING THAT SPELLS AN int ('Lib.atoiAll .. = .ok v'; of whatever length: leading zeros count): v, AND NO ERROR. The world: as it was, or with the one new row that '[]byte(..)' lays. (LAID: no walk: one application.) -/
theorem Tryz.strconv_Atoi_ok (s : ByteArray) (hmax : s.size ≤ 9223372036854775806) (v : Int) (h : Lib.atoiAll s.data.toList = .ok v) (w : World) :
    Calls Tryz.prog 57 #[.string s] w fun e w' => e = .returned (.tuple #[.int .i64 v, .nilIface]) ∧ (w' = w ∨ ∃ t, w' = Lib.bytesWorld w 5 t) := Any.strconv_Atoi_ok Tryz.laysC172 s hmax v h w
open Go.RowKit in
/-- strconv.Atoi, AT EVERY STRING THAT IS NO DECIMAL NUMERAL ('.syntax'): 0, AND AN ERROR THAT IS NOT nil: a *NumError in a new block N: {Func: "Atoi", Num: s's bytes, Err: what the variable ErrSyntax holds}. Of what was there nothing has turned. (LAID: no walk: one application.) -/
theorem Tryz.strconv_Atoi_syntax (s : ByteArray) (hlim : s.size ≤ 281474976710656) (h0 : ∀ v, Lib.atoiAll s.data.toList ≠ .ok v) (h1 : Lib.atoiAll s.data.toList ≠ .range) (ev : Value) (w : World) (hv : w.cell? ⟨1, 0, none⟩ = some ev) (hev : ev = .nilIface ∨ ∃ te pe, ev = .iface te pe) :
    Calls Tryz.prog 57 #[.string s] w fun e w' => ∃ N, e = .returned (.tuple #[.int .i64 (0), .iface 151 (.pointer (some ⟨N, 0, none⟩))]) ∧ w.heap.size ≤ N ∧ w'.heap[N]? = some (.cells #[.string ⟨#[65, 116, 111, 105]⟩, .string s, ev] 186 (0, 0)) ∧ Below w.heap.size w w' := by
  cases e : Lib.atoiAll s.data.toList with
  | ok v => exact absurd e (h0 v)
  | range => exact absurd e h1
  | _ => exact Any.strconv_Atoi_syntax Tryz.laysC172 s hlim e ev w hv hev
open Go.RowKit in
/-- strconv.Atoi, AT EVERY NUMERAL THAT NO int HOLDS ('.range'): THE GREATEST OR THE LEAST int, BY THE SIGN ('Lib.atoiSat'), AND AN ERROR THAT IS NOT nil: a *NumError in a new block N: {Func: "Atoi", Num: s's bytes, Err: what the variable ErrRange holds}. Of what was there nothing has turned. (LAID: no walk: one application.) -/
theorem Tryz.strconv_Atoi_range (s : ByteArray) (hlim : s.size ≤ 281474976710656) (h : Lib.atoiAll s.data.toList = .range) (ev : Value) (w : World) (hv : w.cell? ⟨2, 0, none⟩ = some ev) (hev : ev = .nilIface ∨ ∃ te pe, ev = .iface te pe) :
    Calls Tryz.prog 57 #[.string s] w fun e w' => ∃ N, e = .returned (.tuple #[.int .i64 (Lib.atoiSat s.data.toList), .iface 151 (.pointer (some ⟨N, 0, none⟩))]) ∧ w.heap.size ≤ N ∧ w'.heap[N]? = some (.cells #[.string ⟨#[65, 116, 111, 105]⟩, .string s, ev] 186 (0, 0)) ∧ Below w.heap.size w w' := Any.strconv_Atoi_range Tryz.laysC172 s hlim h ev w hv hev
def Tryz.lays145_ren : Go.Shelf.Ren := ⟨fun | 145 => 41 | 220 => 86 | 219 => 119 | 217 => 104 | 225 => 155 | 224 => 156 | 267 => 157 | 266 => 136 | 314 => 183 | n => n, fun | 9 => 9 | 4 => 4 | 59 => 78 | 3 => 3 | 5 => 5 | 46 => 137 | 146 => 200 | 51 => 170 | n => n, fun | 1 => 0 | n => n⟩
theorem Tryz.lays145 : Go.Proofs.Lays.n145 Tryz.prog Tryz.lays145_ren := {
  mixed := by kernel_rfl
  f145 := Tryz.func41.trans (congrArg some (by kernel_rfl))
  f217 := Tryz.func104.trans (congrArg some (by kernel_rfl))
  f219 := Tryz.func119.trans (congrArg some (by kernel_rfl))
  f220 := Tryz.func86.trans (congrArg some (by kernel_rfl))
  f224 := Tryz.func156.trans (congrArg some (by kernel_rfl))
  f225 := Tryz.func155.trans (congrArg some (by kernel_rfl))
  f266 := Tryz.func136.trans (congrArg some (by kernel_rfl))
  f267 := Tryz.func157.trans (congrArg some (by kernel_rfl))
  f314 := Tryz.func183.trans (congrArg some (by kernel_rfl))
  t3 := Tryz.underlying3
  a3 := Tryz.isAgg3
  z3 := Tryz.sizeOf3
  v3 := Tryz.zeroValue3
  t4 := Tryz.underlying4
  a4 := Tryz.isAgg4
  z4 := Tryz.sizeOf4
  v4 := Tryz.zeroValue4
  t5 := Tryz.underlying5
  a5 := Tryz.isAgg5
  z5 := Tryz.sizeOf5
  v5 := Tryz.zeroValue5
  t9 := Tryz.underlying9
  a9 := Tryz.isAgg9
  z9 := Tryz.sizeOf9
  v9 := Tryz.zeroValue9
  t46 := Tryz.underlying137
  a46 := Tryz.isAgg137
  z46 := Tryz.sizeOf137
  v46 := Tryz.zeroValue137
  t51 := Tryz.underlying170
  a51 := Tryz.isAgg170
  z51 := Tryz.sizeOf170
  v51 := Tryz.zeroValue170
  t59 := Tryz.underlying78
  a59 := Tryz.isAgg78
  z59 := Tryz.sizeOf78
  v59 := Tryz.zeroValue78
  t146 := Tryz.underlying200
  a146 := Tryz.isAgg200
  z146 := Tryz.sizeOf200
  v146 := Tryz.zeroValue200
  g1 := by kernel_rfl }
open Go.RowKit Go.Lib in
/-- strings.Cut: "Cut slices s around the first instance of sep, returning the text before and after sep. The found result reports whether sep appears in s. If sep does not appear in s, cut returns s, "", false.": IT RETURNS 'Lib.cut s sep'; the world is as it was but for the count of draws. (LAID: no walk: one application.) -/
theorem Tryz.strings_Cut (s sep : ByteArray) (m : Int) (w : World) (hs : s.size < 4294967281) (hm : w.cell? ⟨0, 0, none⟩ = some (.int .i64 m)) :
    Calls Tryz.prog 41 #[.string s, .string sep] w fun e w' => e = .returned (.tuple #[.string ⟨(Lib.cut s.data.toList sep.data.toList).1.toArray⟩, .string ⟨(Lib.cut s.data.toList sep.data.toList).2.1.toArray⟩, .bool (Lib.cut s.data.toList sep.data.toList).2.2]) ∧ ∃ n, w' = w.drewN n := Any.strings_Cut Tryz.lays145 s sep m w hs hm
def Tryz.lays99_ren : Go.Shelf.Ren := ⟨fun | 99 => 92 | 206 => 120 | n => n, fun | 9 => 9 | 4 => 4 | 3 => 3 | n => n, fun | n => n⟩
theorem Tryz.lays99 : Go.Proofs.Lays.n99 Tryz.prog Tryz.lays99_ren := {
  mixed := by kernel_rfl
  f99 := Tryz.func92.trans (congrArg some (by kernel_rfl))
  f206 := Tryz.func120.trans (congrArg some (by kernel_rfl))
  t3 := Tryz.underlying3
  a3 := Tryz.isAgg3
  z3 := Tryz.sizeOf3
  v3 := Tryz.zeroValue3
  t4 := Tryz.underlying4
  a4 := Tryz.isAgg4
  z4 := Tryz.sizeOf4
  v4 := Tryz.zeroValue4
  t9 := Tryz.underlying9
  a9 := Tryz.isAgg9
  z9 := Tryz.sizeOf9
  v9 := Tryz.zeroValue9 }
open Go.RowKit Go.Lib in
/-- strings.HasPrefix: "HasPrefix reports whether the string s begins with prefix.": IT RETURNS 'Lib.hasPrefix s prefix'; the world is as it was. (LAID: no walk: one application.) -/
theorem Tryz.strings_HasPrefix (s p : ByteArray) (w : World) :
    Calls Tryz.prog 92 #[.string s, .string p] w fun e w' => e = .returned (.bool (Lib.hasPrefix s.data.toList p.data.toList)) ∧ w' = w := Any.strings_HasPrefix Tryz.lays99 s p w
def Tryz.lays146_ren : Go.Shelf.Ren := ⟨fun | 146 => 53 | 221 => 93 | 268 => 121 | 138 => 122 | 143 => 123 | 195 => 158 | 197 => 159 | 218 => 160 | 219 => 119 | 260 => 184 | 217 => 104 | 225 => 155 | 224 => 156 | 267 => 157 | 266 => 136 | 314 => 183 | n => n, fun | 9 => 9 | 31 => 96 | 3 => 3 | 4 => 4 | 0 => 0 | 105 => 173 | 21 => 21 | 5 => 5 | 46 => 137 | 119 => 212 | 139 => 215 | 138 => 214 | 146 => 200 | 51 => 170 | n => n, fun | 1 => 0 | 3 => 4 | 4 => 5 | n => n⟩
theorem Tryz.lays146 : Go.Proofs.Lays.n146 Tryz.prog Tryz.lays146_ren := {
  mixed := by kernel_rfl
  f138 := Tryz.func122.trans (congrArg some (by kernel_rfl))
  f143 := Tryz.func123.trans (congrArg some (by kernel_rfl))
  f146 := Tryz.func53.trans (congrArg some (by kernel_rfl))
  f195 := Tryz.func158.trans (congrArg some (by kernel_rfl))
  f197 := Tryz.func159.trans (congrArg some (by kernel_rfl))
  f217 := Tryz.func104.trans (congrArg some (by kernel_rfl))
  f218 := Tryz.func160.trans (congrArg some (by kernel_rfl))
  f219 := Tryz.func119.trans (congrArg some (by kernel_rfl))
  f221 := Tryz.func93.trans (congrArg some (by kernel_rfl))
  f224 := Tryz.func156.trans (congrArg some (by kernel_rfl))
  f225 := Tryz.func155.trans (congrArg some (by kernel_rfl))
  f260 := Tryz.func184.trans (congrArg some (by kernel_rfl))
  f266 := Tryz.func136.trans (congrArg some (by kernel_rfl))
  f267 := Tryz.func157.trans (congrArg some (by kernel_rfl))
  f268 := Tryz.func121.trans (congrArg some (by kernel_rfl))
  f314 := Tryz.func183.trans (congrArg some (by kernel_rfl))
  t0 := Tryz.underlying0
  a0 := Tryz.isAgg0
  z0 := Tryz.sizeOf0
  v0 := Tryz.zeroValue0
  t3 := Tryz.underlying3
  a3 := Tryz.isAgg3
  z3 := Tryz.sizeOf3
  v3 := Tryz.zeroValue3
  t4 := Tryz.underlying4
  a4 := Tryz.isAgg4
  z4 := Tryz.sizeOf4
  v4 := Tryz.zeroValue4
  t5 := Tryz.underlying5
  a5 := Tryz.isAgg5
  z5 := Tryz.sizeOf5
  v5 := Tryz.zeroValue5
  t9 := Tryz.underlying9
  a9 := Tryz.isAgg9
  z9 := Tryz.sizeOf9
  v9 := Tryz.zeroValue9
  t21 := Tryz.underlying21
  a21 := Tryz.isAgg21
  z21 := Tryz.sizeOf21
  v21 := Tryz.zeroValue21
  t31 := Tryz.underlying96
  a31 := Tryz.isAgg96
  z31 := Tryz.sizeOf96
  v31 := Tryz.zeroValue96
  t46 := Tryz.underlying137
  a46 := Tryz.isAgg137
  z46 := Tryz.sizeOf137
  v46 := Tryz.zeroValue137
  t51 := Tryz.underlying170
  a51 := Tryz.isAgg170
  z51 := Tryz.sizeOf170
  v51 := Tryz.zeroValue170
  t105 := Tryz.underlying173
  a105 := Tryz.isAgg173
  z105 := Tryz.sizeOf173
  v105 := Tryz.zeroValue173
  t119 := Tryz.underlying212
  a119 := Tryz.isAgg212
  z119 := Tryz.sizeOf212
  t138 := Tryz.underlying214
  a138 := Tryz.isAgg214
  z138 := Tryz.sizeOf214
  v138 := Tryz.zeroValue214
  t139 := Tryz.underlying215
  a139 := Tryz.isAgg215
  z139 := Tryz.sizeOf215
  v139 := Tryz.zeroValue215
  t146 := Tryz.underlying200
  a146 := Tryz.isAgg200
  z146 := Tryz.sizeOf200
  v146 := Tryz.zeroValue200
  g1 := by kernel_rfl
  g3 := by kernel_rfl
  g4 := by kernel_rfl }
open Go.RowKit Go.Lib in
/-- strings.Split. (LAID: no walk: one application.) -/
theorem Tryz.strings_Split (s sep : ByteArray) (m : Int) (w : World) (hs : s.size < 4294967281) (hm : w.cell? ⟨0, 0, none⟩ = some (.int .i64 m)) (h1 : 1 ≤ sep.size) :
    Calls Tryz.prog 53 #[.string s, .string sep] w fun e w' =>
      e = .returned (.slice (some ⟨w.heap.size, 0, none⟩) (Lib.countB s sep + 1) (Lib.countB s sep + 1)) ∧ w' = w.alloc (.cells ((Lib.splitB sep 0 (Lib.countB s sep) s).map Value.string).toArray 9) := Any.strings_Split Tryz.lays146 (by kernel_rfl) s sep m w hs hm h1
def Tryz.lays155_ren : Go.Shelf.Ren := ⟨fun | 155 => 110 | 154 => 143 | 138 => 122 | 165 => 177 | 143 => 123 | 166 => 39 | 197 => 159 | 169 => 40 | 195 => 158 | 218 => 160 | 240 => 85 | 241 => 193 | 219 => 119 | 260 => 184 | 276 => 118 | 277 => 196 | 217 => 104 | 225 => 155 | 224 => 156 | 267 => 157 | 266 => 136 | 314 => 183 | n => n, fun | 9 => 9 | 3 => 3 | 4 => 4 | 72 => 72 | 0 => 0 | 76 => 75 | 105 => 173 | 21 => 21 | 5 => 5 | 70 => 70 | 20 => 20 | 37 => 57 | 75 => 74 | 127 => 116 | 164 => 140 | 46 => 137 | 119 => 212 | 139 => 215 | 138 => 214 | 146 => 200 | 51 => 170 | 80 => 77 | n => n, fun | 1 => 0 | 3 => 4 | 4 => 5 | n => n⟩
theorem Tryz.lays155 : Go.Proofs.Lays.n155 Tryz.prog Tryz.lays155_ren := {
  mixed := by kernel_rfl
  f138 := Tryz.func122.trans (congrArg some (by kernel_rfl))
  f143 := Tryz.func123.trans (congrArg some (by kernel_rfl))
  f154 := Tryz.func143.trans (congrArg some (by kernel_rfl))
  f155 := Tryz.func110.trans (congrArg some (by kernel_rfl))
  f165 := Tryz.func177.trans (congrArg some (by kernel_rfl))
  f166 := Tryz.func39.trans (congrArg some (by kernel_rfl))
  f169 := Tryz.func40.trans (congrArg some (by kernel_rfl))
  f195 := Tryz.func158.trans (congrArg some (by kernel_rfl))
  f197 := Tryz.func159.trans (congrArg some (by kernel_rfl))
  f217 := Tryz.func104.trans (congrArg some (by kernel_rfl))
  f218 := Tryz.func160.trans (congrArg some (by kernel_rfl))
  f219 := Tryz.func119.trans (congrArg some (by kernel_rfl))
  f224 := Tryz.func156.trans (congrArg some (by kernel_rfl))
  f225 := Tryz.func155.trans (congrArg some (by kernel_rfl))
  f240 := Tryz.func85.trans (congrArg some (by kernel_rfl))
  f241 := Tryz.func193.trans (congrArg some (by kernel_rfl))
  f260 := Tryz.func184.trans (congrArg some (by kernel_rfl))
  f266 := Tryz.func136.trans (congrArg some (by kernel_rfl))
  f267 := Tryz.func157.trans (congrArg some (by kernel_rfl))
  f276 := Tryz.func118.trans (congrArg some (by kernel_rfl))
  f277 := Tryz.func196.trans (congrArg some (by kernel_rfl))
  f314 := Tryz.func183.trans (congrArg some (by kernel_rfl))
  t0 := Tryz.underlying0
  a0 := Tryz.isAgg0
  z0 := Tryz.sizeOf0
  v0 := Tryz.zeroValue0
  t3 := Tryz.underlying3
  a3 := Tryz.isAgg3
  z3 := Tryz.sizeOf3
  v3 := Tryz.zeroValue3
  t4 := Tryz.underlying4
  a4 := Tryz.isAgg4
  z4 := Tryz.sizeOf4
  v4 := Tryz.zeroValue4
  t5 := Tryz.underlying5
  a5 := Tryz.isAgg5
  z5 := Tryz.sizeOf5
  v5 := Tryz.zeroValue5
  t9 := Tryz.underlying9
  a9 := Tryz.isAgg9
  z9 := Tryz.sizeOf9
  v9 := Tryz.zeroValue9
  t20 := Tryz.underlying20
  a20 := Tryz.isAgg20
  z20 := Tryz.sizeOf20
  v20 := Tryz.zeroValue20
  t21 := Tryz.underlying21
  a21 := Tryz.isAgg21
  z21 := Tryz.sizeOf21
  v21 := Tryz.zeroValue21
  t37 := Tryz.underlying57
  a37 := Tryz.isAgg57
  z37 := Tryz.sizeOf57
  v37 := Tryz.zeroValue57
  t46 := Tryz.underlying137
  a46 := Tryz.isAgg137
  z46 := Tryz.sizeOf137
  v46 := Tryz.zeroValue137
  t51 := Tryz.underlying170
  a51 := Tryz.isAgg170
  z51 := Tryz.sizeOf170
  v51 := Tryz.zeroValue170
  t70 := Tryz.underlying70
  a70 := Tryz.isAgg70
  z70 := Tryz.sizeOf70
  v70 := Tryz.zeroValue70
  t72 := Tryz.underlying72
  a72 := Tryz.isAgg72
  z72 := Tryz.sizeOf72
  v72 := Tryz.zeroValue72
  t75 := Tryz.underlying74
  a75 := Tryz.isAgg74
  z75 := Tryz.sizeOf74
  v75 := Tryz.zeroValue74
  t76 := Tryz.underlying75
  a76 := Tryz.isAgg75
  z76 := Tryz.sizeOf75
  v76 := Tryz.zeroValue75
  t105 := Tryz.underlying173
  a105 := Tryz.isAgg173
  z105 := Tryz.sizeOf173
  v105 := Tryz.zeroValue173
  t119 := Tryz.underlying212
  a119 := Tryz.isAgg212
  z119 := Tryz.sizeOf212
  t127 := Tryz.underlying116
  a127 := Tryz.isAgg116
  z127 := Tryz.sizeOf116
  v127 := Tryz.zeroValue116
  t138 := Tryz.underlying214
  a138 := Tryz.isAgg214
  z138 := Tryz.sizeOf214
  v138 := Tryz.zeroValue214
  t139 := Tryz.underlying215
  a139 := Tryz.isAgg215
  z139 := Tryz.sizeOf215
  v139 := Tryz.zeroValue215
  t146 := Tryz.underlying200
  a146 := Tryz.isAgg200
  z146 := Tryz.sizeOf200
  v146 := Tryz.zeroValue200
  t164 := Tryz.underlying140
  a164 := Tryz.isAgg140
  z164 := Tryz.sizeOf140
  v164 := Tryz.zeroValue140
  g1 := by kernel_rfl
  g3 := by kernel_rfl
  g4 := by kernel_rfl }
theorem Tryz.Builder_Extra_155 : Builder.Extra Tryz.prog Tryz.lays155_ren := {
  sizeBuilder := by kernel_rfl
  liesBuilder := by kernel_rfl
  t5 := Tryz.underlying5
  a5 := Tryz.isAgg5
  z5 := Tryz.sizeOf5
  v5 := Tryz.zeroValue5
  infoByte := by kernel_rfl
  cellsByte := by kernel_rfl
  sizeByte := by kernel_rfl
  neB5 := by decide }
open Go.RowKit Go.Lib in
/-- strings.ReplaceAll: "ReplaceAll returns a copy of the string s with all non-overlapping instances of old replaced by new.": AT AN old THAT IS NOT EMPTY: 'Lib.replaceAll s old new'. (LAID: no walk: one application.) -/
theorem Tryz.strings_ReplaceAll (s old new : ByteArray) (m : Int) (w : World) (hs : s.size < 4294967281) (hm : w.cell? ⟨0, 0, none⟩ = some (.int .i64 m)) (h1 : 1 ≤ old.size) (hlen : s.size + Lib.countB s old * new.size ≤ 140737488355328) :
    Calls Tryz.prog 110 #[.string s, .string old, .string new] w fun e w' =>
      e = .returned (.string ⟨(Lib.replaceAll s.data.toList old.data.toList new.data.toList).toArray⟩) ∧ Below w.heap.size w w' := Any.strings_ReplaceAll Tryz.lays155 Tryz.Builder_Extra_155 s old new m w hs hm h1 hlen
def Tryz.lays110_ren : Go.Shelf.Ren := ⟨fun | 110 => 174 | 109 => 191 | n => n, fun | 31 => 96 | 9 => 9 | 4 => 4 | 3 => 3 | 0 => 0 | n => n, fun | n => n⟩
theorem Tryz.lays110 : Go.Proofs.Lays.n110 Tryz.prog Tryz.lays110_ren := {
  mixed := by kernel_rfl
  f109 := Tryz.func191.trans (congrArg some (by kernel_rfl))
  f110 := Tryz.func174.trans (congrArg some (by kernel_rfl))
  t0 := Tryz.underlying0
  a0 := Tryz.isAgg0
  z0 := Tryz.sizeOf0
  v0 := Tryz.zeroValue0
  t3 := Tryz.underlying3
  a3 := Tryz.isAgg3
  z3 := Tryz.sizeOf3
  v3 := Tryz.zeroValue3
  t4 := Tryz.underlying4
  a4 := Tryz.isAgg4
  z4 := Tryz.sizeOf4
  v4 := Tryz.zeroValue4
  t9 := Tryz.underlying9
  a9 := Tryz.isAgg9
  z9 := Tryz.sizeOf9
  v9 := Tryz.zeroValue9
  t31 := Tryz.underlying96
  a31 := Tryz.isAgg96
  z31 := Tryz.sizeOf96
  v31 := Tryz.zeroValue96 }
open Go.Lib in
/-- slices.Contains at []string: "Contains reports whether v is present in s.": IT RETURNS 'Lib.containsS (the elements) v', which is true just where v is among them ('Lib.containsS_iff'); the world is as it was. ITS CALLEE slices.Index IS MET BY ITS OWN CONTRACT OFF THE SHELF (lay that first): no loop is walked here. (LAID: no walk: one application.) -/
theorem Tryz.slices_Contains_string (b off n c : Nat) (zs : List ByteArray) (x : ByteArray) (w : World) (hz : n ≤ zs.length) (hbig : n ≤ 9223372036854775807) (hc : ∀ j, j < zs.length → w.cell? ⟨b, off + j, none⟩ = some (.string (zs.getD j ByteArray.empty))) :
    Calls Tryz.prog 174 #[.slice (some ⟨b, off, none⟩) n c, .string x] w fun e w' => e = .returned (.bool (Lib.containsS (zs.take n) x)) ∧ w' = w := Any.slices_Contains_string Tryz.lays110 b off n c zs x w hz hbig hc
open Go.Lib in
/-- The same at a slice of length 0, a nil one too. (LAID: no walk: one application.) -/
theorem Tryz.slices_Contains_string_empty (a : Option Addr) (c : Nat) (x : ByteArray) (w : World) :
    Calls Tryz.prog 174 #[.slice a 0 c, .string x] w fun e w' => e = .returned (.bool false) ∧ w' = w := Any.slices_Contains_string_empty Tryz.lays110 a c x w
def Tryz.laysB_ren : Go.Shelf.Ren := ⟨fun | 166 => 39 | 167 => 109 | 240 => 85 | 276 => 118 | n => n, fun | 0 => 0 | 3 => 3 | 4 => 4 | 5 => 5 | 9 => 9 | 20 => 20 | 37 => 57 | 70 => 70 | 72 => 72 | 75 => 74 | 164 => 140 | 80 => 77 | n => n, fun | n => n⟩
theorem Tryz.lays166 : Go.Proofs.Lays.n166 Tryz.prog Tryz.laysB_ren := {
  mixed := by kernel_rfl
  f166 := Tryz.func39.trans (congrArg some (by kernel_rfl))
  f240 := Tryz.func85.trans (congrArg some (by kernel_rfl))
  f276 := Tryz.func118.trans (congrArg some (by kernel_rfl))
  t0 := Tryz.underlying0
  a0 := Tryz.isAgg0
  z0 := Tryz.sizeOf0
  v0 := Tryz.zeroValue0
  t3 := Tryz.underlying3
  a3 := Tryz.isAgg3
  z3 := Tryz.sizeOf3
  v3 := Tryz.zeroValue3
  t4 := Tryz.underlying4
  a4 := Tryz.isAgg4
  z4 := Tryz.sizeOf4
  v4 := Tryz.zeroValue4
  t9 := Tryz.underlying9
  a9 := Tryz.isAgg9
  z9 := Tryz.sizeOf9
  v9 := Tryz.zeroValue9
  t20 := Tryz.underlying20
  a20 := Tryz.isAgg20
  z20 := Tryz.sizeOf20
  v20 := Tryz.zeroValue20
  t37 := Tryz.underlying57
  a37 := Tryz.isAgg57
  z37 := Tryz.sizeOf57
  v37 := Tryz.zeroValue57
  t70 := Tryz.underlying70
  a70 := Tryz.isAgg70
  z70 := Tryz.sizeOf70
  v70 := Tryz.zeroValue70
  t72 := Tryz.underlying72
  a72 := Tryz.isAgg72
  z72 := Tryz.sizeOf72
  v72 := Tryz.zeroValue72
  t75 := Tryz.underlying74
  a75 := Tryz.isAgg74
  z75 := Tryz.sizeOf74
  v75 := Tryz.zeroValue74
  t164 := Tryz.underlying140
  a164 := Tryz.isAgg140
  z164 := Tryz.sizeOf140
  v164 := Tryz.zeroValue140 }
theorem Tryz.Builder_Extra_166 : Builder.Extra Tryz.prog Tryz.laysB_ren where
  sizeBuilder := by kernel_rfl
  liesBuilder := by kernel_rfl
  t5 := Tryz.underlying5
  a5 := Tryz.isAgg5
  z5 := Tryz.sizeOf5
  v5 := Tryz.zeroValue5
  infoByte := by kernel_rfl
  cellsByte := by kernel_rfl
  sizeByte := by kernel_rfl
  neB5 := by decide
theorem Tryz.lays167 : Go.Proofs.Lays.n167 Tryz.prog Tryz.laysB_ren := {
  mixed := by kernel_rfl
  f167 := Tryz.func109.trans (congrArg some (by kernel_rfl))
  f240 := Tryz.func85.trans (congrArg some (by kernel_rfl))
  f276 := Tryz.func118.trans (congrArg some (by kernel_rfl))
  t0 := Tryz.underlying0
  a0 := Tryz.isAgg0
  z0 := Tryz.sizeOf0
  v0 := Tryz.zeroValue0
  t4 := Tryz.underlying4
  a4 := Tryz.isAgg4
  z4 := Tryz.sizeOf4
  v4 := Tryz.zeroValue4
  t5 := Tryz.underlying5
  a5 := Tryz.isAgg5
  z5 := Tryz.sizeOf5
  v5 := Tryz.zeroValue5
  t9 := Tryz.underlying9
  a9 := Tryz.isAgg9
  z9 := Tryz.sizeOf9
  v9 := Tryz.zeroValue9
  t20 := Tryz.underlying20
  a20 := Tryz.isAgg20
  z20 := Tryz.sizeOf20
  v20 := Tryz.zeroValue20
  t37 := Tryz.underlying57
  a37 := Tryz.isAgg57
  z37 := Tryz.sizeOf57
  v37 := Tryz.zeroValue57
  t70 := Tryz.underlying70
  a70 := Tryz.isAgg70
  z70 := Tryz.sizeOf70
  v70 := Tryz.zeroValue70
  t72 := Tryz.underlying72
  a72 := Tryz.isAgg72
  z72 := Tryz.sizeOf72
  v72 := Tryz.zeroValue72
  t75 := Tryz.underlying74
  a75 := Tryz.isAgg74
  z75 := Tryz.sizeOf74
  v75 := Tryz.zeroValue74
  t164 := Tryz.underlying140
  a164 := Tryz.isAgg140
  z164 := Tryz.sizeOf140
  v164 := Tryz.zeroValue140 }
theorem Tryz.Builder_Extra_167 : Builder.Extra Tryz.prog Tryz.laysB_ren where
  sizeBuilder := by kernel_rfl
  liesBuilder := by kernel_rfl
  t5 := Tryz.underlying5
  a5 := Tryz.isAgg5
  z5 := Tryz.sizeOf5
  v5 := Tryz.zeroValue5
  infoByte := by kernel_rfl
  cellsByte := by kernel_rfl
  sizeByte := by kernel_rfl
  neB5 := by decide
end Go.Proofs
/- keelson/stanza.below, Name: what they come to. No condition but that a text has a size that fits a number. -/
namespace Go.Proofs.YtlcfpmdamehopaaGreatDoor.PA
open Go.RowKit Go.Proofs.YtlcfpmdamehopaaGreatDoorW.PrintWords Go.Proofs.YtlcfpmdamehopaaGreatDoorW.PrintLast Go.Proofs.YtlcfpmdamehopaaGreatDoorW.PrintMore

theorem bytes_C (W : World) (e : TypeId) (s : ByteArray) (hs : s.size ≤ 9223372036854775807) : Kd.C (Kd.int .u8) (Lib.bytesWorld W e s) (some ⟨W.heap.size, 0, none⟩) (bytesOf s).length (bytesOf s) := by
  rw [bytesOf_length]
  exact Kd.C_of_reads (d := (0 : Int)) (bytes_reads W e s hs)
theorem K_int {k : IntKind} {w : World} {x : Int} {cs : List Value} (h : (Kd.int k).K w x cs) : cs = [.int k x] := h
theorem K_string {w : World} {x : ByteArray} {cs : List Value} (h : Kd.string.K w x cs) : cs = [.string x] := h

theorem below1_enters : ∀ args w, (callFunc 124 args).run Tryz.prog w = .ok (.enter 124 args) w := enters_of Tryz.func124 (by kernel_rfl) rfl
theorem below1_any (c b : Int) (p : Addr) (W : World) (hp : W.cell? p = some (.int .u8 b)) : Calls Tryz.prog 124 #[.int .u8 c, .pointer (some p)] W fun e w' => e = .returned (.bool (decide (c < b))) ∧ w' = W := by
  go_enter Tryz.func124, Tryz.ntmps124
  by_cases h : c < b
  · go_wp2
    go_ret
    exact ⟨by simp [h], rfl⟩
  · go_wp2
    go_ret
    exact ⟨by simp [h], rfl⟩
def belowF (s : ByteArray) (b : Int) : Bool := (bytesOf s).any fun c => decide (c < b)
set_option maxRecDepth 20000 in
set_option maxHeartbeats 1000000 in
theorem stanza_below.calls (s : ByteArray) (b : Int) (w : World) (hs : s.size ≤ 9223372036854775807) :
    Calls Tryz.prog 96 #[.string s, .int .u8 b] w fun e w' => e = .returned (.bool (belowF s b)) ∧ Below w.heap.size w w' := by
  have kb := fun W => print_bytes (P := Tryz.prog) 9 57 5 Tryz.underlying9 Tryz.underlying57 Tryz.underlying5 s W
  have hmf := makeFunc_run
  have hcon : ∀ (W : World) (n c : Nat), W.heap.size = n → W.cell? ⟨w.heap.size, 0, none⟩ = some (.int .u8 b) → Calls Tryz.prog 27 #[.slice (some ⟨n, 0, none⟩) s.size c, .func (.func 124) #[] #[.pointer (some ⟨w.heap.size, 0, none⟩)]] (Lib.bytesWorld W 5 s) fun e w' => e = .returned (.bool (belowF s b)) ∧ Below (Lib.bytesWorld W 5 s).heap.size (Lib.bytesWorld W 5 s) w' := by
    rintro W n c rfl hc
    have hb : Below W.heap.size W (Lib.bytesWorld W 5 s) := bytes_below (Below.refl _ _) (Nat.le_refl _) _ _
    rw [← bytesOf_length s]
    refine con27 (Kd.int .u8) rfl 124 _ below1_enters _ c (bytesOf s) (fun c => decide (c < b)) _ (bytes_C W _ s hs) ?_
    intro x _ cs W' hb' hK
    obtain rfl := K_int hK
    exact (below1_any x b _ W' (pw_cell_below hb' (pw_cell_below hb hc))).mono fun e w' h => ⟨h.1, by rw [h.2]; exact Below.refl _ _⟩
  generalize belowF s b = r at hcon
  go_enter Tryz.func96, Tryz.ntmps96
  go_wp2_with (go_at_call 27; with_reducible refine (hcon _ _ _ (by simp [go_sem]) (by simp [go_sem])).mono ?_; rintro e w' ⟨rfl, hb⟩)
  go_ret
  exact ⟨rfl, (bytes_below ((Below.refl _ w).alloc (Nat.le_refl _) _) (by simp) _ _).trans (hb.mono (by simp [Lib.bytesWorld_size]; omega))⟩

def lettersL : List UInt8 := [97, 98, 99, 100, 101, 102, 103, 104, 105, 106, 107, 108, 109, 110, 111, 112, 113, 114, 115, 116, 117, 118, 119, 120, 121, 122, 65, 66, 67, 68, 69, 70, 71, 72, 73, 74, 75, 76, 77, 78, 79, 80, 81, 82, 83, 84, 85, 86, 87, 88, 89, 90]
def signsL : List UInt8 := lettersL ++ [48, 49, 50, 51, 52, 53, 54, 55, 56, 57, 45]
theorem letters_are : ∀ n, n < 256 → decide (0 ≤ Lib.indexByte lettersL n.toUInt8) = isLetter n.toUInt8 := by decide +kernel
theorem signs_are : ∀ n, n < 256 → decide (Lib.indexByte signsL n.toUInt8 < 0) = !isSign n.toUInt8 := by decide +kernel
theorem letter_is (c : UInt8) : decide (0 ≤ Lib.indexByte lettersL c) = isLetter c := by
  have := letters_are c.toNat c.toNat_lt
  rwa [show c.toNat.toUInt8 = c from by simp] at this
theorem sign_is (c : UInt8) : decide (Lib.indexByte signsL c < 0) = !isSign c := by
  have := signs_are c.toNat c.toNat_lt
  rwa [show c.toNat.toUInt8 = c from by simp] at this
theorem name1_enters : ∀ args w, (callFunc 161 args).run Tryz.prog w = .ok (.enter 161 args) w := enters_of Tryz.func161 (by kernel_rfl) rfl
theorem name1_any (c : Int) (W : World) : Calls Tryz.prog 161 #[.int .u8 c] W fun e w' => e = .returned (.bool (decide (Lib.indexByte signsL c.toNat.toUInt8 < 0))) ∧ w' = W := by
  have h := Tryz.strings_IndexByte ⟨signsL.toArray⟩ c W
  rw [show (⟨signsL.toArray⟩ : ByteArray).data.toList = signsL from rfl] at h
  generalize Lib.indexByte signsL c.toNat.toUInt8 = q at h ⊢
  simp only [signsL, lettersL, List.cons_append, List.nil_append] at h
  go_enter Tryz.func161, Tryz.ntmps161
  go_wp2_with (go_at_call 63; with_reducible refine h.mono ?_; rintro e w' ⟨rfl, rfl⟩)
  go_ret
  exact ⟨rfl, rfl⟩
def stanza_Name.f (a0 : ByteArray) : Option Bool := some (nameL a0.data.toList)
theorem bytes_any (s : ByteArray) : ((bytesOf s).any fun c => decide (Lib.indexByte signsL c.toNat.toUInt8 < 0)) = !(s.data.toList.all isSign) := by
  unfold bytesOf
  rw [List.any_map, List.not_all_eq_any_not]
  congr 1
  funext c
  show decide (Lib.indexByte signsL ((c.toNat : Int).toNat.toUInt8) < 0) = _
  rw [Int.toNat_natCast, show c.toNat.toUInt8 = c from by simp, sign_is]
set_option maxRecDepth 20000 in
set_option maxHeartbeats 1000000 in
theorem stanza_Name.calls (a0 : ByteArray) (r : Bool) (w : World) (h : stanza_Name.f a0 = some r) :
    Calls Tryz.prog 125 #[.string a0] w fun e w' => e = .returned (.bool r) ∧ Below w.heap.size w w' := by
  obtain rfl := Option.some.inj h
  clear h
  cases hl : a0.data.toList with
  | nil =>
    obtain rfl : a0 = ⟨#[]⟩ := by cases a0 with | mk d => cases d with | mk l => cases hl; rfl
    go_enter Tryz.func125, Tryz.ntmps125
    go_wp2
    go_ret
    exact ⟨rfl, Below.refl _ _⟩
  | cons c s =>
    have hne : ¬ a0 = ⟨#[]⟩ := by rintro rfl; cases hl
    have hsz : a0.size = s.length + 1 := by rw [← data_length, hl]; rfl
    by_cases h40 : s.length + 1 ≤ 40
    case neg =>
      have h40' : ¬ (a0.size : Int) ≤ 40 := by omega
      go_enter Tryz.func125, Tryz.ntmps125
      go_wp2
      all_goals
        go_ret
        exact ⟨by rw [show nameL (c :: s) = false from by simp [nameL, h40]]; rfl, Below.refl _ _⟩
    case pos =>
      have h0 := Tryz.strings_IndexByte ⟨lettersL.toArray⟩ (c.toNat : Int)
      rw [show (⟨lettersL.toArray⟩ : ByteArray).data.toList = lettersL from rfl, Int.toNat_natCast, show c.toNat.toUInt8 = c from by simp] at h0
      have hx : ∀ h : 0 < a0.size, ((a0[0]'h).toNat : Int) = (c.toNat : Int) := by
        intro h
        congr 2
        show a0.data[0] = c
        have : a0.data.toList[0]'(by rw [hl]; exact Nat.succ_pos _) = c := by simp [hl]
        simpa using this
      have hL := letter_is c
      have hne2 : (a0.toList = []) = False := by rw [ByteArray.toList_eq, hl]; simp
      have q1 : ((0 : Int) < (a0.size : Int)) = True := eq_true (by omega)
      have q2 : ((a0.size : Int) ≤ 40) = True := eq_true (by omega)
      have q3 : (0 < a0.size) = True := eq_true (by omega)
      have kb := fun W => print_bytes (P := Tryz.prog) 9 57 5 Tryz.underlying9 Tryz.underlying57 Tryz.underlying5 a0 W
      have hcon : ∀ (W : World) (n c : Nat), W.heap.size = n → Calls Tryz.prog 27 #[.slice (some ⟨n, 0, none⟩) a0.size c, .func (.func 161) #[] #[]] (Lib.bytesWorld W 5 a0) fun e w' => e = .returned (.bool (!(a0.data.toList.all isSign))) ∧ Below (Lib.bytesWorld W 5 a0).heap.size (Lib.bytesWorld W 5 a0) w' := by
        rintro W n c rfl
        rw [← bytes_any, ← bytesOf_length a0]
        refine con27 (Kd.int .u8) rfl 161 _ name1_enters _ c (bytesOf a0) (fun c => decide (Lib.indexByte signsL c.toNat.toUInt8 < 0)) _ (bytes_C W _ a0 (by omega)) ?_
        intro x _ cs W' hb' hK
        obtain rfl := K_int hK
        exact (name1_any x W').mono fun e w' h => ⟨h.1, by rw [h.2]; exact Below.refl _ _⟩
      rw [hl] at hcon
      have hres : nameL (c :: s) = (isLetter c && (c :: s).all isSign) := by simp [nameL, h40]
      rw [hres]
      generalize (c :: s).all isSign = g at hcon ⊢
      generalize Lib.indexByte lettersL c = q at h0 hL
      generalize isLetter c = g2 at hL ⊢
      simp only [lettersL] at h0
      generalize (c.toNat : Int) = ci at hx h0
      clear hres h40 hne hl hsz
      subst hL
      by_cases hq : 0 ≤ q
      · have hq0 : ¬ q < 0 := by omega
        go_enter Tryz.func125, Tryz.ntmps125
        go_wp2_with (first | (go_at_call 63; with_reducible refine (h0 _).mono ?_; rintro e w' ⟨rfl, rfl⟩) | (go_at_call 27; with_reducible refine (hcon _ _ _ (by simp [go_sem])).mono ?_; rintro e w' ⟨rfl, hb⟩))
        go_ret
        exact ⟨by rw [decide_eq_true (show 0 ≤ q by omega), Bool.true_and]; first | rfl | simp [hne2], (bytes_below (Below.refl _ _) (Nat.le_refl _) _ _).trans (hb.mono (by simp [Lib.bytesWorld_size]))⟩
      · go_enter Tryz.func125, Tryz.ntmps125
        go_wp2_with (go_at_call 63; with_reducible refine (h0 _).mono ?_; rintro e w' ⟨rfl, rfl⟩)
        go_ret
        exact ⟨by rw [decide_eq_false (show ¬ 0 ≤ q by omega), Bool.false_and]; first | rfl | simp, Below.refl _ _⟩
end Go.Proofs.YtlcfpmdamehopaaGreatDoor.PA
/- keelson/stanza.place, Only: the place of the first field of a name; whether each field's name is one of some. No condition. -/
namespace Go.Proofs.YtlcfpmdamehopaaGreatDoor.PA
open Go.RowKit Go.Proofs.YtlcfpmdamehopaaGreatDoorW.PrintWords Go.Proofs.YtlcfpmdamehopaaGreatDoorW.PrintLast Go.Proofs.YtlcfpmdamehopaaGreatDoorW.PrintMore

theorem place1_enters : ∀ args w, (callFunc 128 args).run Tryz.prog w = .ok (.enter 128 args) w := enters_of Tryz.func128 (by kernel_rfl) rfl
theorem str_eq (a b : ByteArray) : (a.toList == b.toList) = decide (a = b) := by
  rw [ByteArray.toList_eq, ByteArray.toList_eq]
  by_cases h : a = b
  · subst h; simp
  · rw [decide_eq_false h, beq_eq_false_iff_ne]
    intro e
    exact h (by cases a; cases b; simp at e; rw [e])
set_option maxHeartbeats 400000 in
theorem place1_any (x y n : ByteArray) (p : Addr) (W : World) (hp : W.cell? p = some (.string n)) : Calls Tryz.prog 128 #[.agg #[.string x, .string y], .pointer (some p)] W fun e w' => e = .returned (.bool (decide (x = n))) ∧ Below W.heap.size W w' := by
  have hlt : p.block < W.heap.size := World.block_lt_of_cell? W p hp
  have hp2 : (W.alloc (.cells #[.string x, .string y] 60)).cell? p = some (.string n) := pw_cell_below ((Below.refl _ W).alloc (Nat.le_refl _) _) hp
  have hse := str_eq x n
  clear hp
  go_enter Tryz.func128, Tryz.ntmps128
  go_wp2
  go_ret
  exact ⟨rfl, (Below.refl _ W).alloc (Nat.le_refl _) _⟩
def isName (n : ByteArray) (f : Fd) : Bool := decide (f.f0 = n)
def stanza_place.f (l0 : List Fd) (a1 : ByteArray) : Option Int := some (idxP (isName a1) l0)
set_option maxHeartbeats 1000000 in
theorem stanza_place.calls (A0 : Option Addr) (c0 : Nat) (l0 : List Fd) (a1 : ByteArray) (r : Int) (w : World) (hr0 : Kd.C k60 w A0 l0.length l0) (_hc0 : l0.length ≤ c0) (h : stanza_place.f l0 a1 = some r) :
    Calls Tryz.prog 98 #[.slice A0 l0.length c0, .string a1] w fun e w' => e = .returned (.int .i64 r) ∧ Below w.heap.size w w' := by
  obtain rfl := Option.some.inj h
  clear h
  have hb1 : Below w.heap.size w (w.alloc (.cells #[.string a1] 9)) := (Below.refl _ w).alloc (Nat.le_refl _) _
  have hcell : (w.alloc (.cells #[.string a1] 9)).cell? ⟨w.heap.size, 0, none⟩ = some (.string a1) := by simp [go_sem]
  have hi := (idx127 k60 rfl 128 #[.pointer (some ⟨w.heap.size, 0, none⟩)] place1_enters A0 c0 l0 (isName a1) (w.alloc (.cells #[.string a1] 9)) (Kd.C_below hr0 hb1) (by
    intro x _ cs W' hb' hK
    obtain rfl := k60_open hK
    exact place1_any x.f0 x.f1 a1 _ W' (pw_cell_below hb' hcell))).mono fun e w' h => (⟨h.1, hb1.trans (h.2.mono hb1.size)⟩ : e = .returned (.int .i64 (idxP (isName a1) l0)) ∧ Below w.heap.size w w')
  generalize idxP (isName a1) l0 = r at hi ⊢
  have hmf := makeFunc_run
  clear hcell hb1 hr0
  go_enter Tryz.func98, Tryz.ntmps98
  go_wp2_with (go_at_call 127; with_reducible refine hi.mono ?_; rintro e w' ⟨rfl, hb⟩)
  go_ret
  exact ⟨rfl, hb⟩

theorem cell_spot5 {w : World} {a : Addr} {u : Value} (h : w.cell? a = some u) : a = ⟨a.block, a.off, none⟩ := by
  obtain ⟨b, o, s⟩ := a
  unfold World.cell? at h
  cases hh : w.heap[b]? with
  | none => rw [hh] at h; cases h
  | some ob =>
    rw [hh] at h
    cases ob with
    | cells c e f =>
      cases s with
      | none => rfl
      | some s => simp at h
    | _ => simp at h
theorem contains_calls (A : Option Addr) (c : Nat) (l : List ByteArray) (x : ByteArray) (w : World) (hr : Kd.C Kd.string w A l.length l) : Calls Tryz.prog 174 #[.slice A l.length c, .string x] w fun e w' => e = .returned (.bool (Lib.containsS l x)) ∧ w' = w := by
  cases l with
  | nil => exact Tryz.slices_Contains_string_empty A c x w
  | cons y l =>
    obtain ⟨ad, rfl⟩ := C_addr hr (Nat.succ_pos _)
    have hcell : ∀ j, j < (y :: l).length → w.cell? (ad.add j) = some (.string ((y :: l).getD j ByteArray.empty)) := by
      intro j hj
      obtain ⟨cs, _, hK, hc⟩ := C_elem hr j hj
      obtain rfl : cs = [.string (y :: l)[j]] := hK
      have := hc 0 _ rfl
      rw [show j * Kd.string.sz + 0 = j from by show j * 1 + 0 = j; omega] at this
      rw [this, List.getD_eq_getElem?_getD, List.getElem?_eq_getElem hj]; rfl
    have had : ad = ⟨ad.block, ad.off, none⟩ := cell_spot5 (by simpa [Addr.add] using hcell 0 (Nat.succ_pos _))
    have h := Tryz.slices_Contains_string ad.block ad.off (y :: l).length c (y :: l) x w (Nat.le_refl _) hr.2.1 (by
      intro j hj
      have hj' := hcell j hj
      rw [had] at hj'
      by_cases hj0 : j = 0
      · subst hj0; simpa [Addr.add] using hj'
      · simpa [Addr.add, hj0] using hj')
    rw [← had, List.take_of_length_le (Nat.le_refl _)] at h
    exact h
end Go.Proofs.YtlcfpmdamehopaaGreatDoor.PA
-- Printed by gprint.py (wip/ of this repo), over the kit's print.
namespace Go.Proofs.YtlcfpmdamehopaaGreatDoor.PA
open Go.RowKit Go.Proofs.YtlcfpmdamehopaaGreatDoorW.PrintWords Go.Proofs.YtlcfpmdamehopaaGreatDoorW.PrintLast Go.Proofs.YtlcfpmdamehopaaGreatDoorW.PrintMore
attribute [local go_sem] max2_int min2_int max_two min_two max_three min_three max_four min_four   -- for this text's walks alone
set_option linter.unusedVariables false
set_option linter.unusedSimpArgs false

/-! ### stanza_Get: function 55 -/
def stanza_Get.f (l0 : List (S60)) (a1 : ByteArray) : Option (ByteArray × Bool) := (stanza_place.f l0 a1).bind fun t101 => (if t101 < 0 then (some ((⟨#[]⟩ : ByteArray), false)) else (if 0 ≤ t101 then (if t101 < (l0.length : Int) then (some ((rd_T60 l0 t101).f1, true)) else (none)) else (none)))
set_option maxHeartbeats 8000000 in
set_option maxRecDepth 100000 in
theorem stanza_Get.calls (A0 : Option Addr) (c0 : Nat) (l0 : List (S60)) (a1 : ByteArray) (r1 : ByteArray) (r2 : Bool) (w : World) (hr0 : Kd.C k60 w A0 l0.length l0) (hc0 : l0.length ≤ c0) (h : stanza_Get.f l0 a1 = some (r1, r2)) :
    Calls Tryz.prog 55 #[.slice A0 l0.length c0, .string a1] w fun e w' => e = .returned (.tuple #[.string r1, .bool r2]) ∧ Below w.heap.size w w' := by
  have HR0 := Aside0.mk hr0
  have HC0 := Aside0.mk hc0
  clear hr0 hc0
  have HB := Aside0.mk (Below.refl w.heap.size w)
  have H : ((stanza_place.f l0 a1).bind fun t101 => (if t101 < 0 then (some ((⟨#[]⟩ : ByteArray), false)) else (if 0 ≤ t101 then (if t101 < (l0.length : Int) then (some ((rd_T60 l0 t101).f1, true)) else (none)) else (none)))) = some (r1, r2) := h
  clear h
  replace H := Option.bind_eq_some_iff.mp H
  obtain ⟨t101, A30, H⟩ := H
  replace H : (if t101 < 0 then (some ((⟨#[]⟩ : ByteArray), false)) else (if 0 ≤ t101 then (if t101 < (l0.length : Int) then (some ((rd_T60 l0 t101).f1, true)) else (none)) else (none))) = some (r1, r2) := H
  have A3 := Aside0.mk A30
  clear A30
  by_cases c4 : t101 < 0
  · rw [if_pos c4] at H
    have c4b0 : decide (t101 < 0) = true := decide_eq_true c4
    clear c4
    simp only [Option.some.injEq, Prod.mk.injEq] at H
    obtain ⟨rfl, rfl⟩ := H
    go_enter Tryz.func55, Tryz.ntmps55
    go_wp2_with (first | ((with_reducible refine gate_callee (f := 98) rfl ?_); refine goesL_ (some 9) rfl rfl Tryz.func98 (by kernel_rfl) rfl #[.slice A0 l0.length c0, .string a1] rfl (by (try simp only [List.map_toArray, List.map_cons, List.map_nil]); first | done | rfl | (simp only [List.length_drop, List.length_take]; rfl)) ?_; (with_reducible refine (stanza_place.calls _ _ l0 a1 t101 _ ?side1 ?side2 A3.out).mono ?_); (case side1 => repeat (first | exact HR0.out | (with_reducible refine Kd.C_alloc ?_ _) | (with_reducible refine Kd.C_drewN ?_ _) | (with_reducible refine Kd.C_drew ?_))); (case side2 => exact HC0.out); rintro e w5 ⟨rfl, hb⟩; refine ⟨_, rfl, ?_⟩; have n0_ := Aside0.mk (below_step (by repeat (first | (with_reducible first | exact HB.out | apply below_alloc | apply pw_below_drewN | apply below_drew1) | exact HB.out)) hb); clear HB; have HB := n0_; clear n0_; (try clear hb); (try clear hb2); (try clear hk); (try clear hi)))
    go_ret2
    exact ⟨by first | rfl | (simp [errW_none, errW_some] <;> rfl) | (simp [*, errW_none, errW_some] <;> rfl), by repeat (first | (with_reducible first | exact HB.out | apply below_alloc | apply pw_below_drewN | apply below_drew1) | exact HB.out)⟩
  · rw [if_neg c4] at H
    have c4b0 : decide (t101 < 0) = false := decide_eq_false c4
    clear c4
    by_cases c6 : 0 ≤ t101
    · rw [if_pos c6] at H
      have c6b0 : decide (0 ≤ t101) = true := decide_eq_true c6
      clear c6
      by_cases c7 : t101 < (l0.length : Int)
      · rw [if_pos c7] at H
        have c7b0 : decide (t101 < (l0.length : Int)) = true := decide_eq_true c7
        clear c7
        simp only [Option.some.injEq, Prod.mk.injEq] at H
        obtain ⟨rfl, rfl⟩ := H
        go_enter Tryz.func55, Tryz.ntmps55
        go_wp2_with (first | ((with_reducible refine gate_callee (f := 98) rfl ?_); refine goesL_ (some 9) rfl rfl Tryz.func98 (by kernel_rfl) rfl #[.slice A0 l0.length c0, .string a1] rfl (by (try simp only [List.map_toArray, List.map_cons, List.map_nil]); first | done | rfl | (simp only [List.length_drop, List.length_take]; rfl)) ?_; (with_reducible refine (stanza_place.calls _ _ l0 a1 t101 _ ?side1 ?side2 A3.out).mono ?_); (case side1 => repeat (first | exact HR0.out | (with_reducible refine Kd.C_alloc ?_ _) | (with_reducible refine Kd.C_drewN ?_ _) | (with_reducible refine Kd.C_drew ?_))); (case side2 => exact HC0.out); rintro e w8 ⟨rfl, hb⟩; refine ⟨_, rfl, ?_⟩; have n0_ := Aside0.mk (below_step (by repeat (first | (with_reducible first | exact HB.out | apply below_alloc | apply pw_below_drewN | apply below_drew1) | exact HB.out)) hb); clear HB; have HB := n0_; clear n0_; (try clear hb); (try clear hb2); (try clear hk); (try clear hi); have p102 : 0 ≤ (t101 : Int) := of_decide_eq_true (by first | (with_reducible assumption) | assumption); have q102 : t101 < (l0.length : Int) := of_decide_eq_true (by first | (with_reducible assumption) | assumption); obtain ⟨ad102, e102, hx102_0, hx102_1⟩ := at_T60 HR0.out t101 p102 q102; cases e102; replace hx102_0 := (HB.out.cell (World.block_lt_of_cell? w _ hx102_0)).trans hx102_0; replace hx102_1 := (HB.out.cell (World.block_lt_of_cell? w _ hx102_1)).trans hx102_1; replace p102 := eq_true p102; replace q102 := eq_true q102))
        go_ret2
        exact ⟨by first | rfl | (simp [errW_none, errW_some] <;> rfl) | (simp [*, errW_none, errW_some] <;> rfl), by repeat (first | (with_reducible first | exact HB.out | apply below_alloc | apply pw_below_drewN | apply below_drew1) | exact HB.out)⟩
      · rw [if_neg c7] at H
        exact absurd H (by simp)
    · rw [if_neg c6] at H
      exact absurd H (by simp)

end Go.Proofs.YtlcfpmdamehopaaGreatDoor.PA
/- slices.Clone of a stanza: a row of the call's own. At most 2^42 fields (the machine's room). -/
namespace Go.Proofs.YtlcfpmdamehopaaGreatDoor.PA
open Go.RowKit Go.Proofs.YtlcfpmdamehopaaGreatDoorW.PrintWords Go.Proofs.YtlcfpmdamehopaaGreatDoorW.PrintLast Go.Proofs.YtlcfpmdamehopaaGreatDoorW.PrintMore
theorem alloc_below (w : World) (o : Obj) : Below w.heap.size w (w.alloc o) := (Below.refl _ w).alloc (Nat.le_refl _) _
theorem alloc_base (w : World) (o : Obj) : w.heap.size ≤ (w.alloc o).heap.size := (alloc_below w o).size
end Go.Proofs.YtlcfpmdamehopaaGreatDoor.PA
/- keelson/stanza's reader: must, field: what they come to. Conditions: the reader lies as GRead says; a line has at most 2^32 bytes or so. -/
namespace Go.Proofs.YtlcfpmdamehopaaGreatDoor.PA
open Go.RowKit Go.Proofs.YtlcfpmdamehopaaGreatDoorW.PrintWords Go.Proofs.YtlcfpmdamehopaaGreatDoorW.PrintLast Go.Proofs.YtlcfpmdamehopaaGreatDoorW.PrintMore
def panE (q : Int) : List PanicEntry := [{ v := .iface 24 (.int .i64 q), recovered := false }]

/-- The library's own number stands in its variable. -/
theorem must_yes (q : Int) (w : World) : Calls Tryz.prog 95 #[.bool true, .int .i64 q] w fun e w' => e = .returned (.tuple #[]) ∧ w = w' := by
  go_enter Tryz.func95, Tryz.ntmps95
  go_wp2
  simp [bodyPost, results, Tryz.results95]
theorem must_no (q : Int) (w : World) : Calls Tryz.prog 95 #[.bool false, .int .i64 q] w fun e w' => e = .panicked (panE q) ∧ w = w' := by
  go_enter Tryz.func95, Tryz.ntmps95
  go_wp2
  exact ⟨rfl, rfl, rfl⟩
theorem get_is (st : List Fd) (n : ByteArray) : stanza_Get.f st n = some ((getG st n).getD ⟨#[]⟩, (getG st n).isSome) := by
  have hp : stanza_place.f st n = some (idxP (isName n) st) := rfl
  unfold stanza_Get.f
  rw [hp, Option.bind_some]
  unfold idxP getG
  cases e : st.findIdx? (isName n) with
  | none =>
    have : st.find? (fun f => decide (f.f0 = n)) = none := by
      rw [List.findIdx?_eq_none_iff] at e
      rw [List.find?_eq_none]
      intro x hx
      have := e x hx
      unfold isName at this
      rw [this]; decide
    rw [this]; rfl
  | some k =>
    obtain ⟨hk, h1, h2⟩ := List.findIdx?_eq_some_iff_getElem.1 e
    have : st.find? (fun f => decide (f.f0 = n)) = some st[k] := by
      rw [List.find?_eq_some_iff_getElem]
      exact ⟨h1, k, hk, rfl, fun j hj => by have := h2 j hj; unfold isName at this; simpa using this⟩
    rw [this]
    dsimp only
    rw [if_neg (by omega), if_pos (by omega), if_pos (by omega)]
    simp [rd_T60, List.getD_eq_getElem?_getD, List.getElem?_eq_getElem hk]
theorem fcells_C {B : Nat} {W : World} {z : Value} {x : List Fd} (h : OwnF B W z x) : ∃ A c, z = .slice A x.length c ∧ x.length ≤ c ∧ Kd.C k60 W A x.length x :=
  Kd.R_reads (d := k60) (e := 60) (base := B) (ok := fun _ => True) ⟨fun _ _ => trivial, _, h, fcells_reps _ _ _ x⟩
theorem RdP.lastAt {TS TR B : Nat} {w0 W : World} {rb : Nat} {gs : List Guest} {v : Value} {vs us : List Value} {z : Value} {l : List (List Fd)} {o : Bool} {g cap : Nat} (h : RdP TS TR B w0 W rb gs v vs l o) (hv : v = .slice (some ⟨g, 0, none⟩) l.length cap) (hvs : vs = us ++ [z]) (hl : us.length + 1 = l.length) :
    W.cell? ⟨g, us.length, none⟩ = some z ∧ W.frozen? ⟨g, us.length, none⟩ = false := by
  have hr := h.row
  rw [hv] at hr
  refine ⟨?_, World.ownsRow.frozenAt hr _⟩
  have := World.ownsRow.cells hr (g := g) rfl us.length z (by rw [hvs, List.getElem?_append_right (Nat.le_refl _), Nat.sub_self]; rfl)
  rwa [show (⟨g, 0, none⟩ : Addr).add us.length = ⟨g, us.length, none⟩ from by unfold Addr.add; split <;> simp_all] at this

theorem lastOwn {TS TR B : Nat} {w0 W : World} {rb : Nat} {gs : List Guest} {v : Value} {vs us : List Value} {z : Value} {l : List (List Fd)} {o : Bool} {x : List Fd} (h : RdP TS TR B w0 W rb gs v vs l o) (hl : l ≠ []) (hvs : vs = us ++ [z]) (hx : lastS l = x) : OwnF B W z x := by
  obtain ⟨us', z', hvs', _, hz', _⟩ := h.last hl
  obtain ⟨rfl, e2⟩ := List.append_inj' (hvs.symm.trans hvs') rfl
  cases e2
  rw [← hx]; exact hz'
theorem RdP.keptAt {TS TR B : Nat} {w0 W w4 : World} {rb : Nat} {gs : List Guest} {v : Value} {vs : List Value} {l : List (List Fd)} {o : Bool} (h : RdP TS TR B w0 W rb gs v vs l o) (hTS : TS ≠ TR) (hg : W.grownBy w4 v.ownBlock) :
    w4.cell? ⟨rb, 0, none⟩ = some v ∧ w4.cell? ⟨rb, 1, none⟩ = some (.bool o) ∧ w4.frozen? ⟨rb, 0, none⟩ = false ∧ w4.frozen? ⟨rb, 1, none⟩ = false := by
  have hb := hg.block rb h.lt (own_ne h.row h.cell hTS)
  exact ⟨(World.cell?_of_block hb).trans h.cell0, (World.cell?_of_block hb).trans h.cell1, (World.frozen?_of_block hb).trans (h.frozen 0), (World.frozen?_of_block hb).trans (h.frozen 1)⟩
theorem grown_drew {W w7 : World} {row : Option Nat} (h : W.drew.grownBy w7 row) : W.grownBy w7 row := ⟨h.os, h.tape, h.output, h.size, h.block⟩
/-- The last stanza has grown by a field, and its slice stands in its place. -/
theorem RdP.appended {TS TR B : Nat} {w0 W w7 : World} {rb : Nat} {gs : List Guest} {v : Value} {vs us : List Value} {z : Value} {l : List (List Fd)} {o : Bool} {x : List Fd} {f : Fd} {g cap g7 cap7 : Nat} {ob : Obj} (h : RdP TS TR B w0 W rb gs v vs l o) (hl : l ≠ []) (hTS : TS ≠ TR) (hTF : 60 ≠ TR) (hFS : 60 ≠ TS) (hv : v = .slice (some ⟨g, 0, none⟩) l.length cap) (hvs : vs = us ++ [z]) (hlen : us.length + 1 = l.length) (hx : lastS l = x)
    (ho : w7.ownsRow B 60 2 (.slice (some ⟨g7, 0, none⟩) (x.length + 1) cap7) (x.length + 1) (fcells x ++ [.string f.f0, .string f.f1])) (hg : (W.alloc ob).drew.grownBy w7 z.ownBlock) (hat : z.ownBlock = some g7 ∨ g7 = W.heap.size + 1) :
    RdP TS TR B w0 (w7.setCell ⟨g, us.length, none⟩ (.slice (some ⟨g7, 0, none⟩) (x.length + 1) cap7)) rb gs v (us ++ [.slice (some ⟨g7, 0, none⟩) (x.length + 1) cap7]) (l.dropLast ++ [x ++ [f]]) o := by
  have hO := lastOwn h hl hvs hx
  have hb : Below B w0 w7 := (h.bel.alloc h.base ob).grown (grown_drew hg) (Nat.le_trans h.base (by simp)) (own_base hO)
  have h1 : OwnF B w7 (.slice (some ⟨g7, 0, none⟩) (x.length + 1) cap7) (x ++ [f]) := by
    show w7.ownsRow _ _ _ _ (x ++ [f]).length _
    rw [List.length_append, List.length_singleton, fcells_app]
    exact ho
  have := h.put hl hTS hTF hFS hv hvs hb ((World.grownBy_alloc W ob _).trans (grown_drew hg)) h1 (by
    rcases hat with e | e
    · exact .inl (by rw [e]; rfl)
    · exact .inr ⟨g7, rfl, by omega⟩)
  rw [show l.length - 1 = us.length by omega] at this
  exact this
theorem RdP.stay {TS TR B : Nat} {w0 W w7 : World} {rb : Nat} {gs : List Guest} {vs : List Value} {z : Value} {l : List (List Fd)} {o : Bool} {x : List Fd} {g n cap : Nat} {ob : Obj} (h : RdP TS TR B w0 W rb gs (.slice (some ⟨g, 0, none⟩) n cap) vs l o) (hz : OwnF B W z x) (hFS : 60 ≠ TS) (hg : (W.alloc ob).drew.grownBy w7 z.ownBlock) (j : Nat) :
    w7.cell? ⟨g, j, none⟩ = W.cell? ⟨g, j, none⟩ ∧ w7.frozen? ⟨g, j, none⟩ = W.frozen? ⟨g, j, none⟩ := by
  have hlt : g < W.heap.size := own_lt h.row g rfl
  have hne : some g ≠ z.ownBlock := by
    rcases own_type_ne h.row hz (Ne.symm hFS) with e | e
    · cases e
    · exact e
  have hb := (World.grownBy_alloc W ob z.ownBlock).trans (grown_drew hg)
  exact ⟨World.cell?_of_block (hb.block g hlt hne), World.frozen?_of_block (hb.block g hlt hne)⟩
set_option maxRecDepth 20000 in
set_option maxHeartbeats 4000000 in
theorem field_calls (w0 W : World) (rb : Nat) (gs : List Guest) (v : Value) (vs : List Value) (l : List (List Fd)) (o : Bool) (s : ByteArray) (hs : s.size < 4294967281) (hG : GlobMaxLen w0) (hF : FineR l o)
    (h : RdP 49 95 w0.heap.size w0 W rb gs v vs l o) :
    Calls Tryz.prog 97 #[.pointer (some ⟨rb, 0, none⟩), .string s] W fun e w' =>
      match fieldG l o s.data.toList with
      | .error q => e = .panicked (panE q) ∧ ∃ v' vs' l' o', RdP 49 95 w0.heap.size w0 w' rb gs v' vs' l' o'
      | .ok p => e = .returned (.tuple #[]) ∧ ∃ v' vs', RdP 49 95 w0.heap.size w0 w' rb gs v' vs' p.1 p.2 := by
  obtain ⟨m, hm⟩ := hG.below h.bel
  have hcut := Tryz.strings_Cut s ⟨#[58]⟩ m W hs hm
  rw [show (⟨#[58]⟩ : ByteArray).data.toList = [58] from rfl, cut_colon] at hcut
  have hname := fun w => stanza_Name.calls (mkB (colonL s.data.toList).1) (nameL (colonL s.data.toList).1) w rfl
  have htrim := Tryz.strings_TrimLeft_one (mkB (colonL s.data.toList).2.1) 32 (by decide)
  rw [show (mkB (colonL s.data.toList).2.1).data.toList = (colonL s.data.toList).2.1 from rfl, trim_space] at htrim
  change Calls _ _ _ _ fun e w' => e = .returned (.tuple #[.string (mkB (colonL s.data.toList).1), .string (mkB (colonL s.data.toList).2.1), .bool (colonL s.data.toList).2.2]) ∧ _ at hcut
  change ∀ w, Calls _ _ _ _ fun e w' => e = .returned (.string (mkB (trimL (colonL s.data.toList).2.1))) ∧ _ at htrim
  obtain ⟨r, hr⟩ : ∃ r, fieldG l o s.data.toList = r := ⟨_, rfl⟩
  rw [hr]
  unfold fieldG at hr
  generalize colonL s.data.toList = c at hcut hname htrim hr
  obtain ⟨a, b, is⟩ := c
  dsimp only at hcut hname htrim hr
  generalize trimL b = tb at htrim hr
  have my := must_yes
  have mn := must_no
  have hFl := hF.2.2
  have hF1 := hF.1
  clear hm hs hF
  have hmv : ∀ (n : Nat) (w1 : World), Below (W.drewN n).heap.size (W.drewN n) w1 → RdP 49 95 w0.heap.size w0 w1 rb gs v vs l o := fun n w1 hb => (h.move (pw_below_drewN (Below.refl W.heap.size W) n)).move hb
  cases is with
  | false =>
    rw [Bool.false_and, if_neg (by decide)] at hr
    subst hr
    clear h
    go_enter Tryz.func97, Tryz.ntmps97
    go_wp2_with (first | (go_at_call 41; with_reducible refine hcut.mono ?_; rintro e w' ⟨rfl, n, rfl⟩) | (go_at_call 95; with_reducible refine (mn _ _).mono ?_; rintro e w' ⟨rfl, rfl⟩))
    exact ⟨rfl, rfl, _, _, _, _, hmv _ _ (Below.refl _ _)⟩
  | true =>
  cases hn : nameL a with
  | false =>
    rw [hn] at hname hr
    rw [Bool.and_false, if_neg (by decide)] at hr
    subst hr
    clear h
    go_enter Tryz.func97, Tryz.ntmps97
    go_wp2_with (first | (go_at_call 41; with_reducible refine hcut.mono ?_; rintro e w' ⟨rfl, n, rfl⟩) | (go_at_call 125; with_reducible refine (hname _).mono ?_; rintro e w1 ⟨rfl, hb1⟩) | (go_at_call 95; with_reducible refine (mn _ _).mono ?_; rintro e w' ⟨rfl, rfl⟩))
    exact ⟨rfl, rfl, _, _, _, _, hmv _ _ hb1⟩
  | true =>
  rw [hn] at hname hr
  rw [Bool.and_true, if_pos rfl] at hr
  cases o with
  | true =>
    have hl := hFl rfl
    rw [if_pos rfl] at hr
    obtain ⟨g, cap, hv, hBg, _⟩ := h.slice hl
    obtain ⟨us, z, hvs, _, hz, hlen⟩ := h.last hl
    obtain ⟨Az, cz, hzv, hcz, _⟩ := fcells_C hz
    have hrl : ∀ w1, RdP 49 95 w0.heap.size w0 w1 rb gs v vs l true → w1.cell? ⟨g, us.length, none⟩ = some z := fun w1 H => (H.lastAt hv hvs hlen).1
    have hrz : ∀ w1, RdP 49 95 w0.heap.size w0 w1 rb gs v vs l true → Kd.C k60 w1 Az (lastS l).length (lastS l) := by
      intro w1 H
      obtain ⟨us', z', hvs', _, hz', _⟩ := H.last hl
      obtain ⟨rfl, e2⟩ := List.append_inj' (hvs.symm.trans hvs') rfl
      cases e2
      obtain ⟨A', c', e, _, hC⟩ := fcells_C hz'
      rw [hzv] at e
      cases e
      exact hC
    have hget := fun (w1 : World) (H : RdP 49 95 w0.heap.size w0 w1 rb gs v vs l true) => stanza_Get.calls Az cz (lastS l) (mkB a) _ _ w1 (hrz w1 H) hcz (get_is (lastS l) (mkB a))
    rw [← hlen] at hv
    have i1 : IntKind.i64.wrap ((us.length : Int) + 1 - 1) = (us.length : Int) := by
      rw [i64_w]; unfold wrap64; omega
    have i1b : IntKind.i64.wrap (us.length : Int) = (us.length : Int) := by
      rw [i64_w]; unfold wrap64; omega
    have i2 : (0 ≤ (us.length : Int)) = True := eq_true (by omega)
    have i3 : ((us.length : Int) < (us.length : Int) + 1) = True := eq_true (by omega)
    generalize hx : lastS l = x at hr hget hrz hzv
    subst hv hzv
    have HL := Lib.hid hlen
    clear hz hcz hrz hlen
    cases hgn : getG x (mkB a) with
    | some y =>
      rw [hgn] at hr hget
      dsimp only [Option.isSome, Option.getD] at hr hget
      rw [if_pos rfl] at hr
      subst hr
      clear h
      go_enter Tryz.func97, Tryz.ntmps97
      go_wp2_with (first | (go_at_call 41; with_reducible refine hcut.mono ?_; rintro e w' ⟨rfl, n, rfl⟩) | (go_at_call 125; with_reducible refine (hname _).mono ?_; rintro e w1 ⟨rfl, hb1⟩; have H1 := Lib.hid (hmv _ _ hb1); have c0 := H1.out.cell0; have c1 := H1.out.cell1; have c2 := hrl _ H1.out) | (go_at_call 95; with_reducible refine (my _ _).mono ?_; rintro e w' ⟨rfl, rfl⟩))
      go_quiet (fail)
      have G6 := Lib.hid (hget _ (H1.out.move (pw_below_drewN (Below.refl w1.heap.size w1) nq)))
      have D6 := Lib.hid (fun w6 (hb : Below (w1.drewN nq).heap.size (w1.drewN nq) w6) => (H1.out.move (pw_below_drewN (Below.refl w1.heap.size w1) nq)).move hb)
      go_wp2_with (first | (go_at_call 55; with_reducible refine G6.out.mono ?_; rintro e w6 ⟨rfl, hb6⟩) | (go_at_call 95; with_reducible refine (mn _ _).mono ?_; rintro e w' ⟨rfl, rfl⟩))
      exact ⟨rfl, rfl, _, _, _, _, D6.out _ hb6⟩
    | none =>
      rw [hgn] at hr hget
      dsimp only [Option.isSome, Option.getD] at hr hget
      rw [if_neg (by decide)] at hr
      by_cases h40 : x.length < 40
      case neg =>
        rw [if_neg h40] at hr
        subst hr
        clear h
        have j1 : decide ((x.length : Int) < 40) = false := decide_eq_false (by omega)
        go_enter Tryz.func97, Tryz.ntmps97
        go_wp2_with (first | (go_at_call 41; with_reducible refine hcut.mono ?_; rintro e w' ⟨rfl, n, rfl⟩) | (go_at_call 125; with_reducible refine (hname _).mono ?_; rintro e w1 ⟨rfl, hb1⟩; have H1 := Lib.hid (hmv _ _ hb1); have c0 := H1.out.cell0; have c1 := H1.out.cell1; have c2 := hrl _ H1.out) | (go_at_call 95; with_reducible refine (my _ _).mono ?_; rintro e w' ⟨rfl, rfl⟩))
        go_quiet (fail)
        have G6 := Lib.hid (hget _ (H1.out.move (pw_below_drewN (Below.refl w1.heap.size w1) nq)))
        have D6 := Lib.hid (fun w6 (hb : Below (w1.drewN nq).heap.size (w1.drewN nq) w6) => ((H1.out.move (pw_below_drewN (Below.refl w1.heap.size w1) nq)).move hb))
        go_wp2_with (first | (go_at_call 55; with_reducible refine G6.out.mono ?_; rintro e w6 ⟨rfl, hb6⟩; have H6 := Lib.hid (D6.out _ hb6); have d2 := hrl _ H6.out) | (go_at_call 95; with_reducible refine (my _ _).mono ?_; rintro e w' ⟨rfl, rfl⟩) | (go_at_call 95; with_reducible refine (mn _ _).mono ?_; rintro e w' ⟨rfl, rfl⟩))
        exact ⟨rfl, rfl, _, _, _, _, H6.out⟩
      case pos =>
        rw [if_pos h40] at hr
        subst hr
        have j1 : (x.length : Int) < 40 := by omega
        clear h
        go_enter Tryz.func97, Tryz.ntmps97
        go_wp2_with (first | (go_at_call 41; with_reducible refine hcut.mono ?_; rintro e w' ⟨rfl, n, rfl⟩) | (go_at_call 125; with_reducible refine (hname _).mono ?_; rintro e w1 ⟨rfl, hb1⟩; have H1 := Lib.hid (hmv _ _ hb1); have c0 := H1.out.cell0; have c1 := H1.out.cell1; have c2 := hrl _ H1.out) | (go_at_call 95; with_reducible refine (my _ _).mono ?_; rintro e w' ⟨rfl, rfl⟩))
        go_quiet (fail)
        have G6 := Lib.hid (hget _ (H1.out.move (pw_below_drewN (Below.refl w1.heap.size w1) nq)))
        have D6 := Lib.hid (fun w6 (hb : Below (w1.drewN nq).heap.size (w1.drewN nq) w6) => ((H1.out.move (pw_below_drewN (Below.refl w1.heap.size w1) nq)).move hb))
        go_wp2_with (first | (go_at_call 55; with_reducible refine G6.out.mono ?_; rintro e w6 ⟨rfl, hb6⟩; have H6 := Lib.hid (D6.out _ hb6); have d2 := hrl _ H6.out) | (go_at_call 95; with_reducible refine (my _ _).mono ?_; rintro e w' ⟨rfl, rfl⟩))
        have F6 := Lib.hid (H6.out.lastAt (by rw [HL.out]) hvs HL.out).2
        have O6 := Lib.hid (lastOwn H6.out hl hvs hx)
        have d3 : ∀ ob, (w6.alloc ob).cell? ⟨g, us.length, none⟩ = some (.slice Az x.length cz) := fun ob => pw_cell_below (alloc_below w6 ob) d2
        obtain ⟨i49, hi49, hz49⟩ := Option.map_eq_some_iff.1 info60
        simp only [Prod.mk.injEq] at hz49
        obtain ⟨hi1, hi2, hi3⟩ := hz49
        have hne6 := own_type_ne O6.out H6.out.row (show 60 ≠ 49 by decide)
        have n6 : ∀ (j : Nat) u, ([.string (mkB a), .string (mkB tb)] : List Value)[j]? = some u → (w6.alloc (.cells #[.string (mkB a), .string (mkB tb)] 60)).drew.cell? ((⟨w6.heap.size, 0, none⟩ : Addr).add j) = some u := by simpa using World.news_of_block (cs := #[.string (mkB a), .string (mkB tb)]) (t := 60) (fr := (0, 0)) (heap_alloc_new w6 (.cells #[.string (mkB a), .string (mkB tb)] 60))
        have o6 : ∀ u ∈ ([.string (mkB a), .string (mkB tb)] : List Value), u.oneCell' = true := by
          intro u hu
          simp only [List.mem_cons, List.not_mem_nil, or_false] at hu
          rcases hu with rfl | rfl <;> rfl
        have s6 : w0.heap.size ≤ (w6.alloc (.cells #[.string (mkB a), .string (mkB tb)] 60)).drew.heap.size := Nat.le_trans H6.out.base (alloc_base w6 _)
        have z6 : (w6.alloc (.cells #[.string (mkB a), .string (mkB tb)] 60)).drew.heap.size = w6.heap.size + 1 := by simp
        have m6 : x.length + 1 ≤ maxLen := by simp only [maxLen]; omega
        have b6 : (x.length + 1) * 32 ≤ 140737488355328 := by omega
        have k7 : ∀ w7 : World, (w6.alloc (.cells #[.string (mkB a), .string (mkB tb)] 60)).drew.grownBy w7 (Value.slice Az x.length cz).ownBlock → w7.cell? ⟨g, us.length, none⟩ = some (.slice Az x.length cz) := fun w7 hg => (H6.out.stay O6.out (by decide) hg _).1.trans d2
        have k8 : ∀ w7 : World, (w6.alloc (.cells #[.string (mkB a), .string (mkB tb)] 60)).drew.grownBy w7 (Value.slice Az x.length cz).ownBlock → w7.frozen? ⟨g, us.length, none⟩ = false := fun w7 hg => (H6.out.stay O6.out (by decide) hg _).2.trans F6.out
        go_region_law (first | (go_simp; go_at_call 126; refine (htrim _).mono ?_; rintro e w' ⟨rfl, rfl⟩) | (refine step_append_lies _ rfl (.tmp 77) (.tmp 82) 49 rfl w0.heap.size 60 i49 _ 2 32 Tryz.underlying49 hi49 hi1 hi2 hi3 rfl (by decide) (.slice Az x.length cz) x.length (fcells x) rfl (O6.out.alloc _) ⟨w6.heap.size, 0, none⟩ 1 1 [.string (mkB a), .string (mkB tb)] rfl rfl n6 o6 (by decide) m6 b6 s6 (w6.heap.size + 1) z6 ?_; intro g7 cap7 w7 hown7 hg7 hat7 hlt7; have e7 := k7 w7 hg7; have e8 := k8 w7 hg7))
        all_goals
          have h8 := H6.out.appended (f := ⟨mkB a, mkB tb⟩) hl (by decide) (by decide) (by decide) (by rw [HL.out]) hvs HL.out hx hown7 hg7 hat7
          go_wp2
          simp only [bodyPost, results, Tryz.results97]
          exact ⟨trivial, .tuple #[], (by first | rfl | simp [go_sem]), rfl, _, _, h8⟩
  | false =>
    rw [if_neg (by decide)] at hr
    obtain ⟨A1, cap1, hv1⟩ := h.anySlice
    subst hv1
    by_cases h200 : l.length < 200
    case neg =>
      rw [if_neg h200] at hr
      subst hr
      have j1 : decide ((l.length : Int) < 200) = false := decide_eq_false (by omega)
      clear h
      go_enter Tryz.func97, Tryz.ntmps97
      go_wp2_with (first | (go_at_call 41; with_reducible refine hcut.mono ?_; rintro e w' ⟨rfl, n, rfl⟩) | (go_at_call 125; with_reducible refine (hname _).mono ?_; rintro e w1 ⟨rfl, hb1⟩; have H1 := Lib.hid (hmv _ _ hb1); have c0 := H1.out.cell0; have c1 := H1.out.cell1) | (go_at_call 95; with_reducible refine (my _ _).mono ?_; rintro e w' ⟨rfl, rfl⟩) | (go_at_call 95; with_reducible refine (mn _ _).mono ?_; rintro e w' ⟨rfl, rfl⟩))
      exact ⟨rfl, rfl, _, _, _, _, H1.out⟩
    case pos =>
      rw [if_pos h200] at hr
      subst hr
      have j1 : (l.length : Int) < 200 := by omega
      have b1 : (l.length + 1) * 24 ≤ 140737488355328 := by omega
      have o1 : ∀ u ∈ ([.slice none 0 0] : List Value), u.oneCell' = true := by
        intro u hu
        rw [List.mem_singleton] at hu
        subst hu; rfl
      clear h
      go_enter Tryz.func97, Tryz.ntmps97
      go_wp2_with (first | (go_at_call 41; with_reducible refine hcut.mono ?_; rintro e w' ⟨rfl, n, rfl⟩) | (go_at_call 125; with_reducible refine (hname _).mono ?_; rintro e w1 ⟨rfl, hb1⟩; have H1 := Lib.hid (hmv _ _ hb1); have c0 := H1.out.cell0; have c1 := H1.out.cell1) | (go_at_call 95; with_reducible refine (my _ _).mono ?_; rintro e w' ⟨rfl, rfl⟩) | ((with_reducible refine gate_builtin (b := .append) (xs := #[.tmp 39, .tmp 40]) rfl ?_); (try (refine gate_guard (by rfl) ?_; dsimp only)); at_builtin; refine print_append_cells (w0 := w0) w0.heap.size rfl (.tmp 39) (.tmp 40) 45 49 _ 1 24 rfl Tryz.underlying45 info49 rfl (by decide) (by decide) (.slice A1 l.length cap1) l.length vs [.slice none 0 0] rfl rfl rfl o1 H1.out.row H1.out.bel H1.out.base b1 ?_; intro v4 w4 hown4 hb4 hg4 hat4; obtain ⟨A4, cap4, rfl⟩ := own_slice hown4; have K4 := Lib.hid (H1.out.keptAt (by decide) hg4); have k40 := K4.out.1; have k41 := K4.out.2.1; have k42 := K4.out.2.2.1; have k43 := K4.out.2.2.2; have P4 := Lib.hid (H1.out.pushed (by decide) (by decide) (by decide) hown4 hb4 hg4); clear hown4 hb4 hg4 hat4))
      have hvl : l.length = vs.length := H1.out.rows.1.symm
      clear k40 k41 k42 k43 K4 c0 c1 H1 hb1 hmv b1 o1 j1
      generalize ((w4.setCell ⟨rb, 0, none⟩ (.slice A4 (l.length + 1) cap4)).setCell ⟨rb, 1, none⟩ (.bool true)) = w5 at P4 ⊢
      obtain ⟨g, cap, hv5, _, _⟩ := P4.out.slice (by simp)
      obtain ⟨rfl, _, _⟩ : A4 = some ⟨g, 0, none⟩ ∧ True ∧ True := by injection hv5 with h1 _ _; exact ⟨h1, trivial, trivial⟩
      clear hv5
      rw [hvl] at P4 ⊢
      have hl5 : l ++ [([] : List Fd)] ≠ [] := by simp
      have HL := Lib.hid (show vs.length + 1 = (l ++ [([] : List Fd)]).length by rw [List.length_append, hvl]; rfl)
      have hrl : ∀ w1, RdP 49 95 w0.heap.size w0 w1 rb gs (.slice (some ⟨g, 0, none⟩) (vs.length + 1) cap4) (vs ++ [.slice none 0 0]) (l ++ [[]]) true → w1.cell? ⟨g, vs.length, none⟩ = some (.slice none 0 0) := fun w1 H => (H.lastAt (by rw [HL.out]) rfl HL.out).1
      have hget : ∀ w1, Calls Tryz.prog 55 #[.slice none 0 0, .string (mkB a)] w1 fun e w' => e = .returned (.tuple #[.string ⟨#[]⟩, .bool false]) ∧ Below w1.heap.size w1 w' := fun w1 => stanza_Get.calls none 0 [] (mkB a) _ _ w1 (C_nil _ _ _) (Nat.le_refl _) (get_is [] (mkB a))
      have i1 : IntKind.i64.wrap ((vs.length : Int) + 1 - 1) = (vs.length : Int) := by
        rw [i64_w]; unfold wrap64; omega
      have i1b : IntKind.i64.wrap (vs.length : Int) = (vs.length : Int) := by
        rw [i64_w]; unfold wrap64; omega
      have i2 : (0 ≤ (vs.length : Int)) = True := eq_true (by omega)
      have i3 : ((vs.length : Int) < (vs.length : Int) + 1) = True := eq_true (by omega)
      have HV := Lib.hid hvl
      clear hvl h200 hF1 hFl
      have c0 := P4.out.cell0
      have c2 := hrl _ P4.out
      go_quiet (fail)
      have D6 := Lib.hid (fun w6 (hb : Below (w5.drewN nq).heap.size (w5.drewN nq) w6) => ((P4.out.move (pw_below_drewN (Below.refl w5.heap.size w5) nq)).move hb))
      go_wp2_with (first | (go_at_call 55; with_reducible refine (hget _).mono ?_; rintro e w6 ⟨rfl, hb6⟩; have H6 := Lib.hid (D6.out _ hb6); have d2 := hrl _ H6.out) | (go_at_call 95; with_reducible refine (my _ _).mono ?_; rintro e w' ⟨rfl, rfl⟩))
      have F6 := Lib.hid (H6.out.lastAt (by rw [HL.out]) rfl HL.out).2
      have O6 := Lib.hid (show OwnF w0.heap.size w6 (.slice none 0 0) [] from own_nil _ _ _ _)
      have d3 : ∀ ob, (w6.alloc ob).cell? ⟨g, vs.length, none⟩ = some (.slice none 0 0) := fun ob => pw_cell_below (alloc_below w6 ob) d2
      obtain ⟨i49, hi49, hz49⟩ := Option.map_eq_some_iff.1 info60
      simp only [Prod.mk.injEq] at hz49
      obtain ⟨hi1, hi2, hi3⟩ := hz49
      have n6 : ∀ (j : Nat) u, ([.string (mkB a), .string (mkB tb)] : List Value)[j]? = some u → (w6.alloc (.cells #[.string (mkB a), .string (mkB tb)] 60)).drew.cell? ((⟨w6.heap.size, 0, none⟩ : Addr).add j) = some u := by simpa using World.news_of_block (cs := #[.string (mkB a), .string (mkB tb)]) (t := 60) (fr := (0, 0)) (heap_alloc_new w6 (.cells #[.string (mkB a), .string (mkB tb)] 60))
      have o6 : ∀ u ∈ ([.string (mkB a), .string (mkB tb)] : List Value), u.oneCell' = true := by
        intro u hu
        simp only [List.mem_cons, List.not_mem_nil, or_false] at hu
        rcases hu with rfl | rfl <;> rfl
      have s6 : w0.heap.size ≤ (w6.alloc (.cells #[.string (mkB a), .string (mkB tb)] 60)).drew.heap.size := Nat.le_trans H6.out.base (alloc_base w6 _)
      have z6 : (w6.alloc (.cells #[.string (mkB a), .string (mkB tb)] 60)).drew.heap.size = w6.heap.size + 1 := by simp
      have k7 : ∀ w7 : World, (w6.alloc (.cells #[.string (mkB a), .string (mkB tb)] 60)).drew.grownBy w7 (Value.slice none 0 0).ownBlock → w7.cell? ⟨g, vs.length, none⟩ = some (.slice none 0 0) := fun w7 hg => (H6.out.stay O6.out (by decide) hg _).1.trans d2
      have k8 : ∀ w7 : World, (w6.alloc (.cells #[.string (mkB a), .string (mkB tb)] 60)).drew.grownBy w7 (Value.slice none 0 0).ownBlock → w7.frozen? ⟨g, vs.length, none⟩ = false := fun w7 hg => (H6.out.stay O6.out (by decide) hg _).2.trans F6.out
      go_region_law (first | (go_simp; go_at_call 126; refine (htrim _).mono ?_; rintro e w' ⟨rfl, rfl⟩) | (refine step_append_lies _ rfl (.tmp 77) (.tmp 82) 49 rfl w0.heap.size 60 i49 _ 2 32 Tryz.underlying49 hi49 hi1 hi2 hi3 rfl (by decide) (.slice none 0 0) 0 [] rfl (own_nil _ _ _ _) ⟨w6.heap.size, 0, none⟩ 1 1 [.string (mkB a), .string (mkB tb)] rfl rfl n6 o6 (by decide) (by decide) (by decide) s6 (w6.heap.size + 1) z6 ?_; intro g7 cap7 w7 hown7 hg7 hat7 hlt7; have e7 := k7 w7 hg7; have e8 := k8 w7 hg7))
      all_goals
        have h8 := H6.out.appended (x := []) (f := ⟨mkB a, mkB tb⟩) hl5 (by decide) (by decide) (by decide) (by rw [HL.out]) rfl HL.out (by simp [lastS]) hown7 hg7 hat7
        rw [List.dropLast_concat] at h8
        go_wp2
        simp only [bodyPost, results, Tryz.results97]
        exact ⟨trivial, .tuple #[], (by first | rfl | simp [go_sem]), rfl, _, _, h8⟩
end Go.Proofs.YtlcfpmdamehopaaGreatDoor.PA
/- What strconv.Itoa asks of memory: the table of powers of ten lies as its initialiser lays it; numbers as text. -/
namespace Go.Proofs.YtlcfpmdamehopaaGreatDoor.PA
open Go.RowKit Go.Proofs.YtlcfpmdamehopaaGreatDoorW.PrintWords Go.Proofs.YtlcfpmdamehopaaGreatDoorW.PrintLast Go.Proofs.YtlcfpmdamehopaaGreatDoorW.PrintMore
def GlobPow10 (w : World) : Prop := Lib.TabIs Tryz.prog w "internal/strconv.uint64pow10" .u64 Lib.pow10Tab
theorem pow10_named : Tryz.prog.globalNamed "internal/strconv.uint64pow10" = some 3 := by kernel_rfl
theorem GlobPow10.below {w0 w : World} (h : GlobPow10 w0) (hb : Below w0.heap.size w0 w) : GlobPow10 w := by
  unfold GlobPow10 Lib.TabIs World.var? at h ⊢
  rw [pow10_named] at h ⊢
  simp only [Option.bind_some] at h ⊢
  cases hh : w0.heap[3]? with
  | none => rw [hh] at h; cases h
  | some o =>
    have hlt : 3 < w0.heap.size := (Array.getElem?_eq_some_iff.1 hh).1
    rw [hb.block _ hlt]
    exact h
theorem below_grown_drewN (w : World) (k : Nat) (os : Array Obj) : Below w.heap.size w (Go.Sort.grow (w.drewN k) os) :=
  ⟨rfl, rfl, rfl, by show w.heap.size ≤ (w.heap ++ os).size; rw [Array.size_append]; omega, fun _ hj => Go.Sort.heap_grow_old (w.drewN k) os hj⟩
theorem itoa_calls (n : Int) (hn : -9223372036854775808 ≤ n ∧ n ≤ 9223372036854775807) (w : World) (h : GlobPow10 w) :
    Calls Tryz.prog 31 #[.int .i64 n] w fun e w' => e = .returned (.string ⟨(Lib.itoa n).toArray⟩) ∧ Below w.heap.size w w' :=
  (Tryz.strconv_Itoa n hn.1 hn.2 w h).mono fun _ _ ⟨he, k, os, hw⟩ => ⟨he, by rw [hw]; exact below_grown_drewN w k os⟩
def strconv_Itoa.f (n : Int) : Option ByteArray := if -9223372036854775808 ≤ n ∧ n ≤ 9223372036854775807 then some ⟨(Lib.itoa n).toArray⟩ else none
theorem strconv_Itoa.calls (n : Int) (r : ByteArray) (w : World) (hG_pow10 : GlobPow10 w) (h : strconv_Itoa.f n = some r) :
    Calls Tryz.prog 31 #[.int .i64 n] w fun e w' => e = .returned (.string r) ∧ Below w.heap.size w w' := by
  unfold strconv_Itoa.f at h
  split at h
  case isFalse => cases h
  rename_i hn
  obtain rfl := Option.some.inj h
  exact itoa_calls n hn w hG_pow10
end Go.Proofs.YtlcfpmdamehopaaGreatDoor.PA
/- What is read of a number's own decimal text is that number. Condition: it is less than 2^60. -/
namespace Go.Proofs.YtlcfpmdamehopaaGreatDoor.PA
open Go Go.Lib
theorem parse_snoc (c : UInt8) : ∀ (l : List UInt8) (acc a : Nat), parseUint10 acc l = .ok a → parseUint10 acc (l ++ [c]) = parseUint10 a [c] := by
  intro l
  induction l with
  | nil => intro acc a h; simp only [parseUint10] at h; injection h with h; subst h; rfl
  | cons d l ih =>
    intro acc a h
    simp only [List.cons_append, parseUint10] at h ⊢
    split at h
    · rename_i h1
      rw [if_pos h1]
      split at h
      · cases h
      · rename_i h2
        rw [if_neg h2]
        split at h
        · cases h
        · rename_i h3
          rw [if_neg h3]
          exact ih _ _ h
    · cases h
theorem digit_nat (k : Nat) (h : k < 10) : (UInt8.ofNat (48 + k)).toNat = 48 + k := by
  rw [UInt8.toNat_ofNat']; omega
theorem parse_digit (acc k : Nat) (hk : k < 10) (ha : acc < 1844674407370955161) : parseUint10 acc [UInt8.ofNat (48 + k)] = .ok (acc * 10 + k) := by
  simp only [parseUint10, digit_nat k hk]
  rw [if_pos (by omega), if_neg (by omega), if_neg (by omega), show 48 + k - 48 = k by omega]
theorem parse_dec : ∀ u : Nat, u < 1152921504606846976 → parseUint10 0 (decDigits u) = .ok u := by
  intro u
  induction u using Nat.strongRecOn with
  | _ u ih =>
    intro hu
    rw [decDigits]
    split
    · rename_i h
      rw [parse_digit 0 u h (by decide)]; simp
    · rename_i h
      rw [parse_snoc _ _ _ _ (ih (u / 10) (by omega) (by omega)), parse_digit _ _ (Nat.mod_lt _ (by decide)) (by omega)]
      congr 1; omega
theorem dec_head : ∀ u : Nat, ∃ c r, decDigits u = c :: r ∧ 48 ≤ c.toNat ∧ c.toNat ≤ 57 := by
  intro u
  induction u using Nat.strongRecOn with
  | _ u ih =>
    rw [decDigits]
    split
    · rename_i h
      exact ⟨_, [], rfl, by rw [digit_nat u h]; omega, by rw [digit_nat u h]; omega⟩
    · rename_i h
      obtain ⟨c, r, e, h1, h2⟩ := ih (u / 10) (by omega)
      rw [e]
      exact ⟨c, r ++ [UInt8.ofNat (48 + u % 10)], rfl, h1, h2⟩
theorem atoi_itoa (n : Int) (h0 : -1152921504606846976 < n) (h1 : n < 1152921504606846976) : atoiAll (itoa n) = .ok n := by
  unfold itoa
  by_cases hn : n < 0
  · rw [if_pos hn]
    obtain ⟨c, r, e, _, _⟩ := dec_head n.natAbs
    have hp : parseMag (decDigits n.natAbs) = .ok n.natAbs := by
      unfold parseMag
      rw [if_neg (by rw [e]; simp), parse_dec _ (by omega)]
    unfold atoiAll
    dsimp only
    rw [if_pos (.inr (by decide)), hp]
    dsimp only
    rw [if_neg (fun h => h.1 (by decide)), if_neg (by omega), if_pos (by decide)]
    congr 1; omega
  · rw [if_neg hn]
    obtain ⟨c, r, e, h2, h3⟩ := dec_head n.toNat
    have hp : parseMag (decDigits n.toNat) = .ok n.toNat := by
      unfold parseMag
      rw [if_neg (by rw [e]; simp), parse_dec _ (by omega)]
    unfold atoiAll
    rw [e] at hp ⊢
    dsimp only
    rw [if_neg (by omega), hp]
    dsimp only
    rw [if_neg (by omega), if_neg (by omega), if_neg (by omega)]
    congr 1; omega
end Go.Proofs.YtlcfpmdamehopaaGreatDoor.PA
/- strconv.Atoi, whole: what it comes to. Conditions: the library's two errors lie in their variables; a text has a size that fits. -/
namespace Go.Proofs.YtlcfpmdamehopaaGreatDoor.PA
open Go.RowKit Go.Proofs.YtlcfpmdamehopaaGreatDoorW.PrintWords Go.Proofs.YtlcfpmdamehopaaGreatDoorW.PrintLast Go.Proofs.YtlcfpmdamehopaaGreatDoorW.PrintMore
def GlobNumErr (w : World) : Prop := (∃ u v, w.cell? ⟨1, 0, none⟩ = some (.iface u v)) ∧ (∃ u v, w.cell? ⟨2, 0, none⟩ = some (.iface u v))
theorem GlobNumErr.below {w0 w : World} (h : GlobNumErr w0) (hb : Below w0.heap.size w0 w) : GlobNumErr w := by
  obtain ⟨⟨u, v, h1⟩, ⟨u', v', h2⟩⟩ := h
  exact ⟨⟨u, v, pw_cell_below hb h1⟩, ⟨u', v', pw_cell_below hb h2⟩⟩
def numOf (l : List UInt8) : Option Int := match Lib.atoiAll l with | .ok v => some v | _ => none
theorem atoi_good (s : ByteArray) (hs : s.size ≤ 281474976710656) (v : Int) (h : numOf s.data.toList = some v) (w : World) :
    Calls Tryz.prog 57 #[.string s] w fun e w' => e = .returned (.tuple #[.int .i64 v, .nilIface]) ∧ Below w.heap.size w w' := by
  unfold numOf at h
  split at h
  · rename_i u e
    obtain rfl := Option.some.inj h
    refine (Tryz.strconv_Atoi_ok s (by omega) _ e w).mono ?_
    rintro e w' ⟨rfl, rfl | ⟨t, rfl⟩⟩
    · exact ⟨rfl, Below.refl _ _⟩
    · exact ⟨rfl, bytes_below (Below.refl _ _) (Nat.le_refl _) _ _⟩
  · cases h
/-- The number beside an error. -/
def badV (l : List UInt8) : Int := match Lib.atoiAll l with | .range => Lib.atoiSat l | _ => 0
def BadNum (v : Int) (w : World) (e : Ending) (w' : World) : Prop := ∃ (N : Nat) (T : TypeId), e = .returned (.tuple #[.int .i64 v, .iface T (.pointer (some ⟨N, 0, none⟩))]) ∧ Below w.heap.size w w'
theorem atoi_bad (s : ByteArray) (hs : s.size ≤ 281474976710656) (h : numOf s.data.toList = none) (w : World) (hG : GlobNumErr w) :
    Calls Tryz.prog 57 #[.string s] w (BadNum (badV s.data.toList) w) := by
  obtain ⟨⟨u, v, h1⟩, ⟨u', v', h2⟩⟩ := hG
  unfold numOf at h
  unfold badV
  split at h
  · cases h
  · rename_i hno
    cases e : Lib.atoiAll s.data.toList with
    | ok v => exact absurd e (hno v)
    | range =>
      refine (Tryz.strconv_Atoi_range s hs e _ w h2 (.inr ⟨_, _, rfl⟩)).mono ?_
      rintro e w' ⟨N, rfl, _, _, hb⟩
      exact ⟨N, _, rfl, hb⟩
    | _ =>
      refine (Tryz.strconv_Atoi_syntax s hs hno (by rw [e]; intro h; cases h) _ w h1 (.inr ⟨_, _, rfl⟩)).mono ?_
      rintro e w' ⟨N, rfl, _, _, hb⟩
      exact ⟨N, _, rfl, hb⟩
theorem atoi_range {l : List UInt8} {v : Int} (h : numOf l = some v) : -9223372036854775808 ≤ v ∧ v ≤ 9223372036854775807 := by
  unfold numOf Lib.atoiAll at h
  cases l with
  | nil => simp at h
  | cons c r =>
    dsimp only at h
    split at h
    · rename_i u e
      split at e
      · cases e
      · cases e
      · rename_i u' hu
        split at e
        · cases e
        · split at e
          · cases e
          · split at e <;> (injection e with e; obtain rfl := Option.some.inj h; omega)
    · cases h
def itoaB (n : Int) : ByteArray := ⟨(Lib.itoa n).toArray⟩
end Go.Proofs.YtlcfpmdamehopaaGreatDoor.PA
/- What this seat's rows list as laid: tables and two errors; a world in which they lie so; what the world's shape gives to the walks. -/
/- A row with laid tables over a world whose shape is kept: what lies as laid and the shape, both handed to the walk. No condition. -/
namespace Go.Proofs.YtlcfpmdamehopaaGreatDoor
open Go
variable {H : Type} {enc : TypeId × Value → H}
theorem returns_laid_shaped {a : Assume} {C : Checked} {os : Os} {f : FuncId} {fn : Func} {s : ChangeSpec} {conds : List PathCond} {apart fresh handsOn again : Bool} {X : World → Array Value → Prop}
    (hX : ∀ (w w' : World) (args : Array Value), w.heap = w'.heap → X w args → X w' args)
    (own : ownKnob C.prog.godebug = none) (started : os.Started) (noInit : C.prog.inits.idxOf? f = none) (hfn : C.prog.funcs[f]? = some fn)
    (witness : ∃ (w : World) (tape : Tape) (i : Input), w.os = os ∧ (w.forCall tape i).Shaped C.prog ∧ i.vars = [] ∧ Input.okWide C.prog (w.forCall tape i) .any w.heap.size f i ∧
      ((s.pre enc C.prog fn conds apart (w.forCall tape i).memory i.args ∧ X (w.forCall tape i).memory i.args) ∧ sizedMet enc C.prog fn (OpenSpec.ofChange s) apart (w.forCall tape i).memory i.args) ∧ a.holds C.prog (lone (Frame.enter C.prog f i.args .normal) [] (w.forCall tape i)))
    (walk : ∀ (W : World) (base : Nat) (args : Array Value) (ds gs : List (DataW H)) (before : List MemPlace),
      (∀ (j : Nat) t v, fn.params[j]? = some t → args[j]? = some v → Value.okWide C.prog W .any base t v) →
      DataW.Whole enc C.prog fn.params.toList s.vars apart W args.toList ds gs before →
      conds.all (PathCond.test C.prog ⟨fn.params.toList, ds, s.plain.varTypes C.prog, gs⟩) = true →
      (DataW.weightsEach C.prog (fn.params.toList ++ s.plain.varTypes C.prog) (ds ++ gs)).all (· ≤ reachBytes) = true → X W args → W.ShapedOpen C.prog →
      a.holds C.prog (lone (Frame.enter C.prog f args .normal) [] W) →
      Calls C.prog f args W fun e W' => ∃ v, e = .returned v ∧ s.post enc C.prog fn apart fresh handsOn again W args v W') :
    ReturnsInHanded a C os f .any (fun w args => (s.pre enc C.prog fn conds apart w args ∧ X w args) ∧ sizedMet enc C.prog fn (OpenSpec.ofChange s) apart w args) (s.post enc C.prog fn apart fresh handsOn again) := by
  refine returnsInHanded_of_calls own started noInit witness ?_
  intro w tape i _ shape _ ok hpre holds
  obtain ⟨_, _, _, fn', hf, _, _, _, _, val⟩ := ok
  obtain rfl : fn' = fn := Option.some.inj (hf.symm.trans hfn)
  obtain ⟨⟨⟨ds, gs, before, hw, hc⟩, hx⟩, hz⟩ := hpre
  refine (walk (w.forCall tape i) w.heap.size i.args ds gs before val (DataW.Whole.of_heap (w' := w.forCall tape i) (by rfl) hw) hc (hz.weights hw) (hX _ _ _ (by rfl) hx) shape holds).mono ?_
  rintro e W' ⟨v, rfl, hp⟩
  exact ChangeSpec.post_blind hp
end Go.Proofs.YtlcfpmdamehopaaGreatDoor
namespace Go.Proofs.YtlcfpmdamehopaaGreatDoor
open Go.ChangeShapes Go.WideShapes Go.RowKit
theorem maxLen_of_shape {W : World} (h : W.ShapedOpen Tryz.prog) : PA.GlobMaxLen W :=
  cell_of_shapedOpen_int (P := Tryz.prog) (g := 0) (t := 3) (zero := #[.int .i64 0]) h (of_decide_eq_true (by kernel_rfl)) (by kernel_rfl) rfl (by kernel_rfl) (by kernel_rfl) Tryz.underlying3
def setCells (cs : Array Value) : Obj → Obj | .cells _ t frozen => .cells cs t frozen | o => o
noncomputable def lowW : Nat := (World.holding Tryz.prog default ⟨#[], #[], []⟩).heap.size
noncomputable def laidWorld (os : Os) : World :=
  let w0 := World.holding Tryz.prog os ⟨#[.cells #[.string ⟨#[118, 97, 108, 117, 101, 32, 111, 117, 116, 32, 111, 102, 32, 114, 97, 110, 103, 101]⟩] 206, .cells #[.string ⟨#[105, 110, 118, 97, 108, 105, 100, 32, 115, 121, 110, 116, 97, 120]⟩] 206], #[], []⟩
  { w0 with heap := (((((((w0.heap.modify 6 (setCells #[.int .u8 0, .int .u8 1, .int .u8 28, .int .u8 2, .int .u8 29, .int .u8 14, .int .u8 24, .int .u8 3, .int .u8 30, .int .u8 22, .int .u8 20, .int .u8 15, .int .u8 25, .int .u8 17, .int .u8 4, .int .u8 8, .int .u8 31, .int .u8 27, .int .u8 13, .int .u8 23, .int .u8 21, .int .u8 19, .int .u8 16, .int .u8 7, .int .u8 26, .int .u8 12, .int .u8 18, .int .u8 6, .int .u8 11, .int .u8 5, .int .u8 10, .int .u8 9])).modify 7 (setCells #[.int .u8 0, .int .u8 1, .int .u8 56, .int .u8 2, .int .u8 57, .int .u8 49, .int .u8 28, .int .u8 3, .int .u8 61, .int .u8 58, .int .u8 42, .int .u8 50, .int .u8 38, .int .u8 29, .int .u8 17, .int .u8 4, .int .u8 62, .int .u8 47, .int .u8 59, .int .u8 36, .int .u8 45, .int .u8 43, .int .u8 51, .int .u8 22, .int .u8 53, .int .u8 39, .int .u8 33, .int .u8 30, .int .u8 24, .int .u8 18, .int .u8 12, .int .u8 5, .int .u8 63, .int .u8 55, .int .u8 48, .int .u8 27, .int .u8 60, .int .u8 41, .int .u8 37, .int .u8 16, .int .u8 46, .int .u8 35, .int .u8 44, .int .u8 21, .int .u8 52, .int .u8 32, .int .u8 23, .int .u8 11, .int .u8 54, .int .u8 26, .int .u8 40, .int .u8 15, .int .u8 34, .int .u8 20, .int .u8 31, .int .u8 10, .int .u8 25, .int .u8 14, .int .u8 19, .int .u8 9, .int .u8 13, .int .u8 8, .int .u8 7, .int .u8 6])).modify 3 (setCells #[.int .u64 1, .int .u64 10, .int .u64 100, .int .u64 1000, .int .u64 10000, .int .u64 100000, .int .u64 1000000, .int .u64 10000000, .int .u64 100000000, .int .u64 1000000000, .int .u64 10000000000, .int .u64 100000000000, .int .u64 1000000000000, .int .u64 10000000000000, .int .u64 100000000000000, .int .u64 1000000000000000, .int .u64 10000000000000000, .int .u64 100000000000000000, .int .u64 1000000000000000000, .int .u64 10000000000000000000])).modify 5 (setCells #[.int .u8 128, .int .u8 191, .int .u8 160, .int .u8 191, .int .u8 128, .int .u8 159, .int .u8 144, .int .u8 191, .int .u8 128, .int .u8 143, .int .u8 0, .int .u8 0, .int .u8 0, .int .u8 0, .int .u8 0, .int .u8 0, .int .u8 0, .int .u8 0, .int .u8 0, .int .u8 0, .int .u8 0, .int .u8 0, .int .u8 0, .int .u8 0, .int .u8 0, .int .u8 0, .int .u8 0, .int .u8 0, .int .u8 0, .int .u8 0, .int .u8 0, .int .u8 0])).modify 2 (setCells #[.iface 204 (.pointer (some ⟨lowW + 0, 0, none⟩))])).modify 1 (setCells #[.iface 204 (.pointer (some ⟨lowW + 1, 0, none⟩))])).modify 4 (setCells (Go.Pinned.utf8FirstZ.map fun n : Nat => Value.int .u8 (n : Int)).toArray)) }
set_option maxRecDepth 100000 in
theorem laid_met_deBruijn32tab_deBruijn64tab_uint64pow10_acceptRanges_ErrRange_ErrSyntax_first (os : Os) (args : Array Value) : laidMet Tryz.prog [("math/bits.deBruijn32tab", Rows.laid_math_bits_deBruijn32tab), ("math/bits.deBruijn64tab", Rows.laid_math_bits_deBruijn64tab), ("internal/strconv.uint64pow10", Rows.laid_internal_strconv_uint64pow10), ("unicode/utf8.acceptRanges", Rows.laid_unicode_utf8_acceptRanges), ("strconv.ErrRange", Rows.laid_strconv_ErrRange), ("strconv.ErrSyntax", Rows.laid_strconv_ErrSyntax), ("unicode/utf8.first", Rows.laid_unicode_utf8_first)] ((laidWorld os).forCall (fun _ _ => 0) ⟨#[], args, []⟩).memory :=
  laidMet_of_run' 8 (by kernel_rfl) (by kernel_rfl)
theorem ErrRange_laid {W : World} (h : laidMet Tryz.prog [("math/bits.deBruijn32tab", Rows.laid_math_bits_deBruijn32tab), ("math/bits.deBruijn64tab", Rows.laid_math_bits_deBruijn64tab), ("internal/strconv.uint64pow10", Rows.laid_internal_strconv_uint64pow10), ("unicode/utf8.acceptRanges", Rows.laid_unicode_utf8_acceptRanges), ("strconv.ErrRange", Rows.laid_strconv_ErrRange), ("strconv.ErrSyntax", Rows.laid_strconv_ErrSyntax), ("unicode/utf8.first", Rows.laid_unicode_utf8_first)] W) : ∃ u v, W.cell? ⟨2, 0, none⟩ = some (.iface u v) := by
  obtain ⟨ps, LV0, _⟩ := h
  obtain ⟨g0, t0, cs0, f0, p0, q0, hg0, ht0, hv0, hd0, LV1, _⟩ := LV0
  obtain ⟨g1, t1, cs1, f1, p1, q1, hg1, ht1, hv1, hd1, LV2, _⟩ := LV1
  obtain ⟨g2, t2, cs2, f2, p2, q2, hg2, ht2, hv2, hd2, LV3, _⟩ := LV2
  obtain ⟨g3, t3, cs3, f3, p3, q3, hg3, ht3, hv3, hd3, LV4, _⟩ := LV3
  obtain ⟨g4, t4, cs4, f4, p4, q4, hg4, ht4, hv4, hd4, LV5, _⟩ := LV4
  obtain rfl := Option.some.inj ((show Tryz.prog.globalNamed "strconv.ErrRange" = some 2 by kernel_rfl).symm.trans hg4)
  obtain rfl := Option.some.inj ((show (Tryz.prog.globals[2]?).map (·.type) = some 74 by kernel_rfl).symm.trans ht4)
  obtain ⟨_, u, v, e, _⟩ := iface_of_trod Tryz.underlying74 hd4
  obtain ⟨l4⟩ := cs4
  change l4 = _ at e
  subst e
  exact ⟨u, v, by simpa using World.var?_cell (show Tryz.prog.globalNamed "strconv.ErrRange" = some 2 by kernel_rfl) hv4 0⟩
theorem ErrSyntax_laid {W : World} (h : laidMet Tryz.prog [("math/bits.deBruijn32tab", Rows.laid_math_bits_deBruijn32tab), ("math/bits.deBruijn64tab", Rows.laid_math_bits_deBruijn64tab), ("internal/strconv.uint64pow10", Rows.laid_internal_strconv_uint64pow10), ("unicode/utf8.acceptRanges", Rows.laid_unicode_utf8_acceptRanges), ("strconv.ErrRange", Rows.laid_strconv_ErrRange), ("strconv.ErrSyntax", Rows.laid_strconv_ErrSyntax), ("unicode/utf8.first", Rows.laid_unicode_utf8_first)] W) : ∃ u v, W.cell? ⟨1, 0, none⟩ = some (.iface u v) := by
  obtain ⟨ps, LV0, _⟩ := h
  obtain ⟨g0, t0, cs0, f0, p0, q0, hg0, ht0, hv0, hd0, LV1, _⟩ := LV0
  obtain ⟨g1, t1, cs1, f1, p1, q1, hg1, ht1, hv1, hd1, LV2, _⟩ := LV1
  obtain ⟨g2, t2, cs2, f2, p2, q2, hg2, ht2, hv2, hd2, LV3, _⟩ := LV2
  obtain ⟨g3, t3, cs3, f3, p3, q3, hg3, ht3, hv3, hd3, LV4, _⟩ := LV3
  obtain ⟨g4, t4, cs4, f4, p4, q4, hg4, ht4, hv4, hd4, LV5, _⟩ := LV4
  obtain ⟨g5, t5, cs5, f5, p5, q5, hg5, ht5, hv5, hd5, LV6, _⟩ := LV5
  obtain rfl := Option.some.inj ((show Tryz.prog.globalNamed "strconv.ErrSyntax" = some 1 by kernel_rfl).symm.trans hg5)
  obtain rfl := Option.some.inj ((show (Tryz.prog.globals[1]?).map (·.type) = some 74 by kernel_rfl).symm.trans ht5)
  obtain ⟨_, u, v, e, _⟩ := iface_of_trod Tryz.underlying74 hd5
  obtain ⟨l5⟩ := cs5
  change l5 = _ at e
  subst e
  exact ⟨u, v, by simpa using World.var?_cell (show Tryz.prog.globalNamed "strconv.ErrSyntax" = some 1 by kernel_rfl) hv5 0⟩
theorem numErr_of_laid {W : World} (h : laidMet Tryz.prog [("math/bits.deBruijn32tab", Rows.laid_math_bits_deBruijn32tab), ("math/bits.deBruijn64tab", Rows.laid_math_bits_deBruijn64tab), ("internal/strconv.uint64pow10", Rows.laid_internal_strconv_uint64pow10), ("unicode/utf8.acceptRanges", Rows.laid_unicode_utf8_acceptRanges), ("strconv.ErrRange", Rows.laid_strconv_ErrRange), ("strconv.ErrSyntax", Rows.laid_strconv_ErrSyntax), ("unicode/utf8.first", Rows.laid_unicode_utf8_first)] W) : PA.GlobNumErr W := ⟨ErrSyntax_laid h, ErrRange_laid h⟩
theorem pow10_of_laid {W : World} (h : laidMet Tryz.prog [("math/bits.deBruijn32tab", Rows.laid_math_bits_deBruijn32tab), ("math/bits.deBruijn64tab", Rows.laid_math_bits_deBruijn64tab), ("internal/strconv.uint64pow10", Rows.laid_internal_strconv_uint64pow10), ("unicode/utf8.acceptRanges", Rows.laid_unicode_utf8_acceptRanges), ("strconv.ErrRange", Rows.laid_strconv_ErrRange), ("strconv.ErrSyntax", Rows.laid_strconv_ErrSyntax), ("unicode/utf8.first", Rows.laid_unicode_utf8_first)] W) : PA.GlobPow10 W := by
  obtain ⟨ps, LV0, _⟩ := h
  obtain ⟨g0, t0, cs0, f0, p0, q0, hg0, ht0, hv0, hd0, LV1, _⟩ := LV0
  obtain ⟨g1, t1, cs1, f1, p1, q1, hg1, ht1, hv1, hd1, LV2, _⟩ := LV1
  obtain ⟨g2, t2, cs2, f2, p2, q2, hg2, ht2, hv2, hd2, LV3, _⟩ := LV2
  obtain rfl := Option.some.inj ((show Tryz.prog.globalNamed "internal/strconv.uint64pow10" = some 3 by kernel_rfl).symm.trans hg2)
  obtain rfl := Option.some.inj ((show (Tryz.prog.globals[3]?).map (·.type) = some 189 by kernel_rfl).symm.trans ht2)
  have ed : (Rows.laid_internal_strconv_uint64pow10 : DataW Unit) = Lib.tabData .u64 Lib.pow10Tab := by kernel_rfl
  rw [ed] at hd2
  have hc := Lib.cells_of_tab Tryz.underlying189 Tryz.underlying155 (by kernel_rfl) (by kernel_rfl) hd2
  show Lib.TabIs _ _ _ _ _
  unfold Lib.TabIs
  rw [hv2, ← hc]
end Go.Proofs.YtlcfpmdamehopaaGreatDoor
/- What reads as data reads as a kind's value, within the machine's bounds: for the rows of this seat's laws. No condition. -/
namespace Go.Proofs.YtlcfpmdamehopaaGreatDoor.PA
open Go Go.RowKit Go.Proofs.YtlcfpmdamehopaaGreatDoorW.PrintWords Go.Proofs.YtlcfpmdamehopaaGreatDoorW.PrintLast Go.Proofs.YtlcfpmdamehopaaGreatDoorW.PrintMore

def Opens {α : Type} (P : Program) (t : TypeId) (d : Kd α) (ok : α → Prop) : Prop :=
  P.cellsOf t = d.sz ∧ ∀ {H : Type} (enc : TypeId × Value → H) (w : World) (sp : Nat → Bool) (held : Bool) (fuel : Nat) (cs : List Value) (x : DataW H × List MemPlace),
    DataW.trod enc P w 0 sp held fuel t cs = some x → (∀ n ∈ x.1.weights P t, n ≤ reachBytes) → ∃ v : α, d.K w v cs ∧ ok v
def okI (k : IntKind) (x : Int) : Prop := (Lit.int k x).wf = true
def okS (s : ByteArray) : Prop := s.size ≤ 140737488351232
def okL {α : Type} (bytes : Nat) (ok : α → Prop) (l : List α) : Prop := l.length * bytes ≤ 140737488351232 ∧ ∀ x ∈ l, ok x
def okP {α β : Type} (a : α → Prop) (b : β → Prop) (x : α × β) : Prop := a x.1 ∧ b x.2

variable {P : Program}
theorem opens_int {t : TypeId} {k : IntKind} (ht : P.underlying t = some (.int k)) (hc : P.cellsOf t = 1) : Opens P t (Kd.int k) (okI k) :=
  ⟨hc, fun _ _ _ _ _ _ _ h _ => by
    obtain ⟨n, rfl, _, hw⟩ := DataW.trod_int ht h
    exact ⟨n, rfl, hw⟩⟩
theorem opens_string {t : TypeId} (ht : P.underlying t = some .string) (hc : P.cellsOf t = 1) : Opens P t Kd.string okS :=
  ⟨hc, fun _ _ _ _ _ _ _ h hz => by
    obtain ⟨s, rfl, rfl, _⟩ := DataW.trod_string ht h
    refine ⟨s, rfl, ?_⟩
    have h1 := hz s.data.toList.length (by unfold DataW.weights; exact List.mem_singleton.2 rfl)
    have h2 : reachBytes = 140737488351232 := by decide
    have h3 : s.data.toList.length = s.size := Array.length_toList
    unfold okS
    omega⟩
theorem list_of_each {α : Type} {Q : Nat → α → Prop} : ∀ n, (∀ j, j < n → ∃ v, Q j v) → ∃ xs : List α, xs.length = n ∧ ∀ j p, xs[j]? = some p → Q j p
  | 0, _ => ⟨[], rfl, fun j p h => by simp at h⟩
  | n + 1, h => by
    obtain ⟨xs, hl, hx⟩ := list_of_each n fun j hj => h j (by omega)
    obtain ⟨v, hv⟩ := h n (by omega)
    refine ⟨xs ++ [v], by simp [hl], fun j p hp => ?_⟩
    rcases Nat.lt_or_ge j n with hj | hj
    · rw [List.getElem?_append_left (by omega)] at hp
      exact hx j p hp
    · have hjn : j = n := by
        have := (List.getElem?_eq_some_iff.1 hp).1
        simp at this; omega
      subst hjn
      rw [List.getElem?_append_right (by omega), hl, Nat.sub_self] at hp
      simp at hp
      subst hp
      exact hv
theorem weights_all {H : Type} {e : TypeId} : ∀ {l : List (DataW H)} {d : DataW H}, d ∈ l → ∀ n ∈ d.weights P e, n ∈ DataW.weightsAll P e l
  | d0 :: l, d, hd, n, hn => by
    simp only [DataW.weightsAll, List.mem_append]
    rcases List.mem_cons.1 hd with rfl | hd
    · exact .inl hn
    · exact .inr (weights_all hd n hn)
theorem add_add' (a : Addr) (i j : Nat) : (a.add i).add j = a.add (i + j) := by
  unfold Addr.add
  by_cases hi : i = 0 <;> by_cases hj : j = 0 <;> simp [hi, hj] <;> omega
theorem opens_slice {α : Type} {t e : TypeId} {d : Kd α} {ok : α → Prop} (ht : P.underlying t = some (.slice e)) (hc : P.cellsOf t = 1) (he : Opens P e d ok) :
    Opens P t (Kd.slice e d) (okL (P.bytesOf e) ok) :=
  ⟨hc, fun enc w sp held fuel cs x h hz => by
    rcases DataW.trod_slice ht h with ⟨rfl, rfl⟩ | ⟨a, len, cap, elems, rest, n, rfl, rfl, rfl, _, hlc, hcm, hlen, hel, _, _⟩
    · exact ⟨[], ⟨none, 0, rfl, Nat.le_refl _, rfl, Nat.zero_le _, fun h => absurd h (Nat.lt_irrefl _)⟩, by simp [okL]⟩
    · have hw : (elems.length + rest.length) * P.bytesOf e ≤ reachBytes := hz _ (by simp [DataW.weights, ht])
      have hx : ∀ i, i < len → ∃ v, (∃ c, c.length = d.sz ∧ d.K w v c ∧ ∀ j u, c[j]? = some u → w.cell? (a.add (i * d.sz + j)) = some u) ∧ ok v := by
        intro i hi
        have h1 := hel i hi
        have hie : i < elems.length := by omega
        rw [List.getElem?_eq_getElem hie, Option.bind_eq_some_iff] at h1
        obtain ⟨c, hcc, htr⟩ := h1
        obtain ⟨v, hK, hok⟩ := he.2 enc w sp held n c elems[i] htr (fun m hm => hz m (by
          have h2 : elems[i].1 ∈ elems.map (·.1) := List.mem_map_of_mem (List.getElem_mem hie)
          simp only [DataW.weights, ht, List.mem_cons, List.mem_append]
          exact .inr (.inl (weights_all h2 m hm))))
        obtain ⟨_, hcl, hget⟩ := World.cells?_some hcc
        refine ⟨v, ⟨c, d.K_len hK, hK, fun j u hj => ?_⟩, hok⟩
        have hjl := (List.getElem?_eq_some_iff.1 hj).1
        rw [← he.1, ← add_add', hget j (by rw [← hcl]; exact hjl)]
        exact hj
      obtain ⟨xs, hxl, hxs⟩ := list_of_each len hx
      refine ⟨xs, ⟨some a, cap, by rw [hxl], by omega, hxl.symm ▸ rfl, ?_, fun _ => ⟨a, rfl, fun j p hp => (hxs j p hp).1⟩⟩, ?_, fun y hy => ?_⟩
      · have hm : maxLen = 9223372036854775807 := by decide
        omega
      · have h3 : xs.length * P.bytesOf e ≤ (elems.length + rest.length) * P.bytesOf e := Nat.mul_le_mul_right _ (by omega)
        have h4 : reachBytes = 140737488351232 := by decide
        omega
      · obtain ⟨j, hj, rfl⟩ := List.getElem_of_mem hy
        exact (hxs j _ (List.getElem?_eq_getElem hj)).2⟩

/-! Structs: field by field -/
def ReadsF {H : Type} (enc : TypeId × Value → H) (P : Program) (w : World) (sp : Nat → Bool) (held : Bool) (n : Nat) : List TypeId → List Value → List (DataW H × List MemPlace) → Prop
  | [], cs, xs => cs = [] ∧ xs = []
  | t :: ts, cs, xs => ∃ c0 rest x0 xr, cs = c0 ++ rest ∧ xs = x0 :: xr ∧ DataW.trod enc P w 0 sp held n t c0 = some x0 ∧ ReadsF enc P w sp held n ts rest xr
def OpensF {α : Type} (P : Program) (ts : List TypeId) (d : Kd α) (ok : α → Prop) : Prop :=
  (ts.map P.cellsOf).sum = d.sz ∧ ∀ {H : Type} (enc : TypeId × Value → H) (w : World) (sp : Nat → Bool) (held : Bool) (n : Nat) (cs : List Value) (xs : List (DataW H × List MemPlace)),
    ReadsF enc P w sp held n ts cs xs → (∀ n ∈ DataW.weightsEach P ts (xs.map (·.1)), n ≤ reachBytes) → ∃ v : α, d.K w v cs ∧ ok v
theorem opensF_one {α : Type} {t : TypeId} {d : Kd α} {ok : α → Prop} (h : Opens P t d ok) : OpensF P [t] d ok :=
  ⟨by simpa using h.1, fun enc w sp held n cs xs hr hz => by
    obtain ⟨c0, rest, x0, xr, rfl, rfl, h0, rfl, rfl⟩ := hr
    rw [List.append_nil]
    exact h.2 enc w sp held n c0 x0 h0 (fun m hm => hz m (by simp [DataW.weightsEach, hm]))⟩
theorem opensF_cons {α β : Type} {t : TypeId} {ts : List TypeId} {d : Kd α} {e : Kd β} {ok : α → Prop} {ok' : β → Prop} (h : Opens P t d ok) (k : OpensF P ts e ok') : OpensF P (t :: ts) (Kd.pair d e) (okP ok ok') :=
  ⟨by simp only [List.map_cons, List.sum_cons, h.1, k.1]; rfl, fun enc w sp held n cs xs hr hz => by
    obtain ⟨c0, rest, x0, xr, rfl, rfl, h0, hr⟩ := hr
    obtain ⟨v, hv, hok⟩ := h.2 enc w sp held n c0 x0 h0 (fun m hm => hz m (by simp [DataW.weightsEach, hm]))
    obtain ⟨u, hu, hok'⟩ := k.2 enc w sp held n rest xr hr (fun m hm => hz m (by simp [DataW.weightsEach, hm]))
    exact ⟨(v, u), ⟨c0, rest, rfl, hv, hu⟩, hok, hok'⟩⟩
def offsF (P : Program) : Nat → List Field → List Nat
  | _, [] => []
  | o, f :: fs => o :: offsF P (o + P.cellsOf f.type) fs
theorem readsF_of {H : Type} {enc : TypeId × Value → H} {w : World} {sp : Nat → Bool} {held : Bool} {n : Nat} : ∀ (fs : List Field) (cs : List Value) (xs : List (DataW H × List MemPlace)) (o : Nat),
    fs.map (·.offset) = offsF P o fs → xs.length = fs.length → cs.length = o + ((fs.map fun f => P.cellsOf f.type).sum) →
    (∀ (i : Nat) (f : Field), fs[i]? = some f → DataW.trod enc P w 0 sp held n f.type ((cs.drop f.offset).take (P.cellsOf f.type)) = xs[i]?) →
    ReadsF enc P w sp held n (fs.map (·.type)) (cs.drop o) xs
  | [], cs, xs, o, _, hx, hl, _ => by
    refine ⟨List.drop_eq_nil_of_le (by simp at hl; omega), by simpa using hx⟩
  | f :: fs, cs, xs, o, ho, hx, hl, hr => by
    obtain ⟨x0, xr, rfl⟩ : ∃ x0 xr, xs = x0 :: xr := by
      match xs, hx with
      | x0 :: xr, _ => exact ⟨x0, xr, rfl⟩
    simp only [List.map_cons, offsF, List.cons.injEq] at ho
    have hr0 := hr 0 f rfl
    rw [ho.1] at hr0
    refine ⟨(cs.drop o).take (P.cellsOf f.type), (cs.drop o).drop (P.cellsOf f.type), x0, xr, (List.take_append_drop _ _).symm, rfl, hr0, ?_⟩
    rw [List.drop_drop]
    refine readsF_of fs cs xr (o + P.cellsOf f.type) ho.2 (by simpa using hx) (by simp at hl; omega) (fun i g hg => ?_)
    have := hr (i + 1) g (by simpa using hg)
    simpa using this
theorem opens_struct {α : Type} {t : TypeId} {fs : Array Field} {ts : List TypeId} {d : Kd α} {ok : α → Prop} (ht : P.underlying t = some (.struct fs)) (hts : fs.toList.map (·.type) = ts) (hc : P.cellsOf t = (ts.map P.cellsOf).sum)
    (ho : fs.toList.map (·.offset) = offsF P 0 fs.toList) (h : OpensF P ts d ok) : Opens P t d ok :=
  ⟨by rw [hc]; exact h.1, fun enc w sp held fuel cs x hx hz => by
    obtain ⟨xs, n, rfl, rfl, hl, hxl, hr⟩ := DataW.trod_struct ht hx
    subst hts
    have hmm : (fs.toList.map fun f => P.cellsOf f.type).sum = ((fs.toList.map (·.type)).map P.cellsOf).sum := by rw [List.map_map]; rfl
    have hrd := readsF_of (P := P) (enc := enc) (w := w) (sp := sp) (held := held) (n := n) fs.toList cs xs 0 ho (by simpa using hxl) (by rw [hl, hc, Nat.zero_add, hmm]) (fun i f hf => hr i f (by simpa using hf))
    rw [List.drop_zero] at hrd
    exact h.2 enc w sp held n cs xs hrd (fun m hm => hz m (by simp only [DataW.weights, ht]; exact hm))⟩
theorem opens_iso {α β : Type} {t : TypeId} {d : Kd α} {ok : α → Prop} (f : β → α) (g : α → β) (hfg : ∀ a, f (g a) = a) (h : Opens P t d ok) : Opens P t (Kd.iso d f) (fun b => ok (f b)) :=
  ⟨h.1, fun enc w sp held fuel cs x hx hz => by
    obtain ⟨v, hv, hok⟩ := h.2 enc w sp held fuel cs x hx hz
    exact ⟨g v, (by show d.K w (f (g v)) cs; rw [hfg]; exact hv), (by show ok (f (g v)); rw [hfg]; exact hok)⟩⟩
end Go.Proofs.YtlcfpmdamehopaaGreatDoor.PA
/- Plain words for what printed functions come to: from some number of rounds on. No condition. -/
namespace Go.Proofs.YtlcfpmdamehopaaGreatDoor.PA
open Go.RowKit Go.Proofs.YtlcfpmdamehopaaGreatDoorW.PrintWords Go.Proofs.YtlcfpmdamehopaaGreatDoorW.PrintLast Go.Proofs.YtlcfpmdamehopaaGreatDoorW.PrintMore

theorem Ev.succ {α : Type} {g : Nat → Option α} {r : α} (h : Ev (fun k => g (k + 1)) r) : Ev g r := Ev.step (fun _ => rfl) h
theorem Ev.some {α : Type} {r s : α} (h : r = s) : Ev (fun _ => Option.some r) s := ⟨0, fun _ _ => by rw [h]⟩
theorem Ev.at {α : Type} {g : Nat → Option α} {r : α} (K : Nat) (h : ∀ k, K ≤ k → g k = Option.some r) : Ev g r := ⟨K, h⟩
theorem Ev.pos {α : Type} {c : Prop} [Decidable c] {g f : Nat → Option α} {r : α} (hc : c) (h : Ev g r) : Ev (fun k => if c then g k else f k) r := by simpa only [if_pos hc] using h
theorem Ev.neg {α : Type} {c : Prop} [Decidable c] {g f : Nat → Option α} {r : α} (hc : ¬ c) (h : Ev f r) : Ev (fun k => if c then g k else f k) r := by simpa only [if_neg hc] using h
theorem Ev.let {α β : Type} {v : α} {f : Nat → α → Option β} {r : β} (h : Ev (fun k => f k v) r) : Ev (fun k => (Option.some v).bind (f k)) r := h
theorem Ev.call {α β : Type} {o : Option α} {v : α} {f : Nat → α → Option β} {r : β} (ho : o = Option.some v) (h : Ev (fun k => f k v) r) : Ev (fun k => o.bind (f k)) r := by rw [ho]; exact h
theorem wrap_step {i n : Nat} (h : i < n) (hn : n ≤ 9223372036854775807) : wrap64 ((i : Int) + 1) = ((i + 1 : Nat) : Int) := by unfold wrap64; omega
theorem rdOf_nat {α : Type} (d : α) (l : List α) (i : Nat) (h : i < l.length) : rdOf d l (i : Int) = l[i] := by unfold rdOf; simp [List.getD_eq_getElem?_getD, List.getElem?_eq_getElem h]
end Go.Proofs.YtlcfpmdamehopaaGreatDoor.PA
/- Elements of rows of stanzas; what is read is not too much; as plain functions. No condition. -/
namespace Go.Proofs.YtlcfpmdamehopaaGreatDoor.PA
open Go.RowKit Go.Proofs.YtlcfpmdamehopaaGreatDoorW.PrintWords Go.Proofs.YtlcfpmdamehopaaGreatDoorW.PrintLast Go.Proofs.YtlcfpmdamehopaaGreatDoorW.PrintMore

theorem bytes_injQ {a b : ByteArray} (h : a.data.toList = b.data.toList) : a = b := by cases a; cases b; simp at h; rw [h]
theorem bstr {a b : ByteArray} : a.toList = b.toList ↔ a = b := by
  rw [ByteArray.toList_eq, ByteArray.toList_eq]
  exact ⟨fun h => bytes_injQ h, fun h => by rw [h]⟩
theorem rdT_nat (l : List Fd) (i : Nat) (h : i < l.length) : rd_T60 l (i : Int) = l[i] := by
  unfold rd_T60; simp [List.getD_eq_getElem?_getD, List.getElem?_eq_getElem h]
theorem rdL_nat (l : List (List Fd)) (i : Nat) (h : i < l.length) : rd_L2 l (i : Int) = l[i] := by
  unfold rd_L2; simp [List.getD_eq_getElem?_getD, List.getElem?_eq_getElem h]
theorem getG_cons (f : Fd) (st : List Fd) (n : ByteArray) : getG (f :: st) n = if f.f0 = n then some f.f1 else getG st n := by
  unfold getG
  rw [List.find?_cons]
  by_cases h : f.f0 = n
  · rw [decide_eq_true h, if_pos h]; rfl
  · rw [decide_eq_false h, if_neg h]
theorem read_fine : ∀ (ss : List (List UInt8)) (i : Nat) (l : List (List Fd)) (o : Bool), FineR l o → (readG ss i l o).1.length ≤ 200 ∧ ∀ x ∈ (readG ss i l o).1, x.length ≤ 40 := by
  intro ss
  induction ss with
  | nil => intro i l o h; exact ⟨h.1, fun x hx => (h.2.1 x hx).2⟩
  | cons s ss ih =>
    intro i l o h
    unfold readG
    cases e : lineG l o s with
    | error q => exact ⟨Nat.zero_le _, fun x hx => by cases hx⟩
    | ok p => exact ih _ _ _ (fine_line h e)
theorem parse_fine (s : List UInt8) : (parseL s).1.length ≤ 200 ∧ ∀ x ∈ (parseL s).1, x.length ≤ 40 := by
  unfold parseL
  split
  · exact ⟨Nat.zero_le _, fun x hx => by cases hx⟩
  · exact read_fine _ _ _ _ fine_start
end Go.Proofs.YtlcfpmdamehopaaGreatDoor.PA
-- Printed by gprint.py (wip/ of this repo), over the kit's print.
namespace Go.Proofs.YtlcfpmdamehopaaGreatDoor.PA
open Go.RowKit Go.Proofs.YtlcfpmdamehopaaGreatDoorW.PrintWords Go.Proofs.YtlcfpmdamehopaaGreatDoorW.PrintLast Go.Proofs.YtlcfpmdamehopaaGreatDoorW.PrintMore
attribute [local go_sem] max2_int min2_int max_two min_two max_three min_three max_four min_four   -- for this text's walks alone
set_option linter.unusedVariables false
set_option linter.unusedSimpArgs false

/-! ### keelsonref2_Digit: function 65 -/
def keelsonref2_Digit.f (a0 : Int) : Option (Bool) := if a0 ≥ 48 then (some (decide (a0 ≤ 57))) else (some false)
set_option maxHeartbeats 8000000 in
set_option maxRecDepth 100000 in
theorem keelsonref2_Digit.calls (a0 : Int) (r : Bool) (w : World) (h : keelsonref2_Digit.f a0 = some r) :
    Calls Tryz.prog 65 #[.int .u8 a0] w fun e w' => e = .returned (.bool r) ∧ Drawn0 w w' := by
  have H : (if a0 ≥ 48 then (some (decide (a0 ≤ 57))) else (some false)) = some r := h
  clear h
  by_cases c2 : a0 ≥ 48
  · rw [if_pos c2] at H
    have c2b0 : decide (48 ≤ a0) = true := decide_eq_true c2
    clear c2
    obtain rfl := Option.some.inj H
    go_enter Tryz.func65, Tryz.ntmps65
    go_wp2
    go_ret
    exact ⟨by first | rfl | (simp; done) | (simp [*]; done), by repeat (first | exact Drawn0.refl _ | apply Drawn0.step)⟩
  · rw [if_neg c2] at H
    have c2b0 : decide (48 ≤ a0) = false := decide_eq_false c2
    clear c2
    obtain rfl := Option.some.inj H
    go_enter Tryz.func65, Tryz.ntmps65
    go_wp2
    go_ret
    exact ⟨by first | rfl | (simp; done) | (simp [*]; done), by repeat (first | exact Drawn0.refl _ | apply Drawn0.step)⟩

/-! ### keelsonref2_Letter: function 169 -/
def keelsonref2_Letter.f (a0 : Int) : Option (Bool) := if a0 ≥ 97 then (if a0 ≤ 122 then (some true) else (if a0 ≥ 65 then (some (decide (a0 ≤ 90))) else (some false))) else (if a0 ≥ 65 then (some (decide (a0 ≤ 90))) else (some false))
set_option maxHeartbeats 8000000 in
set_option maxRecDepth 100000 in
theorem keelsonref2_Letter.calls (a0 : Int) (r : Bool) (w : World) (h : keelsonref2_Letter.f a0 = some r) :
    Calls Tryz.prog 169 #[.int .u8 a0] w fun e w' => e = .returned (.bool r) ∧ Drawn0 w w' := by
  have H : (if a0 ≥ 97 then (if a0 ≤ 122 then (some true) else (if a0 ≥ 65 then (some (decide (a0 ≤ 90))) else (some false))) else (if a0 ≥ 65 then (some (decide (a0 ≤ 90))) else (some false))) = some r := h
  clear h
  by_cases c2 : a0 ≥ 97
  · rw [if_pos c2] at H
    have c2b0 : decide (97 ≤ a0) = true := decide_eq_true c2
    clear c2
    by_cases c3 : a0 ≤ 122
    · rw [if_pos c3] at H
      have c3b0 : decide (a0 ≤ 122) = true := decide_eq_true c3
      clear c3
      obtain rfl := Option.some.inj H
      go_enter Tryz.func169, Tryz.ntmps169
      go_wp2
      go_ret
      exact ⟨by first | rfl | (simp; done) | (simp [*]; done), by repeat (first | exact Drawn0.refl _ | apply Drawn0.step)⟩
    · rw [if_neg c3] at H
      have c3b0 : decide (a0 ≤ 122) = false := decide_eq_false c3
      clear c3
      by_cases c4 : a0 ≥ 65
      · rw [if_pos c4] at H
        have c4b0 : decide (65 ≤ a0) = true := decide_eq_true c4
        clear c4
        obtain rfl := Option.some.inj H
        go_enter Tryz.func169, Tryz.ntmps169
        go_wp2
        go_ret
        exact ⟨by first | rfl | (simp; done) | (simp [*]; done), by repeat (first | exact Drawn0.refl _ | apply Drawn0.step)⟩
      · rw [if_neg c4] at H
        have c4b0 : decide (65 ≤ a0) = false := decide_eq_false c4
        clear c4
        obtain rfl := Option.some.inj H
        go_enter Tryz.func169, Tryz.ntmps169
        go_wp2
        go_ret
        exact ⟨by first | rfl | (simp; done) | (simp [*]; done), by repeat (first | exact Drawn0.refl _ | apply Drawn0.step)⟩
  · rw [if_neg c2] at H
    have c2b0 : decide (97 ≤ a0) = false := decide_eq_false c2
    clear c2
    by_cases c5 : a0 ≥ 65
    · rw [if_pos c5] at H
      have c5b0 : decide (65 ≤ a0) = true := decide_eq_true c5
      clear c5
      obtain rfl := Option.some.inj H
      go_enter Tryz.func169, Tryz.ntmps169
      go_wp2
      go_ret
      exact ⟨by first | rfl | (simp; done) | (simp [*]; done), by repeat (first | exact Drawn0.refl _ | apply Drawn0.step)⟩
    · rw [if_neg c5] at H
      have c5b0 : decide (65 ≤ a0) = false := decide_eq_false c5
      clear c5
      obtain rfl := Option.some.inj H
      go_enter Tryz.func169, Tryz.ntmps169
      go_wp2
      go_ret
      exact ⟨by first | rfl | (simp; done) | (simp [*]; done), by repeat (first | exact Drawn0.refl _ | apply Drawn0.step)⟩

/-! ### keelsonref2_Decimal: function 69 -/
def keelsonref2_Decimal.l0 : Nat → Int → ByteArray → Option (ByteArray)
  | 0, _, _ => none
  | k + 1, x0, x3 => if x0 > 0 then (if 0 ≤ (Int.tmod x0 10) then (if (Int.tmod x0 10) ≤ (wrap64 ((Int.tmod x0 10) + 1)) then (if (wrap64 ((Int.tmod x0 10) + 1)) ≤ 10 then (if ((⟨#[48, 49, 50, 51, 52, 53, 54, 55, 56, 57]⟩ : ByteArray).extract ((Int.tmod x0 10) : Int).toNat ((wrap64 ((Int.tmod x0 10) + 1)) : Int).toNat).size + x3.size ≤ 9223372036854775807 then (keelsonref2_Decimal.l0 k (wrap64 (Int.tdiv x0 10)) (((⟨#[48, 49, 50, 51, 52, 53, 54, 55, 56, 57]⟩ : ByteArray).extract ((Int.tmod x0 10) : Int).toNat ((wrap64 ((Int.tmod x0 10) + 1)) : Int).toNat) ++ x3)) else (none)) else (none)) else (none)) else (none)) else (if x3.toList = ([] : List UInt8) then (if 0 ≤ (Int.tmod x0 10) then (if (Int.tmod x0 10) ≤ (wrap64 ((Int.tmod x0 10) + 1)) then (if (wrap64 ((Int.tmod x0 10) + 1)) ≤ 10 then (if ((⟨#[48, 49, 50, 51, 52, 53, 54, 55, 56, 57]⟩ : ByteArray).extract ((Int.tmod x0 10) : Int).toNat ((wrap64 ((Int.tmod x0 10) + 1)) : Int).toNat).size + x3.size ≤ 9223372036854775807 then (keelsonref2_Decimal.l0 k (wrap64 (Int.tdiv x0 10)) (((⟨#[48, 49, 50, 51, 52, 53, 54, 55, 56, 57]⟩ : ByteArray).extract ((Int.tmod x0 10) : Int).toNat ((wrap64 ((Int.tmod x0 10) + 1)) : Int).toNat) ++ x3)) else (none)) else (none)) else (none)) else (none)) else (some x3))
def keelsonref2_Decimal.f (k : Nat) (a0 : Int) : Option (ByteArray) := keelsonref2_Decimal.l0 k a0 (⟨#[]⟩ : ByteArray)
set_option maxHeartbeats 8000000 in
set_option maxRecDepth 100000 in
theorem keelsonref2_Decimal.calls (k : Nat) (a0 : Int) (r : ByteArray) (w : World) (h : keelsonref2_Decimal.f k a0 = some r) :
    Calls Tryz.prog 69 #[.int .i64 a0] w fun e w' => e = .returned (.string r) ∧ Drawn0 w w' := by
  have H : (keelsonref2_Decimal.l0 k a0 (⟨#[]⟩ : ByteArray)) = some r := h
  clear h
  have H' := Aside0.mk H
  clear H
  go_enter Tryz.func69, Tryz.ntmps69
  go_wp2
  go_loopg [0, 3] k (fun kq v0 v3 w' => ∃ (x0_1 : Int) (x3_1 : ByteArray), v0 = .int .i64 x0_1 ∧ v3 = .string x3_1 ∧ Aside0 (keelsonref2_Decimal.l0 kq x0_1 x3_1 = some r) ∧ Aside0 (kq ≤ k) ∧ Drawn0 w w')
  case atStart => exact ⟨(a0), ((⟨#[]⟩ : ByteArray)), (by first | rfl | (simp; done) | (simp [*]; done)), (by first | rfl | (simp; done) | (simp [*]; done)), H', ⟨Nat.le_refl _⟩, by repeat (first | exact Drawn0.refl _ | apply Drawn0.step)⟩
  case round =>
    clear H'
    obtain ⟨x0_1, x3_1, rfl, rfl, HA, HK1, ⟨m1, rfl⟩⟩ := hrel
    cases gk with
    | zero => exact absurd HA.out (by simp [keelsonref2_Decimal.l0])
    | succ k1 =>
      have H := HA.out
      clear HA
      simp only [keelsonref2_Decimal.l0] at H
      by_cases c2 : x0_1 > 0
      · rw [if_pos c2] at H
        have c2b0 : decide (0 < x0_1) = true := decide_eq_true c2
        clear c2
        obtain ⟨ji3, hji3⟩ : ∃ j_ : Int, (Int.tmod x0_1 10) = j_ := ⟨_, rfl⟩
        replace H : (if 0 ≤ (ji3) then (if (ji3) ≤ (wrap64 ((ji3) + 1)) then (if (wrap64 ((ji3) + 1)) ≤ 10 then (if ((⟨#[48, 49, 50, 51, 52, 53, 54, 55, 56, 57]⟩ : ByteArray).extract ((ji3) : Int).toNat ((wrap64 ((ji3) + 1)) : Int).toNat).size + x3_1.size ≤ 9223372036854775807 then (keelsonref2_Decimal.l0 k1 (wrap64 (Int.tdiv x0_1 10)) (((⟨#[48, 49, 50, 51, 52, 53, 54, 55, 56, 57]⟩ : ByteArray).extract ((ji3) : Int).toNat ((wrap64 ((ji3) + 1)) : Int).toNat) ++ x3_1)) else (none)) else (none)) else (none)) else (none)) = some r := by first | (rw [hji3] at H; exact H) | (simp only [hji3] at H ⊢; exact H)
        by_cases c4 : 0 ≤ (ji3)
        · rw [if_pos c4] at H
          have c4b0 := eq_true c4
          have c4b1 : decide (0 ≤ (ji3)) = true := decide_eq_true c4
          clear c4
          by_cases c5 : (ji3) ≤ (wrap64 ((ji3) + 1))
          · rw [if_pos c5] at H
            have c5b0 := eq_true c5
            have c5b1 : decide ((ji3) ≤ (wrap64 ((ji3) + 1))) = true := decide_eq_true c5
            by_cases c6 : (wrap64 ((ji3) + 1)) ≤ 10
            · rw [if_pos c6] at H
              have c6b0 := eq_true c6
              have c6b1 : decide ((wrap64 ((ji3) + 1)) ≤ 10) = true := decide_eq_true c6
              by_cases c7 : ((⟨#[48, 49, 50, 51, 52, 53, 54, 55, 56, 57]⟩ : ByteArray).extract ((ji3) : Int).toNat ((wrap64 ((ji3) + 1)) : Int).toNat).size + x3_1.size ≤ 9223372036854775807
              · rw [if_pos c7] at H
                have c7b0 := eq_true c7
                have c7b1 : decide (((⟨#[48, 49, 50, 51, 52, 53, 54, 55, 56, 57]⟩ : ByteArray).extract ((ji3) : Int).toNat ((wrap64 ((ji3) + 1)) : Int).toNat).size + x3_1.size ≤ 9223372036854775807) = true := decide_eq_true c7
                try have c7b2 : (9223372036854775807 < ((⟨#[48, 49, 50, 51, 52, 53, 54, 55, 56, 57]⟩ : ByteArray).extract ((ji3) : Int).toNat ((wrap64 ((ji3) + 1)) : Int).toNat).size + x3_1.size) = False := eq_false (Nat.not_lt.2 c7)
                have H' := Aside0.mk H
                clear H
                go_wp2
                go_roundg k1
                case measure => have := HK1.out; omega
                case rel => exact ⟨(wrap64 (Int.tdiv x0_1 10)), (((⟨#[48, 49, 50, 51, 52, 53, 54, 55, 56, 57]⟩ : ByteArray).extract ((ji3) : Int).toNat ((wrap64 ((ji3) + 1)) : Int).toNat) ++ x3_1), (by first | rfl | (simp; done) | (simp [*]; done)), (by first | rfl | (simp; done) | (simp only [← hji3] <;> (first | rfl | simp)) | (simp [*]; done)), H', ⟨by have := HK1.out; omega⟩, by repeat (first | exact Drawn0.refl _ | apply Drawn0.step)⟩
              · rw [if_neg c7] at H
                exact absurd H (by simp)
            · rw [if_neg c6] at H
              exact absurd H (by simp)
          · rw [if_neg c5] at H
            exact absurd H (by simp)
        · rw [if_neg c4] at H
          exact absurd H (by simp)
      · rw [if_neg c2] at H
        have c2b0 : decide (0 < x0_1) = false := decide_eq_false c2
        clear c2
        by_cases c8 : x3_1.toList = ([] : List UInt8)
        · rw [if_pos c8] at H
          have c8b0 : (x3_1.toList == ([] : List UInt8)) = true := beq_iff_eq.mpr c8
          have c8b1 : (x3_1.toList != ([] : List UInt8)) = false := bne_eq_false_iff_eq.mpr c8
          clear c8
          obtain ⟨ji9, hji9⟩ : ∃ j_ : Int, (Int.tmod x0_1 10) = j_ := ⟨_, rfl⟩
          replace H : (if 0 ≤ (ji9) then (if (ji9) ≤ (wrap64 ((ji9) + 1)) then (if (wrap64 ((ji9) + 1)) ≤ 10 then (if ((⟨#[48, 49, 50, 51, 52, 53, 54, 55, 56, 57]⟩ : ByteArray).extract ((ji9) : Int).toNat ((wrap64 ((ji9) + 1)) : Int).toNat).size + x3_1.size ≤ 9223372036854775807 then (keelsonref2_Decimal.l0 k1 (wrap64 (Int.tdiv x0_1 10)) (((⟨#[48, 49, 50, 51, 52, 53, 54, 55, 56, 57]⟩ : ByteArray).extract ((ji9) : Int).toNat ((wrap64 ((ji9) + 1)) : Int).toNat) ++ x3_1)) else (none)) else (none)) else (none)) else (none)) = some r := by first | (rw [hji9] at H; exact H) | (simp only [hji9] at H ⊢; exact H)
          by_cases c10 : 0 ≤ (ji9)
          · rw [if_pos c10] at H
            have c10b0 := eq_true c10
            have c10b1 : decide (0 ≤ (ji9)) = true := decide_eq_true c10
            clear c10
            by_cases c11 : (ji9) ≤ (wrap64 ((ji9) + 1))
            · rw [if_pos c11] at H
              have c11b0 := eq_true c11
              have c11b1 : decide ((ji9) ≤ (wrap64 ((ji9) + 1))) = true := decide_eq_true c11
              by_cases c12 : (wrap64 ((ji9) + 1)) ≤ 10
              · rw [if_pos c12] at H
                have c12b0 := eq_true c12
                have c12b1 : decide ((wrap64 ((ji9) + 1)) ≤ 10) = true := decide_eq_true c12
                by_cases c13 : ((⟨#[48, 49, 50, 51, 52, 53, 54, 55, 56, 57]⟩ : ByteArray).extract ((ji9) : Int).toNat ((wrap64 ((ji9) + 1)) : Int).toNat).size + x3_1.size ≤ 9223372036854775807
                · rw [if_pos c13] at H
                  have c13b0 := eq_true c13
                  have c13b1 : decide (((⟨#[48, 49, 50, 51, 52, 53, 54, 55, 56, 57]⟩ : ByteArray).extract ((ji9) : Int).toNat ((wrap64 ((ji9) + 1)) : Int).toNat).size + x3_1.size ≤ 9223372036854775807) = true := decide_eq_true c13
                  try have c13b2 : (9223372036854775807 < ((⟨#[48, 49, 50, 51, 52, 53, 54, 55, 56, 57]⟩ : ByteArray).extract ((ji9) : Int).toNat ((wrap64 ((ji9) + 1)) : Int).toNat).size + x3_1.size) = False := eq_false (Nat.not_lt.2 c13)
                  have H' := Aside0.mk H
                  clear H
                  go_wp2
                  go_roundg k1
                  case measure => have := HK1.out; omega
                  case rel => exact ⟨(wrap64 (Int.tdiv x0_1 10)), (((⟨#[48, 49, 50, 51, 52, 53, 54, 55, 56, 57]⟩ : ByteArray).extract ((ji9) : Int).toNat ((wrap64 ((ji9) + 1)) : Int).toNat) ++ x3_1), (by first | rfl | (simp; done) | (simp [*]; done)), (by first | rfl | (simp; done) | (simp only [← hji9] <;> (first | rfl | simp)) | (simp [*]; done)), H', ⟨by have := HK1.out; omega⟩, by repeat (first | exact Drawn0.refl _ | apply Drawn0.step)⟩
                · rw [if_neg c13] at H
                  exact absurd H (by simp)
              · rw [if_neg c12] at H
                exact absurd H (by simp)
            · rw [if_neg c11] at H
              exact absurd H (by simp)
          · rw [if_neg c10] at H
            exact absurd H (by simp)
        · rw [if_neg c8] at H
          have c8b0 : (x3_1.toList == ([] : List UInt8)) = false := beq_eq_false_iff_ne.mpr c8
          have c8b1 : (x3_1.toList != ([] : List UInt8)) = true := bne_iff_ne.mpr c8
          obtain rfl := Option.some.inj H
          go_wp2
          go_ret
          exact ⟨by first | rfl | (simp; done) | (simp [*]; done), by repeat (first | exact Drawn0.refl _ | apply Drawn0.step)⟩

end Go.Proofs.YtlcfpmdamehopaaGreatDoor.PA
-- Printed by gprint.py (wip/ of this repo), over the kit's print.
namespace Go.Proofs.YtlcfpmdamehopaaGreatDoor.PA
open Go.RowKit Go.Proofs.YtlcfpmdamehopaaGreatDoorW.PrintWords Go.Proofs.YtlcfpmdamehopaaGreatDoorW.PrintLast Go.Proofs.YtlcfpmdamehopaaGreatDoorW.PrintMore
attribute [local go_sem] max2_int min2_int max_two min_two max_three min_three max_four min_four   -- for this text's walks alone
set_option linter.unusedVariables false
set_option linter.unusedSimpArgs false

/-! ### keelsonref3_Name: function 30 -/
def keelsonref3_Name.l0 : Nat → ByteArray → Int → Option (Bool)
  | 0, _, _ => none
  | k + 1, x0, x3 => if x3 < (x0.size : Int) then (if 0 ≤ x3 then (if (bt x0 x3) ≥ 97 then (if (bt x0 x3) ≤ 122 then (if x3 > 0 then (if (bt x0 x3) = 43 then (keelsonref3_Name.l0 k x0 (wrap64 (x3 + 1))) else (if (bt x0 x3) = 45 then (keelsonref3_Name.l0 k x0 (wrap64 (x3 + 1))) else (keelsonref3_Name.l0 k x0 (wrap64 (x3 + 1))))) else (keelsonref3_Name.l0 k x0 (wrap64 (x3 + 1)))) else ((keelsonref2_Digit.f (bt x0 x3)).bind fun t151 => (if x3 > 0 then (if (bt x0 x3) = 43 then (if t151 = true then (keelsonref3_Name.l0 k x0 (wrap64 (x3 + 1))) else (keelsonref3_Name.l0 k x0 (wrap64 (x3 + 1)))) else (if (bt x0 x3) = 45 then (if t151 = true then (keelsonref3_Name.l0 k x0 (wrap64 (x3 + 1))) else (keelsonref3_Name.l0 k x0 (wrap64 (x3 + 1)))) else (if t151 = true then (keelsonref3_Name.l0 k x0 (wrap64 (x3 + 1))) else (if ((bt x0 x3) = 46) then (keelsonref3_Name.l0 k x0 (wrap64 (x3 + 1))) else (some false))))) else (if t151 = true then (keelsonref3_Name.l0 k x0 (wrap64 (x3 + 1))) else (some false))))) else ((keelsonref2_Digit.f (bt x0 x3)).bind fun t152 => (if x3 > 0 then (if (bt x0 x3) = 43 then (if t152 = true then (keelsonref3_Name.l0 k x0 (wrap64 (x3 + 1))) else (keelsonref3_Name.l0 k x0 (wrap64 (x3 + 1)))) else (if (bt x0 x3) = 45 then (if t152 = true then (keelsonref3_Name.l0 k x0 (wrap64 (x3 + 1))) else (keelsonref3_Name.l0 k x0 (wrap64 (x3 + 1)))) else (if t152 = true then (keelsonref3_Name.l0 k x0 (wrap64 (x3 + 1))) else (if ((bt x0 x3) = 46) then (keelsonref3_Name.l0 k x0 (wrap64 (x3 + 1))) else (some false))))) else (if t152 = true then (keelsonref3_Name.l0 k x0 (wrap64 (x3 + 1))) else (some false))))) else (none)) else (if (x0.size : Int) ≥ 2 then (some (decide ((x0.size : Int) ≤ 40))) else (some false))
def keelsonref3_Name.f (k : Nat) (a0 : ByteArray) : Option (Bool) := keelsonref3_Name.l0 k a0 0
set_option maxHeartbeats 8000000 in
set_option maxRecDepth 100000 in
theorem keelsonref3_Name.calls (k : Nat) (a0 : ByteArray) (r : Bool) (w : World) (h : keelsonref3_Name.f k a0 = some r) :
    Calls Tryz.prog 30 #[.string a0] w fun e w' => e = .returned (.bool r) ∧ Drawn0 w w' := by
  have H : (keelsonref3_Name.l0 k a0 0) = some r := h
  clear h
  have H' := Aside0.mk H
  clear H
  go_enter Tryz.func30, Tryz.ntmps30
  go_wp2
  go_loopg [3] k (fun kq v3 w' => ∃ (x3_1 : Int), v3 = .int .i64 x3_1 ∧ Aside0 (keelsonref3_Name.l0 kq a0 x3_1 = some r) ∧ Aside0 (kq ≤ k) ∧ Drawn0 w w')
  case atStart => exact ⟨(0), (by first | rfl | (simp; done) | (simp [*]; done)), H', ⟨Nat.le_refl _⟩, by repeat (first | exact Drawn0.refl _ | apply Drawn0.step)⟩
  case round =>
    clear H'
    obtain ⟨x3_1, rfl, HA, HK1, ⟨m1, rfl⟩⟩ := hrel
    cases gk with
    | zero => exact absurd HA.out (by simp [keelsonref3_Name.l0])
    | succ k1 =>
      have H := HA.out
      clear HA
      simp only [keelsonref3_Name.l0] at H
      by_cases c2 : x3_1 < (a0.size : Int)
      · rw [if_pos c2] at H
        have c2b0 : decide (x3_1 < (a0.size : Int)) = true := decide_eq_true c2
        clear c2
        by_cases c3 : 0 ≤ x3_1
        · rw [if_pos c3] at H
          have c3b0 : decide (0 ≤ x3_1) = true := decide_eq_true c3
          clear c3
          by_cases c5 : (bt a0 x3_1) ≥ 97
          · rw [if_pos c5] at H
            have c5b0 : decide (97 ≤ (bt a0 x3_1)) = true := decide_eq_true c5
            clear c5
            by_cases c6 : (bt a0 x3_1) ≤ 122
            · rw [if_pos c6] at H
              have c6b0 : decide ((bt a0 x3_1) ≤ 122) = true := decide_eq_true c6
              clear c6
              by_cases c7 : x3_1 > 0
              · rw [if_pos c7] at H
                have c7b0 : decide (0 < x3_1) = true := decide_eq_true c7
                clear c7
                by_cases c8 : (bt a0 x3_1) = 43
                · rw [if_pos c8] at H
                  have c8b0 : ((bt a0 x3_1) == 43) = true := beq_iff_eq.mpr c8
                  have c8b1 : ((bt a0 x3_1) != 43) = false := bne_eq_false_iff_eq.mpr c8
                  clear c8
                  have H' := Aside0.mk H
                  clear H
                  have p4 : 0 ≤ (x3_1 : Int) := of_decide_eq_true (by first | (with_reducible assumption) | assumption)
                  have q4 : x3_1 < (a0.size : Int) := of_decide_eq_true (by first | (with_reducible assumption) | assumption)
                  have hx4 := bt_at a0 x3_1
                  replace p4 := eq_true p4
                  replace q4 := eq_true q4
                  go_wp2
                  go_roundg k1
                  case measure => have := HK1.out; omega
                  case rel => exact ⟨(wrap64 (x3_1 + 1)), (by first | rfl | (simp; done) | (simp [*]; done)), H', ⟨by have := HK1.out; omega⟩, by repeat (first | exact Drawn0.refl _ | apply Drawn0.step)⟩
                · rw [if_neg c8] at H
                  have c8b0 : ((bt a0 x3_1) == 43) = false := beq_eq_false_iff_ne.mpr c8
                  have c8b1 : ((bt a0 x3_1) != 43) = true := bne_iff_ne.mpr c8
                  by_cases c9 : (bt a0 x3_1) = 45
                  · rw [if_pos c9] at H
                    have c9b0 : ((bt a0 x3_1) == 45) = true := beq_iff_eq.mpr c9
                    have c9b1 : ((bt a0 x3_1) != 45) = false := bne_eq_false_iff_eq.mpr c9
                    clear c9
                    have H' := Aside0.mk H
                    clear H
                    have p4 : 0 ≤ (x3_1 : Int) := of_decide_eq_true (by first | (with_reducible assumption) | assumption)
                    have q4 : x3_1 < (a0.size : Int) := of_decide_eq_true (by first | (with_reducible assumption) | assumption)
                    have hx4 := bt_at a0 x3_1
                    replace p4 := eq_true p4
                    replace q4 := eq_true q4
                    go_wp2
                    go_roundg k1
                    case measure => have := HK1.out; omega
                    case rel => exact ⟨(wrap64 (x3_1 + 1)), (by first | rfl | (simp; done) | (simp [*]; done)), H', ⟨by have := HK1.out; omega⟩, by repeat (first | exact Drawn0.refl _ | apply Drawn0.step)⟩
                  · rw [if_neg c9] at H
                    have c9b0 : ((bt a0 x3_1) == 45) = false := beq_eq_false_iff_ne.mpr c9
                    have c9b1 : ((bt a0 x3_1) != 45) = true := bne_iff_ne.mpr c9
                    have H' := Aside0.mk H
                    clear H
                    have p4 : 0 ≤ (x3_1 : Int) := of_decide_eq_true (by first | (with_reducible assumption) | assumption)
                    have q4 : x3_1 < (a0.size : Int) := of_decide_eq_true (by first | (with_reducible assumption) | assumption)
                    have hx4 := bt_at a0 x3_1
                    replace p4 := eq_true p4
                    replace q4 := eq_true q4
                    go_wp2
                    go_roundg k1
                    case measure => have := HK1.out; omega
                    case rel => exact ⟨(wrap64 (x3_1 + 1)), (by first | rfl | (simp; done) | (simp [*]; done)), H', ⟨by have := HK1.out; omega⟩, by repeat (first | exact Drawn0.refl _ | apply Drawn0.step)⟩
              · rw [if_neg c7] at H
                have c7b0 : decide (0 < x3_1) = false := decide_eq_false c7
                clear c7
                have H' := Aside0.mk H
                clear H
                have p4 : 0 ≤ (x3_1 : Int) := of_decide_eq_true (by first | (with_reducible assumption) | assumption)
                have q4 : x3_1 < (a0.size : Int) := of_decide_eq_true (by first | (with_reducible assumption) | assumption)
                have hx4 := bt_at a0 x3_1
                replace p4 := eq_true p4
                replace q4 := eq_true q4
                go_wp2
                go_roundg k1
                case measure => have := HK1.out; omega
                case rel => exact ⟨(wrap64 (x3_1 + 1)), (by first | rfl | (simp; done) | (simp [*]; done)), H', ⟨by have := HK1.out; omega⟩, by repeat (first | exact Drawn0.refl _ | apply Drawn0.step)⟩
            · rw [if_neg c6] at H
              have c6b0 : decide ((bt a0 x3_1) ≤ 122) = false := decide_eq_false c6
              clear c6
              replace H := Option.bind_eq_some_iff.mp H
              obtain ⟨t151, A100, H⟩ := H
              replace H : (if x3_1 > 0 then (if (bt a0 x3_1) = 43 then (if t151 = true then (keelsonref3_Name.l0 k1 a0 (wrap64 (x3_1 + 1))) else (keelsonref3_Name.l0 k1 a0 (wrap64 (x3_1 + 1)))) else (if (bt a0 x3_1) = 45 then (if t151 = true then (keelsonref3_Name.l0 k1 a0 (wrap64 (x3_1 + 1))) else (keelsonref3_Name.l0 k1 a0 (wrap64 (x3_1 + 1)))) else (if t151 = true then (keelsonref3_Name.l0 k1 a0 (wrap64 (x3_1 + 1))) else (if ((bt a0 x3_1) = 46) then (keelsonref3_Name.l0 k1 a0 (wrap64 (x3_1 + 1))) else (some false))))) else (if t151 = true then (keelsonref3_Name.l0 k1 a0 (wrap64 (x3_1 + 1))) else (some false))) = some r := H
              have A10 := Aside0.mk A100
              clear A100
              by_cases c11 : x3_1 > 0
              · rw [if_pos c11] at H
                have c11b0 : decide (0 < x3_1) = true := decide_eq_true c11
                clear c11
                by_cases c12 : (bt a0 x3_1) = 43
                · rw [if_pos c12] at H
                  have c12b0 : ((bt a0 x3_1) == 43) = true := beq_iff_eq.mpr c12
                  have c12b1 : ((bt a0 x3_1) != 43) = false := bne_eq_false_iff_eq.mpr c12
                  clear c12
                  by_cases c13 : t151 = true
                  · subst c13
                    have H1 : (keelsonref3_Name.l0 k1 a0 (wrap64 (x3_1 + 1))) = some r := by rw [if_pos rfl] at H; exact H
                    clear H
                    have H := H1
                    clear H1
                    have H' := Aside0.mk H
                    clear H
                    have p4 : 0 ≤ (x3_1 : Int) := of_decide_eq_true (by first | (with_reducible assumption) | assumption)
                    have q4 : x3_1 < (a0.size : Int) := of_decide_eq_true (by first | (with_reducible assumption) | assumption)
                    have hx4 := bt_at a0 x3_1
                    replace p4 := eq_true p4
                    replace q4 := eq_true q4
                    go_wp2_with (first | (go_at_call 65; (with_reducible refine (keelsonref2_Digit.calls (bt a0 x3_1) true _ A10.out).mono ?_); rintro e w' ⟨rfl, ⟨nd, rfl⟩⟩))
                    go_roundg k1
                    case measure => have := HK1.out; omega
                    case rel => exact ⟨(wrap64 (x3_1 + 1)), (by first | rfl | (simp; done) | (simp [*]; done)), H', ⟨by have := HK1.out; omega⟩, by repeat (first | exact Drawn0.refl _ | apply Drawn0.step)⟩
                  · replace c13 := Bool.eq_false_iff.mpr c13
                    subst c13
                    have H1 : (keelsonref3_Name.l0 k1 a0 (wrap64 (x3_1 + 1))) = some r := by rw [if_neg (show ¬ (false = true) by decide)] at H; exact H
                    clear H
                    have H := H1
                    clear H1
                    have H' := Aside0.mk H
                    clear H
                    have p4 : 0 ≤ (x3_1 : Int) := of_decide_eq_true (by first | (with_reducible assumption) | assumption)
                    have q4 : x3_1 < (a0.size : Int) := of_decide_eq_true (by first | (with_reducible assumption) | assumption)
                    have hx4 := bt_at a0 x3_1
                    replace p4 := eq_true p4
                    replace q4 := eq_true q4
                    go_wp2_with (first | (go_at_call 65; (with_reducible refine (keelsonref2_Digit.calls (bt a0 x3_1) false _ A10.out).mono ?_); rintro e w' ⟨rfl, ⟨nd, rfl⟩⟩))
                    go_roundg k1
                    case measure => have := HK1.out; omega
                    case rel => exact ⟨(wrap64 (x3_1 + 1)), (by first | rfl | (simp; done) | (simp [*]; done)), H', ⟨by have := HK1.out; omega⟩, by repeat (first | exact Drawn0.refl _ | apply Drawn0.step)⟩
                · rw [if_neg c12] at H
                  have c12b0 : ((bt a0 x3_1) == 43) = false := beq_eq_false_iff_ne.mpr c12
                  have c12b1 : ((bt a0 x3_1) != 43) = true := bne_iff_ne.mpr c12
                  by_cases c14 : (bt a0 x3_1) = 45
                  · rw [if_pos c14] at H
                    have c14b0 : ((bt a0 x3_1) == 45) = true := beq_iff_eq.mpr c14
                    have c14b1 : ((bt a0 x3_1) != 45) = false := bne_eq_false_iff_eq.mpr c14
                    clear c14
                    by_cases c15 : t151 = true
                    · subst c15
                      have H1 : (keelsonref3_Name.l0 k1 a0 (wrap64 (x3_1 + 1))) = some r := by rw [if_pos rfl] at H; exact H
                      clear H
                      have H := H1
                      clear H1
                      have H' := Aside0.mk H
                      clear H
                      have p4 : 0 ≤ (x3_1 : Int) := of_decide_eq_true (by first | (with_reducible assumption) | assumption)
                      have q4 : x3_1 < (a0.size : Int) := of_decide_eq_true (by first | (with_reducible assumption) | assumption)
                      have hx4 := bt_at a0 x3_1
                      replace p4 := eq_true p4
                      replace q4 := eq_true q4
                      go_wp2_with (first | (go_at_call 65; (with_reducible refine (keelsonref2_Digit.calls (bt a0 x3_1) true _ A10.out).mono ?_); rintro e w' ⟨rfl, ⟨nd, rfl⟩⟩))
                      go_roundg k1
                      case measure => have := HK1.out; omega
                      case rel => exact ⟨(wrap64 (x3_1 + 1)), (by first | rfl | (simp; done) | (simp [*]; done)), H', ⟨by have := HK1.out; omega⟩, by repeat (first | exact Drawn0.refl _ | apply Drawn0.step)⟩
                    · replace c15 := Bool.eq_false_iff.mpr c15
                      subst c15
                      have H1 : (keelsonref3_Name.l0 k1 a0 (wrap64 (x3_1 + 1))) = some r := by rw [if_neg (show ¬ (false = true) by decide)] at H; exact H
                      clear H
                      have H := H1
                      clear H1
                      have H' := Aside0.mk H
                      clear H
                      have p4 : 0 ≤ (x3_1 : Int) := of_decide_eq_true (by first | (with_reducible assumption) | assumption)
                      have q4 : x3_1 < (a0.size : Int) := of_decide_eq_true (by first | (with_reducible assumption) | assumption)
                      have hx4 := bt_at a0 x3_1
                      replace p4 := eq_true p4
                      replace q4 := eq_true q4
                      go_wp2_with (first | (go_at_call 65; (with_reducible refine (keelsonref2_Digit.calls (bt a0 x3_1) false _ A10.out).mono ?_); rintro e w' ⟨rfl, ⟨nd, rfl⟩⟩))
                      go_roundg k1
                      case measure => have := HK1.out; omega
                      case rel => exact ⟨(wrap64 (x3_1 + 1)), (by first | rfl | (simp; done) | (simp [*]; done)), H', ⟨by have := HK1.out; omega⟩, by repeat (first | exact Drawn0.refl _ | apply Drawn0.step)⟩
                  · rw [if_neg c14] at H
                    have c14b0 : ((bt a0 x3_1) == 45) = false := beq_eq_false_iff_ne.mpr c14
                    have c14b1 : ((bt a0 x3_1) != 45) = true := bne_iff_ne.mpr c14
                    by_cases c16 : t151 = true
                    · subst c16
                      have H1 : (keelsonref3_Name.l0 k1 a0 (wrap64 (x3_1 + 1))) = some r := by rw [if_pos rfl] at H; exact H
                      clear H
                      have H := H1
                      clear H1
                      have H' := Aside0.mk H
                      clear H
                      have p4 : 0 ≤ (x3_1 : Int) := of_decide_eq_true (by first | (with_reducible assumption) | assumption)
                      have q4 : x3_1 < (a0.size : Int) := of_decide_eq_true (by first | (with_reducible assumption) | assumption)
                      have hx4 := bt_at a0 x3_1
                      replace p4 := eq_true p4
                      replace q4 := eq_true q4
                      go_wp2_with (first | (go_at_call 65; (with_reducible refine (keelsonref2_Digit.calls (bt a0 x3_1) true _ A10.out).mono ?_); rintro e w' ⟨rfl, ⟨nd, rfl⟩⟩))
                      go_roundg k1
                      case measure => have := HK1.out; omega
                      case rel => exact ⟨(wrap64 (x3_1 + 1)), (by first | rfl | (simp; done) | (simp [*]; done)), H', ⟨by have := HK1.out; omega⟩, by repeat (first | exact Drawn0.refl _ | apply Drawn0.step)⟩
                    · replace c16 := Bool.eq_false_iff.mpr c16
                      subst c16
                      have H1 : (if ((bt a0 x3_1) = 46) then (keelsonref3_Name.l0 k1 a0 (wrap64 (x3_1 + 1))) else (some false)) = some r := by rw [if_neg (show ¬ (false = true) by decide)] at H; exact H
                      clear H
                      have H := H1
                      clear H1
                      by_cases c17 : ((bt a0 x3_1) = 46)
                      · rw [if_pos c17] at H
                        have c17b0 : ((bt a0 x3_1) == 46) = true := beq_iff_eq.mpr c17
                        have c17b1 : ((bt a0 x3_1) != 46) = false := bne_eq_false_iff_eq.mpr c17
                        clear c17
                        have H' := Aside0.mk H
                        clear H
                        have p4 : 0 ≤ (x3_1 : Int) := of_decide_eq_true (by first | (with_reducible assumption) | assumption)
                        have q4 : x3_1 < (a0.size : Int) := of_decide_eq_true (by first | (with_reducible assumption) | assumption)
                        have hx4 := bt_at a0 x3_1
                        replace p4 := eq_true p4
                        replace q4 := eq_true q4
                        go_wp2_with (first | (go_at_call 65; (with_reducible refine (keelsonref2_Digit.calls (bt a0 x3_1) false _ A10.out).mono ?_); rintro e w' ⟨rfl, ⟨nd, rfl⟩⟩))
                        go_roundg k1
                        case measure => have := HK1.out; omega
                        case rel => exact ⟨(wrap64 (x3_1 + 1)), (by first | rfl | (simp; done) | (simp [*]; done)), H', ⟨by have := HK1.out; omega⟩, by repeat (first | exact Drawn0.refl _ | apply Drawn0.step)⟩
                      · rw [if_neg c17] at H
                        have c17b0 : ((bt a0 x3_1) == 46) = false := beq_eq_false_iff_ne.mpr c17
                        have c17b1 : ((bt a0 x3_1) != 46) = true := bne_iff_ne.mpr c17
                        obtain rfl := Option.some.inj H
                        have p4 : 0 ≤ (x3_1 : Int) := of_decide_eq_true (by first | (with_reducible assumption) | assumption)
                        have q4 : x3_1 < (a0.size : Int) := of_decide_eq_true (by first | (with_reducible assumption) | assumption)
                        have hx4 := bt_at a0 x3_1
                        replace p4 := eq_true p4
                        replace q4 := eq_true q4
                        go_wp2_with (first | (go_at_call 65; (with_reducible refine (keelsonref2_Digit.calls (bt a0 x3_1) false _ A10.out).mono ?_); rintro e w' ⟨rfl, ⟨nd, rfl⟩⟩))
                        go_ret
                        exact ⟨by first | rfl | (simp; done) | (simp [*]; done), by repeat (first | exact Drawn0.refl _ | apply Drawn0.step)⟩
              · rw [if_neg c11] at H
                have c11b0 : decide (0 < x3_1) = false := decide_eq_false c11
                clear c11
                by_cases c18 : t151 = true
                · subst c18
                  have H1 : (keelsonref3_Name.l0 k1 a0 (wrap64 (x3_1 + 1))) = some r := by rw [if_pos rfl] at H; exact H
                  clear H
                  have H := H1
                  clear H1
                  have H' := Aside0.mk H
                  clear H
                  have p4 : 0 ≤ (x3_1 : Int) := of_decide_eq_true (by first | (with_reducible assumption) | assumption)
                  have q4 : x3_1 < (a0.size : Int) := of_decide_eq_true (by first | (with_reducible assumption) | assumption)
                  have hx4 := bt_at a0 x3_1
                  replace p4 := eq_true p4
                  replace q4 := eq_true q4
                  go_wp2_with (first | (go_at_call 65; (with_reducible refine (keelsonref2_Digit.calls (bt a0 x3_1) true _ A10.out).mono ?_); rintro e w' ⟨rfl, ⟨nd, rfl⟩⟩))
                  go_roundg k1
                  case measure => have := HK1.out; omega
                  case rel => exact ⟨(wrap64 (x3_1 + 1)), (by first | rfl | (simp; done) | (simp [*]; done)), H', ⟨by have := HK1.out; omega⟩, by repeat (first | exact Drawn0.refl _ | apply Drawn0.step)⟩
                · replace c18 := Bool.eq_false_iff.mpr c18
                  subst c18
                  have H1 : (some false) = some r := by rw [if_neg (show ¬ (false = true) by decide)] at H; exact H
                  clear H
                  have H := H1
                  clear H1
                  obtain rfl := Option.some.inj H
                  have p4 : 0 ≤ (x3_1 : Int) := of_decide_eq_true (by first | (with_reducible assumption) | assumption)
                  have q4 : x3_1 < (a0.size : Int) := of_decide_eq_true (by first | (with_reducible assumption) | assumption)
                  have hx4 := bt_at a0 x3_1
                  replace p4 := eq_true p4
                  replace q4 := eq_true q4
                  go_wp2_with (first | (go_at_call 65; (with_reducible refine (keelsonref2_Digit.calls (bt a0 x3_1) false _ A10.out).mono ?_); rintro e w' ⟨rfl, ⟨nd, rfl⟩⟩))
                  go_ret
                  exact ⟨by first | rfl | (simp; done) | (simp [*]; done), by repeat (first | exact Drawn0.refl _ | apply Drawn0.step)⟩
          · rw [if_neg c5] at H
            have c5b0 : decide (97 ≤ (bt a0 x3_1)) = false := decide_eq_false c5
            clear c5
            replace H := Option.bind_eq_some_iff.mp H
            obtain ⟨t152, A190, H⟩ := H
            replace H : (if x3_1 > 0 then (if (bt a0 x3_1) = 43 then (if t152 = true then (keelsonref3_Name.l0 k1 a0 (wrap64 (x3_1 + 1))) else (keelsonref3_Name.l0 k1 a0 (wrap64 (x3_1 + 1)))) else (if (bt a0 x3_1) = 45 then (if t152 = true then (keelsonref3_Name.l0 k1 a0 (wrap64 (x3_1 + 1))) else (keelsonref3_Name.l0 k1 a0 (wrap64 (x3_1 + 1)))) else (if t152 = true then (keelsonref3_Name.l0 k1 a0 (wrap64 (x3_1 + 1))) else (if ((bt a0 x3_1) = 46) then (keelsonref3_Name.l0 k1 a0 (wrap64 (x3_1 + 1))) else (some false))))) else (if t152 = true then (keelsonref3_Name.l0 k1 a0 (wrap64 (x3_1 + 1))) else (some false))) = some r := H
            have A19 := Aside0.mk A190
            clear A190
            by_cases c20 : x3_1 > 0
            · rw [if_pos c20] at H
              have c20b0 : decide (0 < x3_1) = true := decide_eq_true c20
              clear c20
              by_cases c21 : (bt a0 x3_1) = 43
              · rw [if_pos c21] at H
                have c21b0 : ((bt a0 x3_1) == 43) = true := beq_iff_eq.mpr c21
                have c21b1 : ((bt a0 x3_1) != 43) = false := bne_eq_false_iff_eq.mpr c21
                clear c21
                by_cases c22 : t152 = true
                · subst c22
                  have H1 : (keelsonref3_Name.l0 k1 a0 (wrap64 (x3_1 + 1))) = some r := by rw [if_pos rfl] at H; exact H
                  clear H
                  have H := H1
                  clear H1
                  have H' := Aside0.mk H
                  clear H
                  have p4 : 0 ≤ (x3_1 : Int) := of_decide_eq_true (by first | (with_reducible assumption) | assumption)
                  have q4 : x3_1 < (a0.size : Int) := of_decide_eq_true (by first | (with_reducible assumption) | assumption)
                  have hx4 := bt_at a0 x3_1
                  replace p4 := eq_true p4
                  replace q4 := eq_true q4
                  go_wp2_with (first | (go_at_call 65; (with_reducible refine (keelsonref2_Digit.calls (bt a0 x3_1) true _ A19.out).mono ?_); rintro e w' ⟨rfl, ⟨nd, rfl⟩⟩))
                  go_roundg k1
                  case measure => have := HK1.out; omega
                  case rel => exact ⟨(wrap64 (x3_1 + 1)), (by first | rfl | (simp; done) | (simp [*]; done)), H', ⟨by have := HK1.out; omega⟩, by repeat (first | exact Drawn0.refl _ | apply Drawn0.step)⟩
                · replace c22 := Bool.eq_false_iff.mpr c22
                  subst c22
                  have H1 : (keelsonref3_Name.l0 k1 a0 (wrap64 (x3_1 + 1))) = some r := by rw [if_neg (show ¬ (false = true) by decide)] at H; exact H
                  clear H
                  have H := H1
                  clear H1
                  have H' := Aside0.mk H
                  clear H
                  have p4 : 0 ≤ (x3_1 : Int) := of_decide_eq_true (by first | (with_reducible assumption) | assumption)
                  have q4 : x3_1 < (a0.size : Int) := of_decide_eq_true (by first | (with_reducible assumption) | assumption)
                  have hx4 := bt_at a0 x3_1
                  replace p4 := eq_true p4
                  replace q4 := eq_true q4
                  go_wp2_with (first | (go_at_call 65; (with_reducible refine (keelsonref2_Digit.calls (bt a0 x3_1) false _ A19.out).mono ?_); rintro e w' ⟨rfl, ⟨nd, rfl⟩⟩))
                  go_roundg k1
                  case measure => have := HK1.out; omega
                  case rel => exact ⟨(wrap64 (x3_1 + 1)), (by first | rfl | (simp; done) | (simp [*]; done)), H', ⟨by have := HK1.out; omega⟩, by repeat (first | exact Drawn0.refl _ | apply Drawn0.step)⟩
              · rw [if_neg c21] at H
                have c21b0 : ((bt a0 x3_1) == 43) = false := beq_eq_false_iff_ne.mpr c21
                have c21b1 : ((bt a0 x3_1) != 43) = true := bne_iff_ne.mpr c21
                by_cases c23 : (bt a0 x3_1) = 45
                · rw [if_pos c23] at H
                  have c23b0 : ((bt a0 x3_1) == 45) = true := beq_iff_eq.mpr c23
                  have c23b1 : ((bt a0 x3_1) != 45) = false := bne_eq_false_iff_eq.mpr c23
                  clear c23
                  by_cases c24 : t152 = true
                  · subst c24
                    have H1 : (keelsonref3_Name.l0 k1 a0 (wrap64 (x3_1 + 1))) = some r := by rw [if_pos rfl] at H; exact H
                    clear H
                    have H := H1
                    clear H1
                    have H' := Aside0.mk H
                    clear H
                    have p4 : 0 ≤ (x3_1 : Int) := of_decide_eq_true (by first | (with_reducible assumption) | assumption)
                    have q4 : x3_1 < (a0.size : Int) := of_decide_eq_true (by first | (with_reducible assumption) | assumption)
                    have hx4 := bt_at a0 x3_1
                    replace p4 := eq_true p4
                    replace q4 := eq_true q4
                    go_wp2_with (first | (go_at_call 65; (with_reducible refine (keelsonref2_Digit.calls (bt a0 x3_1) true _ A19.out).mono ?_); rintro e w' ⟨rfl, ⟨nd, rfl⟩⟩))
                    go_roundg k1
                    case measure => have := HK1.out; omega
                    case rel => exact ⟨(wrap64 (x3_1 + 1)), (by first | rfl | (simp; done) | (simp [*]; done)), H', ⟨by have := HK1.out; omega⟩, by repeat (first | exact Drawn0.refl _ | apply Drawn0.step)⟩
                  · replace c24 := Bool.eq_false_iff.mpr c24
                    subst c24
                    have H1 : (keelsonref3_Name.l0 k1 a0 (wrap64 (x3_1 + 1))) = some r := by rw [if_neg (show ¬ (false = true) by decide)] at H; exact H
                    clear H
                    have H := H1
                    clear H1
                    have H' := Aside0.mk H
                    clear H
                    have p4 : 0 ≤ (x3_1 : Int) := of_decide_eq_true (by first | (with_reducible assumption) | assumption)
                    have q4 : x3_1 < (a0.size : Int) := of_decide_eq_true (by first | (with_reducible assumption) | assumption)
                    have hx4 := bt_at a0 x3_1
                    replace p4 := eq_true p4
                    replace q4 := eq_true q4
                    go_wp2_with (first | (go_at_call 65; (with_reducible refine (keelsonref2_Digit.calls (bt a0 x3_1) false _ A19.out).mono ?_); rintro e w' ⟨rfl, ⟨nd, rfl⟩⟩))
                    go_roundg k1
                    case measure => have := HK1.out; omega
                    case rel => exact ⟨(wrap64 (x3_1 + 1)), (by first | rfl | (simp; done) | (simp [*]; done)), H', ⟨by have := HK1.out; omega⟩, by repeat (first | exact Drawn0.refl _ | apply Drawn0.step)⟩
                · rw [if_neg c23] at H
                  have c23b0 : ((bt a0 x3_1) == 45) = false := beq_eq_false_iff_ne.mpr c23
                  have c23b1 : ((bt a0 x3_1) != 45) = true := bne_iff_ne.mpr c23
                  by_cases c25 : t152 = true
                  · subst c25
                    have H1 : (keelsonref3_Name.l0 k1 a0 (wrap64 (x3_1 + 1))) = some r := by rw [if_pos rfl] at H; exact H
                    clear H
                    have H := H1
                    clear H1
                    have H' := Aside0.mk H
                    clear H
                    have p4 : 0 ≤ (x3_1 : Int) := of_decide_eq_true (by first | (with_reducible assumption) | assumption)
                    have q4 : x3_1 < (a0.size : Int) := of_decide_eq_true (by first | (with_reducible assumption) | assumption)
                    have hx4 := bt_at a0 x3_1
                    replace p4 := eq_true p4
                    replace q4 := eq_true q4
                    go_wp2_with (first | (go_at_call 65; (with_reducible refine (keelsonref2_Digit.calls (bt a0 x3_1) true _ A19.out).mono ?_); rintro e w' ⟨rfl, ⟨nd, rfl⟩⟩))
                    go_roundg k1
                    case measure => have := HK1.out; omega
                    case rel => exact ⟨(wrap64 (x3_1 + 1)), (by first | rfl | (simp; done) | (simp [*]; done)), H', ⟨by have := HK1.out; omega⟩, by repeat (first | exact Drawn0.refl _ | apply Drawn0.step)⟩
                  · replace c25 := Bool.eq_false_iff.mpr c25
                    subst c25
                    have H1 : (if ((bt a0 x3_1) = 46) then (keelsonref3_Name.l0 k1 a0 (wrap64 (x3_1 + 1))) else (some false)) = some r := by rw [if_neg (show ¬ (false = true) by decide)] at H; exact H
                    clear H
                    have H := H1
                    clear H1
                    by_cases c26 : ((bt a0 x3_1) = 46)
                    · rw [if_pos c26] at H
                      have c26b0 : ((bt a0 x3_1) == 46) = true := beq_iff_eq.mpr c26
                      have c26b1 : ((bt a0 x3_1) != 46) = false := bne_eq_false_iff_eq.mpr c26
                      clear c26
                      have H' := Aside0.mk H
                      clear H
                      have p4 : 0 ≤ (x3_1 : Int) := of_decide_eq_true (by first | (with_reducible assumption) | assumption)
                      have q4 : x3_1 < (a0.size : Int) := of_decide_eq_true (by first | (with_reducible assumption) | assumption)
                      have hx4 := bt_at a0 x3_1
                      replace p4 := eq_true p4
                      replace q4 := eq_true q4
                      go_wp2_with (first | (go_at_call 65; (with_reducible refine (keelsonref2_Digit.calls (bt a0 x3_1) false _ A19.out).mono ?_); rintro e w' ⟨rfl, ⟨nd, rfl⟩⟩))
                      go_roundg k1
                      case measure => have := HK1.out; omega
                      case rel => exact ⟨(wrap64 (x3_1 + 1)), (by first | rfl | (simp; done) | (simp [*]; done)), H', ⟨by have := HK1.out; omega⟩, by repeat (first | exact Drawn0.refl _ | apply Drawn0.step)⟩
                    · rw [if_neg c26] at H
                      have c26b0 : ((bt a0 x3_1) == 46) = false := beq_eq_false_iff_ne.mpr c26
                      have c26b1 : ((bt a0 x3_1) != 46) = true := bne_iff_ne.mpr c26
                      obtain rfl := Option.some.inj H
                      have p4 : 0 ≤ (x3_1 : Int) := of_decide_eq_true (by first | (with_reducible assumption) | assumption)
                      have q4 : x3_1 < (a0.size : Int) := of_decide_eq_true (by first | (with_reducible assumption) | assumption)
                      have hx4 := bt_at a0 x3_1
                      replace p4 := eq_true p4
                      replace q4 := eq_true q4
                      go_wp2_with (first | (go_at_call 65; (with_reducible refine (keelsonref2_Digit.calls (bt a0 x3_1) false _ A19.out).mono ?_); rintro e w' ⟨rfl, ⟨nd, rfl⟩⟩))
                      go_ret
                      exact ⟨by first | rfl | (simp; done) | (simp [*]; done), by repeat (first | exact Drawn0.refl _ | apply Drawn0.step)⟩
            · rw [if_neg c20] at H
              have c20b0 : decide (0 < x3_1) = false := decide_eq_false c20
              clear c20
              by_cases c27 : t152 = true
              · subst c27
                have H1 : (keelsonref3_Name.l0 k1 a0 (wrap64 (x3_1 + 1))) = some r := by rw [if_pos rfl] at H; exact H
                clear H
                have H := H1
                clear H1
                have H' := Aside0.mk H
                clear H
                have p4 : 0 ≤ (x3_1 : Int) := of_decide_eq_true (by first | (with_reducible assumption) | assumption)
                have q4 : x3_1 < (a0.size : Int) := of_decide_eq_true (by first | (with_reducible assumption) | assumption)
                have hx4 := bt_at a0 x3_1
                replace p4 := eq_true p4
                replace q4 := eq_true q4
                go_wp2_with (first | (go_at_call 65; (with_reducible refine (keelsonref2_Digit.calls (bt a0 x3_1) true _ A19.out).mono ?_); rintro e w' ⟨rfl, ⟨nd, rfl⟩⟩))
                go_roundg k1
                case measure => have := HK1.out; omega
                case rel => exact ⟨(wrap64 (x3_1 + 1)), (by first | rfl | (simp; done) | (simp [*]; done)), H', ⟨by have := HK1.out; omega⟩, by repeat (first | exact Drawn0.refl _ | apply Drawn0.step)⟩
              · replace c27 := Bool.eq_false_iff.mpr c27
                subst c27
                have H1 : (some false) = some r := by rw [if_neg (show ¬ (false = true) by decide)] at H; exact H
                clear H
                have H := H1
                clear H1
                obtain rfl := Option.some.inj H
                have p4 : 0 ≤ (x3_1 : Int) := of_decide_eq_true (by first | (with_reducible assumption) | assumption)
                have q4 : x3_1 < (a0.size : Int) := of_decide_eq_true (by first | (with_reducible assumption) | assumption)
                have hx4 := bt_at a0 x3_1
                replace p4 := eq_true p4
                replace q4 := eq_true q4
                go_wp2_with (first | (go_at_call 65; (with_reducible refine (keelsonref2_Digit.calls (bt a0 x3_1) false _ A19.out).mono ?_); rintro e w' ⟨rfl, ⟨nd, rfl⟩⟩))
                go_ret
                exact ⟨by first | rfl | (simp; done) | (simp [*]; done), by repeat (first | exact Drawn0.refl _ | apply Drawn0.step)⟩
        · rw [if_neg c3] at H
          exact absurd H (by simp)
      · rw [if_neg c2] at H
        have c2b0 : decide (x3_1 < (a0.size : Int)) = false := decide_eq_false c2
        clear c2
        by_cases c28 : (a0.size : Int) ≥ 2
        · rw [if_pos c28] at H
          have c28b0 : decide (2 ≤ (a0.size : Int)) = true := decide_eq_true c28
          have c28b1 : decide (2 ≤ a0.size) = true := decide_eq_true (by omega)
          clear c28
          obtain rfl := Option.some.inj H
          go_wp2
          go_ret
          exact ⟨by first | rfl | (simp; done) | (simp [*]; done), by repeat (first | exact Drawn0.refl _ | apply Drawn0.step)⟩
        · rw [if_neg c28] at H
          have c28b0 : decide (2 ≤ (a0.size : Int)) = false := decide_eq_false c28
          have c28b1 : decide (2 ≤ a0.size) = false := decide_eq_false (by omega)
          clear c28
          obtain rfl := Option.some.inj H
          go_wp2
          go_ret
          exact ⟨by first | rfl | (simp; done) | (simp [*]; done), by repeat (first | exact Drawn0.refl _ | apply Drawn0.step)⟩

end Go.Proofs.YtlcfpmdamehopaaGreatDoor.PA
