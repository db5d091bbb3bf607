/- Texts of this claim, part 1 of 3: contracts of the functions that the law comes to, and what they come to as plain functions. Conditions: sizes that fit. -/
import Derived.Test.YtlcfpmdamehopaaGreatDoorProg
import Derived.WalkKit
import Derived.KernelRfl
import Derived.Outline
import Derived.Deep.LoopGhost
import Derived.Deep.Draws
import Derived.Deep.QuietTactic
import Derived.Deep.DeepCutAuto
import Derived.Deep.CutBlock
import Derived.Deep.RegionHeld3
import Derived.BigQuiet
import Derived.WideLaws
import Derived.OwnWalk
import Derived.Lib.Hide
import Derived.Shelf.Abstract
import Derived.Test.YtlcfpmdamehopaaGreatDoorWWords
import Derived.Test.YtlcfpmdamehopaaGreatDoorWLast
import Derived.Test.YtlcfpmdamehopaaGreatDoorWMore
import Derived.Test.YtlcfpmdamehopaaGreatDoorWGuard
import Derived.Test.YtlcfpmdamehopaaGreatDoorWN
import Derived.Test.YtlcfpmdamehopaaGreatDoorWNEv
import Derived.Test.YtlcfpmdamehopaaGreatDoorWShare
import Derived.Test.YtlcfpmdamehopaaGreatDoorWKept
import Derived.Shelf.Strings.Builder1
import Derived.Shelf.Strings.Builder2
import Derived.Shelf.Strings.Trim
import Derived.Shelf.Small.Utf8
import Derived.Shelf.Small.Bits
import Derived.Shelf.Small.Strs
import Derived.Shelf.Small.Wraps
import Derived.Shelf.Strings.BuilderF
import Derived.Shelf.Strings.BuilderK
import Derived.Shelf.Utf8.RuneCount
import Derived.Shelf.Strings.Builder2Cap
import Derived.Shelf.Strconv.Atoi
import Derived.Shelf.Strconv.Itoa0
import Derived.Shelf.Strconv.Itoa1
import Derived.Shelf.LaysM
import Derived.Shelf.Strconv.Itoa2
import Derived.Shelf.Strconv.Itoa3
import Derived.Shelf.Strconv.AtoiErrFast
import Derived.Shelf.Strconv.ParseIntEmpty
import Derived.Shelf.Strconv.AtoiFail
import Derived.Shelf.Strconv.Clone
import Derived.Shelf.Strconv.SyntaxError
import Derived.Shelf.LaysC
import Derived.Shelf.Strconv.ToError
import Derived.Shelf.Strconv.Lower
import Derived.Shelf.Strconv.ParseUint10
import Derived.Shelf.Strconv.ParseUint10Empty
import Derived.Shelf.Strconv.ParseUint10Any
import Derived.Shelf.Strconv.ParseInt10
import Derived.Shelf.Strconv.AtoiLong
import Derived.Shelf.Strconv.AtoiInnerAll
import Derived.Shelf.Strconv.RangeError
import Derived.Shelf.Strconv.ToErrorRange
import Derived.Shelf.Strconv.AtoiAll
import Derived.Shelf.Strconv.ErrVarAll
import Derived.Shelf.Strconv.ParseUintEmpty
import Derived.Shelf.Strconv.ParseUint10b64
import Derived.Shelf.Strconv.ParseUint10b32
import Derived.Shelf.Strconv.ParseUint10b16
import Derived.Shelf.Strconv.ParseUint10b8
import Derived.Shelf.Strings.Search1
import Derived.Shelf.Strings.Search2
import Derived.Shelf.Strings.Search3
import Derived.Shelf.Strings.Cut
import Derived.Shelf.Strings.Count
import Derived.Shelf.Strings.Shaped
import Derived.Shelf.Strings.Prefix
import Derived.Shelf.Strings.Split
import Derived.Shelf.Strings.Replace
import Derived.Shelf.Strings.SplitShaped
import Derived.Shelf.Unicode.Decode
import Derived.Shelf.Strings.Runes
import Derived.Shelf.Strings.RuneCount
import Derived.Shelf.Strings.AsciiSet
import Derived.Shelf.Strings.Explode
import Derived.Shelf.Unicode.DecodeSlow
import Derived.Shelf.Unicode.DecodeAny
import Derived.Shelf.Slices.Turned
import Derived.Ground.Names2Prog
import Derived.Shelf.Slices.Clone
import Derived.Shelf.Slices.CompactI
import Derived.Shelf.Slices.SearchI
import Derived.Shelf.Slices.Cells
import Derived.Ground.SlgnProg
import Derived.Shelf.SlicesE.Compact
import Derived.Shelf.SlicesE.Clone
import Derived.Ground.SlgfProg
import Derived.Shelf.SlicesE.IndexFunc
import Derived.Shelf.SlicesE.DeleteFunc
import Derived.Ground.SlsfProg
import Derived.Shelf.SlSortCmp.Insertion
import Derived.Shelf.SlSortCmp.SiftDown1
import Derived.Shelf.SlSortCmp.HeapSort1
import Derived.Shelf.SlSortCmp.Insertion1
import Derived.Shelf.SlSortCmp.Median1
import Derived.Shelf.SlSortCmp.Pivot1
import Derived.Shelf.SlSortCmp.ReverseRange1
import Derived.Shelf.SlSortCmp.PartialInsertion1
import Derived.Shelf.SlSortCmp.PartitionEqual1
import Derived.Shelf.SlSortCmp.Partition1
import Derived.Shelf.SlSortCmp.Pdq1
import Derived.Shelf.SlSortCmp.Whole1
import Derived.Shelf.SlSortCmp.NoneTotal
import Derived.Lib.LaidTab
import Derived.Lib.AtoiAll
import Derived.Lib.ItoaNum
import Derived.HandedShaped
import Derived.Handed
import Derived.Test.YtlcfpmdamehopaaGreatDoorRows
import Derived.LaidLaws
import Derived.ProofKit
import Derived.Shelf.Vars
import Derived.Below
import Derived.Deep.AppendLies
import Derived.Maps.AppendAt
import Derived.Laws.BytesArg
import Derived.Laws.MakeOwn
import Derived.Laws.OwnMore
import Derived.Deep.OwnRows
import Derived.Tactics
import Derived.Lib.ConvBytes
import Derived.Laws.Slices
import Derived.RowKit3
import Derived.Laws.Rows
import Derived.Lib.AppendStr
import Derived.ArgAppend
import Derived.Laws.IdiomCopy
import Derived.OrdersHeld
import Derived.Laws.BitsLemmas
import Derived.RowKit
import Derived.Test.YtlcfpmdamehopaaGreatDoorWApart
import Derived.Test.YtlcfpmdamehopaaGreatDoorWFoot
import Derived.Test.YtlcfpmdamehopaaGreatDoorWRepsOne
import Derived.Test.YtlcfpmdamehopaaGreatDoorWInv
import Derived.ChangeArms
import Derived.ChangeOld
import Derived.SizedLaws
import Derived.DataReads
import Derived.Lib.IndexBytes
import Derived.Lib.Strings
import Derived.Lib.CutLaws
import Derived.Lib.ItoaLen
/- Small words for the walks by hand: the place of the first element with a property; what a predicate handed to the library owes. No condition. -/
namespace Go.Proofs.YtlcfpmdamehopaaGreatDoor.PA
open Go.RowKit Go.Proofs.YtlcfpmdamehopaaGreatDoorW.PrintWords Go.Proofs.YtlcfpmdamehopaaGreatDoorW.PrintLast Go.Proofs.YtlcfpmdamehopaaGreatDoorW.PrintMore

/-- The place of the first element with p, or -1. -/
def idxP {α : Type} (p : α → Bool) (xs : List α) : Int := match xs.findIdx? p with | some j => (j : Int) | none => -1
theorem idxP_hit {α : Type} {p : α → Bool} {xs : List α} {k : Nat} (hk : k < xs.length) (hp : p xs[k] = true) (h : ∀ j (hj : j < xs.length), j < k → p xs[j] = false) : idxP p xs = (k : Int) := by
  have e : xs.findIdx? p = some k := by
    rw [List.findIdx?_eq_some_iff_getElem]
    exact ⟨hk, hp, fun j hj => by rw [h j (by omega) hj]; decide⟩
  unfold idxP; rw [e]
theorem idxP_miss {α : Type} {p : α → Bool} {xs : List α} (h : ∀ j (hj : j < xs.length), p xs[j] = false) : idxP p xs = -1 := by
  have e : xs.findIdx? p = none := by
    rw [List.findIdx?_eq_none_iff]
    intro x hx
    obtain ⟨j, hj, rfl⟩ := List.getElem_of_mem hx
    exact h j hj
  unfold idxP; rw [e]
theorem idxP_any {α : Type} (p : α → Bool) (xs : List α) : decide (0 ≤ idxP p xs) = xs.any p := by
  unfold idxP
  cases e : xs.findIdx? p with
  | none =>
    rw [List.findIdx?_eq_none_iff] at e
    have : xs.any p = false := by
      rw [List.any_eq_false]; intro x hx; rw [e x hx]; decide
    rw [this]; rfl
  | some k =>
    obtain ⟨hk, hp, _⟩ := List.findIdx?_eq_some_iff_getElem.1 e
    have : xs.any p = true := List.any_eq_true.2 ⟨_, List.getElem_mem hk, hp⟩
    rw [this]; show decide (0 ≤ (k : Int)) = true; exact decide_eq_true (by omega)

/-- What is owed by a predicate that is handed over: at each element, in each world in which all that lay in w lies. -/
def PredOn {α : Type} (d : Kd α) (mkv : List Value → Value) (g : Nat) (lb : Array Value) (p : α → Bool) (xs : List α) (w : World) : Prop :=
  ∀ x ∈ xs, ∀ cs W, Below w.heap.size w W → d.K W x cs → Calls Tryz.prog g (#[mkv cs] ++ lb) W fun e w' => e = .returned (.bool (p x)) ∧ Below W.heap.size W w'
def oneV : List Value → Value | v :: _ => v | [] => .nilIface
theorem C_elem {α : Type} {d : Kd α} {w : World} {ad : Addr} {xs : List α} (h : d.C w (some ad) xs.length xs) (j : Nat) (hj : j < xs.length) :
    ∃ c, c.length = d.sz ∧ d.K w xs[j] c ∧ ∀ i u, c[i]? = some u → w.cell? (ad.add (j * d.sz + i)) = some u := by
  obtain ⟨ad', e, hc⟩ := h.2.2 (by omega)
  cases e
  exact hc j _ (List.getElem?_eq_getElem hj)
theorem C_nil {α : Type} (d : Kd α) (w : World) (A : Option Addr) : d.C w A 0 [] := ⟨rfl, by omega, fun h => absurd h (by omega)⟩
theorem C_addr {α : Type} {d : Kd α} {w : World} {A : Option Addr} {xs : List α} (h : d.C w A xs.length xs) (hn : 0 < xs.length) : ∃ ad, A = some ad := by
  obtain ⟨ad, e, _⟩ := h.2.2 hn
  exact ⟨ad, e⟩
end Go.Proofs.YtlcfpmdamehopaaGreatDoor.PA
/- A number of the library's own stands in its variable, and stays there. No condition. -/
namespace Go.Proofs.YtlcfpmdamehopaaGreatDoor.PA
open Go.RowKit Go.Proofs.YtlcfpmdamehopaaGreatDoorW.PrintWords Go.Proofs.YtlcfpmdamehopaaGreatDoorW.PrintLast Go.Proofs.YtlcfpmdamehopaaGreatDoorW.PrintMore

def GlobMaxLen (w : World) : Prop := ∃ m, w.cell? ⟨0, 0, none⟩ = some (.int .i64 m)
theorem GlobMaxLen.below {w W : World} (h : GlobMaxLen w) (hb : Below w.heap.size w W) : GlobMaxLen W := by
  obtain ⟨m, h⟩ := h
  exact ⟨m, pw_cell_below hb h⟩
end Go.Proofs.YtlcfpmdamehopaaGreatDoor.PA
/- The kit's library contracts laid at this seat's dump by the kit's lay-shelf and lay-plain, and by shelf.py of this repo. -/
namespace Go.Proofs
open Go.Shelf
def Tryz.lays169_ren : Go.Shelf.Ren := ⟨fun | 169 => 40 | n => n, fun | 70 => 70 | 9 => 9 | 0 => 0 | 72 => 72 | 37 => 57 | 127 => 116 | 3 => 3 | 5 => 5 | n => n, fun | n => n⟩
theorem Tryz.lays169 : Go.Proofs.Lays.n169 Tryz.prog Tryz.lays169_ren := {
  mixed := by kernel_rfl
  f169 := Tryz.func40.trans (congrArg some (by kernel_rfl))
  t0 := Tryz.underlying0
  a0 := Tryz.isAgg0
  z0 := Tryz.sizeOf0
  v0 := Tryz.zeroValue0
  t3 := Tryz.underlying3
  a3 := Tryz.isAgg3
  z3 := Tryz.sizeOf3
  v3 := Tryz.zeroValue3
  t9 := Tryz.underlying9
  a9 := Tryz.isAgg9
  z9 := Tryz.sizeOf9
  v9 := Tryz.zeroValue9
  t37 := Tryz.underlying57
  a37 := Tryz.isAgg57
  z37 := Tryz.sizeOf57
  v37 := Tryz.zeroValue57
  t70 := Tryz.underlying70
  a70 := Tryz.isAgg70
  z70 := Tryz.sizeOf70
  v70 := Tryz.zeroValue70
  t72 := Tryz.underlying72
  a72 := Tryz.isAgg72
  z72 := Tryz.sizeOf72
  v72 := Tryz.zeroValue72
  t127 := Tryz.underlying116
  a127 := Tryz.isAgg116
  z127 := Tryz.sizeOf116
  v127 := Tryz.zeroValue116 }
theorem Tryz.Builder_Extra_169 : Builder.Extra Tryz.prog Tryz.lays169_ren := {
  sizeBuilder := by kernel_rfl
  liesBuilder := by kernel_rfl
  t5 := Tryz.underlying5
  a5 := Tryz.isAgg5
  z5 := Tryz.sizeOf5
  v5 := Tryz.zeroValue5
  infoByte := by kernel_rfl
  cellsByte := by kernel_rfl
  sizeByte := by kernel_rfl
  neB5 := by decide }
open Go.RowKit in
/-- (*strings.Builder).String: "String returns the accumulated string.": WHATEVER THE BUILDER HOLDS. (LAID: no walk: one application.) -/
theorem Tryz.Builder_String_any (B b : Nat) (l : List UInt8) (w : World) (h : Lib.IsBuilder 72 5 B b (Lib.byteCells l) w) (hBw : B ≤ w.heap.size) :
    Calls Tryz.prog 40 #[.pointer (some ⟨b, 0, none⟩)] w fun e w' => e = .returned (.string ⟨l.toArray⟩) ∧ Below B w w' := Any.Builder_String_any Tryz.lays169 Tryz.Builder_Extra_169 B b l w h hBw
def Tryz.lays210_ren : Go.Shelf.Ren := ⟨fun | 210 => 87 | 206 => 120 | n => n, fun | 9 => 9 | 4 => 4 | 3 => 3 | n => n, fun | n => n⟩
theorem Tryz.lays210 : Go.Proofs.Lays.n210 Tryz.prog Tryz.lays210_ren := {
  mixed := by kernel_rfl
  f206 := Tryz.func120.trans (congrArg some (by kernel_rfl))
  f210 := Tryz.func87.trans (congrArg some (by kernel_rfl))
  t3 := Tryz.underlying3
  a3 := Tryz.isAgg3
  z3 := Tryz.sizeOf3
  v3 := Tryz.zeroValue3
  t4 := Tryz.underlying4
  a4 := Tryz.isAgg4
  z4 := Tryz.sizeOf4
  v4 := Tryz.zeroValue4
  t9 := Tryz.underlying9
  a9 := Tryz.isAgg9
  z9 := Tryz.sizeOf9
  v9 := Tryz.zeroValue9 }
open Go.RowKit in
/-- internal/stringslite.CutPrefix (what strings.CutPrefix calls). (LAID: no walk: one application.) -/
theorem Tryz.stringslite_CutPrefix (s p : ByteArray) (w : World) :
    Calls Tryz.prog 87 #[.string s, .string p] w fun e w' => e = .returned (.tuple #[.string ⟨(Lib.trimPrefix s.data.toList p.data.toList).toArray⟩, .bool (Lib.hasPrefix s.data.toList p.data.toList)]) ∧ w' = w := Any.stringslite_CutPrefix Tryz.lays210 s p w
def Tryz.lays103_ren : Go.Shelf.Ren := ⟨fun | 103 => 42 | 210 => 87 | 206 => 120 | n => n, fun | 9 => 9 | 4 => 4 | 24 => 80 | 3 => 3 | n => n, fun | n => n⟩
theorem Tryz.lays103 : Go.Proofs.Lays.n103 Tryz.prog Tryz.lays103_ren := {
  mixed := by kernel_rfl
  f103 := Tryz.func42.trans (congrArg some (by kernel_rfl))
  f206 := Tryz.func120.trans (congrArg some (by kernel_rfl))
  f210 := Tryz.func87.trans (congrArg some (by kernel_rfl))
  t3 := Tryz.underlying3
  a3 := Tryz.isAgg3
  z3 := Tryz.sizeOf3
  v3 := Tryz.zeroValue3
  t4 := Tryz.underlying4
  a4 := Tryz.isAgg4
  z4 := Tryz.sizeOf4
  v4 := Tryz.zeroValue4
  t9 := Tryz.underlying9
  a9 := Tryz.isAgg9
  z9 := Tryz.sizeOf9
  v9 := Tryz.zeroValue9
  t24 := Tryz.underlying80
  a24 := Tryz.isAgg80
  z24 := Tryz.sizeOf80
  v24 := Tryz.zeroValue80 }
open Go.RowKit in
/-- strings.CutPrefix: "CutPrefix returns s without the provided leading prefix string and reports whether it found the prefix. If s doesn't start with prefix, CutPrefix returns s, false. If prefix is the empty string, CutPrefix returns s, true.": IT RETURNS '(Lib.trimPrefix s p, Lib.hasPrefix s p)'; the world is as it was. (LAID: no walk: one application.) -/
theorem Tryz.strings_CutPrefix (s p : ByteArray) (w : World) :
    Calls Tryz.prog 42 #[.string s, .string p] w fun e w' => e = .returned (.tuple #[.string ⟨(Lib.trimPrefix s.data.toList p.data.toList).toArray⟩, .bool (Lib.hasPrefix s.data.toList p.data.toList)]) ∧ w' = w := Any.strings_CutPrefix Tryz.lays103 s p w
def Tryz.lays215_ren : Go.Shelf.Ren := ⟨fun | 215 => 115 | n => n, fun | 3 => 3 | 4 => 4 | n => n, fun | n => n⟩
theorem Tryz.lays215 : Go.Proofs.Lays.n215 Tryz.prog Tryz.lays215_ren := {
  mixed := by kernel_rfl
  f215 := Tryz.func115.trans (congrArg some (by kernel_rfl))
  t3 := Tryz.underlying3
  a3 := Tryz.isAgg3
  z3 := Tryz.sizeOf3
  v3 := Tryz.zeroValue3
  t4 := Tryz.underlying4
  a4 := Tryz.isAgg4
  z4 := Tryz.sizeOf4
  v4 := Tryz.zeroValue4 }
open Go.RowKit in
/-- cmp.isNaN at int: 'x != x': false. (LAID: no walk: one application.) -/
theorem Tryz.cmp_isNaN_int (x : Int) (w : World) :
    Calls Tryz.prog 115 #[.int .i64 x] w fun e w' => e = .returned (.bool false) ∧ w' = w := Any.cmp_isNaN_int Tryz.lays215 x w
def Tryz.lays122_ren : Go.Shelf.Ren := ⟨fun | 122 => 76 | 215 => 115 | n => n, fun | 3 => 3 | 4 => 4 | n => n, fun | n => n⟩
theorem Tryz.lays122 : Go.Proofs.Lays.n122 Tryz.prog Tryz.lays122_ren := {
  mixed := by kernel_rfl
  f122 := Tryz.func76.trans (congrArg some (by kernel_rfl))
  f215 := Tryz.func115.trans (congrArg some (by kernel_rfl))
  t3 := Tryz.underlying3
  a3 := Tryz.isAgg3
  z3 := Tryz.sizeOf3
  v3 := Tryz.zeroValue3
  t4 := Tryz.underlying4
  a4 := Tryz.isAgg4
  z4 := Tryz.sizeOf4
  v4 := Tryz.zeroValue4 }
open Go.RowKit in
/-- cmp.Compare at int: "Compare returns -1 if x is less than y, 0 if x equals y, +1 if x is greater than y.": IT RETURNS 'Lib.compareInt x y'; the world is as it was. (LAID: no walk: one application.) -/
theorem Tryz.cmp_Compare_int (x y : Int) (w : World) :
    Calls Tryz.prog 76 #[.int .i64 x, .int .i64 y] w fun e w' => e = .returned (.int .i64 (Lib.compareInt x y)) ∧ w' = w := Any.cmp_Compare_int Tryz.lays122 x y w
def Tryz.laysM171_ren : Go.Shelf.Ren := ⟨fun | 171 => 31 | 243 => 66 | 246 => 105 | 283 => 137 | 284 => 138 | 285 => 139 | 286 => 140 | 129 => 154 | 317 => 170 | 318 => 171 | 319 => 172 | 320 => 173 | 337 => 189 | 338 => 190 | n => n, fun | 3 => 3 | 9 => 9 | 2 => 2 | 4 => 4 | 171 => 154 | 0 => 0 | 53 => 155 | 37 => 57 | 5 => 5 | 173 => 158 | 212 => 189 | 51 => 170 | 20 => 20 | 213 => 190 | 46 => 137 | 232 => 217 | 233 => 218 | n => n, fun | 17 => 3 | 18 => 6 | 19 => 7 | n => n⟩
theorem Tryz.laysM171 : Go.Proofs.LaysM.n171 Tryz.prog Tryz.laysM171_ren := {
  mixed := by kernel_rfl
  f129 := Tryz.func154.trans (congrArg some (by kernel_rfl))
  f171 := Tryz.func31.trans (congrArg some (by kernel_rfl))
  f243 := Tryz.func66.trans (congrArg some (by kernel_rfl))
  f246 := Tryz.func105.trans (congrArg some (by kernel_rfl))
  f283 := Tryz.func137.trans (congrArg some (by kernel_rfl))
  f284 := Tryz.func138.trans (congrArg some (by kernel_rfl))
  f285 := Tryz.func139.trans (congrArg some (by kernel_rfl))
  f286 := Tryz.func140.trans (congrArg some (by kernel_rfl))
  f317 := Tryz.func170.trans (congrArg some (by kernel_rfl))
  f318 := Tryz.func171.trans (congrArg some (by kernel_rfl))
  f319 := Tryz.func172.trans (congrArg some (by kernel_rfl))
  f320 := Tryz.func173.trans (congrArg some (by kernel_rfl))
  f337 := Tryz.func189.trans (congrArg some (by kernel_rfl))
  f338 := Tryz.func190.trans (congrArg some (by kernel_rfl))
  t0 := Tryz.underlying0
  a0 := Tryz.isAgg0
  z0 := Tryz.sizeOf0
  v0 := Tryz.zeroValue0
  t2 := Tryz.underlying2
  a2 := Tryz.isAgg2
  z2 := Tryz.sizeOf2
  v2 := Tryz.zeroValue2
  t3 := Tryz.underlying3
  a3 := Tryz.isAgg3
  z3 := Tryz.sizeOf3
  v3 := Tryz.zeroValue3
  t4 := Tryz.underlying4
  a4 := Tryz.isAgg4
  z4 := Tryz.sizeOf4
  v4 := Tryz.zeroValue4
  t5 := Tryz.underlying5
  a5 := Tryz.isAgg5
  z5 := Tryz.sizeOf5
  v5 := Tryz.zeroValue5
  t9 := Tryz.underlying9
  a9 := Tryz.isAgg9
  z9 := Tryz.sizeOf9
  v9 := Tryz.zeroValue9
  t20 := Tryz.underlying20
  a20 := Tryz.isAgg20
  z20 := Tryz.sizeOf20
  v20 := Tryz.zeroValue20
  t37 := Tryz.underlying57
  a37 := Tryz.isAgg57
  z37 := Tryz.sizeOf57
  v37 := Tryz.zeroValue57
  t46 := Tryz.underlying137
  a46 := Tryz.isAgg137
  z46 := Tryz.sizeOf137
  v46 := Tryz.zeroValue137
  t51 := Tryz.underlying170
  a51 := Tryz.isAgg170
  z51 := Tryz.sizeOf170
  v51 := Tryz.zeroValue170
  t53 := Tryz.underlying155
  a53 := Tryz.isAgg155
  z53 := Tryz.sizeOf155
  v53 := Tryz.zeroValue155
  t171 := Tryz.underlying154
  a171 := Tryz.isAgg154
  z171 := Tryz.sizeOf154
  v171 := Tryz.zeroValue154
  t173 := Tryz.underlying158
  a173 := Tryz.isAgg158
  z173 := Tryz.sizeOf158
  v173 := Tryz.zeroValue158
  t212 := Tryz.underlying189
  a212 := Tryz.isAgg189
  z212 := Tryz.sizeOf189
  v212 := Tryz.zeroValue189
  t213 := Tryz.underlying190
  a213 := Tryz.isAgg190
  z213 := Tryz.sizeOf190
  t232 := Tryz.underlying217
  a232 := Tryz.isAgg217
  z232 := Tryz.sizeOf217
  v232 := Tryz.zeroValue217
  t233 := Tryz.underlying218
  a233 := Tryz.isAgg218
  z233 := Tryz.sizeOf218
  v233 := Tryz.zeroValue218
  g17 := by kernel_rfl
  g18 := by kernel_rfl
  g19 := by kernel_rfl
  i0 := by kernel_rfl
  i2 := by kernel_rfl
  i3 := by kernel_rfl
  i4 := by kernel_rfl
  i5 := by kernel_rfl
  i9 := by kernel_rfl
  i20 := by kernel_rfl
  i37 := by kernel_rfl
  i46 := by kernel_rfl
  i51 := by kernel_rfl
  i53 := by kernel_rfl
  i171 := by kernel_rfl
  i173 := by kernel_rfl
  i212 := by kernel_rfl
  i232 := by kernel_rfl
  i233 := by kernel_rfl
  m17 := by kernel_rfl
  m18 := by kernel_rfl
  m19 := by kernel_rfl }
open Go.RowKit Go.Sort Go.Lib in
/-- strconv.Itoa: "Itoa is equivalent to FormatInt(int64(i), 10).": i's DECIMAL NUMERAL ('Lib.itoa': a '-' where i is negative, then the digits), FOR EVERY int. The world behind the call: the world before it, new blocks behind the heap (the library's 'var a [24]byte'), draws. (LAID: no walk: one application.) -/
theorem Tryz.strconv_Itoa (n : Int) (h0 : -9223372036854775808 ≤ n) (h1 : n ≤ 9223372036854775807) (w : World) (htab : Lib.TabIs Tryz.prog w "internal/strconv.uint64pow10" .u64 Lib.pow10Tab) :
    Calls Tryz.prog 31 #[.int .i64 n] w fun e w' => e = .returned (.string ⟨(Lib.itoa n).toArray⟩) ∧ ∃ k os, w' = grow (w.drewN k) os := Any.strconv_Itoa Tryz.laysM171 n h0 h1 w htab
def Tryz.laysC172_ren : Go.Shelf.Ren := ⟨fun | 172 => 57 | 244 => 100 | 245 => 101 | 247 => 130 | 279 => 131 | 280 => 132 | 281 => 133 | 282 => 134 | 287 => 166 | 316 => 167 | 171 => 31 | 205 => 168 | 321 => 187 | 322 => 188 | 243 => 66 | 246 => 105 | 283 => 137 | 284 => 138 | 285 => 139 | 286 => 140 | 129 => 154 | 317 => 170 | 318 => 171 | 319 => 172 | 320 => 173 | 337 => 189 | 338 => 190 | n => n, fun | 9 => 9 | 3 => 3 | 75 => 74 | 76 => 75 | 4 => 4 | 5 => 5 | 167 => 148 | 37 => 57 | 0 => 0 | 85 => 149 | 2 => 2 | 168 => 151 | 53 => 155 | 175 => 182 | 46 => 137 | 210 => 186 | 127 => 116 | 145 => 206 | 143 => 204 | 21 => 21 | 171 => 154 | 173 => 158 | 212 => 189 | 51 => 170 | 20 => 20 | 213 => 190 | 232 => 217 | 233 => 218 | 80 => 77 | n => n, fun | 15 => 1 | 16 => 2 | 17 => 3 | 18 => 6 | 19 => 7 | n => n⟩
theorem Tryz.laysC172 : Go.Proofs.LaysC.n172 Tryz.prog Tryz.laysC172_ren := {
  mixed := by kernel_rfl
  f129 := Tryz.func154.trans (congrArg some (by kernel_rfl))
  f171 := Tryz.func31.trans (congrArg some (by kernel_rfl))
  f172 := Tryz.func57.trans (congrArg some (by kernel_rfl))
  f205 := Tryz.func168.trans (congrArg some (by kernel_rfl))
  f243 := Tryz.func66.trans (congrArg some (by kernel_rfl))
  f244 := Tryz.func100.trans (congrArg some (by kernel_rfl))
  f245 := Tryz.func101.trans (congrArg some (by kernel_rfl))
  f246 := Tryz.func105.trans (congrArg some (by kernel_rfl))
  f247 := Tryz.func130.trans (congrArg some (by kernel_rfl))
  f279 := Tryz.func131.trans (congrArg some (by kernel_rfl))
  f280 := Tryz.func132.trans (congrArg some (by kernel_rfl))
  f281 := Tryz.func133.trans (congrArg some (by kernel_rfl))
  f282 := Tryz.func134.trans (congrArg some (by kernel_rfl))
  f283 := Tryz.func137.trans (congrArg some (by kernel_rfl))
  f284 := Tryz.func138.trans (congrArg some (by kernel_rfl))
  f285 := Tryz.func139.trans (congrArg some (by kernel_rfl))
  f286 := Tryz.func140.trans (congrArg some (by kernel_rfl))
  f287 := Tryz.func166.trans (congrArg some (by kernel_rfl))
  f316 := Tryz.func167.trans (congrArg some (by kernel_rfl))
  f317 := Tryz.func170.trans (congrArg some (by kernel_rfl))
  f318 := Tryz.func171.trans (congrArg some (by kernel_rfl))
  f319 := Tryz.func172.trans (congrArg some (by kernel_rfl))
  f320 := Tryz.func173.trans (congrArg some (by kernel_rfl))
  f321 := Tryz.func187.trans (congrArg some (by kernel_rfl))
  f322 := Tryz.func188.trans (congrArg some (by kernel_rfl))
  f337 := Tryz.func189.trans (congrArg some (by kernel_rfl))
  f338 := Tryz.func190.trans (congrArg some (by kernel_rfl))
  t0 := Tryz.underlying0
  a0 := Tryz.isAgg0
  z0 := Tryz.sizeOf0
  v0 := Tryz.zeroValue0
  t2 := Tryz.underlying2
  a2 := Tryz.isAgg2
  z2 := Tryz.sizeOf2
  v2 := Tryz.zeroValue2
  t3 := Tryz.underlying3
  a3 := Tryz.isAgg3
  z3 := Tryz.sizeOf3
  v3 := Tryz.zeroValue3
  t4 := Tryz.underlying4
  a4 := Tryz.isAgg4
  z4 := Tryz.sizeOf4
  v4 := Tryz.zeroValue4
  t5 := Tryz.underlying5
  a5 := Tryz.isAgg5
  z5 := Tryz.sizeOf5
  v5 := Tryz.zeroValue5
  t9 := Tryz.underlying9
  a9 := Tryz.isAgg9
  z9 := Tryz.sizeOf9
  v9 := Tryz.zeroValue9
  t20 := Tryz.underlying20
  a20 := Tryz.isAgg20
  z20 := Tryz.sizeOf20
  v20 := Tryz.zeroValue20
  t21 := Tryz.underlying21
  a21 := Tryz.isAgg21
  z21 := Tryz.sizeOf21
  v21 := Tryz.zeroValue21
  t37 := Tryz.underlying57
  a37 := Tryz.isAgg57
  z37 := Tryz.sizeOf57
  v37 := Tryz.zeroValue57
  t46 := Tryz.underlying137
  a46 := Tryz.isAgg137
  z46 := Tryz.sizeOf137
  v46 := Tryz.zeroValue137
  t51 := Tryz.underlying170
  a51 := Tryz.isAgg170
  z51 := Tryz.sizeOf170
  v51 := Tryz.zeroValue170
  t53 := Tryz.underlying155
  a53 := Tryz.isAgg155
  z53 := Tryz.sizeOf155
  v53 := Tryz.zeroValue155
  t75 := Tryz.underlying74
  a75 := Tryz.isAgg74
  z75 := Tryz.sizeOf74
  v75 := Tryz.zeroValue74
  t76 := Tryz.underlying75
  a76 := Tryz.isAgg75
  z76 := Tryz.sizeOf75
  v76 := Tryz.zeroValue75
  t85 := Tryz.underlying149
  a85 := Tryz.isAgg149
  z85 := Tryz.sizeOf149
  v85 := Tryz.zeroValue149
  t127 := Tryz.underlying116
  a127 := Tryz.isAgg116
  z127 := Tryz.sizeOf116
  v127 := Tryz.zeroValue116
  t143 := Tryz.underlying204
  a143 := Tryz.isAgg204
  z143 := Tryz.sizeOf204
  v143 := Tryz.zeroValue204
  t145 := Tryz.underlying206
  a145 := Tryz.isAgg206
  z145 := Tryz.sizeOf206
  v145 := Tryz.zeroValue206
  t167 := Tryz.underlying148
  a167 := Tryz.isAgg148
  z167 := Tryz.sizeOf148
  v167 := Tryz.zeroValue148
  t168 := Tryz.underlying151
  a168 := Tryz.isAgg151
  z168 := Tryz.sizeOf151
  v168 := Tryz.zeroValue151
  t171 := Tryz.underlying154
  a171 := Tryz.isAgg154
  z171 := Tryz.sizeOf154
  v171 := Tryz.zeroValue154
  t173 := Tryz.underlying158
  a173 := Tryz.isAgg158
  z173 := Tryz.sizeOf158
  v173 := Tryz.zeroValue158
  t175 := Tryz.underlying182
  a175 := Tryz.isAgg182
  z175 := Tryz.sizeOf182
  v175 := Tryz.zeroValue182
  t210 := Tryz.underlying186
  a210 := Tryz.isAgg186
  z210 := Tryz.sizeOf186
  v210 := Tryz.zeroValue186
  t212 := Tryz.underlying189
  a212 := Tryz.isAgg189
  z212 := Tryz.sizeOf189
  v212 := Tryz.zeroValue189
  t213 := Tryz.underlying190
  a213 := Tryz.isAgg190
  z213 := Tryz.sizeOf190
  t232 := Tryz.underlying217
  a232 := Tryz.isAgg217
  z232 := Tryz.sizeOf217
  v232 := Tryz.zeroValue217
  t233 := Tryz.underlying218
  a233 := Tryz.isAgg218
  z233 := Tryz.sizeOf218
  v233 := Tryz.zeroValue218
  g15 := by kernel_rfl
  g16 := by kernel_rfl
  g17 := by kernel_rfl
  g18 := by kernel_rfl
  g19 := by kernel_rfl
  t80 := Tryz.underlying77
  a80 := Tryz.isAgg77
  z80 := Tryz.sizeOf77
  v80 := Tryz.zeroValue77
  i0 := by kernel_rfl
  i2 := by kernel_rfl
  i3 := by kernel_rfl
  i4 := by kernel_rfl
  i5 := by kernel_rfl
  i9 := by kernel_rfl
  i20 := by kernel_rfl
  i21 := by kernel_rfl
  i37 := by kernel_rfl
  i46 := by kernel_rfl
  i51 := by kernel_rfl
  i53 := by kernel_rfl
  i75 := by kernel_rfl
  i76 := by kernel_rfl
  i80 := by kernel_rfl
  i85 := by kernel_rfl
  i127 := by kernel_rfl
  i143 := by kernel_rfl
  i145 := by kernel_rfl
  i167 := by kernel_rfl
  i168 := by kernel_rfl
  i171 := by kernel_rfl
  i173 := by kernel_rfl
  i175 := by kernel_rfl
  i210 := by kernel_rfl
  i212 := by kernel_rfl
  i232 := by kernel_rfl
  i233 := by kernel_rfl
  m15 := by kernel_rfl
  m16 := by kernel_rfl
  m17 := by kernel_rfl
  m18 := by kernel_rfl
  m19 := by kernel_rfl
  c0 := by kernel_rfl
  c2 := by kernel_rfl
  c3 := by kernel_rfl
  c4 := by kernel_rfl
  c5 := by kernel_rfl
  c9 := by kernel_rfl
  c20 := by kernel_rfl
  c21 := by kernel_rfl
  c37 := by kernel_rfl
  c46 := by kernel_rfl
  c51 := by kernel_rfl
  c53 := by kernel_rfl
  c75 := by kernel_rfl
  c76 := by kernel_rfl
  c80 := by kernel_rfl
  c85 := by kernel_rfl
  c127 := by kernel_rfl
  c143 := by kernel_rfl
  c145 := by kernel_rfl
  c167 := by kernel_rfl
  c168 := by kernel_rfl
  c171 := by kernel_rfl
  c173 := by kernel_rfl
  c175 := by kernel_rfl
  c210 := by kernel_rfl
  c212 := by kernel_rfl
  c213 := by kernel_rfl
  c232 := by kernel_rfl
  c233 := by kernel_rfl }
open Go.RowKit in
/-- strconv.Atoi, AT EVERY STRING THAT SPELLS AN int ('Lib.atoiAll .. = .ok v'; of whatever length: leading zeros count): v, AND NO ERROR. The world: as it was, or with the one new row that '[]byte(..)' lays. (LAID: no walk: one application.) -/
theorem Tryz.strconv_Atoi_ok (s : ByteArray) (hmax : s.size ≤ 9223372036854775806) (v : Int) (h : Lib.atoiAll s.data.toList = .ok v) (w : World) :
    Calls Tryz.prog 57 #[.string s] w fun e w' => e = .returned (.tuple #[.int .i64 v, .nilIface]) ∧ (w' = w ∨ ∃ t, w' = Lib.bytesWorld w 5 t) := Any.strconv_Atoi_ok Tryz.laysC172 s hmax v h w
open Go.RowKit in
/-- strconv.Atoi, AT EVERY STRING THAT IS NO DECIMAL NUMERAL ('.syntax'): 0, AND AN ERROR THAT IS NOT nil: a *NumError in a new block N: {Func: "Atoi", Num: s's bytes, Err: what the variable ErrSyntax holds}. Of what was there nothing has turned. (LAID: no walk: one application.) -/
theorem Tryz.strconv_Atoi_syntax (s : ByteArray) (hlim : s.size ≤ 281474976710656) (h0 : ∀ v, Lib.atoiAll s.data.toList ≠ .ok v) (h1 : Lib.atoiAll s.data.toList ≠ .range) (ev : Value) (w : World) (hv : w.cell? ⟨1, 0, none⟩ = some ev) (hev : ev = .nilIface ∨ ∃ te pe, ev = .iface te pe) :
    Calls Tryz.prog 57 #[.string s] w fun e w' => ∃ N, e = .returned (.tuple #[.int .i64 (0), .iface 151 (.pointer (some ⟨N, 0, none⟩))]) ∧ w.heap.size ≤ N ∧ w'.heap[N]? = some (.cells #[.string ⟨#[65, 116, 111, 105]⟩, .string s, ev] 186 (0, 0)) ∧ Below w.heap.size w w' := by
  cases e : Lib.atoiAll s.data.toList with
  | ok v => exact absurd e (h0 v)
  | range => exact absurd e h1
  | _ => exact Any.strconv_Atoi_syntax Tryz.laysC172 s hlim e ev w hv hev
open Go.RowKit in
/-- strconv.Atoi, AT EVERY NUMERAL THAT NO int HOLDS ('.range'): THE GREATEST OR THE LEAST int, BY THE SIGN ('Lib.atoiSat'), AND AN ERROR THAT IS NOT nil: a *NumError in a new block N: {Func: "Atoi", Num: s's bytes, Err: what the variable ErrRange holds}. Of what was there nothing has turned. (LAID: no walk: one application.) -/
theorem Tryz.strconv_Atoi_range (s : ByteArray) (hlim : s.size ≤ 281474976710656) (h : Lib.atoiAll s.data.toList = .range) (ev : Value) (w : World) (hv : w.cell? ⟨2, 0, none⟩ = some ev) (hev : ev = .nilIface ∨ ∃ te pe, ev = .iface te pe) :
    Calls Tryz.prog 57 #[.string s] w fun e w' => ∃ N, e = .returned (.tuple #[.int .i64 (Lib.atoiSat s.data.toList), .iface 151 (.pointer (some ⟨N, 0, none⟩))]) ∧ w.heap.size ≤ N ∧ w'.heap[N]? = some (.cells #[.string ⟨#[65, 116, 111, 105]⟩, .string s, ev] 186 (0, 0)) ∧ Below w.heap.size w w' := Any.strconv_Atoi_range Tryz.laysC172 s hlim h ev w hv hev
def Tryz.lays145_ren : Go.Shelf.Ren := ⟨fun | 145 => 41 | 220 => 86 | 219 => 119 | 217 => 104 | 225 => 155 | 224 => 156 | 267 => 157 | 266 => 136 | 314 => 183 | n => n, fun | 9 => 9 | 4 => 4 | 59 => 78 | 3 => 3 | 5 => 5 | 46 => 137 | 146 => 200 | 51 => 170 | n => n, fun | 1 => 0 | n => n⟩
theorem Tryz.lays145 : Go.Proofs.Lays.n145 Tryz.prog Tryz.lays145_ren := {
  mixed := by kernel_rfl
  f145 := Tryz.func41.trans (congrArg some (by kernel_rfl))
  f217 := Tryz.func104.trans (congrArg some (by kernel_rfl))
  f219 := Tryz.func119.trans (congrArg some (by kernel_rfl))
  f220 := Tryz.func86.trans (congrArg some (by kernel_rfl))
  f224 := Tryz.func156.trans (congrArg some (by kernel_rfl))
  f225 := Tryz.func155.trans (congrArg some (by kernel_rfl))
  f266 := Tryz.func136.trans (congrArg some (by kernel_rfl))
  f267 := Tryz.func157.trans (congrArg some (by kernel_rfl))
  f314 := Tryz.func183.trans (congrArg some (by kernel_rfl))
  t3 := Tryz.underlying3
  a3 := Tryz.isAgg3
  z3 := Tryz.sizeOf3
  v3 := Tryz.zeroValue3
  t4 := Tryz.underlying4
  a4 := Tryz.isAgg4
  z4 := Tryz.sizeOf4
  v4 := Tryz.zeroValue4
  t5 := Tryz.underlying5
  a5 := Tryz.isAgg5
  z5 := Tryz.sizeOf5
  v5 := Tryz.zeroValue5
  t9 := Tryz.underlying9
  a9 := Tryz.isAgg9
  z9 := Tryz.sizeOf9
  v9 := Tryz.zeroValue9
  t46 := Tryz.underlying137
  a46 := Tryz.isAgg137
  z46 := Tryz.sizeOf137
  v46 := Tryz.zeroValue137
  t51 := Tryz.underlying170
  a51 := Tryz.isAgg170
  z51 := Tryz.sizeOf170
  v51 := Tryz.zeroValue170
  t59 := Tryz.underlying78
  a59 := Tryz.isAgg78
  z59 := Tryz.sizeOf78
  v59 := Tryz.zeroValue78
  t146 := Tryz.underlying200
  a146 := Tryz.isAgg200
  z146 := Tryz.sizeOf200
  v146 := Tryz.zeroValue200
  g1 := by kernel_rfl }
open Go.RowKit Go.Lib in
/-- strings.Cut: "Cut slices s around the first instance of sep, returning the text before and after sep. The found result reports whether sep appears in s. If sep does not appear in s, cut returns s, "", false.": IT RETURNS 'Lib.cut s sep'; the world is as it was but for the count of draws. (LAID: no walk: one application.) -/
theorem Tryz.strings_Cut (s sep : ByteArray) (m : Int) (w : World) (hs : s.size < 4294967281) (hm : w.cell? ⟨0, 0, none⟩ = some (.int .i64 m)) :
    Calls Tryz.prog 41 #[.string s, .string sep] w fun e w' => e = .returned (.tuple #[.string ⟨(Lib.cut s.data.toList sep.data.toList).1.toArray⟩, .string ⟨(Lib.cut s.data.toList sep.data.toList).2.1.toArray⟩, .bool (Lib.cut s.data.toList sep.data.toList).2.2]) ∧ ∃ n, w' = w.drewN n := Any.strings_Cut Tryz.lays145 s sep m w hs hm
def Tryz.lays206_ren : Go.Shelf.Ren := ⟨fun | 206 => 120 | n => n, fun | 9 => 9 | 4 => 4 | 3 => 3 | n => n, fun | n => n⟩
theorem Tryz.lays206 : Go.Proofs.Lays.n206 Tryz.prog Tryz.lays206_ren := {
  mixed := by kernel_rfl
  f206 := Tryz.func120.trans (congrArg some (by kernel_rfl))
  t3 := Tryz.underlying3
  a3 := Tryz.isAgg3
  z3 := Tryz.sizeOf3
  v3 := Tryz.zeroValue3
  t4 := Tryz.underlying4
  a4 := Tryz.isAgg4
  z4 := Tryz.sizeOf4
  v4 := Tryz.zeroValue4
  t9 := Tryz.underlying9
  a9 := Tryz.isAgg9
  z9 := Tryz.sizeOf9
  v9 := Tryz.zeroValue9 }
open Go.RowKit Go.Lib in
/-- internal/stringslite.HasPrefix (what strings.HasPrefix calls). (LAID: no walk: one application.) -/
theorem Tryz.stringslite_HasPrefix (s p : ByteArray) (w : World) :
    Calls Tryz.prog 120 #[.string s, .string p] w fun e w' => e = .returned (.bool (Lib.hasPrefix s.data.toList p.data.toList)) ∧ w' = w := Any.stringslite_HasPrefix Tryz.lays206 s p w
def Tryz.laysNm215_ren : Go.Shelf.Ren := ⟨fun | 15 => 72 | n => n, fun | 22 => 64 | 3 => 3 | 4 => 4 | n => n, fun | n => n⟩
theorem Tryz.laysNm215 : Go.Proofs.Lays2.n15 Tryz.prog Tryz.laysNm215_ren := {
  mixed := by kernel_rfl
  f15 := Tryz.func72.trans (congrArg some (by kernel_rfl))
  t3 := Tryz.underlying3
  a3 := Tryz.isAgg3
  z3 := Tryz.sizeOf3
  v3 := Tryz.zeroValue3
  t4 := Tryz.underlying4
  a4 := Tryz.isAgg4
  z4 := Tryz.sizeOf4
  v4 := Tryz.zeroValue4
  t22 := Tryz.underlying64
  a22 := Tryz.isAgg64
  z22 := Tryz.sizeOf64
  v22 := Tryz.zeroValue64
  i3 := by kernel_rfl }
open Go.RowKit Go.Lib in
/-- slices.Clone at []int: "Clone returns a copy of the slice. The elements are copied using assignment, so this is a shallow clone. The result may have additional unused capacity. The result preserves the nilness of s.": OF A SLICE THAT IS NOT nil IT RETURNS A SLICE THAT IS NOT nil, OF THE SAME ELEMENTS, IN MEMORY OF THE CALL's OWN: in the how-to's words (6f): 'w'.ownsRow B e 1 v' n cells': v' begins at the head of a row among the blocks from B on (B: the heap's size at the call), not frozen, whose first cells are the elements · 'Below B w w'': below B all is as it was. The capacity is whatever the run-time gives. 'zs': what the cells behind the slice's address hold; 'zs.take n': its elements. (LAID: no walk: one application.) -/
theorem Tryz.slices_Clone_int (b off n c : Nat) (zs : List Int) (w : World) (hz : n ≤ zs.length) (hbig : n * 8 ≤ 140737488355328) (hc : ∀ j, j < zs.length → w.cell? ⟨b, off + j, none⟩ = some (.int .i64 (zs.getD j 0))) :
    Calls Tryz.prog 72 #[.slice (some ⟨b, off, none⟩) n c] w fun e w' => ∃ v', e = .returned v' ∧ w'.ownsRow w.heap.size 3 1 v' n ((zs.take n).map (Value.int .i64)) ∧ v' ≠ .slice none 0 0 ∧ Below w.heap.size w w' := Any.slices_Clone_int Tryz.laysNm215 b off n c zs w hz hbig hc
open Go.RowKit Go.Lib in
/-- The same at nil: nil comes back; the world is as it was. (LAID: no walk: one application.) -/
theorem Tryz.slices_Clone_int_nil (n c : Nat) (w : World) :
    Calls Tryz.prog 72 #[.slice none n c] w fun e w' => e = .returned (.slice none 0 0) ∧ w' = w := Any.slices_Clone_int_nil Tryz.laysNm215 n c w
open Go.RowKit Go.Lib in
/-- The same at a slice of length 0 that is not nil, WHATEVER ITS ADDRESS (no cell is asked for): a slice that is not nil and owns nothing comes back. (LAID: no walk: one application.) -/
theorem Tryz.slices_Clone_int_zero (a : Addr) (c : Nat) (w : World) :
    Calls Tryz.prog 72 #[.slice (some a) 0 c] w fun e w' => ∃ v', e = .returned v' ∧ w'.ownsRow w.heap.size 3 1 v' 0 [] ∧ v' ≠ .slice none 0 0 ∧ Below w.heap.size w w' := Any.slices_Clone_int_zero Tryz.laysNm215 a c w
def Tryz.laysNm220_ren : Go.Shelf.Ren := ⟨fun | 20 => 77 | n => n, fun | 22 => 64 | 3 => 3 | 4 => 4 | 0 => 0 | n => n, fun | n => n⟩
theorem Tryz.laysNm220 : Go.Proofs.Lays2.n20 Tryz.prog Tryz.laysNm220_ren := {
  mixed := by kernel_rfl
  f20 := Tryz.func77.trans (congrArg some (by kernel_rfl))
  t0 := Tryz.underlying0
  a0 := Tryz.isAgg0
  z0 := Tryz.sizeOf0
  v0 := Tryz.zeroValue0
  t3 := Tryz.underlying3
  a3 := Tryz.isAgg3
  z3 := Tryz.sizeOf3
  v3 := Tryz.zeroValue3
  t4 := Tryz.underlying4
  a4 := Tryz.isAgg4
  z4 := Tryz.sizeOf4
  v4 := Tryz.zeroValue4
  t22 := Tryz.underlying64
  a22 := Tryz.isAgg64
  z22 := Tryz.sizeOf64
  v22 := Tryz.zeroValue64
  i3 := by kernel_rfl }
open Go.RowKit Go.Lib Go.Sort in
/-- slices.Compact at []int: "Compact replaces consecutive runs of equal elements with a single copy. This is like the uniq command found on Unix. Compact modifies the contents of the slice s and returns the modified slice, which may have a smaller length. Compact zeroes the elements between the new length and the original length. The result preserves the nilness of s.": IT RETURNS THE SLICE CUT TO 'Lib.compact zs'; ITS CELLS HOLD 'Lib.compact zs', THEN ZERO VALUES up to the old length; all else is as it was, but for the count of draws. IN THE WORDS OF slices.Sort's CONTRACT ('Holds', 'putRow'): so the everyday 'slices.Sort(xs); xs = slices.Compact(xs)' goes from the one contract to the other. It asks 'zs.length ≤ cap' (every slice's: the reslicing 's[:k]' looks at it). Length 0, nil: '.._empty'. (LAID: no walk: one application.) -/
theorem Tryz.slices_Compact_int (blk off cap : Nat) (zs : List Int) (w : World) (hH : Holds (Value.int .i64) w blk off zs.toArray) (hsz : zs.length ≤ 9223372036854775807) (hcap : zs.length ≤ cap) :
    Calls Tryz.prog 77 #[.slice (some ⟨blk, off, none⟩) zs.length cap] w fun e w' => e = .returned (.slice (some ⟨blk, off, none⟩) (Lib.compact zs).length cap) ∧ ∃ q, w' = putRow (Value.int .i64) (Sort.ahead w q) blk off (Lib.compact zs ++ List.replicate (zs.length - (Lib.compact zs).length) 0).toArray := Any.slices_Compact_int Tryz.laysNm220 blk off cap zs w hH hsz hcap
open Go.RowKit Go.Lib Go.Sort in
/-- The same at a slice of length 0, a nil one too: it comes back as it is. (LAID: no walk: one application.) -/
theorem Tryz.slices_Compact_int_empty (a : Option Addr) (cap : Nat) (w : World) :
    Calls Tryz.prog 77 #[.slice a 0 cap] w fun e w' => e = .returned (.slice a 0 cap) ∧ w' = w := Any.slices_Compact_int_empty Tryz.laysNm220 a cap w
def Tryz.laysSlH10_f83_ren : Go.Shelf.Ren := ⟨fun | 10 => 83 | 6 => 89 | n => n, fun | 22 => 64 | 23 => 3 | 25 => 88 | 3 => 3 | 4 => 4 | 0 => 0 | n => n, fun | n => n⟩
theorem Tryz.laysSlH10_f83 : Go.Proofs.SlLaysH.n10 Tryz.prog Tryz.laysSlH10_f83_ren := {
  mixed := by kernel_rfl
  f6 := ⟨Tryz.f89.name, by decide, Tryz.func89.trans (congrArg some (by kernel_rfl))⟩
  f10 := ⟨Tryz.f83.name, by decide, Tryz.func83.trans (congrArg some (by kernel_rfl))⟩
  t0 := Tryz.underlying0
  a0 := Tryz.isAgg0
  z0 := Tryz.sizeOf0
  v0 := Tryz.zeroValue0
  t3 := Tryz.underlying3
  a3 := Tryz.isAgg3
  z3 := Tryz.sizeOf3
  v3 := Tryz.zeroValue3
  t4 := Tryz.underlying4
  a4 := Tryz.isAgg4
  z4 := Tryz.sizeOf4
  v4 := Tryz.zeroValue4
  t22 := Tryz.underlying64
  a22 := Tryz.isAgg64
  z22 := Tryz.sizeOf64
  v22 := Tryz.zeroValue64
  a23 := Tryz.isAgg3
  z23 := Tryz.sizeOf3
  t25 := Tryz.underlying88
  a25 := Tryz.isAgg88
  z25 := Tryz.sizeOf88
  v25 := Tryz.zeroValue88 }
open Go.RowKit Go.Lib Go.Sort in
theorem Tryz.slices_DeleteFunc {α : Type} [Inhabited α] (enc : α → Value) (hO : OneCell enc) (p : α → Bool) (g : Nat) (lb : Array Value) (eg : ∀ args w, (callFunc g args).run Tryz.prog w = .ok (.enter g args) w) (zr : α) (v23 : ∀ w, (zeroValue 3).run Tryz.prog w = .ok (enc zr) w) (blk off cap : Nat) (d : Array α) (w : World) (hp : PredAt Tryz.prog g lb enc p w) (hpo : PredOver Tryz.prog g lb enc p blk off d.size w) (hH : Holds enc w blk off d) (hsz : d.size ≤ 9223372036854775807) (hcap : d.size ≤ cap) :
    Calls Tryz.prog 83 #[.slice (some ⟨blk, off, none⟩) d.size cap, .func (.func g) #[] lb] w fun e w' => e = .returned (.slice (some ⟨blk, off, none⟩) (d.toList.filter fun x => !p x).length cap) ∧ ∃ q, w' = putRow enc (Sort.ahead w q) blk off ((d.toList.filter fun x => !p x) ++ List.replicate (d.size - (d.toList.filter fun x => !p x).length) zr).toArray := AnyE.slices_DeleteFunc Tryz.laysSlH10_f83 enc hO p g lb eg zr v23 blk off cap d w hp hpo hH hsz hcap
def Tryz.laysSlF6_f73_ren : Go.Shelf.Ren := ⟨fun | 6 => 73 | 15 => 114 | 14 => 113 | 28 => 153 | 29 => 154 | 20 => 145 | 21 => 146 | 22 => 147 | 23 => 148 | 24 => 149 | 25 => 150 | 26 => 151 | 27 => 152 | 46 => 178 | 47 => 179 | 48 => 180 | 49 => 181 | 50 => 182 | 57 => 194 | n => n, fun | 22 => 64 | 24 => 3 | 25 => 87 | 3 => 3 | 39 => 137 | 0 => 0 | 53 => 170 | 55 => 155 | 4 => 4 | 46 => 164 | 45 => 163 | 50 => 82 | 5 => 5 | 9 => 9 | 66 => 194 | 70 => 198 | 76 => 209 | 77 => 210 | n => n, fun | n => n⟩
theorem Tryz.laysSlF6_f73 : Go.Proofs.SlLaysF.n6 Tryz.prog Tryz.laysSlF6_f73_ren := {
  mixed := by kernel_rfl
  f6 := ⟨Tryz.f73.name, by decide, Tryz.func73.trans (congrArg some (by kernel_rfl))⟩
  f14 := ⟨Tryz.f113.name, by decide, Tryz.func113.trans (congrArg some (by kernel_rfl))⟩
  f15 := Tryz.func114.trans (congrArg some (by kernel_rfl))
  f20 := ⟨Tryz.f145.name, by decide, Tryz.func145.trans (congrArg some (by kernel_rfl))⟩
  f21 := ⟨Tryz.f146.name, by decide, Tryz.func146.trans (congrArg some (by kernel_rfl))⟩
  f22 := ⟨Tryz.f147.name, by decide, Tryz.func147.trans (congrArg some (by kernel_rfl))⟩
  f23 := ⟨Tryz.f148.name, by decide, Tryz.func148.trans (congrArg some (by kernel_rfl))⟩
  f24 := ⟨Tryz.f149.name, by decide, Tryz.func149.trans (congrArg some (by kernel_rfl))⟩
  f25 := ⟨Tryz.f150.name, by decide, Tryz.func150.trans (congrArg some (by kernel_rfl))⟩
  f26 := ⟨Tryz.f151.name, by decide, Tryz.func151.trans (congrArg some (by kernel_rfl))⟩
  f27 := ⟨Tryz.f152.name, by decide, Tryz.func152.trans (congrArg some (by kernel_rfl))⟩
  f28 := Tryz.func153.trans (congrArg some (by kernel_rfl))
  f29 := Tryz.func154.trans (congrArg some (by kernel_rfl))
  f46 := ⟨Tryz.f178.name, by decide, Tryz.func178.trans (congrArg some (by kernel_rfl))⟩
  f47 := Tryz.func179.trans (congrArg some (by kernel_rfl))
  f48 := Tryz.func180.trans (congrArg some (by kernel_rfl))
  f49 := ⟨Tryz.f181.name, by decide, Tryz.func181.trans (congrArg some (by kernel_rfl))⟩
  f50 := ⟨Tryz.f182.name, by decide, Tryz.func182.trans (congrArg some (by kernel_rfl))⟩
  f57 := ⟨Tryz.f194.name, by decide, Tryz.func194.trans (congrArg some (by kernel_rfl))⟩
  t0 := Tryz.underlying0
  a0 := Tryz.isAgg0
  z0 := Tryz.sizeOf0
  v0 := Tryz.zeroValue0
  t3 := Tryz.underlying3
  a3 := Tryz.isAgg3
  z3 := Tryz.sizeOf3
  v3 := Tryz.zeroValue3
  t4 := Tryz.underlying4
  a4 := Tryz.isAgg4
  z4 := Tryz.sizeOf4
  v4 := Tryz.zeroValue4
  t5 := Tryz.underlying5
  a5 := Tryz.isAgg5
  z5 := Tryz.sizeOf5
  v5 := Tryz.zeroValue5
  t9 := Tryz.underlying9
  a9 := Tryz.isAgg9
  z9 := Tryz.sizeOf9
  v9 := Tryz.zeroValue9
  t22 := Tryz.underlying64
  a22 := Tryz.isAgg64
  z22 := Tryz.sizeOf64
  v22 := Tryz.zeroValue64
  a24 := Tryz.isAgg3
  z24 := Tryz.sizeOf3
  t25 := Tryz.underlying87
  a25 := Tryz.isAgg87
  z25 := Tryz.sizeOf87
  v25 := Tryz.zeroValue87
  t39 := Tryz.underlying137
  a39 := Tryz.isAgg137
  z39 := Tryz.sizeOf137
  v39 := Tryz.zeroValue137
  t45 := Tryz.underlying163
  a45 := Tryz.isAgg163
  z45 := Tryz.sizeOf163
  v45 := Tryz.zeroValue163
  t46 := Tryz.underlying164
  a46 := Tryz.isAgg164
  z46 := Tryz.sizeOf164
  v46 := Tryz.zeroValue164
  t50 := Tryz.underlying82
  a50 := Tryz.isAgg82
  z50 := Tryz.sizeOf82
  v50 := Tryz.zeroValue82
  t53 := Tryz.underlying170
  a53 := Tryz.isAgg170
  z53 := Tryz.sizeOf170
  v53 := Tryz.zeroValue170
  t55 := Tryz.underlying155
  a55 := Tryz.isAgg155
  z55 := Tryz.sizeOf155
  v55 := Tryz.zeroValue155
  t66 := Tryz.underlying194
  a66 := Tryz.isAgg194
  z66 := Tryz.sizeOf194
  v66 := Tryz.zeroValue194
  t70 := Tryz.underlying198
  a70 := Tryz.isAgg198
  z70 := Tryz.sizeOf198
  v70 := Tryz.zeroValue198
  t76 := Tryz.underlying209
  a76 := Tryz.isAgg209
  z76 := Tryz.sizeOf209
  v76 := Tryz.zeroValue209
  t77 := Tryz.underlying210
  a77 := Tryz.isAgg210
  z77 := Tryz.sizeOf210
  v77 := Tryz.zeroValue210 }
def Tryz.laysSlF06_f73_ren : Go.Shelf.Ren := ⟨fun | 6 => 73 | 15 => 114 | 14 => 113 | 28 => 153 | 29 => 154 | 20 => 145 | 21 => 146 | 22 => 147 | 23 => 148 | 24 => 149 | 25 => 150 | 26 => 151 | 27 => 152 | 46 => 178 | 47 => 179 | 48 => 180 | 49 => 181 | 50 => 182 | 57 => 194 | n => n, fun | 22 => 64 | 24 => 3 | 25 => 87 | 3 => 3 | 39 => 137 | 0 => 0 | 53 => 170 | 55 => 155 | 4 => 4 | 46 => 164 | 45 => 163 | 50 => 82 | 5 => 5 | 9 => 9 | 66 => 194 | 70 => 198 | 76 => 209 | 77 => 210 | n => n, fun | n => n⟩
theorem Tryz.laysSlF06_f73 : Go.Proofs.SlLaysF0.n6 Tryz.prog Tryz.laysSlF06_f73_ren := {
  mixed := by kernel_rfl
  f6 := ⟨Tryz.f73.name, by decide, Tryz.func73.trans (congrArg some (by kernel_rfl))⟩
  f14 := ⟨Tryz.f113.name, by decide, Tryz.func113.trans (congrArg some (by kernel_rfl))⟩
  f15 := Tryz.func114.trans (congrArg some (by kernel_rfl))
  f20 := ⟨Tryz.f145.name, by decide, Tryz.func145.trans (congrArg some (by kernel_rfl))⟩
  f21 := ⟨Tryz.f146.name, by decide, Tryz.func146.trans (congrArg some (by kernel_rfl))⟩
  f22 := ⟨Tryz.f147.name, by decide, Tryz.func147.trans (congrArg some (by kernel_rfl))⟩
  f23 := ⟨Tryz.f148.name, by decide, Tryz.func148.trans (congrArg some (by kernel_rfl))⟩
  f24 := ⟨Tryz.f149.name, by decide, Tryz.func149.trans (congrArg some (by kernel_rfl))⟩
  f25 := ⟨Tryz.f150.name, by decide, Tryz.func150.trans (congrArg some (by kernel_rfl))⟩
  f26 := ⟨Tryz.f151.name, by decide, Tryz.func151.trans (congrArg some (by kernel_rfl))⟩
  f27 := ⟨Tryz.f152.name, by decide, Tryz.func152.trans (congrArg some (by kernel_rfl))⟩
  f28 := Tryz.func153.trans (congrArg some (by kernel_rfl))
  f29 := Tryz.func154.trans (congrArg some (by kernel_rfl))
  f46 := ⟨Tryz.f178.name, by decide, Tryz.func178.trans (congrArg some (by kernel_rfl))⟩
  f47 := Tryz.func179.trans (congrArg some (by kernel_rfl))
  f48 := Tryz.func180.trans (congrArg some (by kernel_rfl))
  f49 := ⟨Tryz.f181.name, by decide, Tryz.func181.trans (congrArg some (by kernel_rfl))⟩
  f50 := ⟨Tryz.f182.name, by decide, Tryz.func182.trans (congrArg some (by kernel_rfl))⟩
  f57 := ⟨Tryz.f194.name, by decide, Tryz.func194.trans (congrArg some (by kernel_rfl))⟩
  t0 := Tryz.underlying0
  a0 := Tryz.isAgg0
  z0 := Tryz.sizeOf0
  v0 := Tryz.zeroValue0
  t3 := Tryz.underlying3
  a3 := Tryz.isAgg3
  z3 := Tryz.sizeOf3
  v3 := Tryz.zeroValue3
  t4 := Tryz.underlying4
  a4 := Tryz.isAgg4
  z4 := Tryz.sizeOf4
  v4 := Tryz.zeroValue4
  t5 := Tryz.underlying5
  a5 := Tryz.isAgg5
  z5 := Tryz.sizeOf5
  v5 := Tryz.zeroValue5
  t9 := Tryz.underlying9
  a9 := Tryz.isAgg9
  z9 := Tryz.sizeOf9
  v9 := Tryz.zeroValue9
  t22 := Tryz.underlying64
  a22 := Tryz.isAgg64
  z22 := Tryz.sizeOf64
  v22 := Tryz.zeroValue64
  t25 := Tryz.underlying87
  a25 := Tryz.isAgg87
  z25 := Tryz.sizeOf87
  v25 := Tryz.zeroValue87
  t39 := Tryz.underlying137
  a39 := Tryz.isAgg137
  z39 := Tryz.sizeOf137
  v39 := Tryz.zeroValue137
  t45 := Tryz.underlying163
  a45 := Tryz.isAgg163
  z45 := Tryz.sizeOf163
  v45 := Tryz.zeroValue163
  t46 := Tryz.underlying164
  a46 := Tryz.isAgg164
  z46 := Tryz.sizeOf164
  v46 := Tryz.zeroValue164
  t50 := Tryz.underlying82
  a50 := Tryz.isAgg82
  z50 := Tryz.sizeOf82
  v50 := Tryz.zeroValue82
  t53 := Tryz.underlying170
  a53 := Tryz.isAgg170
  z53 := Tryz.sizeOf170
  v53 := Tryz.zeroValue170
  t55 := Tryz.underlying155
  a55 := Tryz.isAgg155
  z55 := Tryz.sizeOf155
  v55 := Tryz.zeroValue155
  t66 := Tryz.underlying194
  a66 := Tryz.isAgg194
  z66 := Tryz.sizeOf194
  v66 := Tryz.zeroValue194
  t70 := Tryz.underlying198
  a70 := Tryz.isAgg198
  z70 := Tryz.sizeOf198
  v70 := Tryz.zeroValue198
  t76 := Tryz.underlying209
  a76 := Tryz.isAgg209
  z76 := Tryz.sizeOf209
  v76 := Tryz.zeroValue209
  t77 := Tryz.underlying210
  a77 := Tryz.isAgg210
  z77 := Tryz.sizeOf210
  v77 := Tryz.zeroValue210 }
open Go.RowKit Go.Lib Go.Sort in
/-- **slices.SortFunc AT NO ELEMENT, A nil SLICE TOO: nothing turns.** (LAID AT THE INSTANCE 'slices.SortFunc[[]int,int]': no walk: one application.) -/
theorem Tryz.slices_SortFunc_none {α : Type} [Inhabited α] (p : Option Addr) (cap : Nat) (fv : Value) (w : World) :
    Calls Tryz.prog 73 #[.slice p 0 cap, fv] w fun e w' => e = .returned (.tuple #[]) ∧ w' = w := AnyF.slices_SortFunc_none Tryz.laysSlF06_f73 p cap fv w
open Go.RowKit Go.Lib Go.Sort in
/-- **slices.SortFunc AT ONE CELL, UNDER A 'cmp' THAT PARTS WHATEVER TWO THAT ARE NOT ONE: THE ROW HOLDS core's 'mergeSort'.** (LAID AT THE INSTANCE 'slices.SortFunc[[]int,int]': no walk: one application.) -/
theorem Tryz.slices_SortFunc_total {α : Type} [Inhabited α] (enc : α → Value) (h1 : OneCell enc) (cf : α → α → Int) (hO : SWO (ltOf cf)) (g : Nat) (cb : Array Value) (blk off cap : Nat) (d : Array α) (w : World) (eg : ∀ args w, (callFunc g args).run Tryz.prog w = .ok (.enter g args) w) (hcmp : CmpLays1 Tryz.prog g cb enc cf blk off d.size w) (hH : Holds enc w blk off d) (hblk : blk < w.heap.size) (hsz : d.size < 4611686018427387904) (hT : ∀ x y, (ltOf cf) x y = false → (ltOf cf) y x = false → x = y) :
    Calls Tryz.prog 73 #[.slice (some ⟨blk, off, none⟩) d.size cap, .func (.func g) #[] cb] w fun e w' =>
      e = .returned (.tuple #[]) ∧ ∃ n os, w' = sortWorld enc w blk off n (d.toList.mergeSort fun x y => !(ltOf cf) y x).toArray os := Any.slices_SortFunc_total Tryz.laysSlF6_f73 enc h1 cf hO g cb blk off cap d w eg hcmp hH hblk hsz hT
def Tryz.laysB_ren : Go.Shelf.Ren := ⟨fun | 166 => 39 | 167 => 109 | 240 => 85 | 276 => 118 | n => n, fun | 0 => 0 | 3 => 3 | 4 => 4 | 5 => 5 | 9 => 9 | 20 => 20 | 37 => 57 | 70 => 70 | 72 => 72 | 75 => 74 | 164 => 140 | 80 => 77 | n => n, fun | n => n⟩
theorem Tryz.lays166 : Go.Proofs.Lays.n166 Tryz.prog Tryz.laysB_ren := {
  mixed := by kernel_rfl
  f166 := Tryz.func39.trans (congrArg some (by kernel_rfl))
  f240 := Tryz.func85.trans (congrArg some (by kernel_rfl))
  f276 := Tryz.func118.trans (congrArg some (by kernel_rfl))
  t0 := Tryz.underlying0
  a0 := Tryz.isAgg0
  z0 := Tryz.sizeOf0
  v0 := Tryz.zeroValue0
  t3 := Tryz.underlying3
  a3 := Tryz.isAgg3
  z3 := Tryz.sizeOf3
  v3 := Tryz.zeroValue3
  t4 := Tryz.underlying4
  a4 := Tryz.isAgg4
  z4 := Tryz.sizeOf4
  v4 := Tryz.zeroValue4
  t9 := Tryz.underlying9
  a9 := Tryz.isAgg9
  z9 := Tryz.sizeOf9
  v9 := Tryz.zeroValue9
  t20 := Tryz.underlying20
  a20 := Tryz.isAgg20
  z20 := Tryz.sizeOf20
  v20 := Tryz.zeroValue20
  t37 := Tryz.underlying57
  a37 := Tryz.isAgg57
  z37 := Tryz.sizeOf57
  v37 := Tryz.zeroValue57
  t70 := Tryz.underlying70
  a70 := Tryz.isAgg70
  z70 := Tryz.sizeOf70
  v70 := Tryz.zeroValue70
  t72 := Tryz.underlying72
  a72 := Tryz.isAgg72
  z72 := Tryz.sizeOf72
  v72 := Tryz.zeroValue72
  t75 := Tryz.underlying74
  a75 := Tryz.isAgg74
  z75 := Tryz.sizeOf74
  v75 := Tryz.zeroValue74
  t164 := Tryz.underlying140
  a164 := Tryz.isAgg140
  z164 := Tryz.sizeOf140
  v164 := Tryz.zeroValue140 }
theorem Tryz.Builder_Extra_166 : Builder.Extra Tryz.prog Tryz.laysB_ren where
  sizeBuilder := by kernel_rfl
  liesBuilder := by kernel_rfl
  t5 := Tryz.underlying5
  a5 := Tryz.isAgg5
  z5 := Tryz.sizeOf5
  v5 := Tryz.zeroValue5
  infoByte := by kernel_rfl
  cellsByte := by kernel_rfl
  sizeByte := by kernel_rfl
  neB5 := by decide
open Go.RowKit in
theorem Tryz.Builder_WriteString (B b : Nat) (bs : List Value) (s : ByteArray) (w : World) (h : Lib.IsBuilder 72 5 B b bs w) (hlen : bs.length + s.size ≤ 140737488355328) (hBw : B ≤ w.heap.size) :
    Calls Tryz.prog 39 #[.pointer (some ⟨b, 0, none⟩), .string s] w fun e w' => e = .returned (.tuple #[.int .i64 s.size, .nilIface]) ∧ (Lib.BuilderAt 72 5 B b (.pointer (some ⟨b, 0, none⟩)) (bs ++ Lib.strCells s) w' ∧ Below B w w') := Any.Builder_WriteString Tryz.lays166 Tryz.Builder_Extra_166 B b bs s w h hlen hBw
end Go.Proofs
/- What strconv.Itoa asks of memory: the table of powers of ten lies as its initialiser lays it; numbers as text. -/
namespace Go.Proofs.YtlcfpmdamehopaaGreatDoor.PA
open Go.RowKit Go.Proofs.YtlcfpmdamehopaaGreatDoorW.PrintWords Go.Proofs.YtlcfpmdamehopaaGreatDoorW.PrintLast Go.Proofs.YtlcfpmdamehopaaGreatDoorW.PrintMore
def GlobPow10 (w : World) : Prop := Lib.TabIs Tryz.prog w "internal/strconv.uint64pow10" .u64 Lib.pow10Tab
theorem pow10_named : Tryz.prog.globalNamed "internal/strconv.uint64pow10" = some 3 := by kernel_rfl
theorem GlobPow10.below {w0 w : World} (h : GlobPow10 w0) (hb : Below w0.heap.size w0 w) : GlobPow10 w := by
  unfold GlobPow10 Lib.TabIs World.var? at h ⊢
  rw [pow10_named] at h ⊢
  simp only [Option.bind_some] at h ⊢
  cases hh : w0.heap[3]? with
  | none => rw [hh] at h; cases h
  | some o =>
    have hlt : 3 < w0.heap.size := (Array.getElem?_eq_some_iff.1 hh).1
    rw [hb.block _ hlt]
    exact h
theorem below_grown_drewN (w : World) (k : Nat) (os : Array Obj) : Below w.heap.size w (Go.Sort.grow (w.drewN k) os) :=
  ⟨rfl, rfl, rfl, by show w.heap.size ≤ (w.heap ++ os).size; rw [Array.size_append]; omega, fun _ hj => Go.Sort.heap_grow_old (w.drewN k) os hj⟩
theorem itoa_calls (n : Int) (hn : -9223372036854775808 ≤ n ∧ n ≤ 9223372036854775807) (w : World) (h : GlobPow10 w) :
    Calls Tryz.prog 31 #[.int .i64 n] w fun e w' => e = .returned (.string ⟨(Lib.itoa n).toArray⟩) ∧ Below w.heap.size w w' :=
  (Tryz.strconv_Itoa n hn.1 hn.2 w h).mono fun _ _ ⟨he, k, os, hw⟩ => ⟨he, by rw [hw]; exact below_grown_drewN w k os⟩
end Go.Proofs.YtlcfpmdamehopaaGreatDoor.PA
/- What is read of a number's own decimal text is that number. Condition: it is less than 2^60. -/
namespace Go.Proofs.YtlcfpmdamehopaaGreatDoor.PA
open Go Go.Lib
theorem parse_snoc (c : UInt8) : ∀ (l : List UInt8) (acc a : Nat), parseUint10 acc l = .ok a → parseUint10 acc (l ++ [c]) = parseUint10 a [c] := by
  intro l
  induction l with
  | nil => intro acc a h; simp only [parseUint10] at h; injection h with h; subst h; rfl
  | cons d l ih =>
    intro acc a h
    simp only [List.cons_append, parseUint10] at h ⊢
    split at h
    · rename_i h1
      rw [if_pos h1]
      split at h
      · cases h
      · rename_i h2
        rw [if_neg h2]
        split at h
        · cases h
        · rename_i h3
          rw [if_neg h3]
          exact ih _ _ h
    · cases h
theorem digit_nat (k : Nat) (h : k < 10) : (UInt8.ofNat (48 + k)).toNat = 48 + k := by
  rw [UInt8.toNat_ofNat']; omega
theorem parse_digit (acc k : Nat) (hk : k < 10) (ha : acc < 1844674407370955161) : parseUint10 acc [UInt8.ofNat (48 + k)] = .ok (acc * 10 + k) := by
  simp only [parseUint10, digit_nat k hk]
  rw [if_pos (by omega), if_neg (by omega), if_neg (by omega), show 48 + k - 48 = k by omega]
theorem parse_dec : ∀ u : Nat, u < 1152921504606846976 → parseUint10 0 (decDigits u) = .ok u := by
  intro u
  induction u using Nat.strongRecOn with
  | _ u ih =>
    intro hu
    rw [decDigits]
    split
    · rename_i h
      rw [parse_digit 0 u h (by decide)]; simp
    · rename_i h
      rw [parse_snoc _ _ _ _ (ih (u / 10) (by omega) (by omega)), parse_digit _ _ (Nat.mod_lt _ (by decide)) (by omega)]
      congr 1; omega
theorem dec_head : ∀ u : Nat, ∃ c r, decDigits u = c :: r ∧ 48 ≤ c.toNat ∧ c.toNat ≤ 57 := by
  intro u
  induction u using Nat.strongRecOn with
  | _ u ih =>
    rw [decDigits]
    split
    · rename_i h
      exact ⟨_, [], rfl, by rw [digit_nat u h]; omega, by rw [digit_nat u h]; omega⟩
    · rename_i h
      obtain ⟨c, r, e, h1, h2⟩ := ih (u / 10) (by omega)
      rw [e]
      exact ⟨c, r ++ [UInt8.ofNat (48 + u % 10)], rfl, h1, h2⟩
theorem atoi_itoa (n : Int) (h0 : -1152921504606846976 < n) (h1 : n < 1152921504606846976) : atoiAll (itoa n) = .ok n := by
  unfold itoa
  by_cases hn : n < 0
  · rw [if_pos hn]
    obtain ⟨c, r, e, _, _⟩ := dec_head n.natAbs
    have hp : parseMag (decDigits n.natAbs) = .ok n.natAbs := by
      unfold parseMag
      rw [if_neg (by rw [e]; simp), parse_dec _ (by omega)]
    unfold atoiAll
    dsimp only
    rw [if_pos (.inr (by decide)), hp]
    dsimp only
    rw [if_neg (fun h => h.1 (by decide)), if_neg (by omega), if_pos (by decide)]
    congr 1; omega
  · rw [if_neg hn]
    obtain ⟨c, r, e, h2, h3⟩ := dec_head n.toNat
    have hp : parseMag (decDigits n.toNat) = .ok n.toNat := by
      unfold parseMag
      rw [if_neg (by rw [e]; simp), parse_dec _ (by omega)]
    unfold atoiAll
    rw [e] at hp ⊢
    dsimp only
    rw [if_neg (by omega), hp]
    dsimp only
    rw [if_neg (by omega), if_neg (by omega), if_neg (by omega)]
    congr 1; omega
end Go.Proofs.YtlcfpmdamehopaaGreatDoor.PA
/- strconv.Atoi, whole: what it comes to. Conditions: the library's two errors lie in their variables; a text has a size that fits. -/
namespace Go.Proofs.YtlcfpmdamehopaaGreatDoor.PA
open Go.RowKit Go.Proofs.YtlcfpmdamehopaaGreatDoorW.PrintWords Go.Proofs.YtlcfpmdamehopaaGreatDoorW.PrintLast Go.Proofs.YtlcfpmdamehopaaGreatDoorW.PrintMore
def GlobNumErr (w : World) : Prop := (∃ u v, w.cell? ⟨1, 0, none⟩ = some (.iface u v)) ∧ (∃ u v, w.cell? ⟨2, 0, none⟩ = some (.iface u v))
theorem GlobNumErr.below {w0 w : World} (h : GlobNumErr w0) (hb : Below w0.heap.size w0 w) : GlobNumErr w := by
  obtain ⟨⟨u, v, h1⟩, ⟨u', v', h2⟩⟩ := h
  exact ⟨⟨u, v, pw_cell_below hb h1⟩, ⟨u', v', pw_cell_below hb h2⟩⟩
def numOf (l : List UInt8) : Option Int := match Lib.atoiAll l with | .ok v => some v | _ => none
theorem atoi_good (s : ByteArray) (hs : s.size ≤ 281474976710656) (v : Int) (h : numOf s.data.toList = some v) (w : World) :
    Calls Tryz.prog 57 #[.string s] w fun e w' => e = .returned (.tuple #[.int .i64 v, .nilIface]) ∧ Below w.heap.size w w' := by
  unfold numOf at h
  split at h
  · rename_i u e
    obtain rfl := Option.some.inj h
    refine (Tryz.strconv_Atoi_ok s (by omega) _ e w).mono ?_
    rintro e w' ⟨rfl, rfl | ⟨t, rfl⟩⟩
    · exact ⟨rfl, Below.refl _ _⟩
    · exact ⟨rfl, bytes_below (Below.refl _ _) (Nat.le_refl _) _ _⟩
  · cases h
/-- The number beside an error. -/
def badV (l : List UInt8) : Int := match Lib.atoiAll l with | .range => Lib.atoiSat l | _ => 0
def BadNum (v : Int) (w : World) (e : Ending) (w' : World) : Prop := ∃ (N : Nat) (T : TypeId), e = .returned (.tuple #[.int .i64 v, .iface T (.pointer (some ⟨N, 0, none⟩))]) ∧ Below w.heap.size w w'
theorem atoi_bad (s : ByteArray) (hs : s.size ≤ 281474976710656) (h : numOf s.data.toList = none) (w : World) (hG : GlobNumErr w) :
    Calls Tryz.prog 57 #[.string s] w (BadNum (badV s.data.toList) w) := by
  obtain ⟨⟨u, v, h1⟩, ⟨u', v', h2⟩⟩ := hG
  unfold numOf at h
  unfold badV
  split at h
  · cases h
  · rename_i hno
    cases e : Lib.atoiAll s.data.toList with
    | ok v => exact absurd e (hno v)
    | range =>
      refine (Tryz.strconv_Atoi_range s hs e _ w h2 (.inr ⟨_, _, rfl⟩)).mono ?_
      rintro e w' ⟨N, rfl, _, _, hb⟩
      exact ⟨N, _, rfl, hb⟩
    | _ =>
      refine (Tryz.strconv_Atoi_syntax s hs hno (by rw [e]; intro h; cases h) _ w h1 (.inr ⟨_, _, rfl⟩)).mono ?_
      rintro e w' ⟨N, rfl, _, _, hb⟩
      exact ⟨N, _, rfl, hb⟩
theorem atoi_range {l : List UInt8} {v : Int} (h : numOf l = some v) : -9223372036854775808 ≤ v ∧ v ≤ 9223372036854775807 := by
  unfold numOf Lib.atoiAll at h
  cases l with
  | nil => simp at h
  | cons c r =>
    dsimp only at h
    split at h
    · rename_i u e
      split at e
      · cases e
      · cases e
      · rename_i u' hu
        split at e
        · cases e
        · split at e
          · cases e
          · split at e <;> (injection e with e; obtain rfl := Option.some.inj h; omega)
    · cases h
def itoaB (n : Int) : ByteArray := ⟨(Lib.itoa n).toArray⟩
end Go.Proofs.YtlcfpmdamehopaaGreatDoor.PA
/- What this seat's rows list as laid: tables and two errors; a world in which they lie so; what the world's shape gives to the walks. -/
/- A row with laid tables over a world whose shape is kept: what lies as laid and the shape, both handed to the walk. No condition. -/
namespace Go.Proofs.YtlcfpmdamehopaaGreatDoor
open Go
variable {H : Type} {enc : TypeId × Value → H}
theorem returns_laid_shaped {a : Assume} {C : Checked} {os : Os} {f : FuncId} {fn : Func} {s : ChangeSpec} {conds : List PathCond} {apart fresh handsOn again : Bool} {X : World → Array Value → Prop}
    (hX : ∀ (w w' : World) (args : Array Value), w.heap = w'.heap → X w args → X w' args)
    (own : ownKnob C.prog.godebug = none) (started : os.Started) (noInit : C.prog.inits.idxOf? f = none) (hfn : C.prog.funcs[f]? = some fn)
    (witness : ∃ (w : World) (tape : Tape) (i : Input), w.os = os ∧ (w.forCall tape i).Shaped C.prog ∧ i.vars = [] ∧ Input.okWide C.prog (w.forCall tape i) .any w.heap.size f i ∧
      ((s.pre enc C.prog fn conds apart (w.forCall tape i).memory i.args ∧ X (w.forCall tape i).memory i.args) ∧ sizedMet enc C.prog fn (OpenSpec.ofChange s) apart (w.forCall tape i).memory i.args) ∧ a.holds C.prog (lone (Frame.enter C.prog f i.args .normal) [] (w.forCall tape i)))
    (walk : ∀ (W : World) (base : Nat) (args : Array Value) (ds gs : List (DataW H)) (before : List MemPlace),
      (∀ (j : Nat) t v, fn.params[j]? = some t → args[j]? = some v → Value.okWide C.prog W .any base t v) →
      DataW.Whole enc C.prog fn.params.toList s.vars apart W args.toList ds gs before →
      conds.all (PathCond.test C.prog ⟨fn.params.toList, ds, s.plain.varTypes C.prog, gs⟩) = true →
      (DataW.weightsEach C.prog (fn.params.toList ++ s.plain.varTypes C.prog) (ds ++ gs)).all (· ≤ reachBytes) = true → X W args → W.ShapedOpen C.prog →
      a.holds C.prog (lone (Frame.enter C.prog f args .normal) [] W) →
      Calls C.prog f args W fun e W' => ∃ v, e = .returned v ∧ s.post enc C.prog fn apart fresh handsOn again W args v W') :
    ReturnsInHanded a C os f .any (fun w args => (s.pre enc C.prog fn conds apart w args ∧ X w args) ∧ sizedMet enc C.prog fn (OpenSpec.ofChange s) apart w args) (s.post enc C.prog fn apart fresh handsOn again) := by
  refine returnsInHanded_of_calls own started noInit witness ?_
  intro w tape i _ shape _ ok hpre holds
  obtain ⟨_, _, _, fn', hf, _, _, _, _, val⟩ := ok
  obtain rfl : fn' = fn := Option.some.inj (hf.symm.trans hfn)
  obtain ⟨⟨⟨ds, gs, before, hw, hc⟩, hx⟩, hz⟩ := hpre
  refine (walk (w.forCall tape i) w.heap.size i.args ds gs before val (DataW.Whole.of_heap (w' := w.forCall tape i) (by rfl) hw) hc (hz.weights hw) (hX _ _ _ (by rfl) hx) shape holds).mono ?_
  rintro e W' ⟨v, rfl, hp⟩
  exact ChangeSpec.post_blind hp
end Go.Proofs.YtlcfpmdamehopaaGreatDoor
namespace Go.Proofs.YtlcfpmdamehopaaGreatDoor
open Go.ChangeShapes Go.WideShapes Go.RowKit
theorem maxLen_of_shape {W : World} (h : W.ShapedOpen Tryz.prog) : PA.GlobMaxLen W :=
  cell_of_shapedOpen_int (P := Tryz.prog) (g := 0) (t := 3) (zero := #[.int .i64 0]) h (of_decide_eq_true (by kernel_rfl)) (by kernel_rfl) rfl (by kernel_rfl) (by kernel_rfl) Tryz.underlying3
def setCells (cs : Array Value) : Obj → Obj | .cells _ t frozen => .cells cs t frozen | o => o
noncomputable def lowW : Nat := (World.holding Tryz.prog default ⟨#[], #[], []⟩).heap.size
noncomputable def laidWorld (os : Os) : World :=
  let w0 := World.holding Tryz.prog os ⟨#[.cells #[.string ⟨#[118, 97, 108, 117, 101, 32, 111, 117, 116, 32, 111, 102, 32, 114, 97, 110, 103, 101]⟩] 206, .cells #[.string ⟨#[105, 110, 118, 97, 108, 105, 100, 32, 115, 121, 110, 116, 97, 120]⟩] 206], #[], []⟩
  { w0 with heap := (((((w0.heap.modify 6 (setCells #[.int .u8 0, .int .u8 1, .int .u8 28, .int .u8 2, .int .u8 29, .int .u8 14, .int .u8 24, .int .u8 3, .int .u8 30, .int .u8 22, .int .u8 20, .int .u8 15, .int .u8 25, .int .u8 17, .int .u8 4, .int .u8 8, .int .u8 31, .int .u8 27, .int .u8 13, .int .u8 23, .int .u8 21, .int .u8 19, .int .u8 16, .int .u8 7, .int .u8 26, .int .u8 12, .int .u8 18, .int .u8 6, .int .u8 11, .int .u8 5, .int .u8 10, .int .u8 9])).modify 7 (setCells #[.int .u8 0, .int .u8 1, .int .u8 56, .int .u8 2, .int .u8 57, .int .u8 49, .int .u8 28, .int .u8 3, .int .u8 61, .int .u8 58, .int .u8 42, .int .u8 50, .int .u8 38, .int .u8 29, .int .u8 17, .int .u8 4, .int .u8 62, .int .u8 47, .int .u8 59, .int .u8 36, .int .u8 45, .int .u8 43, .int .u8 51, .int .u8 22, .int .u8 53, .int .u8 39, .int .u8 33, .int .u8 30, .int .u8 24, .int .u8 18, .int .u8 12, .int .u8 5, .int .u8 63, .int .u8 55, .int .u8 48, .int .u8 27, .int .u8 60, .int .u8 41, .int .u8 37, .int .u8 16, .int .u8 46, .int .u8 35, .int .u8 44, .int .u8 21, .int .u8 52, .int .u8 32, .int .u8 23, .int .u8 11, .int .u8 54, .int .u8 26, .int .u8 40, .int .u8 15, .int .u8 34, .int .u8 20, .int .u8 31, .int .u8 10, .int .u8 25, .int .u8 14, .int .u8 19, .int .u8 9, .int .u8 13, .int .u8 8, .int .u8 7, .int .u8 6])).modify 3 (setCells #[.int .u64 1, .int .u64 10, .int .u64 100, .int .u64 1000, .int .u64 10000, .int .u64 100000, .int .u64 1000000, .int .u64 10000000, .int .u64 100000000, .int .u64 1000000000, .int .u64 10000000000, .int .u64 100000000000, .int .u64 1000000000000, .int .u64 10000000000000, .int .u64 100000000000000, .int .u64 1000000000000000, .int .u64 10000000000000000, .int .u64 100000000000000000, .int .u64 1000000000000000000, .int .u64 10000000000000000000])).modify 2 (setCells #[.iface 204 (.pointer (some ⟨lowW + 0, 0, none⟩))])).modify 1 (setCells #[.iface 204 (.pointer (some ⟨lowW + 1, 0, none⟩))])) }
set_option maxRecDepth 100000 in
theorem laid_met_deBruijn32tab_deBruijn64tab_uint64pow10_ErrRange_ErrSyntax (os : Os) (args : Array Value) : laidMet Tryz.prog [("math/bits.deBruijn32tab", Rows.laid_math_bits_deBruijn32tab), ("math/bits.deBruijn64tab", Rows.laid_math_bits_deBruijn64tab), ("internal/strconv.uint64pow10", Rows.laid_internal_strconv_uint64pow10), ("strconv.ErrRange", Rows.laid_strconv_ErrRange), ("strconv.ErrSyntax", Rows.laid_strconv_ErrSyntax)] ((laidWorld os).forCall (fun _ _ => 0) ⟨#[], args, []⟩).memory :=
  laidMet_of_run' 8 (by kernel_rfl) (by kernel_rfl)
theorem ErrRange_laid {W : World} (h : laidMet Tryz.prog [("math/bits.deBruijn32tab", Rows.laid_math_bits_deBruijn32tab), ("math/bits.deBruijn64tab", Rows.laid_math_bits_deBruijn64tab), ("internal/strconv.uint64pow10", Rows.laid_internal_strconv_uint64pow10), ("strconv.ErrRange", Rows.laid_strconv_ErrRange), ("strconv.ErrSyntax", Rows.laid_strconv_ErrSyntax)] W) : ∃ u v, W.cell? ⟨2, 0, none⟩ = some (.iface u v) := by
  obtain ⟨ps, LV0, _⟩ := h
  obtain ⟨g0, t0, cs0, f0, p0, q0, hg0, ht0, hv0, hd0, LV1, _⟩ := LV0
  obtain ⟨g1, t1, cs1, f1, p1, q1, hg1, ht1, hv1, hd1, LV2, _⟩ := LV1
  obtain ⟨g2, t2, cs2, f2, p2, q2, hg2, ht2, hv2, hd2, LV3, _⟩ := LV2
  obtain ⟨g3, t3, cs3, f3, p3, q3, hg3, ht3, hv3, hd3, LV4, _⟩ := LV3
  obtain rfl := Option.some.inj ((show Tryz.prog.globalNamed "strconv.ErrRange" = some 2 by kernel_rfl).symm.trans hg3)
  obtain rfl := Option.some.inj ((show (Tryz.prog.globals[2]?).map (·.type) = some 74 by kernel_rfl).symm.trans ht3)
  obtain ⟨_, u, v, e, _⟩ := iface_of_trod Tryz.underlying74 hd3
  obtain ⟨l3⟩ := cs3
  change l3 = _ at e
  subst e
  exact ⟨u, v, by simpa using World.var?_cell (show Tryz.prog.globalNamed "strconv.ErrRange" = some 2 by kernel_rfl) hv3 0⟩
theorem ErrSyntax_laid {W : World} (h : laidMet Tryz.prog [("math/bits.deBruijn32tab", Rows.laid_math_bits_deBruijn32tab), ("math/bits.deBruijn64tab", Rows.laid_math_bits_deBruijn64tab), ("internal/strconv.uint64pow10", Rows.laid_internal_strconv_uint64pow10), ("strconv.ErrRange", Rows.laid_strconv_ErrRange), ("strconv.ErrSyntax", Rows.laid_strconv_ErrSyntax)] W) : ∃ u v, W.cell? ⟨1, 0, none⟩ = some (.iface u v) := by
  obtain ⟨ps, LV0, _⟩ := h
  obtain ⟨g0, t0, cs0, f0, p0, q0, hg0, ht0, hv0, hd0, LV1, _⟩ := LV0
  obtain ⟨g1, t1, cs1, f1, p1, q1, hg1, ht1, hv1, hd1, LV2, _⟩ := LV1
  obtain ⟨g2, t2, cs2, f2, p2, q2, hg2, ht2, hv2, hd2, LV3, _⟩ := LV2
  obtain ⟨g3, t3, cs3, f3, p3, q3, hg3, ht3, hv3, hd3, LV4, _⟩ := LV3
  obtain ⟨g4, t4, cs4, f4, p4, q4, hg4, ht4, hv4, hd4, LV5, _⟩ := LV4
  obtain rfl := Option.some.inj ((show Tryz.prog.globalNamed "strconv.ErrSyntax" = some 1 by kernel_rfl).symm.trans hg4)
  obtain rfl := Option.some.inj ((show (Tryz.prog.globals[1]?).map (·.type) = some 74 by kernel_rfl).symm.trans ht4)
  obtain ⟨_, u, v, e, _⟩ := iface_of_trod Tryz.underlying74 hd4
  obtain ⟨l4⟩ := cs4
  change l4 = _ at e
  subst e
  exact ⟨u, v, by simpa using World.var?_cell (show Tryz.prog.globalNamed "strconv.ErrSyntax" = some 1 by kernel_rfl) hv4 0⟩
theorem numErr_of_laid {W : World} (h : laidMet Tryz.prog [("math/bits.deBruijn32tab", Rows.laid_math_bits_deBruijn32tab), ("math/bits.deBruijn64tab", Rows.laid_math_bits_deBruijn64tab), ("internal/strconv.uint64pow10", Rows.laid_internal_strconv_uint64pow10), ("strconv.ErrRange", Rows.laid_strconv_ErrRange), ("strconv.ErrSyntax", Rows.laid_strconv_ErrSyntax)] W) : PA.GlobNumErr W := ⟨ErrSyntax_laid h, ErrRange_laid h⟩
theorem pow10_of_laid {W : World} (h : laidMet Tryz.prog [("math/bits.deBruijn32tab", Rows.laid_math_bits_deBruijn32tab), ("math/bits.deBruijn64tab", Rows.laid_math_bits_deBruijn64tab), ("internal/strconv.uint64pow10", Rows.laid_internal_strconv_uint64pow10), ("strconv.ErrRange", Rows.laid_strconv_ErrRange), ("strconv.ErrSyntax", Rows.laid_strconv_ErrSyntax)] W) : PA.GlobPow10 W := by
  obtain ⟨ps, LV0, _⟩ := h
  obtain ⟨g0, t0, cs0, f0, p0, q0, hg0, ht0, hv0, hd0, LV1, _⟩ := LV0
  obtain ⟨g1, t1, cs1, f1, p1, q1, hg1, ht1, hv1, hd1, LV2, _⟩ := LV1
  obtain ⟨g2, t2, cs2, f2, p2, q2, hg2, ht2, hv2, hd2, LV3, _⟩ := LV2
  obtain rfl := Option.some.inj ((show Tryz.prog.globalNamed "internal/strconv.uint64pow10" = some 3 by kernel_rfl).symm.trans hg2)
  obtain rfl := Option.some.inj ((show (Tryz.prog.globals[3]?).map (·.type) = some 189 by kernel_rfl).symm.trans ht2)
  have ed : (Rows.laid_internal_strconv_uint64pow10 : DataW Unit) = Lib.tabData .u64 Lib.pow10Tab := by kernel_rfl
  rw [ed] at hd2
  have hc := Lib.cells_of_tab Tryz.underlying189 Tryz.underlying155 (by kernel_rfl) (by kernel_rfl) hd2
  show Lib.TabIs _ _ _ _ _
  unfold Lib.TabIs
  rw [hv2, ← hc]
end Go.Proofs.YtlcfpmdamehopaaGreatDoor
-- Printed by gprint.py (wip/ of this repo), over the kit's print.
namespace Go.Proofs.YtlcfpmdamehopaaGreatDoor.PA
open Go.RowKit Go.Proofs.YtlcfpmdamehopaaGreatDoorW.PrintWords Go.Proofs.YtlcfpmdamehopaaGreatDoorW.PrintLast Go.Proofs.YtlcfpmdamehopaaGreatDoorW.PrintMore
attribute [local go_sem] max2_int min2_int max_two min_two max_three min_three max_four min_four   -- for this text's walks alone
set_option linter.unusedVariables false
set_option linter.unusedSimpArgs false



def errW : Option Int → Value
  | none => .nilIface
  | some c => .iface 0 (.int .i64 c)
theorem errW_none : errW none = .nilIface := rfl
theorem errW_some (c : Int) : errW (some c) = .iface 0 (.int .i64 c) := rfl

theorem info3 : (Tryz.prog.info? 3).map (fun i => (i.zero, i.size, i.bytes)) = some (some (.int .i64 0), 1, 8) := by kernel_rfl
theorem info64 : (Tryz.prog.info? 64).map (fun i => (i.zero, i.size, i.bytes)) = some (some (.slice none 0 0), 1, 24) := by kernel_rfl
-- the values' own types
/-! #### struct type 60 -/
structure S60 where
  f0 : ByteArray
  f1 : ByteArray
/-! #### struct type 30 -/
structure S30 where
  f0 : ByteArray
  f1 : ByteArray
  f2 : Int
def rd_L9 (xs : List (List Int)) (i : Int) : (List Int) := xs.getD i.toNat ([] : List Int)
theorem at_L9 {w : World} {A : Option Addr} {n : Nat} {xs : List (List Int)} (h : Kd.C (Kd.slice 3 (Kd.int .i64)) w A n xs) (i : Int) (h0 : 0 ≤ i) (h1 : i < n) : ∃ ad A0 c0, A = some ad ∧ w.cell? (ad.add i.toNat) = some (.slice A0 (rd_L9 xs i).length c0) ∧ (rd_L9 xs i).length ≤ c0 ∧ (Kd.int .i64).C w A0 (rd_L9 xs i).length (rd_L9 xs i) := by
  obtain ⟨ad, c, e, _, hK, hc0⟩ := Kd.C_get h ([] : List Int) i h0 h1
  have hc : ∀ j u, c[j]? = some u → w.cell? (ad.add (i.toNat * 1 + j)) = some u := hc0
  obtain ⟨A0, c0, rfl, l0, g0⟩ := hK
  exact ⟨ad, A0, c0, e, by have hq := hc 0 _ rfl; rwa [Nat.mul_one, Nat.add_zero] at hq, l0, g0⟩

end Go.Proofs.YtlcfpmdamehopaaGreatDoor.PA
/- What reads as data reads as a kind's value, within the machine's bounds: for the rows of this seat's laws. No condition. -/
namespace Go.Proofs.YtlcfpmdamehopaaGreatDoor.PA
open Go Go.RowKit Go.Proofs.YtlcfpmdamehopaaGreatDoorW.PrintWords Go.Proofs.YtlcfpmdamehopaaGreatDoorW.PrintLast Go.Proofs.YtlcfpmdamehopaaGreatDoorW.PrintMore

def Opens {α : Type} (P : Program) (t : TypeId) (d : Kd α) (ok : α → Prop) : Prop :=
  P.cellsOf t = d.sz ∧ ∀ {H : Type} (enc : TypeId × Value → H) (w : World) (sp : Nat → Bool) (held : Bool) (fuel : Nat) (cs : List Value) (x : DataW H × List MemPlace),
    DataW.trod enc P w 0 sp held fuel t cs = some x → (∀ n ∈ x.1.weights P t, n ≤ reachBytes) → ∃ v : α, d.K w v cs ∧ ok v
def okI (k : IntKind) (x : Int) : Prop := (Lit.int k x).wf = true
def okS (s : ByteArray) : Prop := s.size ≤ 140737488351232
def okL {α : Type} (bytes : Nat) (ok : α → Prop) (l : List α) : Prop := l.length * bytes ≤ 140737488351232 ∧ ∀ x ∈ l, ok x
variable {P : Program}
theorem opens_int {t : TypeId} {k : IntKind} (ht : P.underlying t = some (.int k)) (hc : P.cellsOf t = 1) : Opens P t (Kd.int k) (okI k) :=
  ⟨hc, fun _ _ _ _ _ _ _ h _ => by
    obtain ⟨n, rfl, _, hw⟩ := DataW.trod_int ht h
    exact ⟨n, rfl, hw⟩⟩
theorem list_of_each {α : Type} {Q : Nat → α → Prop} : ∀ n, (∀ j, j < n → ∃ v, Q j v) → ∃ xs : List α, xs.length = n ∧ ∀ j p, xs[j]? = some p → Q j p
  | 0, _ => ⟨[], rfl, fun j p h => by simp at h⟩
  | n + 1, h => by
    obtain ⟨xs, hl, hx⟩ := list_of_each n fun j hj => h j (by omega)
    obtain ⟨v, hv⟩ := h n (by omega)
    refine ⟨xs ++ [v], by simp [hl], fun j p hp => ?_⟩
    rcases Nat.lt_or_ge j n with hj | hj
    · rw [List.getElem?_append_left (by omega)] at hp
      exact hx j p hp
    · have hjn : j = n := by
        have := (List.getElem?_eq_some_iff.1 hp).1
        simp at this; omega
      subst hjn
      rw [List.getElem?_append_right (by omega), hl, Nat.sub_self] at hp
      simp at hp
      subst hp
      exact hv
theorem weights_all {H : Type} {e : TypeId} : ∀ {l : List (DataW H)} {d : DataW H}, d ∈ l → ∀ n ∈ d.weights P e, n ∈ DataW.weightsAll P e l
  | d0 :: l, d, hd, n, hn => by
    simp only [DataW.weightsAll, List.mem_append]
    rcases List.mem_cons.1 hd with rfl | hd
    · exact .inl hn
    · exact .inr (weights_all hd n hn)
theorem add_add' (a : Addr) (i j : Nat) : (a.add i).add j = a.add (i + j) := by
  unfold Addr.add
  by_cases hi : i = 0 <;> by_cases hj : j = 0 <;> simp [hi, hj] <;> omega
theorem opens_slice {α : Type} {t e : TypeId} {d : Kd α} {ok : α → Prop} (ht : P.underlying t = some (.slice e)) (hc : P.cellsOf t = 1) (he : Opens P e d ok) :
    Opens P t (Kd.slice e d) (okL (P.bytesOf e) ok) :=
  ⟨hc, fun enc w sp held fuel cs x h hz => by
    rcases DataW.trod_slice ht h with ⟨rfl, rfl⟩ | ⟨a, len, cap, elems, rest, n, rfl, rfl, rfl, _, hlc, hcm, hlen, hel, _, _⟩
    · exact ⟨[], ⟨none, 0, rfl, Nat.le_refl _, rfl, Nat.zero_le _, fun h => absurd h (Nat.lt_irrefl _)⟩, by simp [okL]⟩
    · have hw : (elems.length + rest.length) * P.bytesOf e ≤ reachBytes := hz _ (by simp [DataW.weights, ht])
      have hx : ∀ i, i < len → ∃ v, (∃ c, c.length = d.sz ∧ d.K w v c ∧ ∀ j u, c[j]? = some u → w.cell? (a.add (i * d.sz + j)) = some u) ∧ ok v := by
        intro i hi
        have h1 := hel i hi
        have hie : i < elems.length := by omega
        rw [List.getElem?_eq_getElem hie, Option.bind_eq_some_iff] at h1
        obtain ⟨c, hcc, htr⟩ := h1
        obtain ⟨v, hK, hok⟩ := he.2 enc w sp held n c elems[i] htr (fun m hm => hz m (by
          have h2 : elems[i].1 ∈ elems.map (·.1) := List.mem_map_of_mem (List.getElem_mem hie)
          simp only [DataW.weights, ht, List.mem_cons, List.mem_append]
          exact .inr (.inl (weights_all h2 m hm))))
        obtain ⟨_, hcl, hget⟩ := World.cells?_some hcc
        refine ⟨v, ⟨c, d.K_len hK, hK, fun j u hj => ?_⟩, hok⟩
        have hjl := (List.getElem?_eq_some_iff.1 hj).1
        rw [← he.1, ← add_add', hget j (by rw [← hcl]; exact hjl)]
        exact hj
      obtain ⟨xs, hxl, hxs⟩ := list_of_each len hx
      refine ⟨xs, ⟨some a, cap, by rw [hxl], by omega, hxl.symm ▸ rfl, ?_, fun _ => ⟨a, rfl, fun j p hp => (hxs j p hp).1⟩⟩, ?_, fun y hy => ?_⟩
      · have hm : maxLen = 9223372036854775807 := by decide
        omega
      · have h3 : xs.length * P.bytesOf e ≤ (elems.length + rest.length) * P.bytesOf e := Nat.mul_le_mul_right _ (by omega)
        have h4 : reachBytes = 140737488351232 := by decide
        omega
      · obtain ⟨j, hj, rfl⟩ := List.getElem_of_mem hy
        exact (hxs j _ (List.getElem?_eq_getElem hj)).2⟩

/-! Structs: field by field -/
theorem okI_i64 {x : Int} (h : okI .i64 x) : -9223372036854775808 ≤ x ∧ x ≤ 9223372036854775807 := by
  unfold okI at h
  simp only [Lit.wf, IntKind.min, IntKind.max, IntKind.signed, IntKind.bits, Bool.and_eq_true, decide_eq_true_eq, if_true] at h
  omega
end Go.Proofs.YtlcfpmdamehopaaGreatDoor.PA
/- strings.Cut, keelson/clause.number: what they come to. Conditions: sizes that fit; the library's own number, errors and table lie in their variables. -/
namespace Go.Proofs.YtlcfpmdamehopaaGreatDoor.PA
open Go.RowKit Go.Proofs.YtlcfpmdamehopaaGreatDoorW.PrintWords Go.Proofs.YtlcfpmdamehopaaGreatDoorW.PrintLast Go.Proofs.YtlcfpmdamehopaaGreatDoorW.PrintMore

theorem str_eqC (a b : ByteArray) : (a.toList == b.toList) = decide (a = b) := by
  rw [ByteArray.toList_eq, ByteArray.toList_eq]
  by_cases h : a = b
  · subst h; simp
  · rw [decide_eq_false h, beq_eq_false_iff_ne]
    intro e
    exact h (by cases a; cases b; simp at e; rw [e])
def cutB (s p : ByteArray) : ByteArray × ByteArray × Bool := (⟨(Lib.cut s.data.toList p.data.toList).1.toArray⟩, ⟨(Lib.cut s.data.toList p.data.toList).2.1.toArray⟩, (Lib.cut s.data.toList p.data.toList).2.2)
def strings_Cut.f (s p : ByteArray) : Option (ByteArray × ByteArray × Bool) := if s.size < 4294967281 then some (cutB s p) else none
theorem strings_Cut.calls (s p : ByteArray) (r1 r2 : ByteArray) (r3 : Bool) (w : World) (hG_maxLen : GlobMaxLen w) (h : strings_Cut.f s p = some (r1, r2, r3)) :
    Calls Tryz.prog 41 #[.string s, .string p] w fun e w' => e = .returned (.tuple #[.string r1, .string r2, .bool r3]) ∧ Below w.heap.size w w' := by
  unfold strings_Cut.f at h
  split at h
  case isFalse => cases h
  rename_i hs
  obtain ⟨rfl, rfl, rfl⟩ : (cutB s p).1 = r1 ∧ (cutB s p).2.1 = r2 ∧ (cutB s p).2.2 = r3 := by
    have := Option.some.inj h
    rw [this]; exact ⟨rfl, rfl, rfl⟩
  obtain ⟨m, hm⟩ := hG_maxLen
  exact (Tryz.strings_Cut s p m w hs hm).mono fun e w' ⟨he, n, hw⟩ => ⟨he, by rw [hw]; exact pw_below_drewN (Below.refl _ _) n⟩
/-- A text that is a number's own, and that number. -/
def numberG (s : ByteArray) : Int × Bool := match numOf s.data.toList with
  | some n => (n, decide (itoaB n = s))
  | none => (badV s.data.toList, false)
def clause_number.f (s : ByteArray) : Option (Int × Bool) := if s.size ≤ 281474976710656 then some (numberG s) else none
set_option maxHeartbeats 1000000 in
theorem clause_number.calls (s : ByteArray) (r1 : Int) (r2 : Bool) (w : World) (hG_numErr : GlobNumErr w) (hG_pow10 : GlobPow10 w) (h : clause_number.f s = some (r1, r2)) :
    Calls Tryz.prog 43 #[.string s] w fun e w' => e = .returned (.tuple #[.int .i64 r1, .bool r2]) ∧ Below w.heap.size w w' := by
  unfold clause_number.f at h
  split at h
  case isFalse => cases h
  rename_i hs
  have h := Option.some.inj h
  unfold numberG at h
  cases hn : numOf s.data.toList with
  | none =>
    rw [hn] at h
    obtain ⟨rfl, rfl⟩ : badV s.data.toList = r1 ∧ false = r2 := by simpa using h
    have hb := atoi_bad s hs hn w hG_numErr
    generalize badV s.data.toList = n at hb ⊢
    clear h hn hs hG_numErr hG_pow10
    go_enter Tryz.func43, Tryz.ntmps43
    go_wp2_with (go_at_call 57; ((with_reducible refine hb.mono ?_); rintro e w1 ⟨N, T, rfl, hb1⟩))
    go_ret2
    exact ⟨rfl, hb1⟩
  | some n =>
    rw [hn] at h
    obtain ⟨rfl, rfl⟩ : n = r1 ∧ decide (itoaB n = s) = r2 := by simpa using h
    have hb := atoi_good s hs n hn w
    have hr := atoi_range hn
    have hi := fun w1 (q : Below w.heap.size w w1) => (itoa_calls n hr w1 (hG_pow10.below q)).mono fun e w' h => (⟨h.1, q.trans (h.2.mono q.size)⟩ : e = .returned (.string (itoaB n)) ∧ Below w.heap.size w w')
    have hse := str_eqC (itoaB n) s
    generalize decide (itoaB n = s) = b at hse ⊢
    generalize itoaB n = ib at hi hse
    clear h hn hs hG_numErr hG_pow10 hr
    go_enter Tryz.func43, Tryz.ntmps43
    go_wp2_with (first | (go_at_call 57; with_reducible refine hb.mono ?_; rintro e w1 ⟨rfl, hb1⟩) | (go_at_call 31; with_reducible refine (hi _ hb1).mono ?_; rintro e w2 ⟨rfl, hb2⟩))
    go_ret2
    exact ⟨rfl, hb2⟩
end Go.Proofs.YtlcfpmdamehopaaGreatDoor.PA
/- The library's Cut at one byte, as a plain function; texts that are put together of what was cut. No condition. -/
namespace Go.Proofs.YtlcfpmdamehopaaGreatDoor.PA
open Go.RowKit Go.Proofs.YtlcfpmdamehopaaGreatDoorW.PrintWords Go.Proofs.YtlcfpmdamehopaaGreatDoorW.PrintLast Go.Proofs.YtlcfpmdamehopaaGreatDoorW.PrintMore

def cutC (c : UInt8) : List UInt8 → List UInt8 × List UInt8 × Bool
  | [] => ([], [], false)
  | x :: s => if x = c then ([], s, true) else (x :: (cutC c s).1, (cutC c s).2.1, (cutC c s).2.2)
theorem cut_c (d : UInt8) : ∀ s : List UInt8, Lib.cut s [d] = cutC d s := by
  intro s
  unfold Lib.cut
  rw [Lib.index_one]
  induction s with
  | nil => rfl
  | cons c s ih =>
    by_cases h : c = d
    · subst h
      have hv : Lib.indexByte (c :: s) c = 0 := by rw [Lib.indexByte, show (c == c) = true from beq_self_eq_true c, if_pos rfl]
      rw [hv, cutC, if_pos rfl]; rfl
    · have h' : (c == d) = false := beq_eq_false_iff_ne.2 h
      have hge := Lib.indexByte_ge s d
      have hv : Lib.indexByte (c :: s) d = if Lib.indexByte s d == -1 then -1 else Lib.indexByte s d + 1 := by rw [Lib.indexByte, h', if_neg (by decide)]
      rw [cutC, if_neg h, ← ih]
      by_cases hn : Lib.indexByte s d = -1
      · rw [hv, hn]; rfl
      · rw [hv, if_neg (fun e => hn (beq_iff_eq.1 e))]
        rw [if_pos (show 0 ≤ Lib.indexByte s d + 1 by omega), if_pos (show 0 ≤ Lib.indexByte s d by omega), show (Lib.indexByte s d + 1).toNat = (Lib.indexByte s d).toNat + 1 by omega]
        rfl
theorem cutC_join (c : UInt8) : ∀ s : List UInt8, (cutC c s).2.2 = true → (cutC c s).1 ++ c :: (cutC c s).2.1 = s := by
  intro s
  induction s with
  | nil => intro h; cases h
  | cons x s ih =>
    intro h
    rw [cutC] at h ⊢
    by_cases hx : x = c
    · rw [if_pos hx]; subst hx; rfl
    · rw [if_neg hx] at h ⊢
      dsimp only at h ⊢
      rw [List.cons_append, ih h]
theorem cutC_no (c : UInt8) : ∀ s : List UInt8, (cutC c s).2.2 = false → (cutC c s).1 = s ∧ (cutC c s).2.1 = [] := by
  intro s
  induction s with
  | nil => intro _; exact ⟨rfl, rfl⟩
  | cons x s ih =>
    intro h
    rw [cutC] at h ⊢
    by_cases hx : x = c
    · rw [if_pos hx] at h; cases h
    · rw [if_neg hx] at h ⊢
      dsimp only at h ⊢
      exact ⟨by rw [(ih h).1], (ih h).2⟩
theorem cutC_of (c : UInt8) (b : List UInt8) : ∀ a : List UInt8, c ∉ a → cutC c (a ++ c :: b) = (a, b, true) := by
  intro a
  induction a with
  | nil => intro _; rw [List.nil_append, cutC, if_pos rfl]
  | cons x a ih =>
    intro h
    have hx : ¬ x = c := fun e => h (by rw [e]; exact List.mem_cons_self)
    rw [List.cons_append, cutC, if_neg hx, ih (fun e => h (List.mem_cons_of_mem _ e))]
theorem cutC_len (c : UInt8) (s : List UInt8) (h : (cutC c s).2.2 = true) : (cutC c s).1.length + 1 + (cutC c s).2.1.length = s.length := by
  have := congrArg List.length (cutC_join c s h)
  rw [List.length_append, List.length_cons] at this; omega
theorem cutC_le (c : UInt8) (s : List UInt8) : (cutC c s).1.length ≤ s.length ∧ (cutC c s).2.1.length ≤ s.length := by
  cases h : (cutC c s).2.2 with
  | true => have := cutC_len c s h; omega
  | false => have := cutC_no c s h; rw [this.1, this.2]; exact ⟨Nat.le_refl _, Nat.zero_le _⟩
theorem cut_f (s : ByteArray) (c : UInt8) (hs : s.size < 4294967281) : strings_Cut.f s ⟨#[c]⟩ = some (⟨(cutC c s.data.toList).1.toArray⟩, ⟨(cutC c s.data.toList).2.1.toArray⟩, (cutC c s.data.toList).2.2) := by
  unfold strings_Cut.f cutB
  rw [if_pos hs, show (⟨#[c]⟩ : ByteArray).data.toList = [c] from rfl, cut_c]
end Go.Proofs.YtlcfpmdamehopaaGreatDoor.PA
/- Plain words for what printed functions come to: from some number of rounds on. No condition. -/
namespace Go.Proofs.YtlcfpmdamehopaaGreatDoor.PA
open Go.RowKit Go.Proofs.YtlcfpmdamehopaaGreatDoorW.PrintWords Go.Proofs.YtlcfpmdamehopaaGreatDoorW.PrintLast Go.Proofs.YtlcfpmdamehopaaGreatDoorW.PrintMore

theorem Ev.succ {α : Type} {g : Nat → Option α} {r : α} (h : Ev (fun k => g (k + 1)) r) : Ev g r := Ev.step (fun _ => rfl) h
theorem Ev.some {α : Type} {r s : α} (h : r = s) : Ev (fun _ => Option.some r) s := ⟨0, fun _ _ => by rw [h]⟩
theorem Ev.at {α : Type} {g : Nat → Option α} {r : α} (K : Nat) (h : ∀ k, K ≤ k → g k = Option.some r) : Ev g r := ⟨K, h⟩
theorem Ev.pos {α : Type} {c : Prop} [Decidable c] {g f : Nat → Option α} {r : α} (hc : c) (h : Ev g r) : Ev (fun k => if c then g k else f k) r := by simpa only [if_pos hc] using h
theorem Ev.neg {α : Type} {c : Prop} [Decidable c] {g f : Nat → Option α} {r : α} (hc : ¬ c) (h : Ev f r) : Ev (fun k => if c then g k else f k) r := by simpa only [if_neg hc] using h
theorem Ev.ite {α : Type} {c : Prop} [Decidable c] {g f : Nat → Option α} {r s : α} (h1 : c → Ev g r) (h2 : ¬ c → Ev f s) : Ev (fun k => if c then g k else f k) (if c then r else s) := by
  by_cases hc : c
  · rw [if_pos hc]; exact Ev.pos hc (h1 hc)
  · rw [if_neg hc]; exact Ev.neg hc (h2 hc)
theorem Ev.let {α β : Type} {v : α} {f : Nat → α → Option β} {r : β} (h : Ev (fun k => f k v) r) : Ev (fun k => (Option.some v).bind (f k)) r := h
theorem Ev.call {α β : Type} {o : Option α} {v : α} {f : Nat → α → Option β} {r : β} (ho : o = Option.some v) (h : Ev (fun k => f k v) r) : Ev (fun k => o.bind (f k)) r := by rw [ho]; exact h
theorem wrap_step {i n : Nat} (h : i < n) (hn : n ≤ 9223372036854775807) : wrap64 ((i : Int) + 1) = ((i + 1 : Nat) : Int) := by unfold wrap64; omega
theorem rd_nat (l : List Int) (i : Nat) (h : i < l.length) : rd l (i : Int) = l[i] := by unfold rd; simp [List.getD_eq_getElem?_getD, List.getElem?_eq_getElem h]
end Go.Proofs.YtlcfpmdamehopaaGreatDoor.PA
/- What a text of stanzas is read as, as a plain function. No condition. -/
namespace Go.Proofs.YtlcfpmdamehopaaGreatDoor.PA
def mkB (l : List UInt8) : ByteArray := ⟨l.toArray⟩
end Go.Proofs.YtlcfpmdamehopaaGreatDoor.PA
/- Two texts of stanzas with empty lines ahead, between and behind are read as the stanzas of both, as plain functions. No condition. -/
namespace Go.Proofs.YtlcfpmdamehopaaGreatDoor.PA
end Go.Proofs.YtlcfpmdamehopaaGreatDoor.PA
/- Elements of rows of stanzas; what is read is not too much; as plain functions. No condition. -/
namespace Go.Proofs.YtlcfpmdamehopaaGreatDoor.PA
open Go.RowKit Go.Proofs.YtlcfpmdamehopaaGreatDoorW.PrintWords Go.Proofs.YtlcfpmdamehopaaGreatDoorW.PrintLast Go.Proofs.YtlcfpmdamehopaaGreatDoorW.PrintMore

theorem bytes_injQ {a b : ByteArray} (h : a.data.toList = b.data.toList) : a = b := by cases a; cases b; simp at h; rw [h]
end Go.Proofs.YtlcfpmdamehopaaGreatDoor.PA
-- Printed by gprint.py (wip/ of this repo), over the kit's print.
namespace Go.Proofs.YtlcfpmdamehopaaGreatDoor.PA
open Go.RowKit Go.Proofs.YtlcfpmdamehopaaGreatDoorW.PrintWords Go.Proofs.YtlcfpmdamehopaaGreatDoorW.PrintLast Go.Proofs.YtlcfpmdamehopaaGreatDoorW.PrintMore
attribute [local go_sem] max2_int min2_int max_two min_two max_three min_three max_four min_four   -- for this text's walks alone
set_option linter.unusedVariables false
set_option linter.unusedSimpArgs false

/-! ### keelsonref2_Digit: function 65 -/
/-! ### keelsonref2_Letter: function 169 -/
/-! ### keelsonref2_Decimal: function 69 -/
end Go.Proofs.YtlcfpmdamehopaaGreatDoor.PA
-- Printed by gprint.py (wip/ of this repo), over the kit's print.
namespace Go.Proofs.YtlcfpmdamehopaaGreatDoor.PA
open Go.RowKit Go.Proofs.YtlcfpmdamehopaaGreatDoorW.PrintWords Go.Proofs.YtlcfpmdamehopaaGreatDoorW.PrintLast Go.Proofs.YtlcfpmdamehopaaGreatDoorW.PrintMore
attribute [local go_sem] max2_int min2_int max_two min_two max_three min_three max_four min_four   -- for this text's walks alone
set_option linter.unusedVariables false
set_option linter.unusedSimpArgs false

/-! ### keelsonref3_Name: function 30 -/
end Go.Proofs.YtlcfpmdamehopaaGreatDoor.PA
-- Printed by gprint.py (wip/ of this repo), over the kit's print.
namespace Go.Proofs.YtlcfpmdamehopaaGreatDoor.PA
open Go.RowKit Go.Proofs.YtlcfpmdamehopaaGreatDoorW.PrintWords Go.Proofs.YtlcfpmdamehopaaGreatDoorW.PrintLast Go.Proofs.YtlcfpmdamehopaaGreatDoorW.PrintMore
attribute [local go_sem] max2_int min2_int max_two min_two max_three min_three max_four min_four   -- for this text's walks alone
set_option linter.unusedVariables false
set_option linter.unusedSimpArgs false

/-! ### keelsonref5_lines: function 58 -/
/-! ### keelsonref5_Get: function 60 -/
/-! ### keelsonref5_clean: function 102 -/
/-! ### keelsonref5_Name: function 135 -/
/-! ### keelsonref5_value: function 144 -/
/-! ### keelsonref5_stanza: function 111 -/
end Go.Proofs.YtlcfpmdamehopaaGreatDoor.PA
-- Printed by gprint.py (wip/ of this repo), over the kit's print.
namespace Go.Proofs.YtlcfpmdamehopaaGreatDoor.PA
open Go.RowKit Go.Proofs.YtlcfpmdamehopaaGreatDoorW.PrintWords Go.Proofs.YtlcfpmdamehopaaGreatDoorW.PrintLast Go.Proofs.YtlcfpmdamehopaaGreatDoorW.PrintMore
attribute [local go_sem] max2_int min2_int max_two min_two max_three min_three max_four min_four   -- for this text's walks alone
set_option linter.unusedVariables false
set_option linter.unusedSimpArgs false

/-! ### keelsonref8_Right: function 13 -/
/-! ### keelsonref8_decimal: function 33 -/
/-! ### keelsonref8_priority: function 61 -/
/-! ### keelsonref8_pin: function 26 -/
end Go.Proofs.YtlcfpmdamehopaaGreatDoor.PA
/- Numbers as text in program and reference: one and the same; as plain functions. Conditions: numbers that fit. -/
namespace Go.Proofs.YtlcfpmdamehopaaGreatDoor.PA
open Go.RowKit Go.Proofs.YtlcfpmdamehopaaGreatDoorW.PrintWords Go.Proofs.YtlcfpmdamehopaaGreatDoorW.PrintLast Go.Proofs.YtlcfpmdamehopaaGreatDoorW.PrintMore

theorem dec_len : ∀ n : Nat, (Lib.decDigits n).length ≤ n + 1 := by
  intro n
  induction n using Nat.strongRecOn with
  | _ n ih =>
    rw [Lib.decDigits]
    split
    · simp
    · rename_i h
      have := ih (n / 10) (by omega)
      rw [List.length_append]; simp; omega
theorem mkB_toL (l : List UInt8) : (mkB l).toList = l := by rw [ByteArray.toList_eq]; rfl
theorem num_itoa (n : Int) (h0 : -1000000 ≤ n) (h1 : n ≤ 1000000) : numOf (itoaB n).data.toList = some n := by
  unfold numOf
  rw [show (itoaB n).data.toList = Lib.itoa n from rfl, atoi_itoa n (by omega) (by omega)]
end Go.Proofs.YtlcfpmdamehopaaGreatDoor.PA
-- Printed by gprint.py (wip/ of this repo), over the kit's print.
namespace Go.Proofs.YtlcfpmdamehopaaGreatDoor.PA
open Go.RowKit Go.Proofs.YtlcfpmdamehopaaGreatDoorW.PrintWords Go.Proofs.YtlcfpmdamehopaaGreatDoorW.PrintLast Go.Proofs.YtlcfpmdamehopaaGreatDoorW.PrintMore
attribute [local go_sem] max2_int min2_int max_two min_two max_three min_three max_four min_four   -- for this text's walks alone
set_option linter.unusedVariables false
set_option linter.unusedSimpArgs false

/-! ### cmp_Or_int: function 75 -/
def cmp_Or_int.l0 : Nat → Int → List Int → Int → Int → Option (Int)
  | 0, _, _, _, _ => none
  | k + 1, x3, x6, x7, x8 => if x8 < x7 then (if 0 ≤ x8 then (if x8 < (x6.length : Int) then (if (rd x6 x8) = x3 then (cmp_Or_int.l0 k x3 x6 x7 (wrap64 (x8 + 1))) else (some (rd x6 x8))) else (none)) else (none)) else (some x3)
def cmp_Or_int.f (k : Nat) (l0 : List Int) : Option (Int) := cmp_Or_int.l0 k 0 l0 (l0.length : Int) 0
set_option maxHeartbeats 8000000 in
set_option maxRecDepth 100000 in
theorem cmp_Or_int.calls (k : Nat) (A0 : Option Addr) (c0 : Nat) (l0 : List Int) (r : Int) (w : World) (hr0 : Kd.C (Kd.int .i64) w A0 l0.length l0) (hc0 : l0.length ≤ c0) (h : cmp_Or_int.f k l0 = some r) :
    Calls Tryz.prog 75 #[.slice A0 l0.length c0] w fun e w' => e = .returned (.int .i64 r) ∧ Drawn0 w w' := by
  have HR0 := Aside0.mk hr0
  have HC0 := Aside0.mk hc0
  clear hr0 hc0
  have H : (cmp_Or_int.l0 k 0 l0 (l0.length : Int) 0) = some r := h
  clear h
  have H' := Aside0.mk H
  clear H
  go_enter Tryz.func75, Tryz.ntmps75
  go_wp2
  go_loopg [8] k (fun kq v8 w' => ∃ (x8_1 : Int), v8 = .int .i64 x8_1 ∧ Aside0 (cmp_Or_int.l0 kq 0 l0 (l0.length : Int) x8_1 = some r) ∧ Aside0 (kq ≤ k) ∧ Drawn0 w w')
  case atStart => exact ⟨(0), (by first | rfl | (simp; done) | (simp [*]; done)), H', ⟨Nat.le_refl _⟩, by repeat (first | exact Drawn0.refl _ | apply Drawn0.step)⟩
  case round =>
    clear H'
    obtain ⟨x8_1, rfl, HA, HK1, ⟨m1, rfl⟩⟩ := hrel
    cases gk with
    | zero => exact absurd HA.out (by simp [cmp_Or_int.l0])
    | succ k1 =>
      have H := HA.out
      clear HA
      simp only [cmp_Or_int.l0] at H
      by_cases c2 : x8_1 < (l0.length : Int)
      · rw [if_pos c2] at H
        have c2b0 : decide (x8_1 < (l0.length : Int)) = true := decide_eq_true c2
        clear c2
        by_cases c3 : 0 ≤ x8_1
        · rw [if_pos c3] at H
          have c3b0 : decide (0 ≤ x8_1) = true := decide_eq_true c3
          clear c3
          by_cases c4 : x8_1 < (l0.length : Int)
          · rw [if_pos c4] at H
            have c4b0 : decide (x8_1 < (l0.length : Int)) = true := decide_eq_true c4
            clear c4
            by_cases c5 : (rd l0 x8_1) = 0
            · rw [if_pos c5] at H
              have c5b0 : ((rd l0 x8_1) == 0) = true := beq_iff_eq.mpr c5
              have c5b1 : ((rd l0 x8_1) != 0) = false := bne_eq_false_iff_eq.mpr c5
              clear c5
              have H' := Aside0.mk H
              clear H
              have p290 : 0 ≤ (x8_1 : Int) := of_decide_eq_true (by first | (with_reducible assumption) | assumption)
              have q290 : x8_1 < (l0.length : Int) := of_decide_eq_true (by first | (with_reducible assumption) | assumption)
              obtain ⟨ad290, e290, hx290_0⟩ := Kd.at_int HR0.out x8_1 p290 q290
              cases e290
              replace p290 := eq_true p290
              replace q290 := eq_true q290
              go_wp2
              go_roundg k1
              case measure => have := HK1.out; omega
              case rel => exact ⟨(wrap64 (x8_1 + 1)), (by first | rfl | (simp; done) | (simp [*]; done)), H', ⟨by have := HK1.out; omega⟩, by repeat (first | exact Drawn0.refl _ | apply Drawn0.step)⟩
            · rw [if_neg c5] at H
              have c5b0 : ((rd l0 x8_1) == 0) = false := beq_eq_false_iff_ne.mpr c5
              have c5b1 : ((rd l0 x8_1) != 0) = true := bne_iff_ne.mpr c5
              obtain rfl := Option.some.inj H
              have p290 : 0 ≤ (x8_1 : Int) := of_decide_eq_true (by first | (with_reducible assumption) | assumption)
              have q290 : x8_1 < (l0.length : Int) := of_decide_eq_true (by first | (with_reducible assumption) | assumption)
              obtain ⟨ad290, e290, hx290_0⟩ := Kd.at_int HR0.out x8_1 p290 q290
              cases e290
              replace p290 := eq_true p290
              replace q290 := eq_true q290
              go_wp2
              go_ret
              exact ⟨by first | rfl | (simp; done) | (simp [*]; done), by repeat (first | exact Drawn0.refl _ | apply Drawn0.step)⟩
          · rw [if_neg c4] at H
            exact absurd H (by simp)
        · rw [if_neg c3] at H
          exact absurd H (by simp)
      · rw [if_neg c2] at H
        have c2b0 : decide (x8_1 < (l0.length : Int)) = false := decide_eq_false c2
        clear c2
        obtain rfl := Option.some.inj H
        go_wp2
        go_ret
        exact ⟨by first | rfl | (simp; done) | (simp [*]; done), by repeat (first | exact Drawn0.refl _ | apply Drawn0.step)⟩

/-! ### cmp_isNaN_int: function 115 -/
def cmp_isNaN_int.f (a0 : Int) : Option (Bool) := some (a0 != a0)
set_option maxHeartbeats 8000000 in
set_option maxRecDepth 100000 in
theorem cmp_isNaN_int.calls (a0 : Int) (r : Bool) (w : World) (h : cmp_isNaN_int.f a0 = some r) :
    Calls Tryz.prog 115 #[.int .i64 a0] w fun e w' => e = .returned (.bool r) ∧ Drawn0 w w' := by
  have H : (some (a0 != a0)) = some r := h
  clear h
  obtain rfl := Option.some.inj H
  go_enter Tryz.func115, Tryz.ntmps115
  go_wp2
  go_ret
  exact ⟨by first | rfl | (simp; done) | (simp [*]; done), by repeat (first | exact Drawn0.refl _ | apply Drawn0.step)⟩

/-! ### cmp_Compare_int: function 76 -/
def cmp_Compare_int.f (a0 : Int) (a1 : Int) : Option (Int) := (cmp_isNaN_int.f a0).bind fun t291 => ((cmp_isNaN_int.f a1).bind fun t292 => (if t291 = true then (if t292 = true then (some 0) else (some (-1))) else (if t292 = true then (some 1) else (if a0 < a1 then (some (-1)) else (if a0 > a1 then (some 1) else (some 0))))))
set_option maxHeartbeats 8000000 in
set_option maxRecDepth 100000 in
theorem cmp_Compare_int.calls (a0 : Int) (a1 : Int) (r : Int) (w : World) (h : cmp_Compare_int.f a0 a1 = some r) :
    Calls Tryz.prog 76 #[.int .i64 a0, .int .i64 a1] w fun e w' => e = .returned (.int .i64 r) ∧ Drawn0 w w' := by
  have H : ((cmp_isNaN_int.f a0).bind fun t291 => ((cmp_isNaN_int.f a1).bind fun t292 => (if t291 = true then (if t292 = true then (some 0) else (some (-1))) else (if t292 = true then (some 1) else (if a0 < a1 then (some (-1)) else (if a0 > a1 then (some 1) else (some 0))))))) = some r := h
  clear h
  replace H := Option.bind_eq_some_iff.mp H
  obtain ⟨t291, A30, H⟩ := H
  replace H : ((cmp_isNaN_int.f a1).bind fun t292 => (if t291 = true then (if t292 = true then (some 0) else (some (-1))) else (if t292 = true then (some 1) else (if a0 < a1 then (some (-1)) else (if a0 > a1 then (some 1) else (some 0)))))) = some r := H
  have A3 := Aside0.mk A30
  clear A30
  replace H := Option.bind_eq_some_iff.mp H
  obtain ⟨t292, A40, H⟩ := H
  replace H : (if t291 = true then (if t292 = true then (some 0) else (some (-1))) else (if t292 = true then (some 1) else (if a0 < a1 then (some (-1)) else (if a0 > a1 then (some 1) else (some 0))))) = some r := H
  have A4 := Aside0.mk A40
  clear A40
  by_cases c5 : t291 = true
  · subst c5
    have H1 : (if t292 = true then (some 0) else (some (-1))) = some r := by rw [if_pos rfl] at H; exact H
    clear H
    have H := H1
    clear H1
    by_cases c6 : t292 = true
    · subst c6
      have H1 : (some 0) = some r := by rw [if_pos rfl] at H; exact H
      clear H
      have H := H1
      clear H1
      obtain rfl := Option.some.inj H
      go_enter Tryz.func76, Tryz.ntmps76
      go_wp2_with (first | ((with_reducible refine gate_callee (f := 115) rfl ?_); refine goesL_ (some 8) rfl rfl Tryz.func115 (by kernel_rfl) rfl #[.int .i64 a0] rfl (by (try simp only [List.map_toArray, List.map_cons, List.map_nil]); first | done | rfl | (simp only [List.length_drop, List.length_take]; rfl)) ?_; (with_reducible refine (cmp_isNaN_int.calls a0 true _ A3.out).mono ?_); rintro e w' ⟨rfl, ⟨nd, rfl⟩⟩; refine ⟨_, rfl, ?_⟩) | ((with_reducible refine gate_callee (f := 115) rfl ?_); refine goesL_ (some 10) rfl rfl Tryz.func115 (by kernel_rfl) rfl #[.int .i64 a1] rfl (by (try simp only [List.map_toArray, List.map_cons, List.map_nil]); first | done | rfl | (simp only [List.length_drop, List.length_take]; rfl)) ?_; (with_reducible refine (cmp_isNaN_int.calls a1 true _ A4.out).mono ?_); rintro e w' ⟨rfl, ⟨nd, rfl⟩⟩; refine ⟨_, rfl, ?_⟩))
      go_ret
      exact ⟨by first | rfl | (simp; done) | (simp [*]; done), by repeat (first | exact Drawn0.refl _ | apply Drawn0.step)⟩
    · replace c6 := Bool.eq_false_iff.mpr c6
      subst c6
      have H1 : (some (-1)) = some r := by rw [if_neg (show ¬ (false = true) by decide)] at H; exact H
      clear H
      have H := H1
      clear H1
      obtain rfl := Option.some.inj H
      go_enter Tryz.func76, Tryz.ntmps76
      go_wp2_with (first | ((with_reducible refine gate_callee (f := 115) rfl ?_); refine goesL_ (some 8) rfl rfl Tryz.func115 (by kernel_rfl) rfl #[.int .i64 a0] rfl (by (try simp only [List.map_toArray, List.map_cons, List.map_nil]); first | done | rfl | (simp only [List.length_drop, List.length_take]; rfl)) ?_; (with_reducible refine (cmp_isNaN_int.calls a0 true _ A3.out).mono ?_); rintro e w' ⟨rfl, ⟨nd, rfl⟩⟩; refine ⟨_, rfl, ?_⟩) | ((with_reducible refine gate_callee (f := 115) rfl ?_); refine goesL_ (some 10) rfl rfl Tryz.func115 (by kernel_rfl) rfl #[.int .i64 a1] rfl (by (try simp only [List.map_toArray, List.map_cons, List.map_nil]); first | done | rfl | (simp only [List.length_drop, List.length_take]; rfl)) ?_; (with_reducible refine (cmp_isNaN_int.calls a1 false _ A4.out).mono ?_); rintro e w' ⟨rfl, ⟨nd, rfl⟩⟩; refine ⟨_, rfl, ?_⟩))
      go_ret
      exact ⟨by first | rfl | (simp; done) | (simp [*]; done), by repeat (first | exact Drawn0.refl _ | apply Drawn0.step)⟩
  · replace c5 := Bool.eq_false_iff.mpr c5
    subst c5
    have H1 : (if t292 = true then (some 1) else (if a0 < a1 then (some (-1)) else (if a0 > a1 then (some 1) else (some 0)))) = some r := by rw [if_neg (show ¬ (false = true) by decide)] at H; exact H
    clear H
    have H := H1
    clear H1
    by_cases c7 : t292 = true
    · subst c7
      have H1 : (some 1) = some r := by rw [if_pos rfl] at H; exact H
      clear H
      have H := H1
      clear H1
      obtain rfl := Option.some.inj H
      go_enter Tryz.func76, Tryz.ntmps76
      go_wp2_with (first | ((with_reducible refine gate_callee (f := 115) rfl ?_); refine goesL_ (some 8) rfl rfl Tryz.func115 (by kernel_rfl) rfl #[.int .i64 a0] rfl (by (try simp only [List.map_toArray, List.map_cons, List.map_nil]); first | done | rfl | (simp only [List.length_drop, List.length_take]; rfl)) ?_; (with_reducible refine (cmp_isNaN_int.calls a0 false _ A3.out).mono ?_); rintro e w' ⟨rfl, ⟨nd, rfl⟩⟩; refine ⟨_, rfl, ?_⟩) | ((with_reducible refine gate_callee (f := 115) rfl ?_); refine goesL_ (some 10) rfl rfl Tryz.func115 (by kernel_rfl) rfl #[.int .i64 a1] rfl (by (try simp only [List.map_toArray, List.map_cons, List.map_nil]); first | done | rfl | (simp only [List.length_drop, List.length_take]; rfl)) ?_; (with_reducible refine (cmp_isNaN_int.calls a1 true _ A4.out).mono ?_); rintro e w' ⟨rfl, ⟨nd, rfl⟩⟩; refine ⟨_, rfl, ?_⟩))
      go_ret
      exact ⟨by first | rfl | (simp; done) | (simp [*]; done), by repeat (first | exact Drawn0.refl _ | apply Drawn0.step)⟩
    · replace c7 := Bool.eq_false_iff.mpr c7
      subst c7
      have H1 : (if a0 < a1 then (some (-1)) else (if a0 > a1 then (some 1) else (some 0))) = some r := by rw [if_neg (show ¬ (false = true) by decide)] at H; exact H
      clear H
      have H := H1
      clear H1
      by_cases c8 : a0 < a1
      · rw [if_pos c8] at H
        have c8b0 : decide (a0 < a1) = true := decide_eq_true c8
        clear c8
        obtain rfl := Option.some.inj H
        go_enter Tryz.func76, Tryz.ntmps76
        go_wp2_with (first | ((with_reducible refine gate_callee (f := 115) rfl ?_); refine goesL_ (some 8) rfl rfl Tryz.func115 (by kernel_rfl) rfl #[.int .i64 a0] rfl (by (try simp only [List.map_toArray, List.map_cons, List.map_nil]); first | done | rfl | (simp only [List.length_drop, List.length_take]; rfl)) ?_; (with_reducible refine (cmp_isNaN_int.calls a0 false _ A3.out).mono ?_); rintro e w' ⟨rfl, ⟨nd, rfl⟩⟩; refine ⟨_, rfl, ?_⟩) | ((with_reducible refine gate_callee (f := 115) rfl ?_); refine goesL_ (some 10) rfl rfl Tryz.func115 (by kernel_rfl) rfl #[.int .i64 a1] rfl (by (try simp only [List.map_toArray, List.map_cons, List.map_nil]); first | done | rfl | (simp only [List.length_drop, List.length_take]; rfl)) ?_; (with_reducible refine (cmp_isNaN_int.calls a1 false _ A4.out).mono ?_); rintro e w' ⟨rfl, ⟨nd, rfl⟩⟩; refine ⟨_, rfl, ?_⟩))
        go_ret
        exact ⟨by first | rfl | (simp; done) | (simp [*]; done), by repeat (first | exact Drawn0.refl _ | apply Drawn0.step)⟩
      · rw [if_neg c8] at H
        have c8b0 : decide (a0 < a1) = false := decide_eq_false c8
        clear c8
        by_cases c9 : a0 > a1
        · rw [if_pos c9] at H
          have c9b0 : decide (a1 < a0) = true := decide_eq_true c9
          clear c9
          obtain rfl := Option.some.inj H
          go_enter Tryz.func76, Tryz.ntmps76
          go_wp2_with (first | ((with_reducible refine gate_callee (f := 115) rfl ?_); refine goesL_ (some 8) rfl rfl Tryz.func115 (by kernel_rfl) rfl #[.int .i64 a0] rfl (by (try simp only [List.map_toArray, List.map_cons, List.map_nil]); first | done | rfl | (simp only [List.length_drop, List.length_take]; rfl)) ?_; (with_reducible refine (cmp_isNaN_int.calls a0 false _ A3.out).mono ?_); rintro e w' ⟨rfl, ⟨nd, rfl⟩⟩; refine ⟨_, rfl, ?_⟩) | ((with_reducible refine gate_callee (f := 115) rfl ?_); refine goesL_ (some 10) rfl rfl Tryz.func115 (by kernel_rfl) rfl #[.int .i64 a1] rfl (by (try simp only [List.map_toArray, List.map_cons, List.map_nil]); first | done | rfl | (simp only [List.length_drop, List.length_take]; rfl)) ?_; (with_reducible refine (cmp_isNaN_int.calls a1 false _ A4.out).mono ?_); rintro e w' ⟨rfl, ⟨nd, rfl⟩⟩; refine ⟨_, rfl, ?_⟩))
          go_ret
          exact ⟨by first | rfl | (simp; done) | (simp [*]; done), by repeat (first | exact Drawn0.refl _ | apply Drawn0.step)⟩
        · rw [if_neg c9] at H
          have c9b0 : decide (a1 < a0) = false := decide_eq_false c9
          clear c9
          obtain rfl := Option.some.inj H
          go_enter Tryz.func76, Tryz.ntmps76
          go_wp2_with (first | ((with_reducible refine gate_callee (f := 115) rfl ?_); refine goesL_ (some 8) rfl rfl Tryz.func115 (by kernel_rfl) rfl #[.int .i64 a0] rfl (by (try simp only [List.map_toArray, List.map_cons, List.map_nil]); first | done | rfl | (simp only [List.length_drop, List.length_take]; rfl)) ?_; (with_reducible refine (cmp_isNaN_int.calls a0 false _ A3.out).mono ?_); rintro e w' ⟨rfl, ⟨nd, rfl⟩⟩; refine ⟨_, rfl, ?_⟩) | ((with_reducible refine gate_callee (f := 115) rfl ?_); refine goesL_ (some 10) rfl rfl Tryz.func115 (by kernel_rfl) rfl #[.int .i64 a1] rfl (by (try simp only [List.map_toArray, List.map_cons, List.map_nil]); first | done | rfl | (simp only [List.length_drop, List.length_take]; rfl)) ?_; (with_reducible refine (cmp_isNaN_int.calls a1 false _ A4.out).mono ?_); rintro e w' ⟨rfl, ⟨nd, rfl⟩⟩; refine ⟨_, rfl, ?_⟩))
          go_ret
          exact ⟨by first | rfl | (simp; done) | (simp [*]; done), by repeat (first | exact Drawn0.refl _ | apply Drawn0.step)⟩

end Go.Proofs.YtlcfpmdamehopaaGreatDoor.PA
-- Printed by gprint.py (wip/ of this repo), over the kit's print.
namespace Go.Proofs.YtlcfpmdamehopaaGreatDoor.PA
open Go.RowKit Go.Proofs.YtlcfpmdamehopaaGreatDoorW.PrintWords Go.Proofs.YtlcfpmdamehopaaGreatDoorW.PrintLast Go.Proofs.YtlcfpmdamehopaaGreatDoorW.PrintMore
attribute [local go_sem] max2_int min2_int max_two min_two max_three min_three max_four min_four   -- for this text's walks alone
set_option linter.unusedVariables false
set_option linter.unusedSimpArgs false

/-! ### clause_variable: function 49 -/
def clause_variable.f (a0 : Int) (a1 : Int) : Option (Int) := if a0 < 0 then (if (wrap64 (-a0)) < 1 then (some 0) else (if (wrap64 (-a0)) > a1 then (some 0) else (some (wrap64 (-a0))))) else (if a0 < 1 then (some 0) else (if a0 > a1 then (some 0) else (some a0)))
set_option maxHeartbeats 8000000 in
set_option maxRecDepth 100000 in
theorem clause_variable.calls (a0 : Int) (a1 : Int) (r : Int) (w : World) (h : clause_variable.f a0 a1 = some r) :
    Calls Tryz.prog 49 #[.int .i64 a0, .int .i64 a1] w fun e w' => e = .returned (.int .i64 r) ∧ Drawn0 w w' := by
  have H : (if a0 < 0 then (if (wrap64 (-a0)) < 1 then (some 0) else (if (wrap64 (-a0)) > a1 then (some 0) else (some (wrap64 (-a0))))) else (if a0 < 1 then (some 0) else (if a0 > a1 then (some 0) else (some a0)))) = some r := h
  clear h
  by_cases c3 : a0 < 0
  · rw [if_pos c3] at H
    have c3b0 : decide (a0 < 0) = true := decide_eq_true c3
    clear c3
    by_cases c4 : (wrap64 (-a0)) < 1
    · rw [if_pos c4] at H
      have c4b0 : decide ((wrap64 (-a0)) < 1) = true := decide_eq_true c4
      clear c4
      obtain rfl := Option.some.inj H
      go_enter Tryz.func49, Tryz.ntmps49
      go_wp2
      go_ret
      exact ⟨by first | rfl | (simp; done) | (simp [*]; done), by repeat (first | exact Drawn0.refl _ | apply Drawn0.step)⟩
    · rw [if_neg c4] at H
      have c4b0 : decide ((wrap64 (-a0)) < 1) = false := decide_eq_false c4
      clear c4
      by_cases c5 : (wrap64 (-a0)) > a1
      · rw [if_pos c5] at H
        have c5b0 : decide (a1 < (wrap64 (-a0))) = true := decide_eq_true c5
        clear c5
        obtain rfl := Option.some.inj H
        go_enter Tryz.func49, Tryz.ntmps49
        go_wp2
        go_ret
        exact ⟨by first | rfl | (simp; done) | (simp [*]; done), by repeat (first | exact Drawn0.refl _ | apply Drawn0.step)⟩
      · rw [if_neg c5] at H
        have c5b0 : decide (a1 < (wrap64 (-a0))) = false := decide_eq_false c5
        clear c5
        obtain rfl := Option.some.inj H
        go_enter Tryz.func49, Tryz.ntmps49
        go_wp2
        go_ret
        exact ⟨by first | rfl | (simp; done) | (simp [*]; done), by repeat (first | exact Drawn0.refl _ | apply Drawn0.step)⟩
  · rw [if_neg c3] at H
    have c3b0 : decide (a0 < 0) = false := decide_eq_false c3
    clear c3
    by_cases c6 : a0 < 1
    · rw [if_pos c6] at H
      have c6b0 : decide (a0 < 1) = true := decide_eq_true c6
      clear c6
      obtain rfl := Option.some.inj H
      go_enter Tryz.func49, Tryz.ntmps49
      go_wp2
      go_ret
      exact ⟨by first | rfl | (simp; done) | (simp [*]; done), by repeat (first | exact Drawn0.refl _ | apply Drawn0.step)⟩
    · rw [if_neg c6] at H
      have c6b0 : decide (a0 < 1) = false := decide_eq_false c6
      clear c6
      by_cases c7 : a0 > a1
      · rw [if_pos c7] at H
        have c7b0 : decide (a1 < a0) = true := decide_eq_true c7
        clear c7
        obtain rfl := Option.some.inj H
        go_enter Tryz.func49, Tryz.ntmps49
        go_wp2
        go_ret
        exact ⟨by first | rfl | (simp; done) | (simp [*]; done), by repeat (first | exact Drawn0.refl _ | apply Drawn0.step)⟩
      · rw [if_neg c7] at H
        have c7b0 : decide (a1 < a0) = false := decide_eq_false c7
        clear c7
        obtain rfl := Option.some.inj H
        go_enter Tryz.func49, Tryz.ntmps49
        go_wp2
        go_ret
        exact ⟨by first | rfl | (simp; done) | (simp [*]; done), by repeat (first | exact Drawn0.refl _ | apply Drawn0.step)⟩

/-! ### clause_lit: function 116 -/
def clause_lit.f (a0 : Int) (l1 : List Int) : Option (Int) := (clause_variable.f a0 (l1.length : Int)).bind fun t293 => (if t293 = 0 then (some 0) else (if 0 ≤ (wrap64 (t293 - 1)) then (if (wrap64 (t293 - 1)) < (l1.length : Int) then ((cmp_Compare_int.f (rd l1 (wrap64 (t293 - 1))) 0).bind fun t295 => (if a0 < 0 then (some (wrap64 (-t295))) else (some t295))) else (none)) else (none)))
set_option maxHeartbeats 8000000 in
set_option maxRecDepth 100000 in
theorem clause_lit.calls (a0 : Int) (A1 : Option Addr) (c1 : Nat) (l1 : List Int) (r : Int) (w : World) (hr1 : Kd.C (Kd.int .i64) w A1 l1.length l1) (hc1 : l1.length ≤ c1) (h : clause_lit.f a0 l1 = some r) :
    Calls Tryz.prog 116 #[.int .i64 a0, .slice A1 l1.length c1] w fun e w' => e = .returned (.int .i64 r) ∧ Drawn0 w w' := by
  have HR1 := Aside0.mk hr1
  have HC1 := Aside0.mk hc1
  clear hr1 hc1
  have H : ((clause_variable.f a0 (l1.length : Int)).bind fun t293 => (if t293 = 0 then (some 0) else (if 0 ≤ (wrap64 (t293 - 1)) then (if (wrap64 (t293 - 1)) < (l1.length : Int) then ((cmp_Compare_int.f (rd l1 (wrap64 (t293 - 1))) 0).bind fun t295 => (if a0 < 0 then (some (wrap64 (-t295))) else (some t295))) else (none)) else (none)))) = some r := h
  clear h
  replace H := Option.bind_eq_some_iff.mp H
  obtain ⟨t293, A30, H⟩ := H
  replace H : (if t293 = 0 then (some 0) else (if 0 ≤ (wrap64 (t293 - 1)) then (if (wrap64 (t293 - 1)) < (l1.length : Int) then ((cmp_Compare_int.f (rd l1 (wrap64 (t293 - 1))) 0).bind fun t295 => (if a0 < 0 then (some (wrap64 (-t295))) else (some t295))) else (none)) else (none))) = some r := H
  have A3 := Aside0.mk A30
  clear A30
  by_cases c4 : t293 = 0
  · rw [if_pos c4] at H
    have c4b0 : (t293 == 0) = true := beq_iff_eq.mpr c4
    have c4b1 : (t293 != 0) = false := bne_eq_false_iff_eq.mpr c4
    clear c4
    obtain rfl := Option.some.inj H
    go_enter Tryz.func116, Tryz.ntmps116
    go_wp2_with (first | ((with_reducible refine gate_callee (f := 49) rfl ?_); refine goesL_ (some 10) rfl rfl Tryz.func49 (by kernel_rfl) rfl #[.int .i64 a0, .int .i64 (l1.length : Int)] rfl (by (try simp only [List.map_toArray, List.map_cons, List.map_nil]); first | done | rfl | (simp only [List.length_drop, List.length_take]; rfl)) ?_; (with_reducible refine (clause_variable.calls a0 (l1.length : Int) t293 _ A3.out).mono ?_); rintro e w' ⟨rfl, ⟨nd, rfl⟩⟩; refine ⟨_, rfl, ?_⟩))
    go_ret
    exact ⟨by first | rfl | (simp; done) | (simp [*]; done), by repeat (first | exact Drawn0.refl _ | apply Drawn0.step)⟩
  · rw [if_neg c4] at H
    have c4b0 : (t293 == 0) = false := beq_eq_false_iff_ne.mpr c4
    have c4b1 : (t293 != 0) = true := bne_iff_ne.mpr c4
    obtain ⟨ji5, hji5⟩ : ∃ j_ : Int, (wrap64 (t293 - 1)) = j_ := ⟨_, rfl⟩
    replace H : (if 0 ≤ (ji5) then (if (ji5) < (l1.length : Int) then ((cmp_Compare_int.f (rd l1 (ji5)) 0).bind fun t295 => (if a0 < 0 then (some (wrap64 (-t295))) else (some t295))) else (none)) else (none)) = some r := by first | (rw [hji5] at H; exact H) | (simp only [hji5] at H ⊢; exact H)
    (try rw [hji5] at A3)
    have hji5w : (IntKind.i64.wrap (t293 - 1)) = ji5 := (i64_w _).trans hji5
    by_cases c6 : 0 ≤ (ji5)
    · rw [if_pos c6] at H
      have c6b0 : decide (0 ≤ (ji5)) = true := decide_eq_true c6
      clear c6
      by_cases c7 : (ji5) < (l1.length : Int)
      · rw [if_pos c7] at H
        have c7b0 : decide ((ji5) < (l1.length : Int)) = true := decide_eq_true c7
        clear c7
        replace H := Option.bind_eq_some_iff.mp H
        obtain ⟨t295, A80, H⟩ := H
        replace H : (if a0 < 0 then (some (wrap64 (-t295))) else (some t295)) = some r := H
        have A8 := Aside0.mk A80
        clear A80
        by_cases c9 : a0 < 0
        · rw [if_pos c9] at H
          have c9b0 : decide (a0 < 0) = true := decide_eq_true c9
          clear c9
          obtain rfl := Option.some.inj H
          go_enter Tryz.func116, Tryz.ntmps116
          go_wp2_with (first | ((with_reducible refine gate_callee (f := 49) rfl ?_); refine goesL_ (some 10) rfl rfl Tryz.func49 (by kernel_rfl) rfl #[.int .i64 a0, .int .i64 (l1.length : Int)] rfl (by (try simp only [List.map_toArray, List.map_cons, List.map_nil]); first | done | rfl | (simp only [List.length_drop, List.length_take]; rfl)) ?_; (with_reducible refine (clause_variable.calls a0 (l1.length : Int) t293 _ A3.out).mono ?_); rintro e w' ⟨rfl, ⟨nd, rfl⟩⟩; refine ⟨_, rfl, ?_⟩; have p294 : 0 ≤ ((ji5) : Int) := of_decide_eq_true (by first | (with_reducible assumption) | assumption); have q294 : (ji5) < (l1.length : Int) := of_decide_eq_true (by first | (with_reducible assumption) | assumption); obtain ⟨ad294, e294, hx294_0⟩ := Kd.at_int HR1.out (ji5) p294 q294; cases e294; replace p294 := eq_true p294; replace q294 := eq_true q294) | ((with_reducible refine gate_callee (f := 76) rfl ?_); refine goesL_ (some 18) rfl rfl Tryz.func76 (by kernel_rfl) rfl #[.int .i64 (rd l1 (ji5)), .int .i64 0] rfl (by (try simp only [List.map_toArray, List.map_cons, List.map_nil]); first | done | (simp only [hji5]; rfl) | rfl | (simp only [List.length_drop, List.length_take]; rfl)) ?_; (with_reducible refine (cmp_Compare_int.calls (rd l1 (ji5)) 0 t295 _ A8.out).mono ?_); rintro e w' ⟨rfl, ⟨nd, rfl⟩⟩; refine ⟨_, rfl, ?_⟩))
          go_ret
          exact ⟨by first | rfl | (simp; done) | (simp only [← hji5] <;> (first | rfl | simp)) | (simp [*]; done), by repeat (first | exact Drawn0.refl _ | apply Drawn0.step)⟩
        · rw [if_neg c9] at H
          have c9b0 : decide (a0 < 0) = false := decide_eq_false c9
          clear c9
          obtain rfl := Option.some.inj H
          go_enter Tryz.func116, Tryz.ntmps116
          go_wp2_with (first | ((with_reducible refine gate_callee (f := 49) rfl ?_); refine goesL_ (some 10) rfl rfl Tryz.func49 (by kernel_rfl) rfl #[.int .i64 a0, .int .i64 (l1.length : Int)] rfl (by (try simp only [List.map_toArray, List.map_cons, List.map_nil]); first | done | rfl | (simp only [List.length_drop, List.length_take]; rfl)) ?_; (with_reducible refine (clause_variable.calls a0 (l1.length : Int) t293 _ A3.out).mono ?_); rintro e w' ⟨rfl, ⟨nd, rfl⟩⟩; refine ⟨_, rfl, ?_⟩; have p294 : 0 ≤ ((ji5) : Int) := of_decide_eq_true (by first | (with_reducible assumption) | assumption); have q294 : (ji5) < (l1.length : Int) := of_decide_eq_true (by first | (with_reducible assumption) | assumption); obtain ⟨ad294, e294, hx294_0⟩ := Kd.at_int HR1.out (ji5) p294 q294; cases e294; replace p294 := eq_true p294; replace q294 := eq_true q294) | ((with_reducible refine gate_callee (f := 76) rfl ?_); refine goesL_ (some 18) rfl rfl Tryz.func76 (by kernel_rfl) rfl #[.int .i64 (rd l1 (ji5)), .int .i64 0] rfl (by (try simp only [List.map_toArray, List.map_cons, List.map_nil]); first | done | (simp only [hji5]; rfl) | rfl | (simp only [List.length_drop, List.length_take]; rfl)) ?_; (with_reducible refine (cmp_Compare_int.calls (rd l1 (ji5)) 0 t295 _ A8.out).mono ?_); rintro e w' ⟨rfl, ⟨nd, rfl⟩⟩; refine ⟨_, rfl, ?_⟩))
          go_ret
          exact ⟨by first | rfl | (simp; done) | (simp only [← hji5] <;> (first | rfl | simp)) | (simp [*]; done), by repeat (first | exact Drawn0.refl _ | apply Drawn0.step)⟩
      · rw [if_neg c7] at H
        exact absurd H (by simp)
    · rw [if_neg c6] at H
      exact absurd H (by simp)

/-! ### clause_set: function 78 -/
theorem Calls_at14479_ {P : Program} {f : Nat} {args : Array Value} {wI : World} {Q : Ending → World → Prop} (h : ∀ w, w = wI → Calls P f args w Q) : Calls P f args wI Q := h wI rfl
def clause_set.f (l0 : List Int) (a1 : Int) : Option (Bool × List Int) := (clause_variable.f a1 (l0.length : Int)).bind fun t296 => (if t296 = 0 then (some (false, l0)) else ((clause_lit.f a1 l0).bind fun t297 => (if t297 < 0 then (some (false, l0)) else ((cmp_Compare_int.f a1 0).bind fun t298 => (if 0 ≤ (wrap64 (t296 - 1)) then (if (wrap64 (t296 - 1)) < (l0.length : Int) then (some (true, (l0.set ((wrap64 (t296 - 1)) : Int).toNat t298))) else (none)) else (none))))))
set_option maxHeartbeats 8000000 in
set_option maxRecDepth 100000 in
theorem clause_set.calls (P0_ : Nat → Prop) (u9000_ : Value) (l0 : List Int) (a1 : Int) (r1 : Bool) (r2 : List Int) (w0 wI : World) (hB : Below w0.heap.size w0 wI) (ho0 : Kd.R (Kd.int .i64) 3 wI w0.heap.size P0_ u9000_ l0) (h : clause_set.f l0 a1 = some (r1, r2)) :
    Calls Tryz.prog 78 #[u9000_, .int .i64 a1] wI fun e w' => e = .returned (.bool r1) ∧ Kd.R (Kd.int .i64) 3 w' w0.heap.size (fun k_ => (P0_ k_ ∨ wI.heap.size ≤ k_)) u9000_ r2 ∧ Below w0.heap.size w0 w' ∧ Kept wI w' (fun k_ => P0_ k_) := by
  have HO0 := Aside0.mk (show Kd.R (Kd.int .i64) 3 wI w0.heap.size (fun k_ => (P0_ k_ ∨ wI.heap.size ≤ k_)) u9000_ l0 from Kd.R_mono ho0 (fun k_ hk => (.inl hk)))
  have HK := Aside0.mk (Kept.refl wI (fun k_ => P0_ k_))
  have HW0 := Aside0.mk hB.size
  have HB := Aside0.mk hB
  clear hB
  have H : ((clause_variable.f a1 (l0.length : Int)).bind fun t296 => (if t296 = 0 then (some (false, l0)) else ((clause_lit.f a1 l0).bind fun t297 => (if t297 < 0 then (some (false, l0)) else ((cmp_Compare_int.f a1 0).bind fun t298 => (if 0 ≤ (wrap64 (t296 - 1)) then (if (wrap64 (t296 - 1)) < (l0.length : Int) then (some (true, (l0.set ((wrap64 (t296 - 1)) : Int).toNat t298))) else (none)) else (none))))))) = some (r1, r2) := h
  clear h
  refine Calls_at14479_ ?_
  intro w hw_
  have n_ : Aside0 (Kd.R (Kd.int .i64) 3 w w0.heap.size (fun k_ => (P0_ k_ ∨ wI.heap.size ≤ k_)) u9000_ l0) := by rw [hw_]; exact HO0
  clear HO0
  have HO0 := n_
  clear n_
  have n_ : Aside0 (Kept wI w (fun k_ => P0_ k_)) := by rw [hw_]; exact HK
  clear HK
  have HK := n_
  clear n_
  have n_ : Aside0 (Below w0.heap.size w0 w) := by rw [hw_]; exact HB
  clear HB
  have HB := n_
  clear n_
  clear hw_ ho0
  replace H := Option.bind_eq_some_iff.mp H
  obtain ⟨t296, A30, H⟩ := H
  replace H : (if t296 = 0 then (some (false, l0)) else ((clause_lit.f a1 l0).bind fun t297 => (if t297 < 0 then (some (false, l0)) else ((cmp_Compare_int.f a1 0).bind fun t298 => (if 0 ≤ (wrap64 (t296 - 1)) then (if (wrap64 (t296 - 1)) < (l0.length : Int) then (some (true, (l0.set ((wrap64 (t296 - 1)) : Int).toNat t298))) else (none)) else (none)))))) = some (r1, r2) := H
  have A3 := Aside0.mk A30
  clear A30
  by_cases c4 : t296 = 0
  · rw [if_pos c4] at H
    have c4b0 : (t296 == 0) = true := beq_iff_eq.mpr c4
    have c4b1 : (t296 != 0) = false := bne_eq_false_iff_eq.mpr c4
    clear c4
    simp only [Option.some.injEq, Prod.mk.injEq] at H
    obtain ⟨rfl, rfl⟩ := H
    obtain ⟨Ao5, co5, eo5⟩ := Kd.R_slice HO0.out
    subst eo5
    go_enter Tryz.func78, Tryz.ntmps78
    go_wp2_with (first | ((with_reducible refine gate_callee (f := 49) rfl ?_); refine goesL_ (some 9) rfl rfl Tryz.func49 (by kernel_rfl) rfl #[.int .i64 a1, .int .i64 (l0.length : Int)] rfl (by (try simp only [List.map_toArray, List.map_cons, List.map_nil]); first | done | rfl | (simp only [List.length_drop, List.length_take]; rfl)) ?_; (with_reducible refine (clause_variable.calls a1 (l0.length : Int) t296 _ A3.out).mono ?_); rintro e w' ⟨rfl, ⟨nd, rfl⟩⟩; refine ⟨_, rfl, ?_⟩))
    go_ret
    exact ⟨by first | rfl | (simp [errW_none, errW_some] <;> rfl) | (simp [*, errW_none, errW_some] <;> rfl), by (with_reducible repeat (first | apply Kd.R_alloc | apply Kd.R_drewN | apply Kd.R_drew)); exact HO0.out, by repeat (first | (with_reducible first | exact HB.out | apply below_alloc | apply pw_below_drewN | apply below_drew1) | exact HB.out), by repeat (first | (with_reducible first | exact HK.out | apply Kept.alloc | apply Kept.drewN | apply Kept.drew) | exact HK.out)⟩
  · rw [if_neg c4] at H
    have c4b0 : (t296 == 0) = false := beq_eq_false_iff_ne.mpr c4
    have c4b1 : (t296 != 0) = true := bne_iff_ne.mpr c4
    replace H := Option.bind_eq_some_iff.mp H
    obtain ⟨t297, A60, H⟩ := H
    replace H : (if t297 < 0 then (some (false, l0)) else ((cmp_Compare_int.f a1 0).bind fun t298 => (if 0 ≤ (wrap64 (t296 - 1)) then (if (wrap64 (t296 - 1)) < (l0.length : Int) then (some (true, (l0.set ((wrap64 (t296 - 1)) : Int).toNat t298))) else (none)) else (none)))) = some (r1, r2) := H
    have A6 := Aside0.mk A60
    clear A60
    by_cases c7 : t297 < 0
    · rw [if_pos c7] at H
      have c7b0 : decide (t297 < 0) = true := decide_eq_true c7
      clear c7
      simp only [Option.some.injEq, Prod.mk.injEq] at H
      obtain ⟨rfl, rfl⟩ := H
      obtain ⟨Ao8, co8, eo8⟩ := Kd.R_slice HO0.out
      subst eo8
      go_enter Tryz.func78, Tryz.ntmps78
      go_wp2_with (first | ((with_reducible refine gate_callee (f := 49) rfl ?_); refine goesL_ (some 9) rfl rfl Tryz.func49 (by kernel_rfl) rfl #[.int .i64 a1, .int .i64 (l0.length : Int)] rfl (by (try simp only [List.map_toArray, List.map_cons, List.map_nil]); first | done | rfl | (simp only [List.length_drop, List.length_take]; rfl)) ?_; (with_reducible refine (clause_variable.calls a1 (l0.length : Int) t296 _ A3.out).mono ?_); rintro e w' ⟨rfl, ⟨nd, rfl⟩⟩; refine ⟨_, rfl, ?_⟩) | (go_at_call 116; (with_reducible refine (clause_lit.calls a1 _ _ l0 t297 _ ?side1 ?side2 A6.out).mono ?_); (case side1 => repeat (first | exact (Kd.R_reads' HO0.out).2.2 | (with_reducible refine Kd.C_alloc ?_ _) | (with_reducible refine Kd.C_drewN ?_ _) | (with_reducible refine Kd.C_drew ?_))); (case side2 => exact (Kd.R_reads' HO0.out).2.1); rintro e w' ⟨rfl, ⟨nd, rfl⟩⟩))
      go_ret
      exact ⟨by first | rfl | (simp [errW_none, errW_some] <;> rfl) | (simp [*, errW_none, errW_some] <;> rfl), by (with_reducible repeat (first | apply Kd.R_alloc | apply Kd.R_drewN | apply Kd.R_drew)); exact HO0.out, by repeat (first | (with_reducible first | exact HB.out | apply below_alloc | apply pw_below_drewN | apply below_drew1) | exact HB.out), by repeat (first | (with_reducible first | exact HK.out | apply Kept.alloc | apply Kept.drewN | apply Kept.drew) | exact HK.out)⟩
    · rw [if_neg c7] at H
      have c7b0 : decide (t297 < 0) = false := decide_eq_false c7
      clear c7
      replace H := Option.bind_eq_some_iff.mp H
      obtain ⟨t298, A90, H⟩ := H
      replace H : (if 0 ≤ (wrap64 (t296 - 1)) then (if (wrap64 (t296 - 1)) < (l0.length : Int) then (some (true, (l0.set ((wrap64 (t296 - 1)) : Int).toNat t298))) else (none)) else (none)) = some (r1, r2) := H
      have A9 := Aside0.mk A90
      clear A90
      obtain ⟨ji10, hji10⟩ : ∃ j_ : Int, (wrap64 (t296 - 1)) = j_ := ⟨_, rfl⟩
      replace H : (if 0 ≤ (ji10) then (if (ji10) < (l0.length : Int) then (some (true, (l0.set ((ji10) : Int).toNat t298))) else (none)) else (none)) = some (r1, r2) := by first | (rw [hji10] at H; exact H) | (simp only [hji10] at H ⊢; exact H)
      (try rw [hji10] at A3)
      (try rw [hji10] at A6)
      (try rw [hji10] at A9)
      have hji10w : (IntKind.i64.wrap (t296 - 1)) = ji10 := (i64_w _).trans hji10
      by_cases c11 : 0 ≤ (ji10)
      · rw [if_pos c11] at H
        have c11b0 : decide (0 ≤ (ji10)) = true := decide_eq_true c11
        clear c11
        by_cases c12 : (ji10) < (l0.length : Int)
        · rw [if_pos c12] at H
          have c12b0 : decide ((ji10) < (l0.length : Int)) = true := decide_eq_true c12
          clear c12
          obtain ⟨y299, hy299⟩ : ∃ y_ : List Int, y_ = (l0.set ((ji10) : Int).toNat t298) := ⟨_, rfl⟩
          replace H : (some (true, y299)) = some (r1, r2) := by first | (rw [hy299]; with_reducible exact H) | (have H2_ := (Option.bind_some _ _).symm.trans H; rw [hy299]; with_reducible exact H2_) | (have H2_ := (Option.bind_some _ _).symm.trans H; with_reducible exact H2_) | with_reducible exact H | (rw [hy299]; exact H) | exact H
          have Ny299 := Aside0.mk hy299
          clear hy299
          simp only [Option.some.injEq, Prod.mk.injEq] at H
          obtain ⟨rfl, rfl⟩ := H
          obtain ⟨Ao14, co14, eo14⟩ := Kd.R_slice HO0.out
          subst eo14
          go_enter Tryz.func78, Tryz.ntmps78
          go_wp2_with (first | ((with_reducible refine gate_callee (f := 49) rfl ?_); refine goesL_ (some 9) rfl rfl Tryz.func49 (by kernel_rfl) rfl #[.int .i64 a1, .int .i64 (l0.length : Int)] rfl (by (try simp only [List.map_toArray, List.map_cons, List.map_nil]); first | done | rfl | (simp only [List.length_drop, List.length_take]; rfl)) ?_; (with_reducible refine (clause_variable.calls a1 (l0.length : Int) t296 _ A3.out).mono ?_); rintro e w' ⟨rfl, ⟨nd, rfl⟩⟩; refine ⟨_, rfl, ?_⟩; (try (rw [drewN_self w]; generalize hq_ : World.drewN w _ = w; have n0_ : Aside0 (Kd.R (Kd.int .i64) 3 w w0.heap.size (fun k_ => (P0_ k_ ∨ wI.heap.size ≤ k_)) (.slice Ao14 l0.length co14) l0) := ⟨by rw [← hq_]; exact (by (with_reducible repeat (first | apply Kd.R_alloc | apply Kd.R_drewN | apply Kd.R_drew)); exact HO0.out)⟩; have n1_ : Aside0 (Kept wI w (fun k_ => P0_ k_)) := ⟨by rw [← hq_]; exact (by repeat (first | (with_reducible first | exact HK.out | apply Kept.alloc | apply Kept.drewN | apply Kept.drew) | exact HK.out))⟩; have n2_ : Aside0 (Below w0.heap.size w0 w) := ⟨by rw [← hq_]; exact (by repeat (first | (with_reducible first | exact HB.out | apply below_alloc | apply pw_below_drewN | apply below_drew1) | exact HB.out))⟩; clear HO0 HK HB hq_; have HO0 := n0_; have HK := n1_; have HB := n2_; clear n0_ n1_ n2_))) | (go_at_call 116; (with_reducible refine (clause_lit.calls a1 _ _ l0 t297 _ ?side1 ?side2 A6.out).mono ?_); (case side1 => repeat (first | exact (Kd.R_reads' HO0.out).2.2 | (with_reducible refine Kd.C_alloc ?_ _) | (with_reducible refine Kd.C_drewN ?_ _) | (with_reducible refine Kd.C_drew ?_))); (case side2 => exact (Kd.R_reads' HO0.out).2.1); rintro e w' ⟨rfl, ⟨nd, rfl⟩⟩; (try (rw [drewN_self w]; generalize hq_ : World.drewN w _ = w; have n0_ : Aside0 (Kd.R (Kd.int .i64) 3 w w0.heap.size (fun k_ => (P0_ k_ ∨ wI.heap.size ≤ k_)) (.slice Ao14 l0.length co14) l0) := ⟨by rw [← hq_]; exact (by (with_reducible repeat (first | apply Kd.R_alloc | apply Kd.R_drewN | apply Kd.R_drew)); exact HO0.out)⟩; have n1_ : Aside0 (Kept wI w (fun k_ => P0_ k_)) := ⟨by rw [← hq_]; exact (by repeat (first | (with_reducible first | exact HK.out | apply Kept.alloc | apply Kept.drewN | apply Kept.drew) | exact HK.out))⟩; have n2_ : Aside0 (Below w0.heap.size w0 w) := ⟨by rw [← hq_]; exact (by repeat (first | (with_reducible first | exact HB.out | apply below_alloc | apply pw_below_drewN | apply below_drew1) | exact HB.out))⟩; clear HO0 HK HB hq_; have HO0 := n0_; have HK := n1_; have HB := n2_; clear n0_ n1_ n2_))) | ((with_reducible refine gate_callee (f := 76) rfl ?_); refine goesL_ (some 22) rfl rfl Tryz.func76 (by kernel_rfl) rfl #[.int .i64 a1, .int .i64 0] rfl (by (try simp only [List.map_toArray, List.map_cons, List.map_nil]); first | done | rfl | (simp only [List.length_drop, List.length_take]; rfl)) ?_; (with_reducible refine (cmp_Compare_int.calls a1 0 t298 _ A9.out).mono ?_); rintro e w' ⟨rfl, ⟨nd, rfl⟩⟩; refine ⟨_, rfl, ?_⟩; (try (rw [drewN_self w]; generalize hq_ : World.drewN w _ = w; have n0_ : Aside0 (Kd.R (Kd.int .i64) 3 w w0.heap.size (fun k_ => (P0_ k_ ∨ wI.heap.size ≤ k_)) (.slice Ao14 l0.length co14) l0) := ⟨by rw [← hq_]; exact (by (with_reducible repeat (first | apply Kd.R_alloc | apply Kd.R_drewN | apply Kd.R_drew)); exact HO0.out)⟩; have n1_ : Aside0 (Kept wI w (fun k_ => P0_ k_)) := ⟨by rw [← hq_]; exact (by repeat (first | (with_reducible first | exact HK.out | apply Kept.alloc | apply Kept.drewN | apply Kept.drew) | exact HK.out))⟩; have n2_ : Aside0 (Below w0.heap.size w0 w) := ⟨by rw [← hq_]; exact (by repeat (first | (with_reducible first | exact HB.out | apply below_alloc | apply pw_below_drewN | apply below_drew1) | exact HB.out))⟩; clear HO0 HK HB hq_; have HO0 := n0_; have HK := n1_; have HB := n2_; clear n0_ n1_ n2_)); have p13 : 0 ≤ ((ji10) : Int) := of_decide_eq_true (by first | (with_reducible assumption) | assumption); have q13 : ((ji10) : Int) < ((l0.length : Int) : Int) := of_decide_eq_true (by first | (with_reducible assumption) | assumption); obtain ⟨go13, co13, eo13, gb13, gl13, cl13, HG13⟩ := Kd.R_form HO0.out (by omega); (first | cases eo13 | (injection eo13 with ea_ en_ ec_; (first | subst ea_ | (injection ea_ with ea_; subst ea_)); subst ec_; clear en_)); have GB13 := Aside0.mk gb13; have GG13 := Aside0.mk HG13; clear gb13 gl13 HG13; have HMgo13 := Aside0.mk (show (P0_ go13 ∨ wI.heap.size ≤ go13) from (HO0.out.1 _ rfl)); obtain ⟨hx13_0, hf13_0⟩ := Kd.R_celln 0 HO0.out ((ji10) : Int) p13 q13; replace p13 := eq_true p13; replace q13 := eq_true q13; obtain ⟨hy15_, hz15_⟩ := Kd.R_celln 0 HO0.out ((ji10) : Int) (of_decide_eq_true (by first | (with_reducible assumption) | assumption)) (of_decide_eq_true (by first | (with_reducible assumption) | assumption)); have HP15 := Kd.R_putg HO0.out ((ji10) : Int) t298) | ((with_reducible refine gate_store (t := 3) (p := 23) rfl ?_); refine store_event (t := 3) (p := 23) (v := ?vo_w16) (w1 := (w.setCell ⟨go13, ((ji10) : Int).toNat, none⟩ (.int .i64 t298))) ?hg ?ho ?hn ?hr ?_; (case ho => rfl); (case hg => rfl); (case hn => rfl); (case hr => first | (go_simp; done) | (go_simp; rfl)); intro w16 hw; have hg : w.grownBy w16 (some go13) := (by rw [hw]; exact HP15.2); have hp_ : Kd.R (Kd.int .i64) 3 w16 w0.heap.size (fun k_ => (P0_ k_ ∨ wI.heap.size ≤ k_)) (.slice (some ⟨go13, 0, none⟩) l0.length co14) y299 := (by rw [hw, Ny299.out]; exact HP15.1); clear HP15; have n0_ := Aside0.mk (hp_); have n1_ := Aside0.mk ((by rw [hw]; exact below_set (HB.out) GB13.out : Below w0.heap.size w0 w16)); have n2_ := Aside0.mk (Kept.of_grown (S := (fun k_ => P0_ k_)) hg (by repeat (first | (with_reducible first | exact HK.out | apply Kept.alloc | apply Kept.drewN | apply Kept.drew) | exact HK.out)) (fun k_ e_ => (HO0.out.1 k_ e_))); clear HO0; clear HB; clear HK; have HO0 := n0_; have HB := n1_; have HK := n2_; clear n0_ n1_ n2_; clear hg hw hp_))
          go_ret
          exact ⟨by first | rfl | (simp [errW_none, errW_some] <;> rfl) | (simp only [← hji10]; first | rfl | (simp [errW_none, errW_some] <;> rfl)) | (simp [*, errW_none, errW_some] <;> rfl), by (with_reducible repeat (first | apply Kd.R_alloc | apply Kd.R_drewN | apply Kd.R_drew)); exact HO0.out, by repeat (first | (with_reducible first | exact HB.out | apply below_alloc | apply pw_below_drewN | apply below_drew1) | exact HB.out), by repeat (first | (with_reducible first | exact HK.out | apply Kept.alloc | apply Kept.drewN | apply Kept.drew) | exact HK.out)⟩
        · rw [if_neg c12] at H
          exact absurd H (by simp)
      · rw [if_neg c11] at H
        exact absurd H (by simp)

/-! ### clause_unit: function 79 -/
mutual
def clause_unit.l0 : Nat → List Int → Int → List Int → Int → Int → Option (Int)
  | 0, _, _, _, _, _ => none
  | k + 1, x1, x5, x9, x10, x11 => if x11 < x10 then (if 0 ≤ x11 then (if x11 < (x9.length : Int) then ((clause_lit.f (rd x9 x11) x1).bind fun t301 => (if t301 > 0 then (clause_unit.j1 k x1 x5 (rd x9 x11) t301 x9 x10 x11 true) else (if t301 = 0 then (if x5 = 0 then (clause_unit.j1 k x1 x5 (rd x9 x11) t301 x9 x10 x11 false) else (clause_unit.j1 k x1 x5 (rd x9 x11) t301 x9 x10 x11 (x5 != (rd x9 x11)))) else (clause_unit.j1 k x1 x5 (rd x9 x11) t301 x9 x10 x11 false)))) else (none)) else (none)) else (some x5)
def clause_unit.j1 : Nat → List Int → Int → Int → Int → List Int → Int → Int → Bool → Option (Int)
  | 0, _, _, _, _, _, _, _, _ => none
  | k + 1, x1, x5, x7, x8, x9, x10, x11, x18 => if x18 = true then (some 0) else (if x8 = 0 then (clause_unit.l0 k x1 x7 x9 x10 (wrap64 (x11 + 1))) else (clause_unit.l0 k x1 x5 x9 x10 (wrap64 (x11 + 1))))
end
def clause_unit.f (k : Nat) (l0 : List Int) (l1 : List Int) : Option (Int) := clause_unit.l0 k l1 0 l0 (l0.length : Int) 0
theorem clause_unit.mono_l : ∀ k, (∀ y0 y1 y2 y3 y4, LeO (clause_unit.l0 k y0 y1 y2 y3 y4) (clause_unit.l0 (k + 1) y0 y1 y2 y3 y4)) ∧ (∀ y0 y1 y2 y3 y4 y5 y6 y7, LeO (clause_unit.j1 k y0 y1 y2 y3 y4 y5 y6 y7) (clause_unit.j1 (k + 1) y0 y1 y2 y3 y4 y5 y6 y7))
  | 0 => ⟨fun _ _ _ _ _ r h => by simp [clause_unit.l0] at h, fun _ _ _ _ _ _ _ _ r h => by simp [clause_unit.j1] at h⟩
  | k + 1 => by
    obtain ⟨ih0, ih1⟩ := clause_unit.mono_l k
    refine ⟨?_, ?_⟩
    · intro y0 y1 y2 y3 y4
      unfold clause_unit.l0
      repeat' first
      | (with_reducible exact ih0 _ _ _ _ _)
      | (with_reducible exact ih1 _ _ _ _ _ _ _ _)
      | (with_reducible exact LeO.refl _)
      | (with_reducible exact LeO.none _)
      | (with_reducible refine LeO.ite ?_ ?_)
      | (with_reducible refine LeO.bind ?_ (fun _ => ?_))
      | exact ih0 _ _ _ _ _
      | exact ih1 _ _ _ _ _ _ _ _
      | exact LeO.none _
      | refine LeO.ite ?_ ?_
      | refine LeO.bind ?_ (fun _ => ?_)
    · intro y0 y1 y2 y3 y4 y5 y6 y7
      unfold clause_unit.j1
      repeat' first
      | (with_reducible exact ih0 _ _ _ _ _)
      | (with_reducible exact ih1 _ _ _ _ _ _ _ _)
      | (with_reducible exact LeO.refl _)
      | (with_reducible exact LeO.none _)
      | (with_reducible refine LeO.ite ?_ ?_)
      | (with_reducible refine LeO.bind ?_ (fun _ => ?_))
      | exact ih0 _ _ _ _ _
      | exact ih1 _ _ _ _ _ _ _ _
      | exact LeO.none _
      | refine LeO.ite ?_ ?_
      | refine LeO.bind ?_ (fun _ => ?_)
theorem clause_unit.mono : ∀ a0 a1 k, LeO (clause_unit.f k a0 a1) (clause_unit.f (k + 1) a0 a1) := by
  intro a0 a1 k
  obtain ⟨ih0, ih1⟩ := clause_unit.mono_l k
  unfold clause_unit.f
  repeat' first
      | (with_reducible exact ih0 _ _ _ _ _)
      | (with_reducible exact ih1 _ _ _ _ _ _ _ _)
      | (with_reducible exact LeO.refl _)
      | (with_reducible exact LeO.none _)
      | (with_reducible refine LeO.ite ?_ ?_)
      | (with_reducible refine LeO.bind ?_ (fun _ => ?_))
      | exact ih0 _ _ _ _ _
      | exact ih1 _ _ _ _ _ _ _ _
      | exact LeO.none _
      | refine LeO.ite ?_ ?_
      | refine LeO.bind ?_ (fun _ => ?_)
set_option maxHeartbeats 8000000 in
set_option maxRecDepth 100000 in
theorem clause_unit.calls (k : Nat) (A0 : Option Addr) (c0 : Nat) (l0 : List Int) (A1 : Option Addr) (c1 : Nat) (l1 : List Int) (r : Int) (w : World) (hr0 : Kd.C (Kd.int .i64) w A0 l0.length l0) (hc0 : l0.length ≤ c0) (hr1 : Kd.C (Kd.int .i64) w A1 l1.length l1) (hc1 : l1.length ≤ c1) (h : clause_unit.f k l0 l1 = some r) :
    Calls Tryz.prog 79 #[.slice A0 l0.length c0, .slice A1 l1.length c1] w fun e w' => e = .returned (.int .i64 r) ∧ Drawn0 w w' := by
  have HR0 := Aside0.mk hr0
  have HC0 := Aside0.mk hc0
  clear hr0 hc0
  have HR1 := Aside0.mk hr1
  have HC1 := Aside0.mk hc1
  clear hr1 hc1
  have H : (clause_unit.l0 k l1 0 l0 (l0.length : Int) 0) = some r := h
  clear h
  have H' := Aside0.mk H
  clear H
  go_enter Tryz.func79, Tryz.ntmps79
  go_wp2
  go_loopg [5, 11] k (fun kq v5 v11 w' => ∃ (x5_1 : Int) (x11_1 : Int), v5 = .int .i64 x5_1 ∧ v11 = .int .i64 x11_1 ∧ Aside0 (clause_unit.l0 kq l1 x5_1 l0 (l0.length : Int) x11_1 = some r) ∧ Aside0 (kq ≤ k) ∧ Drawn0 w w')
  case atStart => exact ⟨(0), (0), (by first | rfl | (simp; done) | (simp [*]; done)), (by first | rfl | (simp; done) | (simp [*]; done)), H', ⟨Nat.le_refl _⟩, by repeat (first | exact Drawn0.refl _ | apply Drawn0.step)⟩
  case round =>
    clear H'
    try clear c1
    try clear p2
    obtain ⟨x5_1, x11_1, rfl, rfl, HA, HK1, ⟨m1, rfl⟩⟩ := hrel
    cases gk with
    | zero => exact absurd HA.out (by simp [clause_unit.l0])
    | succ k1 =>
      have H := HA.out
      clear HA
      simp only [clause_unit.l0] at H
      by_cases c3 : x11_1 < (l0.length : Int)
      · rw [if_pos c3] at H
        have c3b0 : decide (x11_1 < (l0.length : Int)) = true := decide_eq_true c3
        clear c3
        by_cases c4 : 0 ≤ x11_1
        · rw [if_pos c4] at H
          have c4b0 : decide (0 ≤ x11_1) = true := decide_eq_true c4
          clear c4
          by_cases c5 : x11_1 < (l0.length : Int)
          · rw [if_pos c5] at H
            have c5b0 : decide (x11_1 < (l0.length : Int)) = true := decide_eq_true c5
            clear c5
            replace H := Option.bind_eq_some_iff.mp H
            obtain ⟨t301, A60, H⟩ := H
            replace H : (if t301 > 0 then (clause_unit.j1 k1 l1 x5_1 (rd l0 x11_1) t301 l0 (l0.length : Int) x11_1 true) else (if t301 = 0 then (if x5_1 = 0 then (clause_unit.j1 k1 l1 x5_1 (rd l0 x11_1) t301 l0 (l0.length : Int) x11_1 false) else (clause_unit.j1 k1 l1 x5_1 (rd l0 x11_1) t301 l0 (l0.length : Int) x11_1 (x5_1 != (rd l0 x11_1)))) else (clause_unit.j1 k1 l1 x5_1 (rd l0 x11_1) t301 l0 (l0.length : Int) x11_1 false))) = some r := H
            have A6 := Aside0.mk A60
            clear A60
            have HC7 := Aside0.mk H
            clear H
            have p300 : 0 ≤ (x11_1 : Int) := of_decide_eq_true (by first | (with_reducible assumption) | assumption)
            have q300 : x11_1 < (l0.length : Int) := of_decide_eq_true (by first | (with_reducible assumption) | assumption)
            obtain ⟨ad300, e300, hx300_0⟩ := Kd.at_int HR0.out x11_1 p300 q300
            cases e300
            replace p300 := eq_true p300
            replace q300 := eq_true q300
            go_upto_region 6 with (first | ((with_reducible refine gate_callee (f := 116) rfl ?_); refine goesL_ (some 17) rfl rfl Tryz.func116 (by kernel_rfl) rfl #[.int .i64 (rd l0 x11_1), .slice A1 l1.length c1] rfl (by (try simp only [List.map_toArray, List.map_cons, List.map_nil]); first | done | rfl | (simp only [List.length_drop, List.length_take]; rfl)) ?_; (with_reducible refine (clause_lit.calls (rd l0 x11_1) _ _ l1 t301 _ ?side1 ?side2 A6.out).mono ?_); (case side1 => repeat (first | exact HR1.out | (with_reducible refine Kd.C_alloc ?_ _) | (with_reducible refine Kd.C_drewN ?_ _) | (with_reducible refine Kd.C_drew ?_))); (case side2 => exact HC1.out); rintro e w' ⟨rfl, ⟨nd, rfl⟩⟩; refine ⟨_, rfl, ?_⟩))
            (try simp only [Act.put, List.setIfInBounds_toArray, List.set_cons_zero, List.set_cons_succ])
            go_cut [18] (fun v18 wc => ∃ (kq : Nat) (x18_6 : Bool), v18 = .bool x18_6 ∧ Aside0 (clause_unit.j1 kq l1 x5_1 (rd l0 x11_1) t301 l0 (l0.length : Int) x11_1 x18_6 = some r) ∧ Aside0 (kq ≤ k1) ∧ Drawn0 w wc)
            case first =>
              have H := HC7.out
              clear HC7
              by_cases c8 : t301 > 0
              · rw [if_pos c8] at H
                have c8b0 : decide (0 < t301) = true := decide_eq_true c8
                clear c8
                (first | rw [c8b0] | (simp only [i64_w, i32_w]; rw [c8b0]) | rw [c8b1] | skip)
                have H' := Aside0.mk H
                clear H
                go_wp2
                go_meet
                case rel => exact ⟨_, (true), (by first | rfl | (simp; done) | (simp [*]; done)), H', ⟨by have := HK1.out; first | omega | exact Nat.le_refl _⟩, by repeat (first | exact Drawn0.refl _ | apply Drawn0.step)⟩
              · rw [if_neg c8] at H
                have c8b0 : decide (0 < t301) = false := decide_eq_false c8
                clear c8
                (first | rw [c8b0] | (simp only [i64_w, i32_w]; rw [c8b0]) | rw [c8b1] | skip)
                by_cases c9 : t301 = 0
                · rw [if_pos c9] at H
                  have c9b0 : (t301 == 0) = true := beq_iff_eq.mpr c9
                  have c9b1 : (t301 != 0) = false := bne_eq_false_iff_eq.mpr c9
                  clear c9
                  by_cases c10 : x5_1 = 0
                  · rw [if_pos c10] at H
                    have c10b0 : (x5_1 == 0) = true := beq_iff_eq.mpr c10
                    have c10b1 : (x5_1 != 0) = false := bne_eq_false_iff_eq.mpr c10
                    clear c10
                    have H' := Aside0.mk H
                    clear H
                    go_wp2
                    go_meet
                    case rel => exact ⟨_, (false), (by first | rfl | (simp; done) | (simp [*]; done)), H', ⟨by have := HK1.out; first | omega | exact Nat.le_refl _⟩, by repeat (first | exact Drawn0.refl _ | apply Drawn0.step)⟩
                  · rw [if_neg c10] at H
                    have c10b0 : (x5_1 == 0) = false := beq_eq_false_iff_ne.mpr c10
                    have c10b1 : (x5_1 != 0) = true := bne_iff_ne.mpr c10
                    have H' := Aside0.mk H
                    clear H
                    go_wp2
                    go_meet
                    case rel => exact ⟨_, ((x5_1 != (rd l0 x11_1))), (by first | rfl | (simp; done) | (simp [*]; done)), H', ⟨by have := HK1.out; first | omega | exact Nat.le_refl _⟩, by repeat (first | exact Drawn0.refl _ | apply Drawn0.step)⟩
                · rw [if_neg c9] at H
                  have c9b0 : (t301 == 0) = false := beq_eq_false_iff_ne.mpr c9
                  have c9b1 : (t301 != 0) = true := bne_iff_ne.mpr c9
                  have H' := Aside0.mk H
                  clear H
                  go_wp2
                  go_meet
                  case rel => exact ⟨_, (false), (by first | rfl | (simp; done) | (simp [*]; done)), H', ⟨by have := HK1.out; first | omega | exact Nat.le_refl _⟩, by repeat (first | exact Drawn0.refl _ | apply Drawn0.step)⟩
            case rest =>
              clear HC7
              try clear c1
              try clear p2
              try clear c3
              try clear c3b0
              try clear p3
              try clear q3
              try clear hx3
              try clear c4
              try clear c4b0
              try clear c5
              try clear c5b0
              try clear c7
              try clear c8
              try clear c8b0
              try clear c8b1
              try clear c9
              try clear c9b0
              try clear c9b1
              try clear c10
              try clear c10b0
              try clear c10b1
              try clear hx300_0
              try clear p2
              try clear p300
              try clear q300
              obtain ⟨kq, x18_6, rfl, HA, HJ6, ⟨mc6, rfl⟩⟩ := hcut
              cases kq with
              | zero => exact absurd HA.out (by simp [clause_unit.j1])
              | succ kj6 =>
                have H := HA.out
                clear HA
                simp only [clause_unit.j1] at H
                by_cases c11 : x18_6 = true
                · subst c11
                  have H1 : (some 0) = some r := by rw [if_pos rfl] at H; exact H
                  clear H
                  have H := H1
                  clear H1
                  obtain rfl := Option.some.inj H
                  go_wp2
                  go_ret
                  exact ⟨by first | rfl | (simp; done) | (simp [*]; done), by repeat (first | exact Drawn0.refl _ | apply Drawn0.step)⟩
                · replace c11 := Bool.eq_false_iff.mpr c11
                  subst c11
                  have H1 : (if t301 = 0 then (clause_unit.l0 kj6 l1 (rd l0 x11_1) l0 (l0.length : Int) (wrap64 (x11_1 + 1))) else (clause_unit.l0 kj6 l1 x5_1 l0 (l0.length : Int) (wrap64 (x11_1 + 1)))) = some r := by rw [if_neg (show ¬ (false = true) by decide)] at H; exact H
                  clear H
                  have H := H1
                  clear H1
                  by_cases c12 : t301 = 0
                  · rw [if_pos c12] at H
                    have c12b0 : (t301 == 0) = true := beq_iff_eq.mpr c12
                    have c12b1 : (t301 != 0) = false := bne_eq_false_iff_eq.mpr c12
                    clear c12
                    have H' := Aside0.mk H
                    clear H
                    go_wp2
                    go_roundg kj6
                    case measure => have := HK1.out; have := HJ6.out; omega
                    case rel => exact ⟨((rd l0 x11_1)), (wrap64 (x11_1 + 1)), (by first | rfl | (simp; done) | (simp [*]; done)), (by first | rfl | (simp; done) | (simp [*]; done)), H', ⟨by have := HK1.out; have := HJ6.out; omega⟩, by repeat (first | exact Drawn0.refl _ | apply Drawn0.step)⟩
                  · rw [if_neg c12] at H
                    have c12b0 : (t301 == 0) = false := beq_eq_false_iff_ne.mpr c12
                    have c12b1 : (t301 != 0) = true := bne_iff_ne.mpr c12
                    have H' := Aside0.mk H
                    clear H
                    go_wp2
                    go_roundg kj6
                    case measure => have := HK1.out; have := HJ6.out; omega
                    case rel => exact ⟨(x5_1), (wrap64 (x11_1 + 1)), (by first | rfl | (simp; done) | (simp [*]; done)), (by first | rfl | (simp; done) | (simp [*]; done)), H', ⟨by have := HK1.out; have := HJ6.out; omega⟩, by repeat (first | exact Drawn0.refl _ | apply Drawn0.step)⟩
          · rw [if_neg c5] at H
            exact absurd H (by simp)
        · rw [if_neg c4] at H
          exact absurd H (by simp)
      · rw [if_neg c3] at H
        have c3b0 : decide (x11_1 < (l0.length : Int)) = false := decide_eq_false c3
        clear c3
        obtain rfl := Option.some.inj H
        go_wp2
        go_ret
        exact ⟨by first | rfl | (simp; done) | (simp [*]; done), by repeat (first | exact Drawn0.refl _ | apply Drawn0.step)⟩

/-! ### clause_Value: function 80 -/
def clause_Value.l0 : Nat → List Int → Int → List Int → Int → Int → Option (Int)
  | 0, _, _, _, _, _ => none
  | k + 1, x1, x5, x8, x9, x10 => if x10 < x9 then (if 0 ≤ x10 then (if x10 < (x8.length : Int) then ((clause_lit.f (rd x8 x10) x1).bind fun t303 => (clause_Value.l0 k x1 (mx x5 t303) x8 x9 (wrap64 (x10 + 1)))) else (none)) else (none)) else (some x5)
def clause_Value.f (k : Nat) (l0 : List Int) (l1 : List Int) : Option (Int) := clause_Value.l0 k l1 (-1) l0 (l0.length : Int) 0
theorem clause_Value.mono_l : ∀ k, (∀ y0 y1 y2 y3 y4, LeO (clause_Value.l0 k y0 y1 y2 y3 y4) (clause_Value.l0 (k + 1) y0 y1 y2 y3 y4))
  | 0 => fun _ _ _ _ _ r h => by simp [clause_Value.l0] at h
  | k + 1 => by
    have ih0 := clause_Value.mono_l k
    · intro y0 y1 y2 y3 y4
      unfold clause_Value.l0
      repeat' first
      | (with_reducible exact ih0 _ _ _ _ _)
      | (with_reducible exact LeO.refl _)
      | (with_reducible exact LeO.none _)
      | (with_reducible refine LeO.ite ?_ ?_)
      | (with_reducible refine LeO.bind ?_ (fun _ => ?_))
      | exact ih0 _ _ _ _ _
      | exact LeO.none _
      | refine LeO.ite ?_ ?_
      | refine LeO.bind ?_ (fun _ => ?_)
theorem clause_Value.mono : ∀ a0 a1 k, LeO (clause_Value.f k a0 a1) (clause_Value.f (k + 1) a0 a1) := by
  intro a0 a1 k
  have ih0 := clause_Value.mono_l k
  unfold clause_Value.f
  repeat' first
      | (with_reducible exact ih0 _ _ _ _ _)
      | (with_reducible exact LeO.refl _)
      | (with_reducible exact LeO.none _)
      | (with_reducible refine LeO.ite ?_ ?_)
      | (with_reducible refine LeO.bind ?_ (fun _ => ?_))
      | exact ih0 _ _ _ _ _
      | exact LeO.none _
      | refine LeO.ite ?_ ?_
      | refine LeO.bind ?_ (fun _ => ?_)
set_option maxHeartbeats 8000000 in
set_option maxRecDepth 100000 in
theorem clause_Value.calls (k : Nat) (A0 : Option Addr) (c0 : Nat) (l0 : List Int) (A1 : Option Addr) (c1 : Nat) (l1 : List Int) (r : Int) (w : World) (hr0 : Kd.C (Kd.int .i64) w A0 l0.length l0) (hc0 : l0.length ≤ c0) (hr1 : Kd.C (Kd.int .i64) w A1 l1.length l1) (hc1 : l1.length ≤ c1) (h : clause_Value.f k l0 l1 = some r) :
    Calls Tryz.prog 80 #[.slice A0 l0.length c0, .slice A1 l1.length c1] w fun e w' => e = .returned (.int .i64 r) ∧ Below w.heap.size w w' := by
  have HR0 := Aside0.mk hr0
  have HC0 := Aside0.mk hc0
  clear hr0 hc0
  have HR1 := Aside0.mk hr1
  have HC1 := Aside0.mk hc1
  clear hr1 hc1
  have HB := Aside0.mk (Below.refl w.heap.size w)
  have H : (clause_Value.l0 k l1 (-1) l0 (l0.length : Int) 0) = some r := h
  clear h
  have H' := Aside0.mk H
  clear H
  go_enter Tryz.func80, Tryz.ntmps80
  go_wp2
  go_loopg [5, 10] k (fun kq v5 v10 w' => ∃ (x5_1 : Int) (x10_1 : Int), v5 = .int .i64 x5_1 ∧ v10 = .int .i64 x10_1 ∧ Aside0 (clause_Value.l0 kq l1 x5_1 l0 (l0.length : Int) x10_1 = some r) ∧ Aside0 (kq ≤ k) ∧ Aside0 (Below w.heap.size w w'))
  case atStart => exact ⟨((-1)), (0), (by first | rfl | (simp; done) | (simp [*]; done)), (by first | rfl | (simp; done) | (simp [*]; done)), H', ⟨Nat.le_refl _⟩, ⟨by repeat (first | (with_reducible first | exact HB.out | apply below_alloc | apply pw_below_drewN | apply below_drew1) | exact HB.out)⟩⟩
  case round =>
    clear H'
    try clear c1
    try clear p2
    obtain ⟨x5_1, x10_1, rfl, rfl, HA, HK1, HB⟩ := hrel
    cases gk with
    | zero => exact absurd HA.out (by simp [clause_Value.l0])
    | succ k1 =>
      have H := HA.out
      clear HA
      simp only [clause_Value.l0] at H
      by_cases c3 : x10_1 < (l0.length : Int)
      · rw [if_pos c3] at H
        have c3b0 : decide (x10_1 < (l0.length : Int)) = true := decide_eq_true c3
        clear c3
        by_cases c4 : 0 ≤ x10_1
        · rw [if_pos c4] at H
          have c4b0 : decide (0 ≤ x10_1) = true := decide_eq_true c4
          clear c4
          by_cases c5 : x10_1 < (l0.length : Int)
          · rw [if_pos c5] at H
            have c5b0 : decide (x10_1 < (l0.length : Int)) = true := decide_eq_true c5
            clear c5
            replace H := Option.bind_eq_some_iff.mp H
            obtain ⟨t303, A60, H⟩ := H
            replace H : (clause_Value.l0 k1 l1 (mx x5_1 t303) l0 (l0.length : Int) (wrap64 (x10_1 + 1))) = some r := H
            have A6 := Aside0.mk A60
            clear A60
            obtain ⟨ji7, hji7⟩ : ∃ j_ : Int, (mx x5_1 t303) = j_ := ⟨_, rfl⟩
            replace H : (clause_Value.l0 k1 l1 ji7 l0 (l0.length : Int) (wrap64 (x10_1 + 1))) = some r := by first | (rw [hji7] at H; exact H) | (simp only [hji7] at H ⊢; exact H)
            (try rw [hji7] at A6)
            have hji7_ : (if x5_1 < t303 then t303 else x5_1) = ji7 := hji7
            have H' := Aside0.mk H
            clear H
            have p302 : 0 ≤ (x10_1 : Int) := of_decide_eq_true (by first | (with_reducible assumption) | assumption)
            have q302 : x10_1 < (l0.length : Int) := of_decide_eq_true (by first | (with_reducible assumption) | assumption)
            obtain ⟨ad302, e302, hx302_0⟩ := Kd.at_int HR0.out x10_1 p302 q302
            cases e302
            replace hx302_0 := (HB.out.cell (World.block_lt_of_cell? w _ hx302_0)).trans hx302_0
            replace p302 := eq_true p302
            replace q302 := eq_true q302
            go_wp2_with (first | ((with_reducible refine gate_callee (f := 116) rfl ?_); refine goesL_ (some 17) rfl rfl Tryz.func116 (by kernel_rfl) rfl #[.int .i64 (rd l0 x10_1), .slice A1 l1.length c1] rfl (by (try simp only [List.map_toArray, List.map_cons, List.map_nil]); first | done | rfl | (simp only [List.length_drop, List.length_take]; rfl)) ?_; (with_reducible refine (clause_lit.calls (rd l0 x10_1) _ _ l1 t303 _ ?side1 ?side2 A6.out).mono ?_); (case side1 => repeat (first | exact (Kd.C_below HR1.out HB.out) | (with_reducible refine Kd.C_alloc ?_ _) | (with_reducible refine Kd.C_drewN ?_ _) | (with_reducible refine Kd.C_drew ?_))); (case side2 => exact HC1.out); rintro e w' ⟨rfl, ⟨nd, rfl⟩⟩; refine ⟨_, rfl, ?_⟩))
            go_roundg k1
            case measure => have := HK1.out; omega
            case rel => exact ⟨(ji7), (wrap64 (x10_1 + 1)), (by first | rfl | (simp; done) | (simp only [← hji7] <;> (first | rfl | simp)) | (simp [*]; done)), (by first | rfl | (simp; done) | (simp [*]; done)), H', ⟨by have := HK1.out; omega⟩, ⟨by repeat (first | (with_reducible first | exact HB.out | apply below_alloc | apply pw_below_drewN | apply below_drew1) | exact HB.out)⟩⟩
          · rw [if_neg c5] at H
            exact absurd H (by simp)
        · rw [if_neg c4] at H
          exact absurd H (by simp)
      · rw [if_neg c3] at H
        have c3b0 : decide (x10_1 < (l0.length : Int)) = false := decide_eq_false c3
        clear c3
        obtain rfl := Option.some.inj H
        go_wp2
        go_ret
        exact ⟨by first | rfl | (simp [errW_none, errW_some] <;> rfl) | (simp [*, errW_none, errW_some] <;> rfl), by repeat (first | (with_reducible first | exact HB.out | apply below_alloc | apply pw_below_drewN | apply below_drew1) | exact HB.out)⟩

end Go.Proofs.YtlcfpmdamehopaaGreatDoor.PA
/- keelson/clause: what Value comes to, as a fold over a clause. No condition but that a list's length is an int. -/
namespace Go.Proofs.YtlcfpmdamehopaaGreatDoor.PA
open Go.RowKit Go.Proofs.YtlcfpmdamehopaaGreatDoorW.PrintWords Go.Proofs.YtlcfpmdamehopaaGreatDoorW.PrintLast Go.Proofs.YtlcfpmdamehopaaGreatDoorW.PrintMore

def varG (x n : Int) : Int := if x < 0 then (if wrap64 (-x) < 1 ∨ wrap64 (-x) > n then 0 else wrap64 (-x)) else (if x < 1 ∨ x > n then 0 else x)
theorem variable_eq (x n : Int) : clause_variable.f x n = some (varG x n) := by
  unfold clause_variable.f varG
  by_cases h : x < 0
  · simp only [h, if_true]
    by_cases h1 : wrap64 (-x) < 1
    · simp [h1]
    · by_cases h2 : wrap64 (-x) > n <;> simp [h1, h2]
  · simp only [h, if_false]
    by_cases h1 : x < 1
    · simp [h1]
    · by_cases h2 : x > n <;> simp [h1, h2]
end Go.Proofs.YtlcfpmdamehopaaGreatDoor.PA
/- slices.IndexFunc, slices.ContainsFunc at this seat's instances: the place of the first element at which the predicate holds. What is asked: the slice reads as xs, and the predicate gives its answer at each element. -/
namespace Go.Proofs.YtlcfpmdamehopaaGreatDoor.PA
open Go.RowKit Go.Proofs.YtlcfpmdamehopaaGreatDoorW.PrintWords Go.Proofs.YtlcfpmdamehopaaGreatDoorW.PrintLast Go.Proofs.YtlcfpmdamehopaaGreatDoorW.PrintMore

set_option maxHeartbeats 2000000 in
theorem idx88 {α : Type} (d : Kd α) (hd : d.sz = 1) (g : Nat) (lb : Array Value) (eg : ∀ args w, (callFunc g args).run Tryz.prog w = .ok (.enter g args) w) (A : Option Addr) (c : Nat) (xs : List α) (p : α → Bool) (w : World)
    (hC : d.C w A xs.length xs) (hp : PredOn d oneV g lb p xs w) :
    Calls Tryz.prog 88 #[.slice A xs.length c, .func (.func g) #[] lb] w fun e w' => e = .returned (.int .i64 (idxP p xs)) ∧ Below w.heap.size w w' := by
  have hn : xs.length ≤ 9223372036854775807 := hC.2.1
  go_enter Tryz.func88, Tryz.ntmps88
  go_wp2
  go_loopg [5, 8] xs.length (fun gg _ s8 wr => ∃ kk : Nat, kk ≤ xs.length ∧ xs.length - kk ≤ gg ∧ s8 = .int .i64 kk ∧ Aside (Below w.heap.size w wr) ∧ Aside (∀ j (hj : j < xs.length), j < kk → p xs[j] = false))
  case atStart => exact ⟨0, Nat.zero_le _, by omega, rfl, Below.refl _ w, fun j _ hj => absurd hj (Nat.not_lt_zero _)⟩
  case round =>
    obtain ⟨kk, hkk, hg, rfl, BW, A0⟩ := hrel
    by_cases hlt : kk < xs.length
    · have hltz : (kk : Int) < (xs.length : Int) := by omega
      obtain ⟨ad, rfl⟩ := C_addr hC (by omega)
      obtain ⟨cs, hlen, hK, hcell0⟩ := C_elem (Kd.C_below hC BW.out) kk hlt
      have hcall := hp _ (List.getElem_mem hlt) cs wr BW.out hK
      rw [hd] at hlen
      obtain ⟨c0, rfl⟩ : ∃ c0, cs = [c0] := by
        match cs, hlen with
        | [c0], _ => exact ⟨c0, rfl⟩
      have l0 : wr.cell? (ad.add kk) = some c0 := by
        have h := hcell0 0 c0 rfl
        rw [hd] at h; simpa using h
      replace hcall : Calls Tryz.prog g (#[c0] ++ lb) wr _ := hcall
      clear hC hp hcell0 hlen
      cases hq : p xs[kk] with
      | true =>
        rw [hq] at hcall
        have Q := Lib.hid hq
        clear hq
        have hcw := hcall.mono fun e w' h => (⟨h.1, BW.out.trans (h.2.mono BW.out.size)⟩ : e = .returned (.bool true) ∧ Below w.heap.size w w')
        clear hcall hK
        go_wp2_with (go_at_fn g; refine hcw.mono ?_; rintro e w' ⟨rfl, hb'⟩)
        go_ret
        exact ⟨by rw [idxP_hit hlt Q.out A0.out] <;> rfl, hb'⟩
      | false =>
        rw [hq] at hcall
        have Q := Lib.hid hq
        clear hq
        have hcw := hcall.mono fun e w' h => (⟨h.1, BW.out.trans (h.2.mono BW.out.size)⟩ : e = .returned (.bool false) ∧ Below w.heap.size w w')
        clear hcall hK
        go_wp2_with (go_at_fn g; refine hcw.mono ?_; rintro e w' ⟨rfl, hb'⟩)
        go_roundg (xs.length - (kk + 1))
        case measure => omega
        case rel =>
          refine ⟨kk + 1, by omega, by omega, by go_num, hb', (show Aside _ from fun j hl hj => ?_)⟩
          by_cases e : j = kk
          · subst e
            exact Q.out
          · exact A0.out j hl (by omega)
    · have hltz : ¬ (kk : Int) < (xs.length : Int) := by omega
      clear hC hp
      go_wp2
      go_ret
      exact ⟨by rw [idxP_miss (fun j hj => A0.out j hj (by omega))] <;> rfl, BW.out⟩

set_option maxHeartbeats 1000000 in
theorem con45 {α : Type} (d : Kd α) (hd : d.sz = 1) (g : Nat) (lb : Array Value) (eg : ∀ args w, (callFunc g args).run Tryz.prog w = .ok (.enter g args) w) (A : Option Addr) (c : Nat) (xs : List α) (p : α → Bool) (w : World)
    (hC : d.C w A xs.length xs) (hp : PredOn d oneV g lb p xs w) :
    Calls Tryz.prog 45 #[.slice A xs.length c, .func (.func g) #[] lb] w fun e w' => e = .returned (.bool (xs.any p)) ∧ Below w.heap.size w w' := by
  have h := idx88 d hd g lb eg A c xs p w hC hp
  have hany := idxP_any p xs
  generalize xs.any p = r at hany ⊢
  generalize idxP p xs = q at hany h
  subst hany
  clear hC hp
  go_enter Tryz.func45, Tryz.ntmps45
  go_wp2_with (go_at_call 88; refine h.mono ?_; rintro e w' ⟨rfl, hb'⟩)
  go_ret
  exact ⟨rfl, hb'⟩

-- no slices.IndexFunc[[]keelson/api.Term,keelson/api.Term]

set_option maxHeartbeats 2000000 in
theorem idx89 {α : Type} (d : Kd α) (hd : d.sz = 1) (g : Nat) (lb : Array Value) (eg : ∀ args w, (callFunc g args).run Tryz.prog w = .ok (.enter g args) w) (A : Option Addr) (c : Nat) (xs : List α) (p : α → Bool) (w : World)
    (hC : d.C w A xs.length xs) (hp : PredOn d oneV g lb p xs w) :
    Calls Tryz.prog 89 #[.slice A xs.length c, .func (.func g) #[] lb] w fun e w' => e = .returned (.int .i64 (idxP p xs)) ∧ Below w.heap.size w w' := by
  have hn : xs.length ≤ 9223372036854775807 := hC.2.1
  go_enter Tryz.func89, Tryz.ntmps89
  go_wp2
  go_loopg [5, 8] xs.length (fun gg _ s8 wr => ∃ kk : Nat, kk ≤ xs.length ∧ xs.length - kk ≤ gg ∧ s8 = .int .i64 kk ∧ Aside (Below w.heap.size w wr) ∧ Aside (∀ j (hj : j < xs.length), j < kk → p xs[j] = false))
  case atStart => exact ⟨0, Nat.zero_le _, by omega, rfl, Below.refl _ w, fun j _ hj => absurd hj (Nat.not_lt_zero _)⟩
  case round =>
    obtain ⟨kk, hkk, hg, rfl, BW, A0⟩ := hrel
    by_cases hlt : kk < xs.length
    · have hltz : (kk : Int) < (xs.length : Int) := by omega
      obtain ⟨ad, rfl⟩ := C_addr hC (by omega)
      obtain ⟨cs, hlen, hK, hcell0⟩ := C_elem (Kd.C_below hC BW.out) kk hlt
      have hcall := hp _ (List.getElem_mem hlt) cs wr BW.out hK
      rw [hd] at hlen
      obtain ⟨c0, rfl⟩ : ∃ c0, cs = [c0] := by
        match cs, hlen with
        | [c0], _ => exact ⟨c0, rfl⟩
      have l0 : wr.cell? (ad.add kk) = some c0 := by
        have h := hcell0 0 c0 rfl
        rw [hd] at h; simpa using h
      replace hcall : Calls Tryz.prog g (#[c0] ++ lb) wr _ := hcall
      clear hC hp hcell0 hlen
      cases hq : p xs[kk] with
      | true =>
        rw [hq] at hcall
        have Q := Lib.hid hq
        clear hq
        have hcw := hcall.mono fun e w' h => (⟨h.1, BW.out.trans (h.2.mono BW.out.size)⟩ : e = .returned (.bool true) ∧ Below w.heap.size w w')
        clear hcall hK
        go_wp2_with (go_at_fn g; refine hcw.mono ?_; rintro e w' ⟨rfl, hb'⟩)
        go_ret
        exact ⟨by rw [idxP_hit hlt Q.out A0.out] <;> rfl, hb'⟩
      | false =>
        rw [hq] at hcall
        have Q := Lib.hid hq
        clear hq
        have hcw := hcall.mono fun e w' h => (⟨h.1, BW.out.trans (h.2.mono BW.out.size)⟩ : e = .returned (.bool false) ∧ Below w.heap.size w w')
        clear hcall hK
        go_wp2_with (go_at_fn g; refine hcw.mono ?_; rintro e w' ⟨rfl, hb'⟩)
        go_roundg (xs.length - (kk + 1))
        case measure => omega
        case rel =>
          refine ⟨kk + 1, by omega, by omega, by go_num, hb', (show Aside _ from fun j hl hj => ?_)⟩
          by_cases e : j = kk
          · subst e
            exact Q.out
          · exact A0.out j hl (by omega)
    · have hltz : ¬ (kk : Int) < (xs.length : Int) := by omega
      clear hC hp
      go_wp2
      go_ret
      exact ⟨by rw [idxP_miss (fun j hj => A0.out j hj (by omega))] <;> rfl, BW.out⟩

set_option maxHeartbeats 1000000 in
theorem con47 {α : Type} (d : Kd α) (hd : d.sz = 1) (g : Nat) (lb : Array Value) (eg : ∀ args w, (callFunc g args).run Tryz.prog w = .ok (.enter g args) w) (A : Option Addr) (c : Nat) (xs : List α) (p : α → Bool) (w : World)
    (hC : d.C w A xs.length xs) (hp : PredOn d oneV g lb p xs w) :
    Calls Tryz.prog 47 #[.slice A xs.length c, .func (.func g) #[] lb] w fun e w' => e = .returned (.bool (xs.any p)) ∧ Below w.heap.size w w' := by
  have h := idx89 d hd g lb eg A c xs p w hC hp
  have hany := idxP_any p xs
  generalize xs.any p = r at hany ⊢
  generalize idxP p xs = q at hany h
  subst hany
  clear hC hp
  go_enter Tryz.func47, Tryz.ntmps47
  go_wp2_with (go_at_call 89; refine h.mono ?_; rintro e w' ⟨rfl, hb'⟩)
  go_ret
  exact ⟨rfl, hb'⟩

end Go.Proofs.YtlcfpmdamehopaaGreatDoor.PA
/- Function values as they are made. No condition. -/
namespace Go.Proofs.YtlcfpmdamehopaaGreatDoor.PA
open Go.RowKit
theorem makeFunc_run (fn : Fn) (first cap : Array Value) (w : World) : (Instr.makeFunc fn first cap).run Tryz.prog w = .ok (.func fn first cap) w := rfl
end Go.Proofs.YtlcfpmdamehopaaGreatDoor.PA
/- keelson/clause.Right: is a formula right. No condition. -/
namespace Go.Proofs.YtlcfpmdamehopaaGreatDoor.PA
open Go.RowKit Go.Proofs.YtlcfpmdamehopaaGreatDoorW.PrintWords Go.Proofs.YtlcfpmdamehopaaGreatDoorW.PrintLast Go.Proofs.YtlcfpmdamehopaaGreatDoorW.PrintMore

def badC (n : Int) (c : List Int) : Bool := decide ((c.length : Int) > 20000) || c.any fun x => varG x n == 0
def rightG (n : Int) (l : List (List Int)) : Bool := !(decide (n < 0) || (decide (n > 20000) || decide ((l.length : Int) > 400000))) && !(l.any (badC n))
def clause_Right.f (a0 : Int) (l1 : List (List Int)) : Option Bool := some (rightG a0 l1)


set_option maxHeartbeats 400000 in
theorem right11_any (p : Addr) (n x : Int) (w : World) (hp : w.cell? p = some (.int .i64 n)) :
    Calls Tryz.prog 48 #[.int .i64 x, .pointer (some p)] w fun e w' => e = .returned (.bool (varG x n == 0)) ∧ Below w.heap.size w w' := by
  have h := (clause_variable.calls x n _ w (variable_eq x n)).mono fun e w' h => (⟨h.1, by obtain ⟨_, rfl⟩ := h.2; exact pw_below_drewN (Below.refl _ _) _⟩ : e = .returned (.int .i64 (varG x n)) ∧ Below w.heap.size w w')
  generalize varG x n = v at h ⊢
  go_enter Tryz.func48, Tryz.ntmps48
  go_wp2_with (go_at_call 49; refine h.mono ?_; rintro e w' ⟨rfl, hb⟩)
  go_ret
  exact ⟨rfl, hb⟩

set_option maxHeartbeats 400000 in
theorem right1_any (p : Addr) (n : Int) (A : Option Addr) (c : Nat) (x : List Int) (w : World) (hp : w.cell? p = some (.int .i64 n)) (hx : Kd.C (Kd.int .i64) w A x.length x) :
    Calls Tryz.prog 46 #[.slice A x.length c, .pointer (some p)] w fun e w' => e = .returned (.bool (badC n x)) ∧ Below w.heap.size w w' := by
  have hmf := makeFunc_run
  have hlen : x.length ≤ 9223372036854775807 := hx.2.1
  by_cases h1 : (x.length : Int) > 20000
  · have hb : badC n x = true := by unfold badC; rw [decide_eq_true h1]; rfl
    have HB := Lib.hid hb
    clear hb hx
    go_enter Tryz.func46, Tryz.ntmps46
    go_wp2
    go_ret
    exact ⟨by rw [HB.out]; rfl, Below.refl _ _⟩
  · have hb : badC n x = x.any fun y => varG y n == 0 := by unfold badC; rw [decide_eq_false h1]; rfl
    have eg : ∀ args w, (callFunc 48 args).run Tryz.prog w = .ok (.enter 48 args) w := enters_of Tryz.func48 (by kernel_rfl) rfl
    have hpred : PredOn (Kd.int .i64) oneV 48 #[.pointer (some p)] (fun y => varG y n == 0) x w := by
      rintro y _ cs W hW rfl
      exact right11_any p n y W (pw_cell_below hW hp)
    have hcon := con47 _ rfl _ _ eg A c x _ w hx hpred
    rw [← hb] at hcon
    generalize badC n x = b at hcon ⊢
    clear hpred hx hb eg hp
    go_enter Tryz.func46, Tryz.ntmps46
    go_wp2_with (go_at_call 47; refine hcon.mono ?_; rintro e w' ⟨rfl, hb'⟩)
    go_ret
    exact ⟨rfl, hb'⟩

set_option maxHeartbeats 1000000 in
theorem clause_Right.calls (a0 : Int) (A1 : Option Addr) (c1 : Nat) (l1 : List (List Int)) (r : Bool) (w : World) (hr1 : Kd.C (Kd.slice 3 (Kd.int .i64)) w A1 l1.length l1) (_hc1 : l1.length ≤ c1) (h : clause_Right.f a0 l1 = some r) :
    Calls Tryz.prog 20 #[.int .i64 a0, .slice A1 l1.length c1] w fun e w' => e = .returned (.bool r) ∧ Below w.heap.size w w' := by
  obtain rfl := Option.some.inj h
  clear h
  have hmf := makeFunc_run
  have hlen : l1.length ≤ 9223372036854775807 := hr1.2.1
  have hb1 : Below w.heap.size w (w.alloc (.cells #[.int .i64 a0] 3)) := (Below.refl _ w).alloc (Nat.le_refl _) _
  by_cases h0 : a0 < 0
  · have hb : rightG a0 l1 = false := by unfold rightG; rw [decide_eq_true h0]; rfl
    have HB := Lib.hid hb
    clear hb hr1
    go_enter Tryz.func20, Tryz.ntmps20
    go_wp2
    go_ret
    exact ⟨by rw [HB.out]; rfl, hb1⟩
  by_cases h1 : a0 > 20000
  · have hb : rightG a0 l1 = false := by unfold rightG; rw [decide_eq_false h0, decide_eq_true h1]; rfl
    have HB := Lib.hid hb
    clear hb hr1
    go_enter Tryz.func20, Tryz.ntmps20
    go_wp2
    go_ret
    exact ⟨by rw [HB.out]; rfl, hb1⟩
  by_cases h2 : (l1.length : Int) > 400000
  · have hb : rightG a0 l1 = false := by unfold rightG; rw [decide_eq_false h0, decide_eq_false h1, decide_eq_true h2]; rfl
    have HB := Lib.hid hb
    clear hb hr1
    go_enter Tryz.func20, Tryz.ntmps20
    go_wp2
    go_ret
    exact ⟨by rw [HB.out]; rfl, hb1⟩
  · have hb : (!l1.any (badC a0)) = rightG a0 l1 := by unfold rightG; rw [decide_eq_false h0, decide_eq_false h1, decide_eq_false h2]; rfl
    have eg : ∀ args w, (callFunc 46 args).run Tryz.prog w = .ok (.enter 46 args) w := enters_of Tryz.func46 (by kernel_rfl) rfl
    have hcell : (w.alloc (.cells #[.int .i64 a0] 3)).cell? ⟨w.heap.size, 0, none⟩ = some (.int .i64 a0) := by simp [go_sem]
    have hpred : PredOn (Kd.slice 3 (Kd.int .i64)) oneV 46 #[.pointer (some ⟨w.heap.size, 0, none⟩)] (badC a0) l1 (w.alloc (.cells #[.int .i64 a0] 3)) := by
      rintro y _ cs W hW ⟨A, c, rfl, hle, hC⟩
      exact right1_any ⟨w.heap.size, 0, none⟩ a0 A c y W (pw_cell_below hW hcell) hC
    have hcon := (con45 _ rfl _ _ eg A1 c1 l1 _ _ (Kd.C_below hr1 hb1) hpred).mono fun e w' h => (⟨h.1, hb1.trans (h.2.mono hb1.size)⟩ : e = .returned (.bool (l1.any (badC a0))) ∧ Below w.heap.size w w')
    have HB := Lib.hid hb
    clear hpred hr1 hb eg hcell
    generalize l1.any (badC a0) = b at hcon HB
    go_enter Tryz.func20, Tryz.ntmps20
    go_wp2_with (go_at_call 45; refine hcon.mono ?_; rintro e w' ⟨rfl, hb'⟩)
    go_ret
    exact ⟨congrArg (fun z => Ending.returned (Value.bool z)) HB.out, hb'⟩
end Go.Proofs.YtlcfpmdamehopaaGreatDoor.PA
/- keelson/clause.Print: a formula's text. Its literals are int64s, its text within the machine's room; the table of powers of ten lies as laid. -/
namespace Go.Proofs.YtlcfpmdamehopaaGreatDoor.PA
open Go.RowKit Go.Lib Go.Proofs.YtlcfpmdamehopaaGreatDoorW.PrintWords Go.Proofs.YtlcfpmdamehopaaGreatDoorW.PrintLast Go.Proofs.YtlcfpmdamehopaaGreatDoorW.PrintMore

def litT (x : Int) : List UInt8 := Lib.itoa x ++ [32]
def clauseT (c : List Int) : List UInt8 := c.flatMap litT ++ [48, 10]
def headT (n : Int) (l : List (List Int)) : List UInt8 := [112, 32, 99, 110, 102, 32] ++ Lib.itoa n ++ [32] ++ Lib.itoa (l.length : Int) ++ [10]
def textT (n : Int) (l : List (List Int)) : List UInt8 := headT n l ++ l.flatMap clauseT
def isI64 (x : Int) : Bool := decide (-9223372036854775808 ≤ x) && decide (x ≤ 9223372036854775807)
def clause_Print.f (a0 : Int) (l1 : List (List Int)) : Option ByteArray := if rightG a0 l1 = true then (if (textT a0 l1).length ≤ 140737488355328 ∧ (l1.all fun c => c.all isI64) = true then some ⟨(textT a0 l1).toArray⟩ else none) else some ⟨#[]⟩

theorem isB_below {T e : TypeId} {B b : Nat} {bs : List Value} {w w' : World} (h : Lib.IsBuilder T e B b bs w) (hb : Below w.heap.size w w') : Lib.IsBuilder T e B b bs w' := by
  have key : ∀ p, Lib.BuilderAt T e B b p bs w → Lib.BuilderAt T e B b p bs w' := by
    rintro p ⟨h1, v, h2, h3, h4⟩
    have hlt : b < w.heap.size := (Array.getElem?_eq_some_iff.1 h2).1
    exact ⟨h1, v, by rw [hb.block _ hlt]; exact h2, pw_own_below h3 hb, h4⟩
  rcases h with h | h
  · exact .inl (key _ h)
  · exact .inr (key _ h)
theorem strCells_mk (l : List UInt8) : Lib.strCells ⟨l.toArray⟩ = Lib.byteCells l := by unfold Lib.strCells Lib.byteCells; simp
/-- The builder holds a text; below B all is as it was. -/
def TextB (B b : Nat) (w0 W : World) (l : List UInt8) : Prop := Lib.IsBuilder 72 5 B b (Lib.byteCells l) W ∧ Below B w0 W ∧ B ≤ W.heap.size
theorem TextB.below {B b : Nat} {w0 W W' : World} {l : List UInt8} (h : TextB B b w0 W l) (hb : Below W.heap.size W W') : TextB B b w0 W' l := ⟨isB_below h.1 hb, h.2.1.trans (hb.mono h.2.2), Nat.le_trans h.2.2 hb.size⟩
theorem TextB.bel {B b : Nat} {w0 W : World} {l : List UInt8} (h : TextB B b w0 W l) : Below B w0 W := h.2.1
theorem new_text {w w1 : World} (hb : Below w.heap.size w w1) : TextB w.heap.size w1.heap.size w (w1.alloc (.cells #[.pointer none, .slice none 0 0] 72)) [] :=
  ⟨.inl ⟨hb.size, .slice none 0 0, heap_alloc_new _ _, own_nil _ _ _ _, by simp [Value.ownBlock]⟩, hb.alloc hb.size _, by have := hb.size; simp; omega⟩
theorem write_text (B b : Nat) (w0 W : World) (l m : List UInt8) (h : TextB B b w0 W l) (hl : l.length + m.length ≤ 140737488355328) :
    Calls Tryz.prog 39 #[.pointer (some ⟨b, 0, none⟩), .string ⟨m.toArray⟩] W fun e w' => (∃ v, e = .returned v) ∧ TextB B b w0 w' (l ++ m) := by
  refine (Tryz.Builder_WriteString B b _ ⟨m.toArray⟩ W h.1 (by simp [Lib.byteCells_length, ByteArray.size]; omega) h.2.2).mono ?_
  rintro e w' ⟨rfl, hB, hb⟩
  refine ⟨⟨_, rfl⟩, .inr ?_, h.2.1.trans hb, Nat.le_trans h.2.2 hb.size⟩
  rw [strCells_mk] at hB
  have e2 : Lib.byteCells (l ++ m) = Lib.byteCells l ++ Lib.byteCells m := by unfold Lib.byteCells; simp
  rw [e2]; exact hB
theorem read_text (B b : Nat) (w0 W : World) (l : List UInt8) (h : TextB B b w0 W l) :
    Calls Tryz.prog 40 #[.pointer (some ⟨b, 0, none⟩)] W fun e w' => e = .returned (.string ⟨l.toArray⟩) ∧ Below B w0 w' :=
  (Tryz.Builder_String_any B b l W h.1 h.2.2).mono fun _ _ ⟨he, hb⟩ => ⟨he, h.2.1.trans hb⟩

theorem pre_len (n : Int) (l : List (List Int)) (k : Nat) (h : k < l.length) : (headT n l ++ (l.take k).flatMap clauseT).length + (clauseT l[k]).length ≤ (textT n l).length := by
  have e : l.flatMap clauseT = (l.take k).flatMap clauseT ++ (clauseT l[k] ++ (l.drop (k + 1)).flatMap clauseT) := by
    conv => lhs; rw [← List.take_append_drop k l, List.drop_eq_getElem_cons h, List.flatMap_append, List.flatMap_cons]
  unfold textT
  rw [e]
  simp only [List.length_append]
  omega
theorem lit_len (c : List Int) (j : Nat) (h : j < c.length) : ((c.take j).flatMap litT).length + (litT c[j]).length ≤ (c.flatMap litT).length := by
  have e : c.flatMap litT = (c.take j).flatMap litT ++ (litT c[j] ++ (c.drop (j + 1)).flatMap litT) := by
    conv => lhs; rw [← List.take_append_drop j c, List.drop_eq_getElem_cons h, List.flatMap_append, List.flatMap_cons]
  rw [e]
  simp only [List.length_append]
  omega
theorem right_lits {n : Int} {l : List (List Int)} (h : rightG n l = true) : 0 ≤ n ∧ n ≤ 20000 ∧ (l.length : Int) ≤ 400000 := by
  unfold rightG at h
  rw [Bool.and_eq_true, Bool.not_eq_true', Bool.or_eq_false_iff, Bool.or_eq_false_iff, decide_eq_false_iff_not, decide_eq_false_iff_not, decide_eq_false_iff_not] at h
  omega

set_option maxHeartbeats 4000000 in
theorem clause_Print.calls (a0 : Int) (A1 : Option Addr) (c1 : Nat) (l1 : List (List Int)) (r : ByteArray) (w : World) (hr1 : Kd.C (Kd.slice 3 (Kd.int .i64)) w A1 l1.length l1) (hc1 : l1.length ≤ c1) (hG_pow10 : GlobPow10 w) (h : clause_Print.f a0 l1 = some r) :
    Calls Tryz.prog 18 #[.int .i64 a0, .slice A1 l1.length c1] w fun e w' => e = .returned (.string r) ∧ Below w.heap.size w w' := by
  unfold clause_Print.f at h
  have hR := clause_Right.calls a0 A1 c1 l1 (rightG a0 l1) w hr1 hc1 rfl
  split at h
  case isFalse hq =>
    obtain rfl := Option.some.inj h
    rw [Bool.not_eq_true] at hq
    rw [hq] at hR
    clear hr1 hq hG_pow10
    go_enter Tryz.func18, Tryz.ntmps18
    go_wp2_with (go_at_call 20; with_reducible refine hR.mono ?_; rintro e w' ⟨rfl, hb⟩)
    go_ret
    exact ⟨rfl, hb⟩
  case isTrue hq =>
  split at h
  case isFalse => cases h
  case isTrue hlen =>
  obtain rfl := Option.some.inj h
  obtain ⟨n0, n1, n2⟩ := right_lits hq
  rw [hq] at hR
  have HG := Lib.hid hG_pow10
  have i0 : -9223372036854775808 ≤ a0 ∧ a0 ≤ 9223372036854775807 := by omega
  have i1 : -9223372036854775808 ≤ (l1.length : Int) ∧ (l1.length : Int) ≤ 9223372036854775807 := by omega
  have hs0 : (Lib.itoa a0).length ≤ 21 := Lib.itoa_length_le a0 i0.1 i0.2
  have hs1 : (Lib.itoa (l1.length : Int)).length ≤ 21 := Lib.itoa_length_le _ i1.1 i1.2
  have hH : [112, 32, 99, 110, 102, 32] ++ Lib.itoa a0 ++ [32] ++ Lib.itoa (l1.length : Int) ++ [10] = headT a0 l1 := rfl
  have hi0 := itoa_calls a0 i0
  have hi1 := itoa_calls (l1.length : Int) i1
  generalize Lib.itoa a0 = p at hs0 hH hi0
  generalize Lib.itoa (l1.length : Int) = q at hs1 hH hi1
  have e1 := fun w : World => run_string_add_lists (P := Tryz.prog) w [112, 32, 99, 110, 102, 32] p (by simp) (by omega)
  have e2 := fun w : World => run_string_add_lists (P := Tryz.prog) w ([112, 32, 99, 110, 102, 32] ++ p) [32] (by simp; omega) (by simp)
  have e3 := fun w : World => run_string_add_lists (P := Tryz.prog) w ([112, 32, 99, 110, 102, 32] ++ p ++ [32]) q (by simp; omega) (by omega)
  have e4 := fun w : World => run_string_add_lists (P := Tryz.prog) w ([112, 32, 99, 110, 102, 32] ++ p ++ [32] ++ q) [10] (by simp; omega) (by simp)
  have hHS : ((({ data := (112 :: 32 :: 99 :: 110 :: 102 :: 32 :: p).toArray } : ByteArray) ++ { data := #[32] } ++ { data := q.toArray }) ++ { data := #[10] }) = ⟨(headT a0 l1).toArray⟩ := by
    rw [← hH]; apply ByteArray.ext; simp
  have hhd : (headT a0 l1).length ≤ 140737488355328 := by
    have := hlen.1
    unfold textT at this
    rw [List.length_append] at this
    omega
  have hhd0 : ([] : List UInt8).length + (headT a0 l1).length ≤ 140737488355328 := by simpa using hhd
  clear hG_pow10 hq
  go_enter Tryz.func18, Tryz.ntmps18
  go_wp2_with (first | (go_at_call 20; with_reducible refine hR.mono ?_; rintro e w1 ⟨rfl, hb⟩; have T0 := Lib.hid (new_text hb)) | (go_at_call 31; with_reducible refine (hi0 _ (HG.out.below T0.out.bel)).mono ?_; rintro e w2 ⟨rfl, hb2⟩; have T1 := Lib.hid (T0.out.below hb2); clear hb2) | (go_at_call 31; with_reducible refine (hi1 _ (HG.out.below T1.out.bel)).mono ?_; rintro e w3 ⟨rfl, hb3⟩; have T2 := Lib.hid (T1.out.below hb3); clear hb3) | (go_at_call 39; with_reducible refine (write_text w.heap.size w1.heap.size w _ [] (headT a0 l1) T2.out hhd0).mono ?_; rintro e w4 ⟨⟨v, rfl⟩, t4⟩; rw [List.nil_append] at t4; have T4 := Lib.hid t4; clear t4))
  have hn : l1.length ≤ 9223372036854775807 := hr1.2.1
  have H1 := Lib.hid hr1
  have HL := Lib.hid hlen
  clear hr1 hlen hi0 hi1 e1 e2 e3 e4 hHS hH hs0 hs1 hR hb
  go_loopg [7, 9, 26] l1.length (fun gg _ _ s26 wr => ∃ kk : Nat, kk ≤ l1.length ∧ l1.length - kk ≤ gg ∧ s26 = .int .i64 kk ∧ Aside (TextB w.heap.size w1.heap.size w wr (headT a0 l1 ++ (l1.take kk).flatMap clauseT)))
  case atStart => exact ⟨0, Nat.zero_le _, by omega, rfl, by rw [List.take_zero, List.flatMap_nil, List.append_nil]; exact T4.out⟩
  case round =>
    obtain ⟨kk, hkk, hg, rfl, RT⟩ := hrel
    by_cases hlt : kk < l1.length
    · have hltz : (kk : Int) < (l1.length : Int) := by omega
      have hr1 := H1.out
      obtain ⟨ad, rfl⟩ := C_addr hr1 (by omega)
      obtain ⟨cs, hlen', hK, hcell0⟩ := C_elem hr1 kk hlt
      obtain ⟨Ac, cc, rfl, hle, hC⟩ := hK
      have hx : wr.cell? (ad.add kk) = some (.slice Ac l1[kk].length cc) := pw_cell_below RT.out.bel (by have h := hcell0 0 _ rfl; simpa [Kd.slice] using h)
      have hpre := Nat.le_trans (pre_len a0 l1 kk hlt) HL.out.1
      have hci : ∀ x ∈ l1[kk], -9223372036854775808 ≤ x ∧ x ≤ 9223372036854775807 := by
        intro x hx'
        have h := List.all_eq_true.1 (List.all_eq_true.1 HL.out.2 _ (List.getElem_mem hlt)) x hx'
        simpa [isI64] using h
      have hst : headT a0 l1 ++ (l1.take (kk + 1)).flatMap clauseT = headT a0 l1 ++ (l1.take kk).flatMap clauseT ++ clauseT l1[kk] := by
        rw [List.take_succ_eq_append_getElem hlt, List.flatMap_append]; simp
      generalize l1[kk] = c at hx hpre hci hst hC hle
      generalize headT a0 l1 ++ (l1.take kk).flatMap clauseT = base at RT hpre hst
      have hcn : c.length ≤ 9223372036854775807 := hC.2.1
      have HC := Lib.hid hC
      have HI := Lib.hid hci
      have HS := Lib.hid hst
      clear hcell0 hlen' hr1 hC hci hst
      go_wp2
      go_loopg [9, 32] c.length (fun gg _ s32 wr2 => ∃ jj : Nat, jj ≤ c.length ∧ c.length - jj ≤ gg ∧ s32 = .int .i64 jj ∧ Aside (TextB w.heap.size w1.heap.size w wr2 (base ++ (c.take jj).flatMap litT)))
      case atStart => exact ⟨0, Nat.zero_le _, by omega, rfl, by rw [List.take_zero, List.flatMap_nil, List.append_nil]; exact RT.out⟩
      case round =>
        obtain ⟨jj, hjj, hg2, rfl, RT2⟩ := hrel
        by_cases hjl : jj < c.length
        · have hjlz : (jj : Int) < (c.length : Int) := by omega
          obtain ⟨ad2, e2, hy⟩ := Kd.at_int HC.out (jj : Int) (by omega) (by omega)
          subst e2
          rw [Int.toNat_natCast, show rd c (jj : Int) = c[jj] from by unfold rd; simp [List.getD_eq_getElem?_getD, List.getElem?_eq_getElem hjl]] at hy
          replace hy := pw_cell_below RT2.out.bel hy
          have hxi := HI.out c[jj] (List.getElem_mem hjl)
          have hpl := lit_len c jj hjl
          have hst2 : base ++ (c.take (jj + 1)).flatMap litT = base ++ (c.take jj).flatMap litT ++ litT c[jj] := by
            rw [List.take_succ_eq_append_getElem hjl, List.flatMap_append]; simp
          have hi := itoa_calls c[jj] hxi
          have hl5 := Lib.itoa_length_le c[jj] hxi.1 hxi.2
          have hw5 : (base ++ (c.take jj).flatMap litT).length + (litT c[jj]).length ≤ 140737488355328 := by
            have : (clauseT c).length = (c.flatMap litT).length + 2 := by unfold clauseT; simp
            rw [List.length_append]; omega
          rw [show litT c[jj] = Lib.itoa c[jj] ++ [32] from rfl] at hw5 hst2
          generalize Lib.itoa c[jj] = p5 at hi hl5 hw5 hst2
          generalize c[jj] = x5 at hy hi
          have e5 := fun w : World => run_string_add_lists (P := Tryz.prog) w p5 [32] (by omega) (by simp)
          generalize base ++ (c.take jj).flatMap litT = b5 at RT2 hw5 hst2
          have HS2 := Lib.hid hst2
          clear hst2 hpl hxi
          go_wp2_with (first | (go_at_call 31; with_reducible refine (hi _ (HG.out.below RT2.out.bel)).mono ?_; rintro e w5 ⟨rfl, hb5⟩; have T5 := Lib.hid (RT2.out.below hb5); clear hb5) | (go_at_call 39; with_reducible refine (write_text w.heap.size w1.heap.size w _ b5 (p5 ++ [32]) T5.out hw5).mono ?_; rintro e w6 ⟨⟨v6, rfl⟩, t6⟩; have T6 := Lib.hid t6; clear t6))
          go_roundg (c.length - (jj + 1))
          case measure => omega
          case rel => exact ⟨jj + 1, by omega, by omega, by go_num, by rw [HS2.out]; exact T6.out⟩
        · have hjlz : ¬ (jj : Int) < (c.length : Int) := by omega
          rw [List.take_of_length_le (by omega)] at RT2
          have hw6 : (base ++ c.flatMap litT).length + ([48, 10] : List UInt8).length ≤ 140737488355328 := by
            have : (clauseT c).length = (c.flatMap litT).length + 2 := by unfold clauseT; simp
            rw [List.length_append]; simp only [List.length_cons, List.length_nil]; omega
          have hst3 : headT a0 l1 ++ (l1.take (kk + 1)).flatMap clauseT = base ++ c.flatMap litT ++ [48, 10] := by rw [HS.out]; unfold clauseT; simp
          have HS3 := Lib.hid hst3
          clear hst3
          generalize base ++ c.flatMap litT = b6 at RT2 hw6 HS3
          go_wp2_with (go_at_call 39; with_reducible refine (write_text w.heap.size w1.heap.size w _ b6 [48, 10] RT2.out hw6).mono ?_; rintro e w6 ⟨⟨v6, rfl⟩, t6⟩; have T6 := Lib.hid t6; clear t6)
          go_roundg (l1.length - (kk + 1))
          case measure => omega
          case rel => exact ⟨kk + 1, by omega, by omega, by go_num, by rw [HS3.out]; exact T6.out⟩
    · have hltz : ¬ (kk : Int) < (l1.length : Int) := by omega
      rw [List.take_of_length_le (by omega)] at RT
      have hrt := read_text w.heap.size w1.heap.size w wr _ RT.out
      change Calls _ _ _ _ (fun e w' => e = .returned (.string ⟨(textT a0 l1).toArray⟩) ∧ Below w.heap.size w w') at hrt
      obtain ⟨tt, htt⟩ : ∃ tt, tt = textT a0 l1 := ⟨_, rfl⟩
      rw [← htt] at hrt
      have HT := Lib.hid htt
      clear htt HL
      go_wp2_with (go_at_call 40; with_reducible refine hrt.mono ?_; rintro e w7 ⟨rfl, hb7⟩)
      go_ret
      exact ⟨by rw [← HT.out]; rfl, hb7⟩
end Go.Proofs.YtlcfpmdamehopaaGreatDoor.PA
-- Printed by gprint.py (wip/ of this repo), over the kit's print.
namespace Go.Proofs.YtlcfpmdamehopaaGreatDoor.PA
open Go.RowKit Go.Proofs.YtlcfpmdamehopaaGreatDoorW.PrintWords Go.Proofs.YtlcfpmdamehopaaGreatDoorW.PrintLast Go.Proofs.YtlcfpmdamehopaaGreatDoorW.PrintMore
attribute [local go_sem] max2_int min2_int max_two min_two max_three min_three max_four min_four   -- for this text's walks alone
set_option linter.unusedVariables false
set_option linter.unusedSimpArgs false

/-! ### stringslite_HasPrefix: function 120 -/
def stringslite_HasPrefix.f (a0 : ByteArray) (a1 : ByteArray) : Option (Bool) := if (a0.size : Int) ≥ (a1.size : Int) then (if 0 ≤ (a1.size : Int) then (if (a1.size : Int) ≤ (a0.size : Int) then (some ((a0.extract 0 ((a1.size : Int) : Int).toNat).toList == a1.toList)) else (none)) else (none)) else (some false)
set_option maxHeartbeats 8000000 in
set_option maxRecDepth 100000 in
theorem stringslite_HasPrefix.calls (a0 : ByteArray) (a1 : ByteArray) (r : Bool) (w : World) (h : stringslite_HasPrefix.f a0 a1 = some r) :
    Calls Tryz.prog 120 #[.string a0, .string a1] w fun e w' => e = .returned (.bool r) ∧ Drawn0 w w' := by
  have H : (if (a0.size : Int) ≥ (a1.size : Int) then (if 0 ≤ (a1.size : Int) then (if (a1.size : Int) ≤ (a0.size : Int) then (some ((a0.extract 0 ((a1.size : Int) : Int).toNat).toList == a1.toList)) else (none)) else (none)) else (some false)) = some r := h
  clear h
  by_cases c3 : (a0.size : Int) ≥ (a1.size : Int)
  · rw [if_pos c3] at H
    have c3b0 : decide ((a1.size : Int) ≤ (a0.size : Int)) = true := decide_eq_true c3
    have c3b1 : decide (a1.size ≤ a0.size) = true := decide_eq_true (Int.ofNat_le.mp c3)
    clear c3
    by_cases c4 : 0 ≤ (a1.size : Int)
    · rw [if_pos c4] at H
      have c4b0 := eq_true c4
      have c4b1 : decide (0 ≤ (a1.size : Int)) = true := decide_eq_true c4
      clear c4
      by_cases c5 : (a1.size : Int) ≤ (a0.size : Int)
      · rw [if_pos c5] at H
        have c5b0 := eq_true c5
        have c5b1 : decide ((a1.size : Int) ≤ (a0.size : Int)) = true := decide_eq_true c5
        clear c5
        obtain rfl := Option.some.inj H
        go_enter Tryz.func120, Tryz.ntmps120
        go_wp2
        go_ret
        exact ⟨by first | rfl | (simp; done) | (simp [*]; done), by repeat (first | exact Drawn0.refl _ | apply Drawn0.step)⟩
      · rw [if_neg c5] at H
        exact absurd H (by simp)
    · rw [if_neg c4] at H
      exact absurd H (by simp)
  · rw [if_neg c3] at H
    have c3b0 : decide ((a1.size : Int) ≤ (a0.size : Int)) = false := decide_eq_false c3
    have c3b1 : decide (a1.size ≤ a0.size) = false := decide_eq_false (fun h => c3 (Int.ofNat_le.mpr h))
    clear c3
    obtain rfl := Option.some.inj H
    go_enter Tryz.func120, Tryz.ntmps120
    go_wp2
    go_ret
    exact ⟨by first | rfl | (simp; done) | (simp [*]; done), by repeat (first | exact Drawn0.refl _ | apply Drawn0.step)⟩

/-! ### stringslite_CutPrefix: function 87 -/
def stringslite_CutPrefix.f (a0 : ByteArray) (a1 : ByteArray) : Option (ByteArray × Bool) := (stringslite_HasPrefix.f a0 a1).bind fun t386 => (if t386 = true then (if 0 ≤ (a1.size : Int) then (if (a1.size : Int) ≤ (a0.size : Int) then (some (a0.extract ((a1.size : Int) : Int).toNat a0.size, true)) else (none)) else (none)) else (some (a0, false)))
set_option maxHeartbeats 8000000 in
set_option maxRecDepth 100000 in
theorem stringslite_CutPrefix.calls (a0 : ByteArray) (a1 : ByteArray) (r1 : ByteArray) (r2 : Bool) (w : World) (h : stringslite_CutPrefix.f a0 a1 = some (r1, r2)) :
    Calls Tryz.prog 87 #[.string a0, .string a1] w fun e w' => e = .returned (.tuple #[.string r1, .bool r2]) ∧ Drawn0 w w' := by
  have H : ((stringslite_HasPrefix.f a0 a1).bind fun t386 => (if t386 = true then (if 0 ≤ (a1.size : Int) then (if (a1.size : Int) ≤ (a0.size : Int) then (some (a0.extract ((a1.size : Int) : Int).toNat a0.size, true)) else (none)) else (none)) else (some (a0, false)))) = some (r1, r2) := h
  clear h
  replace H := Option.bind_eq_some_iff.mp H
  obtain ⟨t386, A30, H⟩ := H
  replace H : (if t386 = true then (if 0 ≤ (a1.size : Int) then (if (a1.size : Int) ≤ (a0.size : Int) then (some (a0.extract ((a1.size : Int) : Int).toNat a0.size, true)) else (none)) else (none)) else (some (a0, false))) = some (r1, r2) := H
  have A3 := Aside0.mk A30
  clear A30
  by_cases c4 : t386 = true
  · subst c4
    have H1 : (if 0 ≤ (a1.size : Int) then (if (a1.size : Int) ≤ (a0.size : Int) then (some (a0.extract ((a1.size : Int) : Int).toNat a0.size, true)) else (none)) else (none)) = some (r1, r2) := by rw [if_pos rfl] at H; exact H
    clear H
    have H := H1
    clear H1
    by_cases c5 : 0 ≤ (a1.size : Int)
    · rw [if_pos c5] at H
      have c5b0 := eq_true c5
      have c5b1 : decide (0 ≤ (a1.size : Int)) = true := decide_eq_true c5
      clear c5
      by_cases c6 : (a1.size : Int) ≤ (a0.size : Int)
      · rw [if_pos c6] at H
        have c6b0 := eq_true c6
        have c6b1 : decide ((a1.size : Int) ≤ (a0.size : Int)) = true := decide_eq_true c6
        clear c6
        simp only [Option.some.injEq, Prod.mk.injEq] at H
        obtain ⟨rfl, rfl⟩ := H
        go_enter Tryz.func87, Tryz.ntmps87
        go_wp2_with (first | ((with_reducible refine gate_callee (f := 120) rfl ?_); refine goesL_ (some 8) rfl rfl Tryz.func120 (by kernel_rfl) rfl #[.string a0, .string a1] rfl (by (try simp only [List.map_toArray, List.map_cons, List.map_nil]); first | done | rfl | (simp only [List.length_drop, List.length_take]; rfl)) ?_; (with_reducible refine (stringslite_HasPrefix.calls a0 a1 true _ A3.out).mono ?_); rintro e w' ⟨rfl, ⟨nd, rfl⟩⟩; refine ⟨_, rfl, ?_⟩))
        go_ret2
        exact ⟨by first | rfl | (simp; done) | (simp [*]; done), by repeat (first | exact Drawn0.refl _ | apply Drawn0.step)⟩
      · rw [if_neg c6] at H
        exact absurd H (by simp)
    · rw [if_neg c5] at H
      exact absurd H (by simp)
  · replace c4 := Bool.eq_false_iff.mpr c4
    subst c4
    have H1 : (some (a0, false)) = some (r1, r2) := by rw [if_neg (show ¬ (false = true) by decide)] at H; exact H
    clear H
    have H := H1
    clear H1
    simp only [Option.some.injEq, Prod.mk.injEq] at H
    obtain ⟨rfl, rfl⟩ := H
    go_enter Tryz.func87, Tryz.ntmps87
    go_wp2_with (first | ((with_reducible refine gate_callee (f := 120) rfl ?_); refine goesL_ (some 8) rfl rfl Tryz.func120 (by kernel_rfl) rfl #[.string a0, .string a1] rfl (by (try simp only [List.map_toArray, List.map_cons, List.map_nil]); first | done | rfl | (simp only [List.length_drop, List.length_take]; rfl)) ?_; (with_reducible refine (stringslite_HasPrefix.calls a0 a1 false _ A3.out).mono ?_); rintro e w' ⟨rfl, ⟨nd, rfl⟩⟩; refine ⟨_, rfl, ?_⟩))
    go_ret2
    exact ⟨by first | rfl | (simp; done) | (simp [*]; done), by repeat (first | exact Drawn0.refl _ | apply Drawn0.step)⟩

end Go.Proofs.YtlcfpmdamehopaaGreatDoor.PA
-- Printed by gprint.py (wip/ of this repo), over the kit's print.
namespace Go.Proofs.YtlcfpmdamehopaaGreatDoor.PA
open Go.RowKit Go.Proofs.YtlcfpmdamehopaaGreatDoorW.PrintWords Go.Proofs.YtlcfpmdamehopaaGreatDoorW.PrintLast Go.Proofs.YtlcfpmdamehopaaGreatDoorW.PrintMore
attribute [local go_sem] max2_int min2_int max_two min_two max_three min_three max_four min_four   -- for this text's walks alone
set_option linter.unusedVariables false
set_option linter.unusedSimpArgs false

/-! ### strings_CutPrefix: function 42 -/
def strings_CutPrefix.f (a0 : ByteArray) (a1 : ByteArray) : Option (ByteArray × Bool) := (stringslite_CutPrefix.f a0 a1).bind fun bt387 => (some (bt387.1, bt387.2))
set_option maxHeartbeats 8000000 in
set_option maxRecDepth 100000 in
theorem strings_CutPrefix.calls (a0 : ByteArray) (a1 : ByteArray) (r1 : ByteArray) (r2 : Bool) (w : World) (h : strings_CutPrefix.f a0 a1 = some (r1, r2)) :
    Calls Tryz.prog 42 #[.string a0, .string a1] w fun e w' => e = .returned (.tuple #[.string r1, .bool r2]) ∧ Drawn0 w w' := by
  have H : ((stringslite_CutPrefix.f a0 a1).bind fun bt387 => (some (bt387.1, bt387.2))) = some (r1, r2) := h
  clear h
  replace H := Option.bind_eq_some_iff.mp H
  obtain ⟨⟨t387, t388⟩, A30, H⟩ := H
  replace H : (some (t387, t388)) = some (r1, r2) := H
  have A3 := Aside0.mk A30
  clear A30
  simp only [Option.some.injEq, Prod.mk.injEq] at H
  obtain ⟨rfl, rfl⟩ := H
  go_enter Tryz.func42, Tryz.ntmps42
  go_wp2_with (first | ((with_reducible refine gate_callee (f := 87) rfl ?_); refine goesL_ (some 8) rfl rfl Tryz.func87 (by kernel_rfl) rfl #[.string a0, .string a1] rfl (by (try simp only [List.map_toArray, List.map_cons, List.map_nil]); first | done | rfl | (simp only [List.length_drop, List.length_take]; rfl)) ?_; (with_reducible refine (stringslite_CutPrefix.calls a0 a1 t387 t388 _ A3.out).mono ?_); rintro e w' ⟨rfl, ⟨nd, rfl⟩⟩; refine ⟨_, rfl, ?_⟩))
  go_ret2
  exact ⟨by first | rfl | (simp; done) | (simp [*]; done), by repeat (first | exact Drawn0.refl _ | apply Drawn0.step)⟩

end Go.Proofs.YtlcfpmdamehopaaGreatDoor.PA
