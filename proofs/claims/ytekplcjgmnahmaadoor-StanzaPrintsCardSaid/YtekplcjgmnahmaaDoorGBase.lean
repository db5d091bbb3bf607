/- Small words for the walks by hand: the place of the first element with a property; what a predicate handed to the library owes. No condition. -/
import Derived.Test.YtekplcjgmnahmaaDoorProg
import Derived.WalkKit
import Derived.KernelRfl
import Derived.Outline
import Derived.Deep.LoopGhost
import Derived.Deep.Draws
import Derived.Deep.QuietTactic
import Derived.Deep.DeepCutAuto
import Derived.Deep.CutBlock
import Derived.Deep.RegionHeld3
import Derived.BigQuiet
import Derived.WideLaws
import Derived.OwnWalk
import Derived.Lib.Hide
import Derived.Shelf.Abstract
import Derived.Test.YtekplcjgmnahmaaDoorWWords
import Derived.Test.YtekplcjgmnahmaaDoorWLast
import Derived.Test.YtekplcjgmnahmaaDoorWMore
import Derived.Test.YtekplcjgmnahmaaDoorWGuard
import Derived.Test.YtekplcjgmnahmaaDoorWN
import Derived.Test.YtekplcjgmnahmaaDoorWNEv
import Derived.Test.YtekplcjgmnahmaaDoorWShare
import Derived.Test.YtekplcjgmnahmaaDoorWAt
import Derived.Test.YtekplcjgmnahmaaDoorWKept
namespace Go.Proofs.YtekplcjgmnahmaaDoor.PA
open Go.RowKit Go.Proofs.YtekplcjgmnahmaaDoorW.PrintWords Go.Proofs.YtekplcjgmnahmaaDoorW.PrintLast Go.Proofs.YtekplcjgmnahmaaDoorW.PrintMore

/-- The place of the first element with p, or -1. -/
def idxP {α : Type} (p : α → Bool) (xs : List α) : Int := match xs.findIdx? p with | some j => (j : Int) | none => -1
theorem idxP_hit {α : Type} {p : α → Bool} {xs : List α} {k : Nat} (hk : k < xs.length) (hp : p xs[k] = true) (h : ∀ j (hj : j < xs.length), j < k → p xs[j] = false) : idxP p xs = (k : Int) := by
  have e : xs.findIdx? p = some k := by
    rw [List.findIdx?_eq_some_iff_getElem]
    exact ⟨hk, hp, fun j hj => by rw [h j (by omega) hj]; decide⟩
  unfold idxP; rw [e]
theorem idxP_miss {α : Type} {p : α → Bool} {xs : List α} (h : ∀ j (hj : j < xs.length), p xs[j] = false) : idxP p xs = -1 := by
  have e : xs.findIdx? p = none := by
    rw [List.findIdx?_eq_none_iff]
    intro x hx
    obtain ⟨j, hj, rfl⟩ := List.getElem_of_mem hx
    exact h j hj
  unfold idxP; rw [e]
theorem idxP_any {α : Type} (p : α → Bool) (xs : List α) : decide (0 ≤ idxP p xs) = xs.any p := by
  unfold idxP
  cases e : xs.findIdx? p with
  | none =>
    rw [List.findIdx?_eq_none_iff] at e
    have : xs.any p = false := by
      rw [List.any_eq_false]; intro x hx; rw [e x hx]; decide
    rw [this]; rfl
  | some k =>
    obtain ⟨hk, hp, _⟩ := List.findIdx?_eq_some_iff_getElem.1 e
    have : xs.any p = true := List.any_eq_true.2 ⟨_, List.getElem_mem hk, hp⟩
    rw [this]; show decide (0 ≤ (k : Int)) = true; exact decide_eq_true (by omega)

/-- What is owed by a predicate that is handed over: at each element, in each world in which all that lay in w lies. -/
def PredOn {α : Type} (d : Kd α) (mkv : List Value → Value) (g : Nat) (lb : Array Value) (p : α → Bool) (xs : List α) (w : World) : Prop :=
  ∀ x ∈ xs, ∀ cs W, Below w.heap.size w W → d.K W x cs → Calls Tryd.prog g (#[mkv cs] ++ lb) W fun e w' => e = .returned (.bool (p x)) ∧ Below W.heap.size W w'
def oneV : List Value → Value | v :: _ => v | [] => .nilIface
def aggV (cs : List Value) : Value := .agg cs.toArray

theorem C_elem {α : Type} {d : Kd α} {w : World} {ad : Addr} {xs : List α} (h : d.C w (some ad) xs.length xs) (j : Nat) (hj : j < xs.length) :
    ∃ c, c.length = d.sz ∧ d.K w xs[j] c ∧ ∀ i u, c[i]? = some u → w.cell? (ad.add (j * d.sz + i)) = some u := by
  obtain ⟨ad', e, hc⟩ := h.2.2 (by omega)
  cases e
  exact hc j _ (List.getElem?_eq_getElem hj)
theorem C_nil {α : Type} (d : Kd α) (w : World) (A : Option Addr) : d.C w A 0 [] := ⟨rfl, by omega, fun h => absurd h (by omega)⟩
theorem C_addr {α : Type} {d : Kd α} {w : World} {A : Option Addr} {xs : List α} (h : d.C w A xs.length xs) (hn : 0 < xs.length) : ∃ ad, A = some ad := by
  obtain ⟨ad, e, _⟩ := h.2.2 hn
  exact ⟨ad, e⟩
/-- What make hands back: a slice at the head of a new block. -/
theorem make_form {α : Type} {d : Kd α} {e : Nat} {w : World} {base B : Nat} {ok : Nat → Prop} {v : Value} {xs : List α} (h : d.R e w base ok v xs) (hn : ∃ b, v.ownBlock = some b ∧ B ≤ b) :
    ∃ g cap, v = .slice (some ⟨g, 0, none⟩) xs.length cap ∧ B ≤ g ∧ g < w.heap.size ∧ xs.length ≤ cap := by
  obtain ⟨b, hb, hBb⟩ := hn
  obtain ⟨_, inner, ho, _⟩ := h
  rcases ho.2 with ⟨rfl, _⟩ | ⟨g, cap, cur, rfl, _, hh, hc, _⟩
  · simp [Value.ownBlock] at hb
  · simp only [Value.ownBlock, Option.some.injEq] at hb
    subst hb
    refine ⟨g, cap, rfl, hBb, ?_, hc⟩
    rcases Nat.lt_or_ge g w.heap.size with h | h
    · exact h
    · rw [Array.getElem?_eq_none h] at hh
      cases hh
end Go.Proofs.YtekplcjgmnahmaaDoor.PA
