/- Plain words for what printed functions come to: from some number of rounds on. No condition. -/
import Derived.Test.YtekplcjgmnahmaaDoorPA0
namespace Go.Proofs.YtekplcjgmnahmaaDoor.PA
open Go.RowKit Go.Proofs.YtekplcjgmnahmaaDoorW.PrintWords Go.Proofs.YtekplcjgmnahmaaDoorW.PrintLast Go.Proofs.YtekplcjgmnahmaaDoorW.PrintMore

theorem Ev.succ {α : Type} {g : Nat → Option α} {r : α} (h : Ev (fun k => g (k + 1)) r) : Ev g r := Ev.step (fun _ => rfl) h
theorem Ev.some {α : Type} {r s : α} (h : r = s) : Ev (fun _ => Option.some r) s := ⟨0, fun _ _ => by rw [h]⟩
theorem Ev.at {α : Type} {g : Nat → Option α} {r : α} (K : Nat) (h : ∀ k, K ≤ k → g k = Option.some r) : Ev g r := ⟨K, h⟩
theorem Ev.pos {α : Type} {c : Prop} [Decidable c] {g f : Nat → Option α} {r : α} (hc : c) (h : Ev g r) : Ev (fun k => if c then g k else f k) r := by simpa only [if_pos hc] using h
theorem Ev.neg {α : Type} {c : Prop} [Decidable c] {g f : Nat → Option α} {r : α} (hc : ¬ c) (h : Ev f r) : Ev (fun k => if c then g k else f k) r := by simpa only [if_neg hc] using h
theorem Ev.ite {α : Type} {c : Prop} [Decidable c] {g f : Nat → Option α} {r s : α} (h1 : c → Ev g r) (h2 : ¬ c → Ev f s) : Ev (fun k => if c then g k else f k) (if c then r else s) := by
  by_cases hc : c
  · rw [if_pos hc]; exact Ev.pos hc (h1 hc)
  · rw [if_neg hc]; exact Ev.neg hc (h2 hc)
theorem Ev.let {α β : Type} {v : α} {f : Nat → α → Option β} {r : β} (h : Ev (fun k => f k v) r) : Ev (fun k => (Option.some v).bind (f k)) r := h
theorem Ev.call {α β : Type} {o : Option α} {v : α} {f : Nat → α → Option β} {r : β} (ho : o = Option.some v) (h : Ev (fun k => f k v) r) : Ev (fun k => o.bind (f k)) r := by rw [ho]; exact h
theorem wrap_id {x : Int} (h0 : -9223372036854775808 ≤ x) (h1 : x ≤ 9223372036854775807) : wrap64 x = x := by unfold wrap64; omega
theorem wrap_step {i n : Nat} (h : i < n) (hn : n ≤ 9223372036854775807) : wrap64 ((i : Int) + 1) = ((i + 1 : Nat) : Int) := by unfold wrap64; omega
theorem rd_nat (l : List Int) (i : Nat) (h : i < l.length) : rd l (i : Int) = l[i] := by unfold rd; simp [List.getD_eq_getElem?_getD, List.getElem?_eq_getElem h]
theorem rdOf_nat {α : Type} (d : α) (l : List α) (i : Nat) (h : i < l.length) : rdOf d l (i : Int) = l[i] := by unfold rdOf; simp [List.getD_eq_getElem?_getD, List.getElem?_eq_getElem h]
theorem mx_max (a b : Int) : mx a b = max a b := by unfold mx; omega
theorem mn_min (a b : Int) : mn a b = min a b := by unfold mn; omega
theorem shr_div (x : Int) (i : Nat) (h : i ≤ 64) : shr .i64 x (i : Int) = x / 2 ^ i := by
  unfold shr
  rw [Int.toNat_natCast, show IntKind.i64.bits = 64 from rfl, Nat.min_eq_left h]
theorem tmod_two {x : Int} (h : 0 ≤ x) : Int.tmod x 2 = x % 2 := Int.tmod_eq_emod_of_nonneg h
end Go.Proofs.YtekplcjgmnahmaaDoor.PA
