/- Literals of numbers as they read. No condition. -/
import Derived.Test.YtooobbbpcpfddaaDoorGBase
namespace Go.Proofs.YtooobbbpcpfddaaDoor.PA
open Go.RowKit Go.Proofs.YtooobbbpcpfddaaDoorW.PrintWords Go.Proofs.YtooobbbpcpfddaaDoorW.PrintLast Go.Proofs.YtooobbbpcpfddaaDoorW.PrintMore
/-- A literal of one number, and of one row: as it reads. -/
theorem lit_one {w : World} {b : Nat} {x : Int} (h : w.cell? ⟨b, 0, none⟩ = some (.int .i64 x)) : Kd.C (Kd.int .i64) w (some ⟨b, 0, none⟩) 1 [x] :=
  ⟨rfl, by decide, fun _ => ⟨_, rfl, fun j p hp => by
    have hj := (List.getElem?_eq_some_iff.1 hp).1
    have h0 : j = 0 := by simp at hj; omega
    subst h0
    simp at hp
    subst hp
    refine ⟨[.int .i64 x], rfl, rfl, fun i u hu => ?_⟩
    have hi := (List.getElem?_eq_some_iff.1 hu).1
    have hi0 : i = 0 := by simp at hi; omega
    subst hi0
    simp at hu
    subst hu
    simpa [Addr.add] using h⟩⟩
theorem lit_row {w : World} {b b' : Nat} {x : Int} (h : w.cell? ⟨b, 0, none⟩ = some (.int .i64 x)) (h' : w.cell? ⟨b', 0, none⟩ = some (.slice (some ⟨b, 0, none⟩) 1 1)) :
    Kd.C (Kd.slice 3 (Kd.int .i64)) w (some ⟨b', 0, none⟩) 1 [[x]] :=
  ⟨rfl, by decide, fun _ => ⟨_, rfl, fun j p hp => by
    have hj := (List.getElem?_eq_some_iff.1 hp).1
    have h0 : j = 0 := by simp at hj; omega
    subst h0
    simp at hp
    subst hp
    refine ⟨[.slice (some ⟨b, 0, none⟩) 1 1], rfl, ⟨_, _, rfl, Nat.le_refl _, lit_one h⟩, fun i u hu => ?_⟩
    have hi := (List.getElem?_eq_some_iff.1 hu).1
    have hi0 : i = 0 := by simp at hi; omega
    subst hi0
    simp at hu
    subst hu
    simpa [Addr.add] using h'⟩⟩

end Go.Proofs.YtooobbbpcpfddaaDoor.PA
