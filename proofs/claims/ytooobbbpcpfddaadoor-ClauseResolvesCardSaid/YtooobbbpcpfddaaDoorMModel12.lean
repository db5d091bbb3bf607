/- The number m as an assignment: what keelsonlaw12.model comes to. No condition. -/
import Derived.Test.YtooobbbpcpfddaaDoorMFollows
import Derived.Test.YtooobbbpcpfddaaDoorPAkeelsonlaw120
namespace Go.Proofs.YtooobbbpcpfddaaDoor.PA
open Go.RowKit Go.Proofs.YtooobbbpcpfddaaDoorW.PrintWords Go.Proofs.YtooobbbpcpfddaaDoorW.PrintLast Go.Proofs.YtooobbbpcpfddaaDoorW.PrintMore

def modelF : Int → Nat → List Bool
  | _, 0 => []
  | m, d + 1 => (Int.tmod m 2 == 1) :: modelF (wrap64 (Int.tdiv m 2)) d
theorem modelF_len (d : Nat) : ∀ m, (modelF m d).length = d := by
  induction d with
  | zero => intro m; rfl
  | succ d ih => intro m; simp only [modelF, List.length_cons, ih]
theorem model12_loop (n : Nat) (hn : n ≤ 1000) (d : Nat) : ∀ (m : Int) (acc : List Bool) (i : Nat), i + d = n → acc.length ≤ i → Ev (fun k => keelsonlaw12_model.l0 k m (n : Int) acc (i : Int)) (acc ++ modelF m d) := by
  induction d with
  | zero =>
    intro m acc i hi _
    refine Ev.succ ?_
    simp only [keelsonlaw12_model.l0]
    exact Ev.neg (by omega) (Ev.some (by simp [modelF]))
  | succ d ih =>
    intro m acc i hi ha
    refine Ev.succ ?_
    simp only [keelsonlaw12_model.l0]
    rw [wrap_step (show i < n by omega) (by omega)]
    refine Ev.pos (by omega) (Ev.pos (by omega) ?_)
    have h := ih (wrap64 (Int.tdiv m 2)) (acc ++ [Int.tmod m 2 == 1]) (i + 1) (by omega) (by simp; omega)
    rw [List.append_assoc] at h
    exact h
theorem model12_ev (m : Int) (n : Nat) (hn : n ≤ 1000) : Ev (fun k => keelsonlaw12_model.f k m (n : Int)) (modelF m n) := by
  unfold keelsonlaw12_model.f
  simpa using model12_loop n hn n m [] 0 (by omega) (by simp)
end Go.Proofs.YtooobbbpcpfddaaDoor.PA
