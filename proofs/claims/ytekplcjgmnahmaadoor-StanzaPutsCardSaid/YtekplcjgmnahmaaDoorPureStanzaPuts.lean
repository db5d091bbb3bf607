/- StanzaPuts' plain law: a field that was put is got, all others are as they were. -/
import Derived.Test.YtekplcjgmnahmaaDoorMStanzaP
import Derived.Test.YtekplcjgmnahmaaDoorPALStanzaPuts
namespace Go.Proofs.YtekplcjgmnahmaaDoor.PA
open Go.RowKit Go.Proofs.YtekplcjgmnahmaaDoorW.PrintWords Go.Proofs.YtekplcjgmnahmaaDoorW.PrintLast Go.Proofs.YtekplcjgmnahmaaDoorW.PrintMore

theorem puts_j1 (st : List Fd) (n v : ByteArray) (hl : st.length ≤ 100) : Ev (fun k => keelsonlaw5_StanzaPuts.j1 k st n (putG st n v) ((getG st n).getD ⟨#[]⟩) (getG st n).isSome false) true := by
  refine Ev.succ ?_
  simp only [keelsonlaw5_StanzaPuts.j1]
  refine Ev.neg (by decide) ?_
  cases h : (getG st n).isSome with
  | false => exact Ev.neg (by decide) (Ev.some rfl)
  | true =>
    have hp := put_len st n v
    refine Ev.pos rfl (Ev.call (put_is _ n _ (by omega)) ?_)
    rw [put_back st n v h]
    exact Ev.bind (sameF_ev st (by omega)) (Ev.some rfl)
theorem StanzaPuts_pure {P0 P1 P2 P3 : Prop} (st : List Fd) (_ : P0) (n : ByteArray) (_ : P1) (v : ByteArray) (_ : P2) (m : ByteArray) (_ : P3) : ∃ k, keelsonlaw5_StanzaPuts.f k st n v m = some true := by
  refine Ev.rounds (g := fun k => keelsonlaw5_StanzaPuts.f k st n v m) ?_
  unfold keelsonlaw5_StanzaPuts.f
  refine Ev.bind shown5_ev (Ev.pos rfl (Ev.succ ?_))
  simp only [keelsonlaw5_StanzaPuts.j0]
  by_cases hl : (st.length : Int) > 100
  · exact Ev.pos (decide_eq_true hl) (Ev.some rfl)
  have hlen : st.length ≤ 100 := by omega
  have hth : ((getG st n).isSome != ((((putG st n v).length : Int) == (st.length : Int)))) = false := by
    rw [there_put st n v]
    have : (((putG st n v).length : Int) == (st.length : Int)) = decide ((putG st n v).length = st.length) := by
      rw [Bool.eq_iff_iff, beq_iff_eq, decide_eq_true_iff]; omega
    rw [this]; simp
  refine Ev.neg (by simpa using hl) (Ev.call (put_is st n v (by omega)) (Ev.call (get_is _ _) (Ev.call (get_is _ _) (Ev.call (get_is _ _) (Ev.call (get_is _ _) ?_)))))
  dsimp only
  rw [get_put]
  refine Ev.pos rfl (Ev.pos rfl ?_)
  rw [hth]
  by_cases hm : m = n
  · exact Ev.pos (bstr.2 hm) (puts_j1 st n v hlen)
  · refine Ev.neg (fun e => hm (bstr.1 e)) ?_
    rw [get_put_other st n v m hm]
    exact Ev.pos rfl (Ev.neg (by simp) (puts_j1 st n v hlen))
end Go.Proofs.YtekplcjgmnahmaaDoor.PA
