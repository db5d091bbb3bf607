/- StanzaParses' plain law: program and reference read a text as one and the same. -/
import Derived.Test.YtekplcjgmnahmaaDoorMStanzaP
import Derived.Test.YtekplcjgmnahmaaDoorGRefParse5
import Derived.Test.YtekplcjgmnahmaaDoorPALStanzaParses
namespace Go.Proofs.YtekplcjgmnahmaaDoor.PA
open Go.RowKit Go.Proofs.YtekplcjgmnahmaaDoorW.PrintWords Go.Proofs.YtekplcjgmnahmaaDoorW.PrintLast Go.Proofs.YtekplcjgmnahmaaDoorW.PrintMore

theorem StanzaParses_pure {P0 : Prop} (s : ByteArray) (_ : P0) : ∃ k, keelsonlaw5_StanzaParses.f k s = some true := by
  refine Ev.rounds (g := fun k => keelsonlaw5_StanzaParses.f k s) ?_
  unfold keelsonlaw5_StanzaParses.f
  refine Ev.bind shown5_ev (Ev.pos rfl (Ev.succ ?_))
  simp only [keelsonlaw5_StanzaParses.j0]
  by_cases hl : (s.size : Int) > 5000
  · exact Ev.pos (decide_eq_true hl) (Ev.some rfl)
  have h1 : stanza_Parse.f s = some (parseL s.data.toList) := rfl
  have h2 : keelsonref5_Parse.f s = some (parseL s.data.toList) := rfl
  have hf := parse_fine s.data.toList
  generalize parseL s.data.toList = p at h1 h2 hf
  exact Ev.neg (by simpa using hl) (Ev.call h1 (Ev.call h2 (Ev.bind (as_ev p.1 (by omega)) (Ev.bind (same5_ev p.1 (by omega) (fun x hx => by have := hf.2 x hx; omega)) (Ev.pos rfl (Ev.pos rfl (Ev.some (by simp))))))))
end Go.Proofs.YtekplcjgmnahmaaDoor.PA
