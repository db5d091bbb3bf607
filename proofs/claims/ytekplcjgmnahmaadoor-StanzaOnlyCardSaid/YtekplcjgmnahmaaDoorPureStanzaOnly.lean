/- StanzaOnly's plain law: a stanza has only some names just if each of its names is one. -/
import Derived.Test.YtekplcjgmnahmaaDoorPureStanzaFields
import Derived.Test.YtekplcjgmnahmaaDoorPALStanzaOnly
namespace Go.Proofs.YtekplcjgmnahmaaDoor.PA
open Go.RowKit Go.Proofs.YtekplcjgmnahmaaDoorW.PrintWords Go.Proofs.YtekplcjgmnahmaaDoorW.PrintLast Go.Proofs.YtekplcjgmnahmaaDoorW.PrintMore

def namesG (st : List Fd) : List ByteArray := st.map (·.f0)
theorem only_own (st : List Fd) (ns : List ByteArray) (h : ∀ f ∈ st, f.f0 ∈ ns) : onlyG st ns = true := by
  unfold onlyG
  rw [List.all_eq_true]
  exact fun f hf => (Lib.containsS_iff _ _).2 (h f hf)
theorem only_mem {st : List Fd} {ns : List ByteArray} (h : onlyG st ns = true) : ∀ f ∈ st, f.f0 ∈ ns := by
  unfold onlyG at h
  rw [List.all_eq_true] at h
  exact fun f hf => (Lib.containsS_iff _ _).1 (h f hf)
theorem put_names (st : List Fd) (n v : ByteArray) : ∀ f ∈ putG st n v, f.f0 = n ∨ ∃ g ∈ st, g.f0 = f.f0 := by
  intro f hf
  unfold putG at hf
  split at hf
  · rcases List.mem_or_eq_of_mem_set hf with h | h
    · exact .inr ⟨f, h, rfl⟩
    · subst h; exact .inl rfl
  · rcases List.mem_append.1 hf with h | h
    · exact .inr ⟨f, h, rfl⟩
    · rw [List.mem_singleton] at h; subst h; exact .inl rfl
theorem only_end (st : List Fd) (ns : List ByteArray) (n : ByteArray) (hs : st.length ≤ 60) (hn : ns.length ≤ 60) : Ev (fun k => keelsonlaw5_StanzaOnly.l0 k st ns n (namesG st) (onlyG st ns) (st.length : Int)) true := by
  have hm : (namesG st).length = st.length := List.length_map _
  have h1 : onlyG st (namesG st) = true := only_own _ _ fun f hf => List.mem_map.2 ⟨f, hf, rfl⟩
  have h2 : onlyG [] ns = true := rfl
  have h4 : onlyG (putG st n ⟨#[120]⟩) (namesG st ++ [n]) = true := only_own _ _ fun f hf => by
    rcases put_names st n _ f hf with h | ⟨g, hg, e⟩
    · rw [h]; simp
    · exact List.mem_append_left _ (List.mem_map.2 ⟨g, hg, e⟩)
  refine Ev.succ ?_
  simp only [keelsonlaw5_StanzaOnly.l0]
  refine Ev.neg (by omega) (Ev.call (put_is st n _ (by omega)) (Ev.let (Ev.pos (by rw [List.length_nil]; omega) (Ev.let (Ev.pos (by rw [List.nil_append]; omega) (Ev.call (only_is _ _) (Ev.pos (by simp) (Ev.call (only_is _ _) ?_))))))))
  rw [h1]
  refine Ev.pos rfl (Ev.call (only_is _ _) ?_)
  rw [h2]
  refine Ev.pos rfl ?_
  cases ho : onlyG st ns with
  | true =>
    have h3 : onlyG (putG st n ⟨#[120]⟩) ([] ++ ns ++ [n]) = true := only_own _ _ fun f hf => by
      rcases put_names st n _ f hf with h | ⟨g, hg, e⟩
      · rw [h]; simp
      · rw [List.nil_append, ← e]; exact List.mem_append_left _ (only_mem ho g hg)
    refine Ev.pos rfl (Ev.call (only_is _ _) ?_)
    rw [h3]
    refine Ev.pos rfl (Ev.let (Ev.pos (by rw [List.length_nil]; omega) (Ev.let (Ev.pos (by rw [List.nil_append]; omega) (Ev.call (only_is _ _) (Ev.some ?_))))))
    rw [List.nil_append]; exact h4
  | false =>
    refine Ev.neg (by decide) (Ev.let (Ev.pos (by rw [List.length_nil]; omega) (Ev.let (Ev.pos (by rw [List.nil_append]; omega) (Ev.call (only_is _ _) (Ev.some ?_))))))
    rw [List.nil_append]; exact h4
theorem only_l1 (st : List Fd) (ns : List ByteArray) (n : ByteArray) (hn : ns.length ≤ 60) (own : List ByteArray) (all : Bool) (i : Nat) (hi : i < st.length) (next : ∀ b, b = (all && Lib.containsS ns st[i].f0) → Ev (fun k => keelsonlaw5_StanzaOnly.l0 k st ns n own b (wrap64 ((i : Int) + 1))) true) (d : Nat) :
    ∀ (j : Nat) (b : Bool), j + d = ns.length → (b = true → st[i].f0 ∈ ns) → (b = false → ∀ q (h : q < ns.length), q < j → ¬ ns[q] = st[i].f0) → Ev (fun k => keelsonlaw5_StanzaOnly.l1 k st ns n own all (i : Int) b (j : Int)) true := by
  induction d with
  | zero =>
    intro j b hj hb hb2
    refine Ev.succ ?_
    simp only [keelsonlaw5_StanzaOnly.l1]
    have hbc : b = Lib.containsS ns st[i].f0 := by
      cases b with
      | true => exact ((Lib.containsS_iff _ _).2 (hb rfl)).symm
      | false =>
        refine (contains_no fun hm => ?_).symm
        obtain ⟨q, hq, e⟩ := List.getElem_of_mem hm
        exact hb2 rfl q hq (by omega) e
    refine Ev.neg (by omega) ?_
    cases all with
    | true => exact Ev.pos rfl (next b (by rw [Bool.true_and]; exact hbc))
    | false => exact Ev.neg (by decide) (next false (by rw [Bool.false_and]))
  | succ d ih =>
    intro j b hj hb hb2
    have hjl : j < ns.length := by omega
    refine Ev.succ ?_
    simp only [keelsonlaw5_StanzaOnly.l1]
    rw [wrap_step hjl (by omega), rdT_nat st i hi, rdOf_nat _ ns j hjl]
    refine Ev.pos (by omega) ?_
    cases b with
    | true => exact Ev.pos rfl (ih (j + 1) true (by omega) hb (fun h => by cases h))
    | false =>
      refine Ev.neg (by decide) (Ev.pos (by omega) (Ev.pos (by omega) (Ev.pos (by omega) ?_)))
      by_cases e : ns[j] = st[i].f0
      · rw [show (ns[j].toList == st[i].f0.toList) = true from by rw [e]; simp]
        exact ih (j + 1) true (by omega) (fun _ => e ▸ List.getElem_mem hjl) (fun h => by cases h)
      · rw [show (ns[j].toList == st[i].f0.toList) = false from beq_eq_false_iff_ne.2 fun h => e (bstr.1 h)]
        refine ih (j + 1) false (by omega) (fun h => by cases h) (fun _ q hq hqj => ?_)
        by_cases hqe : q = j
        · subst hqe; exact e
        · exact hb2 rfl q hq (by omega)
theorem only_l0 (st : List Fd) (ns : List ByteArray) (n : ByteArray) (hs : st.length ≤ 60) (hn : ns.length ≤ 60) (d : Nat) : ∀ i : Nat, i + d = st.length → Ev (fun k => keelsonlaw5_StanzaOnly.l0 k st ns n (namesG (st.take i)) (onlyG (st.take i) ns) (i : Int)) true := by
  induction d with
  | zero =>
    intro i hi
    obtain rfl : i = st.length := by omega
    rw [List.take_of_length_le (Nat.le_refl _)]
    exact only_end st ns n hs hn
  | succ d ih =>
    intro i hi
    have hil : i < st.length := by omega
    have hml : (namesG (st.take i)).length = i := by rw [namesG, List.length_map, List.length_take]; omega
    refine Ev.succ ?_
    simp only [keelsonlaw5_StanzaOnly.l0]
    rw [rdT_nat st i hil]
    refine Ev.pos (by omega) (Ev.pos (by omega) (Ev.pos (by omega) ?_))
    refine only_l1 st ns n hn _ _ i hil (fun b hb => ?_) ns.length 0 false (by omega) (fun h => by cases h) (fun _ q _ h => absurd h (Nat.not_lt_zero _))
    have h := ih (i + 1) (by omega)
    rw [List.take_succ_eq_append_getElem hil] at h
    have e1 : namesG (st.take i ++ [st[i]]) = namesG (st.take i) ++ [st[i].f0] := by unfold namesG; rw [List.map_append]; rfl
    have e2 : onlyG (st.take i ++ [st[i]]) ns = (onlyG (st.take i) ns && Lib.containsS ns st[i].f0) := by unfold onlyG; rw [List.all_append, List.all_cons, List.all_nil, Bool.and_true]
    rw [e1, e2, ← hb] at h
    rw [wrap_step hil (by omega)]
    exact h
theorem StanzaOnly_pure {P0 P1 P2 : Prop} (st : List Fd) (_ : P0) (ns : List ByteArray) (_ : P1) (n : ByteArray) (_ : P2) : ∃ k, keelsonlaw5_StanzaOnly.f k st ns n = some true := by
  refine Ev.rounds (g := fun k => keelsonlaw5_StanzaOnly.f k st ns n) ?_
  unfold keelsonlaw5_StanzaOnly.f
  refine Ev.bind shown5_ev (Ev.pos rfl ?_)
  by_cases hl : (st.length : Int) > 60
  · refine Ev.pos hl (Ev.succ ?_)
    simp only [keelsonlaw5_StanzaOnly.j0]
    exact Ev.pos (by first | rfl | trivial) (Ev.some rfl)
  refine Ev.neg hl (Ev.succ ?_)
  simp only [keelsonlaw5_StanzaOnly.j0]
  by_cases hm : (ns.length : Int) > 60
  · exact Ev.pos (decide_eq_true hm) (Ev.some rfl)
  exact Ev.neg (by simpa using hm) (only_l0 st ns n (by omega) (by omega) st.length 0 (by omega))
end Go.Proofs.YtekplcjgmnahmaaDoor.PA
