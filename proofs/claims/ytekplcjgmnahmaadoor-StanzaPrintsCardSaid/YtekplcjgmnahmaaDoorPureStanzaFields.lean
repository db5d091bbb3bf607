/- StanzaFields' plain law: a field's value, a field put, and whether a stanza has just some names: program and reference agree. -/
import Derived.Test.YtekplcjgmnahmaaDoorMStanzaP
import Derived.Test.YtekplcjgmnahmaaDoorPAkeelsonref50
import Derived.Test.YtekplcjgmnahmaaDoorPALStanzaFields
namespace Go.Proofs.YtekplcjgmnahmaaDoor.PA
open Go.RowKit Go.Proofs.YtekplcjgmnahmaaDoorW.PrintWords Go.Proofs.YtekplcjgmnahmaaDoorW.PrintLast Go.Proofs.YtekplcjgmnahmaaDoorW.PrintMore

theorem getG_cons (f : Fd) (st : List Fd) (n : ByteArray) : getG (f :: st) n = if f.f0 = n then some f.f1 else getG st n := by
  unfold getG
  rw [List.find?_cons]
  by_cases h : f.f0 = n
  · rw [decide_eq_true h, if_pos h]; rfl
  · rw [decide_eq_false h, if_neg h]
theorem refget_loop (st : List Fd) (n : ByteArray) (hn : st.length ≤ 9223372036854775807) (d : Nat) : ∀ i : Nat, i + d = st.length → Ev (fun k => keelsonref5_Get.l0 k st n (i : Int)) ((getG (st.drop i) n).getD ⟨#[]⟩, (getG (st.drop i) n).isSome) := by
  induction d with
  | zero =>
    intro i hi
    refine Ev.succ ?_
    simp only [keelsonref5_Get.l0]
    rw [List.drop_eq_nil_of_le (by omega)]
    exact Ev.neg (by omega) (Ev.some rfl)
  | succ d ih =>
    intro i hi
    have hil : i < st.length := by omega
    refine Ev.succ ?_
    simp only [keelsonref5_Get.l0]
    rw [wrap_step hil hn, rdT_nat st i hil, List.drop_eq_getElem_cons hil]
    refine Ev.pos (by omega) (Ev.pos (by omega) ?_)
    by_cases h : st[i].f0 = n
    · refine Ev.pos (bstr.2 h) (Ev.some ?_)
      rw [getG_cons, if_pos h]; rfl
    · refine Ev.neg (fun e => h (bstr.1 e)) ?_
      rw [getG_cons, if_neg h]
      exact ih (i + 1) (by omega)
theorem refget_ev (st : List Fd) (n : ByteArray) (hn : st.length ≤ 9223372036854775807) : Ev (fun k => keelsonref5_Get.f k st n) ((getG st n).getD ⟨#[]⟩, (getG st n).isSome) := by
  unfold keelsonref5_Get.f
  have := refget_loop st n hn st.length 0 (by omega)
  rwa [List.drop_zero] at this
theorem refput_loop (st : List Fd) (n v : ByteArray) (hn : st.length < 4398046511104) (d : Nat) : ∀ i : Nat, i + d = st.length → (∀ j (h : j < st.length), j < i → ¬ st[j].f0 = n) → Ev (fun k => keelsonref5_Put.l0 k n v st (i : Int)) (putG st n v) := by
  induction d with
  | zero =>
    intro i hi hb
    refine Ev.succ ?_
    simp only [keelsonref5_Put.l0]
    refine Ev.neg (by omega) (Ev.pos hn (Ev.some ?_))
    unfold putG
    rcases findP st n with ⟨k, hk, e, e2⟩ | ⟨e, _⟩
    · exact absurd e2 (hb k hk (by omega))
    · rw [e]
  | succ d ih =>
    intro i hi hb
    have hil : i < st.length := by omega
    refine Ev.succ ?_
    simp only [keelsonref5_Put.l0]
    rw [wrap_step hil (by omega), rdT_nat st i hil, Int.toNat_natCast]
    refine Ev.pos (by omega) (Ev.pos (by omega) ?_)
    by_cases h : st[i].f0 = n
    · refine Ev.pos (bstr.2 h) (Ev.some ?_)
      have e : st.findIdx? (isName n) = some i := by
        rw [List.findIdx?_eq_some_iff_getElem]
        exact ⟨hil, decide_eq_true h, fun j hj => by unfold isName; simpa using hb j (by omega) hj⟩
      unfold putG
      rw [e, h]
    · refine Ev.neg (fun e => h (bstr.1 e)) (ih (i + 1) (by omega) fun j hj hji => ?_)
      by_cases e : j = i
      · subst e; exact h
      · exact hb j hj (by omega)
theorem refput_ev (st : List Fd) (n v : ByteArray) (hn : st.length < 4398046511104) : Ev (fun k => keelsonref5_Put.f k st n v) (putG st n v) := by
  unfold keelsonref5_Put.f
  refine Ev.let (Ev.pos (by simpa using hn) ?_)
  rw [List.nil_append]
  exact refput_loop st n v hn st.length 0 (by omega) (fun j _ h => absurd h (Nat.not_lt_zero _))
def onlyG (st : List Fd) (ns : List ByteArray) : Bool := st.all fun f => Lib.containsS ns f.f0
theorem contains_no {ns : List ByteArray} {x : ByteArray} (h : ¬ x ∈ ns) : Lib.containsS ns x = false := by
  cases e : Lib.containsS ns x with
  | true => exact absurd ((Lib.containsS_iff _ _).1 e) h
  | false => rfl
theorem only_is (st : List Fd) (ns : List ByteArray) : stanza_Only.f st ns = some (onlyG st ns) := by
  unfold stanza_Only.f onlyG
  rw [List.not_any_eq_all_not]
  congr 2
  funext f
  simp
theorem refonly_l1 (st : List Fd) (ns : List ByteArray) (i : Nat) (hi : i < st.length) (hn : ns.length ≤ 9223372036854775807) (r : Bool)
    (h1 : st[i].f0 ∈ ns → Ev (fun k => keelsonref5_Only.l0 k st ns (wrap64 ((i : Int) + 1))) r) (h2 : ¬ st[i].f0 ∈ ns → r = false) (d : Nat) :
    ∀ (j : Nat) (b : Bool), j + d = ns.length → (b = true → st[i].f0 ∈ ns) → (b = false → ∀ q (h : q < ns.length), q < j → ¬ ns[q] = st[i].f0) → Ev (fun k => keelsonref5_Only.l1 k st ns (i : Int) b (j : Int)) r := by
  induction d with
  | zero =>
    intro j b hj hb hb2
    refine Ev.succ ?_
    simp only [keelsonref5_Only.l1]
    refine Ev.neg (by omega) ?_
    cases b with
    | true => exact Ev.pos rfl (h1 (hb rfl))
    | false =>
      refine Ev.neg (by decide) (Ev.some ?_)
      rw [h2]
      intro hm
      obtain ⟨q, hq, e⟩ := List.getElem_of_mem hm
      exact hb2 rfl q hq (by omega) e
  | succ d ih =>
    intro j b hj hb hb2
    have hjl : j < ns.length := by omega
    refine Ev.succ ?_
    simp only [keelsonref5_Only.l1]
    rw [wrap_step hjl hn, rdT_nat st i hi, rdOf_nat _ ns j hjl]
    refine Ev.pos (by omega) ?_
    cases b with
    | true => exact Ev.pos rfl (ih (j + 1) true (by omega) hb (fun h => by cases h))
    | false =>
      refine Ev.neg (by decide) (Ev.pos (by omega) (Ev.pos (by omega) (Ev.pos (by omega) ?_)))
      by_cases e : ns[j] = st[i].f0
      · rw [show (ns[j].toList == st[i].f0.toList) = true from by rw [e]; simp]
        exact ih (j + 1) true (by omega) (fun _ => e ▸ List.getElem_mem hjl) (fun h => by cases h)
      · rw [show (ns[j].toList == st[i].f0.toList) = false from beq_eq_false_iff_ne.2 fun h => e (bstr.1 h)]
        refine ih (j + 1) false (by omega) (fun h => by cases h) (fun _ q hq hqj => ?_)
        by_cases hqe : q = j
        · subst hqe; exact e
        · exact hb2 rfl q hq (by omega)
theorem refonly_loop (st : List Fd) (ns : List ByteArray) (hs : st.length ≤ 9223372036854775807) (hn : ns.length ≤ 9223372036854775807) (d : Nat) : ∀ i : Nat, i + d = st.length → Ev (fun k => keelsonref5_Only.l0 k st ns (i : Int)) (onlyG (st.drop i) ns) := by
  induction d with
  | zero =>
    intro i hi
    refine Ev.succ ?_
    simp only [keelsonref5_Only.l0]
    rw [List.drop_eq_nil_of_le (by omega)]
    exact Ev.neg (by omega) (Ev.some rfl)
  | succ d ih =>
    intro i hi
    have hil : i < st.length := by omega
    refine Ev.succ ?_
    simp only [keelsonref5_Only.l0]
    refine Ev.pos (by omega) ?_
    rw [List.drop_eq_getElem_cons hil]
    have e : onlyG (st[i] :: st.drop (i + 1)) ns = (Lib.containsS ns st[i].f0 && onlyG (st.drop (i + 1)) ns) := rfl
    rw [e]
    refine refonly_l1 st ns i hil hn _ (fun h => ?_) (fun h => ?_) ns.length 0 false (by omega) (fun h => by cases h) (fun _ q _ h => absurd h (Nat.not_lt_zero _))
    · rw [(Lib.containsS_iff _ _).2 h, Bool.true_and, wrap_step hil hs]
      exact ih (i + 1) (by omega)
    · rw [contains_no h, Bool.false_and]
theorem refonly_ev (st : List Fd) (ns : List ByteArray) (hs : st.length ≤ 9223372036854775807) (hn : ns.length ≤ 9223372036854775807) : Ev (fun k => keelsonref5_Only.f k st ns) (onlyG st ns) := by
  unfold keelsonref5_Only.f
  have := refonly_loop st ns hs hn st.length 0 (by omega)
  rwa [List.drop_zero] at this
theorem StanzaFields_pure {P0 P1 P2 P3 : Prop} (st : List Fd) (_ : P0) (n : ByteArray) (_ : P1) (v : ByteArray) (_ : P2) (ns : List ByteArray) (_ : P3) : ∃ k, keelsonlaw5_StanzaFields.f k st n v ns = some true := by
  refine Ev.rounds (g := fun k => keelsonlaw5_StanzaFields.f k st n v ns) ?_
  unfold keelsonlaw5_StanzaFields.f
  refine Ev.bind shown5_ev (Ev.pos rfl ?_)
  by_cases hl : (st.length : Int) > 100
  · refine Ev.pos hl (Ev.succ ?_)
    simp only [keelsonlaw5_StanzaFields.j0]
    exact Ev.pos (by first | rfl | trivial) (Ev.some rfl)
  refine Ev.neg hl (Ev.succ ?_)
  simp only [keelsonlaw5_StanzaFields.j0]
  by_cases hm : (ns.length : Int) > 100
  · exact Ev.pos (decide_eq_true hm) (Ev.some rfl)
  have hp := put_len st n v
  refine Ev.neg (by simpa using hm) (Ev.call (get_is _ _) (Ev.bind (refget_ev st n (by omega)) (Ev.pos rfl (Ev.pos (by simp) (Ev.call (put_is st n v (by omega)) (Ev.bind (refput_ev st n v (by omega)) (Ev.bind (sameF_ev _ (by omega)) (Ev.pos rfl (Ev.call (only_is _ _) (Ev.bind (refonly_ev st ns (by omega) (by omega)) (Ev.some (by simp))))))))))))
end Go.Proofs.YtekplcjgmnahmaaDoor.PA
