/- The words of keelsonlaw5 and what stanzas' functions come to, as plain functions. Conditions: lengths that fit. -/
import Derived.Test.YtekplcjgmnahmaaDoorMBase
import Derived.Test.YtekplcjgmnahmaaDoorMStanzaJ
import Derived.Test.YtekplcjgmnahmaaDoorGParse5
import Derived.Test.YtekplcjgmnahmaaDoorPAkeelsonlaw50
import Derived.Test.YtekplcjgmnahmaaDoorPAkeelsonlaw52
namespace Go.Proofs.YtekplcjgmnahmaaDoor.PA
open Go.RowKit Go.Proofs.YtekplcjgmnahmaaDoorW.PrintWords Go.Proofs.YtekplcjgmnahmaaDoorW.PrintLast Go.Proofs.YtekplcjgmnahmaaDoorW.PrintMore

theorem bstr {a b : ByteArray} : a.toList = b.toList ↔ a = b := by
  rw [ByteArray.toList_eq, ByteArray.toList_eq]
  exact ⟨fun h => bytes_inj9 h, fun h => by rw [h]⟩
theorem rdT_nat (l : List Fd) (i : Nat) (h : i < l.length) : rd_T49 l (i : Int) = l[i] := by
  unfold rd_T49; simp [List.getD_eq_getElem?_getD, List.getElem?_eq_getElem h]
theorem rdL_nat (l : List (List Fd)) (i : Nat) (h : i < l.length) : rd_L2 l (i : Int) = l[i] := by
  unfold rd_L2; simp [List.getD_eq_getElem?_getD, List.getElem?_eq_getElem h]
theorem sameF_loop (a : List Fd) (hn : a.length ≤ 9223372036854775807) (d : Nat) : ∀ i : Nat, i + d = a.length → Ev (fun k => keelsonlaw5_sameFields.l0 k a a (i : Int)) true := by
  induction d with
  | zero =>
    intro i hi
    refine Ev.succ ?_
    simp only [keelsonlaw5_sameFields.l0]
    exact Ev.neg (by omega) (Ev.some rfl)
  | succ d ih =>
    intro i hi
    refine Ev.succ ?_
    simp only [keelsonlaw5_sameFields.l0]
    rw [wrap_step (show i < a.length by omega) hn]
    exact Ev.pos (by omega) (Ev.pos (by omega) (Ev.pos (by omega) (Ev.neg (by simp) (ih (i + 1) (by omega)))))
theorem sameF_ev (a : List Fd) (hn : a.length ≤ 9223372036854775807) : Ev (fun k => keelsonlaw5_sameFields.f k a a) true := by
  unfold keelsonlaw5_sameFields.f
  exact Ev.pos rfl (sameF_loop a hn a.length 0 (by omega))
theorem same_loop5 (a : List (List Fd)) (hn : a.length ≤ 9223372036854775807) (hm : ∀ x ∈ a, x.length ≤ 9223372036854775807) (d : Nat) : ∀ i : Nat, i + d = a.length → Ev (fun k => keelsonlaw5_same.l0 k a a (i : Int)) true := by
  induction d with
  | zero =>
    intro i hi
    refine Ev.succ ?_
    simp only [keelsonlaw5_same.l0]
    exact Ev.neg (by omega) (Ev.some rfl)
  | succ d ih =>
    intro i hi
    have hil : i < a.length := by omega
    refine Ev.succ ?_
    simp only [keelsonlaw5_same.l0]
    rw [wrap_step hil hn, rdL_nat a i hil]
    exact Ev.pos (by omega) (Ev.pos (by omega) (Ev.pos (by omega) (Ev.bind (sameF_ev a[i] (hm _ (List.getElem_mem hil))) (Ev.pos rfl (ih (i + 1) (by omega))))))
theorem same5_ev (a : List (List Fd)) (hn : a.length ≤ 9223372036854775807) (hm : ∀ x ∈ a, x.length ≤ 9223372036854775807) : Ev (fun k => keelsonlaw5_same.f k a a) true := by
  unfold keelsonlaw5_same.f
  exact Ev.pos rfl (same_loop5 a hn hm a.length 0 (by omega))
theorem as_loop (a : List (List Fd)) (hn : a.length ≤ 5864062014804) (d : Nat) : ∀ i : Nat, i + d = a.length → Ev (fun k => keelsonlaw5_as.l0 k a (a.take i) (i : Int)) a := by
  induction d with
  | zero =>
    intro i hi
    refine Ev.succ ?_
    simp only [keelsonlaw5_as.l0]
    exact Ev.neg (by omega) (Ev.some (by rw [List.take_of_length_le (by omega)]))
  | succ d ih =>
    intro i hi
    have hil : i < a.length := by omega
    refine Ev.succ ?_
    simp only [keelsonlaw5_as.l0]
    rw [wrap_step hil (by omega), rdL_nat a i hil, ← List.take_succ_eq_append_getElem hil]
    exact Ev.pos (by omega) (Ev.pos (by omega) (Ev.pos (by rw [List.length_take]; omega) (ih (i + 1) (by omega))))
theorem as_ev (a : List (List Fd)) (hn : a.length ≤ 5864062014804) : Ev (fun k => keelsonlaw5_as.f k a) a := by
  unfold keelsonlaw5_as.f
  exact as_loop a hn a.length 0 (by omega)

theorem read_fine : ∀ (ss : List (List UInt8)) (i : Nat) (l : List (List Fd)) (o : Bool), FineR l o → (readG ss i l o).1.length ≤ 200 ∧ ∀ x ∈ (readG ss i l o).1, x.length ≤ 40 := by
  intro ss
  induction ss with
  | nil => intro i l o h; exact ⟨h.1, fun x hx => (h.2.1 x hx).2⟩
  | cons s ss ih =>
    intro i l o h
    unfold readG
    cases e : lineG l o s with
    | error q => exact ⟨Nat.zero_le _, fun x hx => by cases hx⟩
    | ok p => exact ih _ _ _ (fine_line h e)
theorem parse_fine (s : List UInt8) : (parseL s).1.length ≤ 200 ∧ ∀ x ∈ (parseL s).1, x.length ≤ 40 := by
  unfold parseL
  split
  · exact ⟨Nat.zero_le _, fun x hx => by cases hx⟩
  · exact read_fine _ _ _ _ fine_start
theorem shown5_ev : Ev (fun k => keelsonlaw5_shown.f k) true := by
  unfold keelsonlaw5_shown.f stanza_Parse.f
  have p1 : parseL (⟨#[65, 58, 32, 120, 10, 32, 121, 10, 10, 66, 58]⟩ : ByteArray).data.toList = ([[⟨⟨#[65]⟩, ⟨#[120, 10, 121]⟩⟩], [⟨⟨#[66]⟩, ⟨#[]⟩⟩]], 0, 0) := by rfl
  have p2 : parseL (⟨#[65, 58, 32, 49, 10, 65, 58, 32, 50]⟩ : ByteArray).data.toList = ([], 2, 7) := by rfl
  have p3 : parseL (⟨#[32, 120]⟩ : ByteArray).data.toList = ([], 1, 5) := by rfl
  have p4 : parseL (⟨#[65]⟩ : ByteArray).data.toList = ([], 1, 5) := by rfl
  rw [p1, p2, p3, p4]
  refine Ev.call rfl (Ev.call rfl (Ev.call rfl (Ev.call rfl ?_)))
  dsimp only
  refine Ev.bind (as_ev _ (by decide)) (Ev.bind (same5_ev _ (by decide) (by
    intro x hx
    simp only [List.mem_cons, List.not_mem_nil, or_false] at hx
    rcases hx with rfl | rfl <;> decide)) ?_)
  exact Ev.pos rfl (Ev.pos rfl (Ev.pos rfl (Ev.pos rfl (Ev.pos rfl (Ev.pos rfl (Ev.pos rfl (Ev.pos rfl (Ev.some rfl))))))))

/-! a field got, a field put -/
def putG (st : List Fd) (n v : ByteArray) : List Fd := match st.findIdx? (isName n) with
  | some k => st.set k ⟨n, v⟩
  | none => st ++ [⟨n, v⟩]
theorem findP (st : List Fd) (n : ByteArray) : (∃ k, ∃ h : k < st.length, st.findIdx? (isName n) = some k ∧ st[k].f0 = n) ∨ (st.findIdx? (isName n) = none ∧ ∀ f ∈ st, ¬ f.f0 = n) := by
  cases e : st.findIdx? (isName n) with
  | some k =>
    obtain ⟨hk, h1, _⟩ := List.findIdx?_eq_some_iff_getElem.1 e
    exact .inl ⟨k, hk, rfl, of_decide_eq_true h1⟩
  | none =>
    rw [List.findIdx?_eq_none_iff] at e
    exact .inr ⟨rfl, fun f hf h => by have := e f hf; unfold isName at this; rw [decide_eq_true h] at this; cases this⟩
theorem put_is (st : List Fd) (n v : ByteArray) (hl : st.length < 4398046511104) : stanza_Put.f st n v = some (putG st n v) := by
  have hp : stanza_place.f st n = some (idxP (isName n) st) := rfl
  have hc : api_Field.f st = some st := by unfold api_Field.f; rw [if_pos (by omega)]
  unfold stanza_Put.f
  rw [hc, hp, Option.bind_some, Option.bind_some]
  unfold idxP putG
  rcases findP st n with ⟨k, hk, e, e2⟩ | ⟨e, _⟩
  · rw [e]
    dsimp only
    rw [if_pos (by omega), if_pos (by omega), if_pos (by omega), Int.toNat_natCast, rdT_nat st k hk, e2]
  · rw [e]
    dsimp only
    rw [if_neg (by decide), if_pos hl]
theorem get_append (st : List Fd) (n v m : ByteArray) (h : ¬ m = n ∨ ∀ f ∈ st, ¬ f.f0 = n) : getG (st ++ [⟨n, v⟩]) m = if m = n then some v else getG st m := by
  unfold getG
  rw [List.find?_append]
  by_cases hm : m = n
  · subst hm
    rw [if_pos rfl]
    have h2 : ∀ f ∈ st, ¬ f.f0 = m := by
      rcases h with h | h
      · exact absurd rfl h
      · exact h
    have : st.find? (fun f => decide (f.f0 = m)) = none := by
      rw [List.find?_eq_none]; intro f hf; rw [decide_eq_false (h2 f hf)]; decide
    rw [this]
    simp
  · rw [if_neg hm]
    have : ([⟨n, v⟩] : List Fd).find? (fun f => decide (f.f0 = m)) = none := by
      rw [List.find?_eq_none]
      intro f hf
      rw [List.mem_singleton] at hf
      subst hf
      rw [decide_eq_false (fun e => hm e.symm)]; decide
    rw [this, Option.or_none]
theorem get_set_other : ∀ (st : List Fd) (k : Nat) (h : k < st.length) (n v m : ByteArray), st[k].f0 = n → ¬ m = n → getG (st.set k ⟨n, v⟩) m = getG st m := by
  intro st
  induction st with
  | nil => intro k h; exact absurd h (Nat.not_lt_zero _)
  | cons f st ih =>
    intro k h n v m hn hm
    unfold getG
    cases k with
    | zero =>
      rw [List.set_cons_zero, List.find?_cons, List.find?_cons]
      have e1 : decide ((⟨n, v⟩ : Fd).f0 = m) = false := decide_eq_false fun e => hm e.symm
      have e2 : decide (f.f0 = m) = false := decide_eq_false fun e => hm (e.symm.trans hn)
      rw [e1, e2]
    | succ k =>
      rw [List.set_cons_succ, List.find?_cons, List.find?_cons]
      have := ih k (by simpa using h) n v m (by simpa using hn) hm
      unfold getG at this
      cases decide (f.f0 = m) with
      | true => rfl
      | false => exact this
theorem idx_set : ∀ (st : List Fd) (k : Nat) (n v : ByteArray), st.findIdx? (isName n) = some k → (st.set k ⟨n, v⟩).findIdx? (isName n) = some k := by
  intro st k n v h
  obtain ⟨hk, h1, h2⟩ := List.findIdx?_eq_some_iff_getElem.1 h
  rw [List.findIdx?_eq_some_iff_getElem]
  refine ⟨by rw [List.length_set]; exact hk, by rw [List.getElem_set_self]; exact decide_eq_true rfl, fun j hj => ?_⟩
  rw [List.getElem_set_ne (by omega)]
  exact h2 j hj
theorem get_of_idx {st : List Fd} {n : ByteArray} {k : Nat} (hk : k < st.length) (h : st.findIdx? (isName n) = some k) : getG st n = some st[k].f1 := by
  obtain ⟨_, h1, h2⟩ := List.findIdx?_eq_some_iff_getElem.1 h
  unfold getG
  have : st.find? (fun f => decide (f.f0 = n)) = some st[k] := by
    rw [List.find?_eq_some_iff_getElem]
    exact ⟨h1, k, hk, rfl, fun j hj => by have := h2 j hj; unfold isName at this; simpa using this⟩
  rw [this]; rfl
theorem get_of_none {st : List Fd} {n : ByteArray} (h : ∀ f ∈ st, ¬ f.f0 = n) : getG st n = none := by
  unfold getG
  have : st.find? (fun f => decide (f.f0 = n)) = none := by
    rw [List.find?_eq_none]; intro f hf; rw [decide_eq_false (h f hf)]; decide
  rw [this]; rfl
theorem get_put (st : List Fd) (n v : ByteArray) : getG (putG st n v) n = some v := by
  unfold putG
  rcases findP st n with ⟨k, hk, e, e2⟩ | ⟨e, h⟩
  · rw [e]
    dsimp only
    have := get_of_idx (by rw [List.length_set]; exact hk) (idx_set st k n v e)
    rw [this, List.getElem_set_self]
  · rw [e]
    dsimp only
    rw [get_append st n v n (.inr h), if_pos rfl]
theorem get_put_other (st : List Fd) (n v m : ByteArray) (hm : ¬ m = n) : getG (putG st n v) m = getG st m := by
  unfold putG
  rcases findP st n with ⟨k, hk, e, e2⟩ | ⟨e, h⟩
  · rw [e]; exact get_set_other st k hk n v m e2 hm
  · rw [e]
    dsimp only
    rw [get_append st n v m (.inl hm), if_neg hm]
theorem put_len (st : List Fd) (n v : ByteArray) : (putG st n v).length ≤ st.length + 1 := by
  unfold putG
  split
  · rw [List.length_set]; omega
  · simp
theorem there_put (st : List Fd) (n v : ByteArray) : (getG st n).isSome = decide ((putG st n v).length = st.length) := by
  unfold putG
  rcases findP st n with ⟨k, hk, e, e2⟩ | ⟨e, h⟩
  · rw [e, get_of_idx hk e]; simp
  · rw [e, get_of_none h]; simp
theorem put_back (st : List Fd) (n v : ByteArray) (h : (getG st n).isSome = true) : putG (putG st n v) n ((getG st n).getD ⟨#[]⟩) = st := by
  rcases findP st n with ⟨k, hk, e, e2⟩ | ⟨_, h2⟩
  · have hp : putG st n v = st.set k ⟨n, v⟩ := by unfold putG; rw [e]
    rw [hp, get_of_idx hk e]
    unfold putG
    rw [idx_set st k n v e]
    dsimp only [Option.getD]
    rw [List.set_set]
    have e3 : (⟨n, st[k].f1⟩ : Fd) = st[k] := by rw [← e2]
    rw [e3, List.set_getElem_self]
  · rw [get_of_none h2] at h; cases h
end Go.Proofs.YtekplcjgmnahmaaDoor.PA
