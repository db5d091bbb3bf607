/- StanzaJoins' plain law: two texts of stanzas with empty lines are the stanzas of both. -/
import Derived.Test.YtekplcjgmnahmaaDoorMStanzaP
import Derived.Test.YtekplcjgmnahmaaDoorROpen
import Derived.Test.YtekplcjgmnahmaaDoorPALStanzaJoins
namespace Go.Proofs.YtekplcjgmnahmaaDoor.PA
open Go.RowKit Go.Proofs.YtekplcjgmnahmaaDoorW.PrintWords Go.Proofs.YtekplcjgmnahmaaDoorW.PrintLast Go.Proofs.YtekplcjgmnahmaaDoorW.PrintMore

theorem pick_nine (a : Int) (h : okI .i64 a) : ∃ p, keelsonlaw5_pick.f a 9 = some p ∧ 0 ≤ p ∧ p ≤ 8 := by
  have h1 := okI_i64 h
  unfold keelsonlaw5_pick.f
  by_cases hn : a < 0
  · rw [if_pos hn, if_neg (by decide)]
    have e : wrap64 (-(wrap64 (a + 1))) = -(a + 1) := by unfold wrap64; omega
    rw [e]
    exact ⟨_, rfl, Int.tmod_nonneg _ (by omega), by have := Int.tmod_lt_of_pos (-(a + 1)) (show (0 : Int) < 9 by decide); omega⟩
  · rw [if_neg hn, if_neg (by decide)]
    exact ⟨_, rfl, Int.tmod_nonneg _ (by omega), by have := Int.tmod_lt_of_pos a (show (0 : Int) < 9 by decide); omega⟩
theorem feeds (k : Nat) (hk : k ≤ 8) : ((⟨#[10, 10, 10, 10, 10, 10, 10, 10]⟩ : ByteArray).extract 0 k).data.toList = List.replicate k 10 := by
  rcases (show k = 0 ∨ k = 1 ∨ k = 2 ∨ k = 3 ∨ k = 4 ∨ k = 5 ∨ k = 6 ∨ k = 7 ∨ k = 8 by omega) with rfl | rfl | rfl | rfl | rfl | rfl | rfl | rfl | rfl <;> rfl
theorem app_data (a b : ByteArray) : (a ++ b).data.toList = a.data.toList ++ b.data.toList := by rw [ByteArray.data_append, Array.toList_append]
theorem app_size (a b : ByteArray) : (a ++ b).size = a.size + b.size := ByteArray.size_append
theorem joins_j1 (s t : ByteArray) (x2 : Int) (h2 : okI .i64 x2) (hs : s.size ≤ 2000) (ht : t.size ≤ 2000) (a b : List (List Fd)) (i j : Int) (ha : parseL s.data.toList = (a, i, 0)) (hb : parseL t.data.toList = (b, j, 0)) (hl : a.length + b.length ≤ 200) :
    Ev (fun k => keelsonlaw5_StanzaJoins.j1 k s t x2 a b false) true := by
  obtain ⟨p, hp, p0, p8⟩ := pick_nine x2 h2
  obtain ⟨k, rfl⟩ : ∃ k : Nat, p = (k : Int) := ⟨p.toNat, by omega⟩
  refine Ev.succ ?_
  simp only [keelsonlaw5_StanzaJoins.j1]
  refine Ev.neg (by decide) (Ev.call hp (Ev.pos p0 (Ev.pos p8 ?_)))
  rw [Int.toNat_natCast]
  have hf := feeds k (by omega)
  have hfs : ((⟨#[10, 10, 10, 10, 10, 10, 10, 10]⟩ : ByteArray).extract 0 k).size = k := by rw [← data_length, hf, List.length_replicate]
  generalize (⟨#[10, 10, 10, 10, 10, 10, 10, 10]⟩ : ByteArray).extract 0 k = e at hf hfs
  have h10 : (⟨#[10, 10]⟩ : ByteArray).size = 2 := rfl
  simp only [app_size, hfs, h10]
  refine Ev.pos (by omega) (Ev.pos (by omega) (Ev.pos (by omega) (Ev.pos (by omega) (Ev.pos (by omega) ?_))))
  have hpar : stanza_Parse.f (((((e ++ s) ++ (⟨#[10, 10]⟩ : ByteArray)) ++ e) ++ t) ++ e) = some (a ++ b, 0, 0) := by
    unfold stanza_Parse.f
    have := parse_joins s.data.toList t.data.toList k a b i j (by omega) (by rw [data_length]; exact hs) (by rw [data_length]; exact ht) ha hb hl
    rw [← this]
    congr 2
    simp only [app_data, hf, List.append_assoc]
  have fa := parse_fine s.data.toList
  have fb := parse_fine t.data.toList
  rw [ha] at fa
  rw [hb] at fb
  dsimp only at fa fb
  refine Ev.call hpar (Ev.pos rfl (Ev.pos rfl (Ev.bind (as_ev _ (by rw [List.length_append]; omega)) (Ev.let (Ev.bind (as_ev _ (by omega)) (Ev.pos (by rw [List.length_nil]; omega) (Ev.let (Ev.bind (as_ev _ (by omega)) (Ev.pos (by rw [List.nil_append]; omega) (Ev.bind (same5_ev _ ?_ ?_) (Ev.some rfl)))))))))))
  · rw [List.length_append]; omega
  · intro x hx
    rcases List.mem_append.1 hx with hx | hx
    · have := fa.2 x hx; omega
    · have := fb.2 x hx; omega
theorem StanzaJoins_pure {P0 P1 : Prop} (s : ByteArray) (_ : P0) (t : ByteArray) (_ : P1) (x2 : Int) (h2 : okI .i64 x2) : ∃ k, keelsonlaw5_StanzaJoins.f k s t x2 = some true := by
  refine Ev.rounds (g := fun k => keelsonlaw5_StanzaJoins.f k s t x2) ?_
  unfold keelsonlaw5_StanzaJoins.f
  refine Ev.bind shown5_ev (Ev.pos rfl ?_)
  by_cases hs : (s.size : Int) > 2000
  · refine Ev.pos hs (Ev.succ ?_)
    simp only [keelsonlaw5_StanzaJoins.j0]
    exact Ev.pos (by first | rfl | trivial) (Ev.some rfl)
  refine Ev.neg hs (Ev.succ ?_)
  simp only [keelsonlaw5_StanzaJoins.j0]
  by_cases ht : (t.size : Int) > 2000
  · exact Ev.pos (decide_eq_true ht) (Ev.some rfl)
  have hend : ∀ a b : List (List Fd), Ev (fun k => keelsonlaw5_StanzaJoins.j1 k s t x2 a b true) true := by
    intro a b
    refine Ev.succ ?_
    simp only [keelsonlaw5_StanzaJoins.j1]
    exact Ev.pos (by first | rfl | trivial) (Ev.some rfl)
  have h1 : stanza_Parse.f s = some (parseL s.data.toList) := rfl
  have h3 : stanza_Parse.f t = some (parseL t.data.toList) := rfl
  have fa := (parse_fine s.data.toList).1
  have fb := (parse_fine t.data.toList).1
  have hj := joins_j1 s t x2 h2 (by omega) (by omega)
  refine Ev.neg (by simpa using ht) (Ev.call h1 (Ev.call h3 ?_))
  rcases hpa : parseL s.data.toList with ⟨a, i, e⟩
  rcases hpb : parseL t.data.toList with ⟨b, j, f⟩
  rw [hpa] at fa hj
  rw [hpb] at fb hj
  dsimp only at fa fb ⊢
  by_cases he : e = 0
  · subst he
    refine Ev.pos rfl ?_
    by_cases hf : f = 0
    · subst hf
      refine Ev.pos rfl ?_
      have hw : wrap64 ((a.length : Int) + (b.length : Int)) = (a.length : Int) + (b.length : Int) := by unfold wrap64; omega
      rw [hw]
      by_cases hl : (a.length : Int) + (b.length : Int) > 200
      · rw [decide_eq_true hl]; exact hend a b
      · rw [decide_eq_false hl]; exact hj a b i j rfl rfl (by omega)
    · exact Ev.neg hf (hend a b)
  · exact Ev.neg he (hend a b)
end Go.Proofs.YtekplcjgmnahmaaDoor.PA
