/- StanzaPrints returns true, whatever it is given, and leaves it as it was: whether stanzas are right, and their text. Conditions: those of the given row alone. -/
import Derived.Test.YtekplcjgmnahmaaDoorMStanzaP
import Derived.Test.YtekplcjgmnahmaaDoorGRight5
import Derived.Test.YtekplcjgmnahmaaDoorPALStanzaPrints
import Derived.Test.YtekplcjgmnahmaaDoorRLaid5
import Derived.Test.YtekplcjgmnahmaaDoorROpen
import Derived.Test.YtekplcjgmnahmaaDoorTie
import Derived.Test.YtekplcjgmnahmaaDoorCards
import Derived.SevenTiedAt
import Derived.OpenShut
import Derived.ShutString
import Derived.WideWitness
/- StanzaPrints' plain law: whether stanzas are right, and their text, in program and reference. -/
namespace Go.Proofs.YtekplcjgmnahmaaDoor.PA
open Go.RowKit Go.Proofs.YtekplcjgmnahmaaDoorW.PrintWords Go.Proofs.YtekplcjgmnahmaaDoorW.PrintLast Go.Proofs.YtekplcjgmnahmaaDoorW.PrintMore

/-! a value -/
def headOk (l0 : List UInt8) : Bool := match l0 with
  | [] => true
  | c :: _ => decide (c.toNat ≠ 32)
def moreOk (l : List UInt8) : Bool := cleanL l && !l.isEmpty
theorem lines_head (s : List UInt8) (l0 : List UInt8) (rs : List (List UInt8)) (h : linesL s = l0 :: rs) : Lib.hasPrefix s [32] = !headOk l0 := by
  cases s with
  | nil => cases h; rfl
  | cons c s =>
    unfold linesL at h
    by_cases h10 : c.toNat = 10
    · rw [if_pos h10] at h
      cases h
      obtain rfl : c = 10 := (byte_is c 10 (by decide)).1 h10
      rfl
    · rw [if_neg h10] at h
      have hc : ∃ t, l0 = c :: t := by
        cases e : linesL s with
        | nil => rw [e] at h; cases h; exact ⟨_, rfl⟩
        | cons l ls => rw [e] at h; cases h; exact ⟨_, rfl⟩
      obtain ⟨t, rfl⟩ := hc
      show ([32] : List UInt8).isPrefixOf (c :: s) = !decide (c.toNat ≠ 32)
      by_cases h32 : c.toNat = 32
      · obtain rfl : c = 32 := (byte_is c 32 (by decide)).1 h32
        simp
      · have h2 : ¬ c = 32 := fun e => h32 (by rw [e]; rfl)
        rw [decide_eq_true h32]
        simp only [List.isPrefixOf, Bool.and_true]
        exact beq_eq_false_iff_ne.2 (Ne.symm h2)
theorem value_is (s : List UInt8) (l0 : List UInt8) (rs : List (List UInt8)) (h : linesL s = l0 :: rs) : valueF s = (cleanL l0 && rs.all moreOk && headOk l0) := by
  unfold valueF
  rw [lines_head s l0 rs h, h, Bool.not_not]
  have e1 : Lib.containsS (((l0 :: rs).map mkB).drop 1) ⟨#[]⟩ = rs.any fun l => l.isEmpty := by
    rw [Bool.eq_iff_iff, Lib.containsS_iff, List.any_eq_true]
    rw [List.map_cons, List.drop_succ_cons, List.drop_zero, List.mem_map]
    constructor
    · rintro ⟨l, hl, e⟩
      refine ⟨l, hl, ?_⟩
      cases l with
      | nil => rfl
      | cons c l => cases e
    · rintro ⟨l, hl, e⟩
      refine ⟨l, hl, ?_⟩
      cases l with
      | nil => rfl
      | cons c l => cases e
  have e2 : (((l0 :: rs).map mkB).any fun x => belowF x 32) = !((l0 :: rs).all cleanL) := by
    rw [List.any_map, List.not_all_eq_any_not]
    congr 1
    funext l
    show belowF (mkB l) 32 = _
    rw [below_clean]; rfl
  rw [e1, e2, Bool.not_not, List.all_cons]
  have e3 : rs.all moreOk = (rs.all cleanL && !(rs.any fun l => l.isEmpty)) := by
    rw [List.not_any_eq_all_not]
    induction rs with
    | nil => rfl
    | cons l rs ih =>
      have ih' : rs.all moreOk = (rs.all cleanL && rs.all fun a => !a.isEmpty) := by
        clear ih e1 e2 h
        induction rs with
        | nil => rfl
        | cons l rs ih => rw [List.all_cons, List.all_cons, List.all_cons, ih]; unfold moreOk; cases cleanL l <;> cases l.isEmpty <;> simp
      rw [List.all_cons, List.all_cons, List.all_cons, ih']
      unfold moreOk
      cases cleanL l <;> cases l.isEmpty <;> simp
  rw [e3]
  cases headOk l0 <;> cases cleanL l0 <;> cases rs.all cleanL <;> cases (rs.any fun l => l.isEmpty) <;> rfl
theorem mkB_toList (l : List UInt8) : (mkB l).toList = l := by rw [ByteArray.toList_eq]; rfl
theorem refvalue_loop (l0 : List UInt8) (rs : List (List UInt8)) (hn : rs.length + 1 ≤ 9223372036854775807) (hs : ∀ l ∈ l0 :: rs, l.length ≤ 4611686018427387904) (d : Nat) : ∀ i : Nat, i + d = rs.length → Ev (fun k => keelsonref5_value.l0 k ((l0 :: rs).map mkB) ((i : Int) + 1)) ((rs.drop i).all moreOk && headOk l0) := by
  induction d with
  | zero =>
    intro i hi
    refine Ev.succ ?_
    simp only [keelsonref5_value.l0]
    rw [List.drop_eq_nil_of_le (by omega)]
    have e0 : rdOf ByteArray.empty ((l0 :: rs).map mkB) 0 = mkB l0 := by
      rw [show (0 : Int) = ((0 : Nat) : Int) from rfl, rdOf_nat _ _ 0 (by simp)]; simp
    rw [e0]
    refine Ev.neg (by simp; omega) (Ev.pos (by simp) ?_)
    rw [mkB_toList, List.all_nil, Bool.true_and]
    cases l0 with
    | nil => exact Ev.pos rfl (Ev.some rfl)
    | cons c t =>
      refine Ev.neg (by simp) (Ev.pos (by rw [mkB_size]; simp) (Ev.some ?_))
      have hb := bt_nat (mkB (c :: t)) 0 (by show 0 < (c :: t).length; simp)
      rw [show ((0 : Nat) : Int) = 0 from rfl] at hb
      rw [hb, show (mkB (c :: t)).data.toList[0]'(by show 0 < (c :: t).length; simp) = c from rfl]
      show ((c.toNat : Int) != 32) = decide (c.toNat ≠ 32)
      rw [Bool.eq_iff_iff, bne_iff_ne, decide_eq_true_iff]
      omega
  | succ d ih =>
    intro i hi
    have hil : i < rs.length := by omega
    refine Ev.succ ?_
    simp only [keelsonref5_value.l0]
    have e1 : rdOf ByteArray.empty ((l0 :: rs).map mkB) ((i : Int) + 1) = mkB rs[i] := by
      rw [show ((i : Int) + 1) = ((i + 1 : Nat) : Int) from rfl, rdOf_nat _ _ (i + 1) (by simp; omega)]; simp
    rw [e1, show wrap64 ((i : Int) + 1 + 1) = (((i + 1 : Nat) : Int) + 1) from by unfold wrap64; omega, List.drop_eq_getElem_cons hil, List.all_cons]
    refine Ev.pos (by simp; omega) (Ev.pos (by omega) (Ev.bind (refclean_ev (mkB rs[i]) (by rw [mkB_size]; exact hs _ (List.mem_cons_of_mem _ (List.getElem_mem hil)))) ?_))
    show Ev _ ((moreOk rs[i] && _) && _)
    unfold moreOk
    rw [show (mkB rs[i]).data.toList = rs[i] from rfl, mkB_toList]
    cases hc : cleanL rs[i] with
    | false => exact Ev.neg (by decide) (Ev.some rfl)
    | true =>
      refine Ev.pos rfl (Ev.pos (by omega) ?_)
      cases hr : rs[i] with
      | nil => exact Ev.pos rfl (Ev.some rfl)
      | cons c t =>
        refine Ev.neg (by simp) ?_
        have := ih (i + 1) (by omega)
        unfold moreOk at this
        simpa using this
theorem refvalue_ev (s : ByteArray) (hs : s.size ≤ 4398046511104) : Ev (fun k => keelsonref5_value.f k s) (valueF s.data.toList) := by
  unfold keelsonref5_value.f
  refine Ev.bind (reflines_ev s hs) ?_
  have hll := lines_len s.data.toList
  have hl1 := line_len1 s.data.toList
  have hl0 := lines_ne s.data.toList
  rw [data_length] at hll hl1
  obtain ⟨l0, rs, e⟩ : ∃ l0 rs, linesL s.data.toList = l0 :: rs := by
    cases h : linesL s.data.toList with
    | nil => exact absurd h hl0
    | cons a b => exact ⟨a, b, rfl⟩
  rw [value_is _ l0 rs e]
  rw [e] at hll hl1 ⊢
  simp only [List.length_cons] at hll
  refine Ev.succ ?_
  simp only [keelsonref5_value.l0]
  have e0 : rdOf ByteArray.empty ((l0 :: rs).map mkB) 0 = mkB l0 := by
    rw [show (0 : Int) = ((0 : Nat) : Int) from rfl, rdOf_nat _ _ 0 (by simp)]; simp
  rw [e0]
  refine Ev.pos (by simp) (Ev.pos (by decide) (Ev.bind (refclean_ev (mkB l0) (by rw [mkB_size]; have := hl1 l0 List.mem_cons_self; omega)) ?_))
  rw [show (mkB l0).data.toList = l0 from rfl]
  cases hc : cleanL l0 with
  | false => exact Ev.neg (by decide) (Ev.some rfl)
  | true =>
    refine Ev.pos rfl (Ev.neg (by decide) ?_)
    have := refvalue_loop l0 rs (by omega) (fun l hl => by have := hl1 l hl; omega) rs.length 0 (by omega)
    rw [List.drop_zero] at this
    rw [Bool.true_and]
    rw [show wrap64 (0 + 1) = (((0 : Nat) : Int) + 1) from by unfold wrap64; rfl]
    exact this

/-! a field's text -/
def esc (c : UInt8) : List UInt8 := if c.toNat = 10 then [10, 32] else [c]
def joinE : List (List UInt8) → List UInt8
  | [] => []
  | l0 :: rs => l0 ++ rs.flatMap fun l => 10 :: 32 :: l
theorem lines_cons (c : UInt8) (s : List UInt8) : linesL (c :: s) = if c.toNat = 10 then [] :: linesL s else match linesL s with | l :: ls => (c :: l) :: ls | [] => [[c]] := by rw [linesL]; rfl
theorem join_esc : ∀ s : List UInt8, joinE (linesL s) = s.flatMap esc := by
  intro s
  induction s with
  | nil => rfl
  | cons c s ih =>
    rw [List.flatMap_cons, ← ih, lines_cons]
    have hne := lines_ne s
    generalize linesL s = ls at hne ⊢
    unfold esc
    by_cases h : c.toNat = 10
    · rw [if_pos h, if_pos h]
      cases ls with
      | nil => exact absurd rfl hne
      | cons l ls => simp [joinE]
    · rw [if_neg h, if_neg h]
      cases ls with
      | nil => exact absurd rfl hne
      | cons l ls => simp [joinE]
theorem replace_lines : ∀ (k : Nat) (s : List UInt8), s.count 10 = k → Lib.replaceK [10] [10, 32] k s = joinE (linesL s) := by
  intro k
  induction k with
  | zero =>
    intro s h
    rw [lines_one s (List.count_eq_zero.1 h)]
    show s = s ++ _
    simp
  | succ k ih =>
    intro s h
    obtain ⟨x, y, rfl, hx⟩ := List.eq_append_cons_of_mem (List.count_pos_iff.1 (show 0 < s.count 10 by omega))
    have hc : y.count 10 = k := by
      rw [List.count_append, List.count_eq_zero.2 hx, List.count_cons_self] at h
      omega
    rw [Lib.replaceK_hit [10] [10, 32] k _ x.length (by rw [Lib.index_one]; exact index_at x y hx), lines_join, lines_one x hx]
    rw [List.take_left' rfl, show List.drop (x.length + [(10 : UInt8)].length) (x ++ 10 :: y) = y from by simp, ih y hc]
    have hne := lines_ne y
    cases e : linesL y with
    | nil => exact absurd e hne
    | cons l ls => simp [joinE]
theorem more_is (s : List UInt8) : moreL s = joinE (linesL s) := by
  unfold moreL Lib.replaceAll Lib.replace Lib.replaceNum
  rw [if_neg (by decide), if_pos (.inl (by decide)), Lib.count_one]
  exact replace_lines _ s rfl
theorem more_len (s : List UInt8) : (moreL s).length ≤ 2 * s.length := by
  rw [more_is, join_esc]
  induction s with
  | nil => exact Nat.le_refl _
  | cons c s ih =>
    rw [List.flatMap_cons, List.length_append, List.length_cons]
    have : (esc c).length ≤ 2 := by unfold esc; split <;> simp
    omega
theorem space_is (s l0 : List UInt8) (rs : List (List UInt8)) (h : linesL s = l0 :: rs) : spaceT s = if l0 = [] then [] else [32] := by
  cases s with
  | nil => cases h; rfl
  | cons c s =>
    rw [lines_cons] at h
    show (if c.toNat = 10 then [] else [32]) = _
    by_cases h10 : c.toNat = 10
    · rw [if_pos h10] at h
      cases h
      rw [if_pos h10, if_pos rfl]
    · rw [if_neg h10] at h
      have hne := lines_ne s
      cases e : linesL s with
      | nil => exact absurd e hne
      | cons l ls =>
        rw [e] at h
        cases h
        rw [if_neg h10, if_neg (by simp)]
theorem tail_is (l0 : List UInt8) (rs : List (List UInt8)) : joinE (l0 :: rs) ++ [10] = l0 ++ [10] ++ rs.flatMap lineR := by
  unfold joinE
  have key : ∀ rs : List (List UInt8), (rs.flatMap fun l => 10 :: 32 :: l) ++ [10] = [10] ++ rs.flatMap lineR := by
    intro rs
    induction rs with
    | nil => rfl
    | cons l rs ih =>
      rw [List.flatMap_cons, List.flatMap_cons, List.append_assoc, ih]
      simp [lineR]
  rw [List.append_assoc, key, List.append_assoc]
theorem field_is (f : Fd) : refFieldT f.f0.data.toList f.f1.data.toList = fieldT f := by
  unfold refFieldT fieldT
  obtain ⟨l0, rs, e⟩ : ∃ l0 rs, linesL f.f1.data.toList = l0 :: rs := by
    cases h : linesL f.f1.data.toList with
    | nil => exact absurd h (lines_ne _)
    | cons a b => exact ⟨a, b, rfl⟩
  rw [space_is _ l0 rs e, more_is, e, tail_is]
  dsimp only
  unfold headR
  by_cases h : l0 = []
  · subst h; simp
  · rw [if_neg h, if_neg h]; simp
theorem fieldT_len (f : Fd) : (fieldT f).length ≤ f.f0.size + 2 * f.f1.size + 3 := by
  have h1 := more_len f.f1.data.toList
  have h2 : (spaceT f.f1.data.toList).length ≤ 1 := by
    unfold spaceT
    split
    · exact Nat.zero_le _
    · split <;> simp
  unfold fieldT
  rw [data_length] at h1
  simp only [List.length_append, List.length_singleton]
  rw [data_length]
  omega
theorem reffield_f (f : Fd) (h0 : f.f0.size ≤ 100) (h1 : f.f1.size ≤ 2000) : keelsonref5_field.f f.f0 f.f1 = some (mkB (fieldT f)) := by
  have := fieldT_len f
  unfold keelsonref5_field.f
  rw [field_is, if_pos ⟨by omega, by omega⟩]

/-! a text -/
def SmallL (l : List (List Fd)) : Prop := l.length ≤ 210 ∧ ∀ st ∈ l, st.length ≤ 45 ∧ ∀ f ∈ st, f.f0.size ≤ 100 ∧ f.f1.size ≤ 2000
theorem flat_len {α : Type} (g : α → List UInt8) (B : Nat) (l : List α) (h : ∀ x ∈ l, (g x).length ≤ B) : (l.flatMap g).length ≤ l.length * B := by
  induction l with
  | nil => simp
  | cons x l ih =>
    rw [List.flatMap_cons, List.length_append, List.length_cons, Nat.add_mul, Nat.one_mul]
    have h1 := h x List.mem_cons_self
    have h2 := ih fun y hy => h y (List.mem_cons_of_mem _ hy)
    omega
theorem stanzaT_len (st : List Fd) (hl : st.length ≤ 45) (h : ∀ f ∈ st, f.f0.size ≤ 100 ∧ f.f1.size ≤ 2000) : (stanzaT st).length ≤ 200000 := by
  have := flat_len fieldT 4103 st (fun f hf => by have := fieldT_len f; have := h f hf; omega)
  unfold stanzaT
  have h2 : st.length * 4103 ≤ 45 * 4103 := Nat.mul_le_mul_right _ hl
  omega
theorem textS_len (l : List (List Fd)) (h : SmallL l) : (textS l).length ≤ 50000000 := by
  have h1 := flat_len (fun st => 10 :: stanzaT st) 200001 l (fun st hst => by
    have := stanzaT_len st (h.2 st hst).1 (h.2 st hst).2
    rw [List.length_cons]; omega)
  have h2 : l.length * 200001 ≤ 210 * 200001 := Nat.mul_le_mul_right _ h.1
  have h3 : (textS l).length ≤ (l.flatMap fun st => 10 :: stanzaT st).length := by
    cases l with
    | nil => exact Nat.le_refl _
    | cons st r =>
      unfold textS
      rw [List.flatMap_cons, List.length_append, List.length_append, List.length_cons]; omega
  omega
def numsU (l : List UInt8) : List Int := l.map fun b => (b.toNat : Int)
theorem nums_str (l : List UInt8) : strOfNums (numsU l) = mkB l := by
  unfold strOfNums numsU mkB
  rw [List.map_map]
  have : ((fun n : Int => UInt8.ofNat n.toNat) ∘ fun b : UInt8 => (b.toNat : Int)) = id := by
    funext b
    show UInt8.ofNat ((b.toNat : Int).toNat) = b
    rw [Int.toNat_natCast]; simp
  rw [this, List.map_id]
theorem reftext_inner (l : List (List Fd)) (hs : SmallL l) (i : Nat) (hi : i < l.length) (r : ByteArray) (acc : List UInt8) (hacc : acc.length + (stanzaT l[i]).length ≤ 50000000)
    (hnext : Ev (fun k => keelsonref5_text.l0 k l (numsU (acc ++ stanzaT l[i])) ((i + 1 : Nat) : Int)) r) (d : Nat) : ∀ j : Nat, j + d = l[i].length → Ev (fun k => keelsonref5_text.l1 k l (numsU (acc ++ (l[i].take j).flatMap fieldT)) (i : Int) (j : Int)) r := by
  have hst := hs.2 _ (List.getElem_mem hi)
  have hln := hs.1
  induction d with
  | zero =>
    intro j hj
    refine Ev.succ ?_
    simp only [keelsonref5_text.l1]
    rw [rdL_nat l i hi, wrap_step hi (by omega), List.take_of_length_le (by omega)]
    exact Ev.pos (by omega) (Ev.pos (by omega) (Ev.neg (by omega) hnext))
  | succ d ih =>
    intro j hj
    have hjl : j < l[i].length := by omega
    have hf := hst.2 _ (List.getElem_mem hjl)
    have hl2 := field_len l[i] j hjl
    have h2 := ih (j + 1) (by omega)
    refine Ev.succ ?_
    simp only [keelsonref5_text.l1]
    rw [rdL_nat l i hi, rdT_nat l[i] j hjl, wrap_step hjl (by omega)]
    refine Ev.pos (by omega) (Ev.pos (by omega) (Ev.pos (by omega) (Ev.pos (by omega) (Ev.call (reffield_f _ hf.1 hf.2) (Ev.pos ?_ ?_)))))
    · rw [mkB_size]; unfold numsU; rw [List.length_map, List.length_append]; omega
    · have e : numsU (acc ++ (l[i].take j).flatMap fieldT) ++ bytesOf (mkB (fieldT l[i][j])) = numsU (acc ++ (l[i].take (j + 1)).flatMap fieldT) := by
        rw [List.take_succ_eq_append_getElem hjl, List.flatMap_append, List.flatMap_cons, List.flatMap_nil, List.append_nil, ← List.append_assoc]
        unfold numsU bytesOf
        rw [List.map_append (l₁ := acc ++ _)]
        rfl
      rw [e]
      exact h2
theorem reftext_loop (l : List (List Fd)) (hs : SmallL l) (d : Nat) : ∀ i : Nat, i + d = l.length → Ev (fun k => keelsonref5_text.l0 k l (numsU (textS (l.take i))) (i : Int)) (mkB (textS l)) := by
  have hln := hs.1
  have htl := textS_len l hs
  induction d with
  | zero =>
    intro i hi
    refine Ev.succ ?_
    simp only [keelsonref5_text.l0]
    rw [List.take_of_length_le (by omega)]
    exact Ev.neg (by omega) (Ev.some (nums_str _))
  | succ d ih =>
    intro i hi
    have hil : i < l.length := by omega
    have h2 := ih (i + 1) (by omega)
    rw [text_step l i hil] at h2
    have hl3 := text_len l i hil
    have key : ∀ acc : List UInt8, acc = textS (l.take i) ++ (if i = 0 then [] else [10]) → Ev (fun k => keelsonref5_text.j1 k l (numsU acc) (i : Int)) (mkB (textS l)) := by
      intro acc ha
      rw [← ha] at h2
      refine Ev.succ ?_
      simp only [keelsonref5_text.j1]
      have := reftext_inner l hs i hil (mkB (textS l)) acc (by rw [ha, List.length_append]; omega) h2 l[i].length 0 (by omega)
      rw [List.take_zero, List.flatMap_nil, List.append_nil] at this
      exact this
    refine Ev.succ ?_
    simp only [keelsonref5_text.l0]
    refine Ev.pos (by omega) ?_
    by_cases h0 : i = 0
    · refine Ev.neg (by omega) (key _ ?_)
      rw [if_pos h0, List.append_nil]
    · refine Ev.pos (by omega) (Ev.pos ?_ ?_)
      · unfold numsU; rw [List.length_map]; omega
      · have := key (textS (l.take i) ++ [10]) (by rw [if_neg h0])
        unfold numsU at this ⊢
        rw [List.map_append] at this
        exact this
theorem reftext_ev (l : List (List Fd)) (hs : SmallL l) : Ev (fun k => keelsonref5_text.f k l) (mkB (textS l)) := by
  unfold keelsonref5_text.f
  exact reftext_loop l hs l.length 0 (by omega)

/-! a stanza -/
theorem get_some (pre : List Fd) (n : ByteArray) : (getG pre n).isSome = pre.any fun f => decide (f.f0 = n) := by
  unfold getG
  rw [Option.isSome_map, Bool.eq_iff_iff, List.find?_isSome, List.any_eq_true]
theorem stanza_inner (st : List Fd) (i : Nat) (hi : i < st.length) (hn : st.length ≤ 45) (r : Bool) (hnext : Ev (fun k => keelsonref5_stanza.l0 k st ((i + 1 : Nat) : Int)) r) (d : Nat) : ∀ j : Nat, j + d = i → Ev (fun k => keelsonref5_stanza.l1 k st (i : Int) (j : Int)) (!(((st.take i).drop j).any fun f => decide (f.f0 = st[i].f0)) && r) := by
  induction d with
  | zero =>
    intro j hj
    refine Ev.succ ?_
    simp only [keelsonref5_stanza.l1]
    rw [wrap_step hi (by omega), List.drop_eq_nil_of_le (by rw [List.length_take]; omega)]
    exact Ev.neg (by omega) (by simpa using hnext)
  | succ d ih =>
    intro j hj
    have hjl : j < st.length := by omega
    have hjt : j < (st.take i).length := by rw [List.length_take]; omega
    refine Ev.succ ?_
    simp only [keelsonref5_stanza.l1]
    rw [rdT_nat st j hjl, rdT_nat st i hi, wrap_step hjl (by omega), List.drop_eq_getElem_cons hjt, List.any_cons, List.getElem_take]
    refine Ev.pos (by omega) (Ev.pos (by omega) (Ev.pos (by omega) (Ev.pos (by omega) (Ev.pos (by omega) ?_))))
    by_cases he : st[j].f0 = st[i].f0
    · rw [decide_eq_true he]
      exact Ev.pos (bstr.2 he) (Ev.some rfl)
    · rw [decide_eq_false he, Bool.false_or]
      exact Ev.neg (fun e => he (bstr.1 e)) (ih (j + 1) (by omega))
theorem refstanza_loop (st : List Fd) (hn : st.length ≤ 45) (hs : ∀ f ∈ st, f.f0.size ≤ 100 ∧ f.f1.size ≤ 2000) (d : Nat) : ∀ i : Nat, i + d = st.length → Ev (fun k => keelsonref5_stanza.l0 k st (i : Int)) (fineAll (st.take i) (st.drop i) && (decide (0 < st.length) && decide (st.length ≤ 40))) := by
  induction d with
  | zero =>
    intro i hi
    refine Ev.succ ?_
    simp only [keelsonref5_stanza.l0]
    rw [List.drop_eq_nil_of_le (by omega)]
    refine Ev.neg (by omega) ?_
    show Ev _ (true && _)
    rw [Bool.true_and]
    by_cases h0 : 0 < st.length
    · rw [decide_eq_true h0, Bool.true_and]
      exact Ev.pos (by omega) (Ev.some (decide_eq_decide.2 (by omega)))
    · rw [decide_eq_false h0, Bool.false_and]
      exact Ev.neg (by omega) (Ev.some rfl)
  | succ d ih =>
    intro i hi
    have hil : i < st.length := by omega
    have hf := hs _ (List.getElem_mem hil)
    have h2 := ih (i + 1) (by omega)
    refine Ev.succ ?_
    simp only [keelsonref5_stanza.l0]
    rw [rdT_nat st i hil, fineAll_step st i hil]
    refine Ev.pos (by omega) (Ev.pos (by omega) (Ev.bind (refname_ev st[i].f0 (by omega)) (Ev.bind (refvalue_ev st[i].f1 (by omega)) ?_)))
    unfold fineF
    rw [get_some]
    cases hN : nameL st[i].f0.data.toList with
    | false =>
      refine Ev.neg (by decide) (Ev.succ ?_)
      simp only [keelsonref5_stanza.j1]
      refine Ev.pos (by first | rfl | trivial) (Ev.some ?_)
      simp
    | true =>
      refine Ev.pos rfl (Ev.succ ?_)
      simp only [keelsonref5_stanza.j1]
      cases hV : valueF st[i].f1.data.toList with
      | false => exact Ev.pos rfl (Ev.some (by simp))
      | true =>
        refine Ev.neg (by decide) ?_
        have := stanza_inner st i hil hn _ h2 i 0 (by omega)
        rw [List.drop_zero] at this
        simpa [Bool.and_assoc] using this
theorem refstanza_ev (st : List Fd) (hn : st.length ≤ 45) (hs : ∀ f ∈ st, f.f0.size ≤ 100 ∧ f.f1.size ≤ 2000) : Ev (fun k => keelsonref5_stanza.f k st) (rightS st) := by
  unfold keelsonref5_stanza.f rightS
  have := refstanza_loop st hn hs st.length 0 (by omega)
  rw [List.take_zero, List.drop_zero] at this
  exact this

/-! all stanzas -/
theorem right_is (l : List (List Fd)) : rightL l = (l.all rightS && (decide (l.length ≤ 200) && decide ((textS l).length ≤ 60000))) := by
  unfold rightL
  have : (!(l.any fun st => !rightS st)) = l.all rightS := by
    rw [List.not_any_eq_all_not]; congr 1; funext st; rw [Bool.not_not]
  rw [this]
  cases l.all rightS <;> cases decide (l.length ≤ 200) <;> simp
theorem refright_loop (l : List (List Fd)) (hs : SmallL l) (d : Nat) : ∀ i : Nat, i + d = l.length → Ev (fun k => keelsonref5_Right.l0 k l (i : Int)) ((l.drop i).all rightS && (decide (l.length ≤ 200) && decide ((textS l).length ≤ 60000))) := by
  have hln := hs.1
  induction d with
  | zero =>
    intro i hi
    refine Ev.succ ?_
    simp only [keelsonref5_Right.l0]
    rw [List.drop_eq_nil_of_le (by omega), List.all_nil, Bool.true_and]
    refine Ev.neg (by omega) ?_
    by_cases h : l.length ≤ 200
    · rw [decide_eq_true h, Bool.true_and]
      exact Ev.pos (by omega) (Ev.bind (reftext_ev l hs) (Ev.some (by rw [mkB_size]; exact decide_eq_decide.2 (by omega))))
    · rw [decide_eq_false h, Bool.false_and]
      exact Ev.neg (by omega) (Ev.some rfl)
  | succ d ih =>
    intro i hi
    have hil : i < l.length := by omega
    have hst := hs.2 _ (List.getElem_mem hil)
    refine Ev.succ ?_
    simp only [keelsonref5_Right.l0]
    rw [rdL_nat l i hil, wrap_step hil (by omega), List.drop_eq_getElem_cons hil, List.all_cons]
    refine Ev.pos (by omega) (Ev.pos (by omega) (Ev.bind (refstanza_ev l[i] hst.1 hst.2) ?_))
    cases rightS l[i] with
    | true => exact Ev.pos rfl (by simpa using ih (i + 1) (by omega))
    | false => exact Ev.neg (by decide) (Ev.some rfl)
theorem refright_ev (l : List (List Fd)) (hs : SmallL l) : Ev (fun k => keelsonref5_Right.f k l) (rightL l) := by
  unfold keelsonref5_Right.f
  have := refright_loop l hs l.length 0 (by omega)
  rw [List.drop_zero] at this
  rw [right_is]
  exact this
def printL (l : List (List Fd)) : ByteArray := if rightL l = true then mkB (textS l) else ⟨#[]⟩
theorem refprint_ev (l : List (List Fd)) (hs : SmallL l) : Ev (fun k => keelsonref5_Print.f k l) (printL l) := by
  unfold keelsonref5_Print.f printL
  refine Ev.bind (refright_ev l hs) ?_
  cases rightL l with
  | true => exact Ev.pos rfl (Ev.bind (reftext_ev l hs) (Ev.some rfl))
  | false => exact Ev.neg (by decide) (Ev.some rfl)
theorem small_fits {l : List (List Fd)} (h : SmallL l) : fitsT l = true := by
  have := textS_len l h
  unfold fitsT
  rw [decide_eq_true (by omega), Bool.true_and, List.all_eq_true]
  intro st hst
  rw [List.all_eq_true]
  intro f hf
  have := (h.2 st hst).2 f hf
  exact decide_eq_true (by omega)

/-! small -/
theorem small_inner (l : List (List Fd)) (hl : l.length ≤ 210) (i : Nat) (hi : i < l.length) (h45 : l[i].length ≤ 45) (b : Bool) (hnext : Ev (fun k => keelsonlaw5_small.l0 k l ((i + 1 : Nat) : Int)) b) (d : Nat) : ∀ j : Nat, j + d = l[i].length → ∃ c, Ev (fun k => keelsonlaw5_small.l1 k l (i : Int) (j : Int)) c ∧ (c = true → b = true ∧ ∀ f ∈ l[i].drop j, f.f0.size ≤ 100 ∧ f.f1.size ≤ 2000) := by
  induction d with
  | zero =>
    intro j hj
    refine ⟨b, Ev.succ ?_, fun h => ⟨h, fun f hf => by rw [List.drop_eq_nil_of_le (by omega)] at hf; cases hf⟩⟩
    simp only [keelsonlaw5_small.l1]
    rw [rdL_nat l i hi, wrap_step hi (by omega)]
    exact Ev.pos (by omega) (Ev.pos (by omega) (Ev.neg (by omega) hnext))
  | succ d ih =>
    intro j hj
    have hjl : j < l[i].length := by omega
    obtain ⟨c, hc, hp⟩ := ih (j + 1) (by omega)
    by_cases h0 : l[i][j].f0.size ≤ 100
    · by_cases h1 : l[i][j].f1.size ≤ 2000
      · refine ⟨c, Ev.succ ?_, fun h => ⟨(hp h).1, fun f hf => ?_⟩⟩
        · simp only [keelsonlaw5_small.l1]
          rw [rdL_nat l i hi, rdT_nat l[i] j hjl, wrap_step hjl (by omega)]
          exact Ev.pos (by omega) (Ev.pos (by omega) (Ev.pos (by omega) (Ev.pos (by omega) (Ev.neg (by omega) (Ev.neg (by omega) hc)))))
        · rw [List.drop_eq_getElem_cons hjl] at hf
          rcases List.mem_cons.1 hf with hf | hf
          · subst hf; exact ⟨h0, h1⟩
          · exact (hp h).2 f hf
      · refine ⟨false, Ev.succ ?_, fun h => by cases h⟩
        simp only [keelsonlaw5_small.l1]
        rw [rdL_nat l i hi, rdT_nat l[i] j hjl]
        exact Ev.pos (by omega) (Ev.pos (by omega) (Ev.pos (by omega) (Ev.pos (by omega) (Ev.neg (by omega) (Ev.pos (by omega) (Ev.some rfl))))))
    · refine ⟨false, Ev.succ ?_, fun h => by cases h⟩
      simp only [keelsonlaw5_small.l1]
      rw [rdL_nat l i hi, rdT_nat l[i] j hjl]
      exact Ev.pos (by omega) (Ev.pos (by omega) (Ev.pos (by omega) (Ev.pos (by omega) (Ev.pos (by omega) (Ev.some rfl)))))
theorem small_loop (l : List (List Fd)) (hl : l.length ≤ 210) (d : Nat) : ∀ i : Nat, i + d = l.length → ∃ c, Ev (fun k => keelsonlaw5_small.l0 k l (i : Int)) c ∧ (c = true → ∀ st ∈ l.drop i, st.length ≤ 45 ∧ ∀ f ∈ st, f.f0.size ≤ 100 ∧ f.f1.size ≤ 2000) := by
  induction d with
  | zero =>
    intro i hi
    refine ⟨true, Ev.succ ?_, fun _ st hst => by rw [List.drop_eq_nil_of_le (by omega)] at hst; cases hst⟩
    simp only [keelsonlaw5_small.l0]
    exact Ev.neg (by omega) (Ev.some rfl)
  | succ d ih =>
    intro i hi
    have hil : i < l.length := by omega
    obtain ⟨b, hb, hp⟩ := ih (i + 1) (by omega)
    by_cases h45 : l[i].length ≤ 45
    · obtain ⟨c, hc, hq⟩ := small_inner l hl i hil h45 b hb l[i].length 0 (by omega)
      have hok : ∀ q : Bool, ∃ c', Ev (fun k => keelsonlaw5_small.j1 k l (i : Int) q) c' ∧ (c' = true → ∀ st ∈ l.drop i, st.length ≤ 45 ∧ ∀ f ∈ st, f.f0.size ≤ 100 ∧ f.f1.size ≤ 2000) := by
        intro q
        cases q with
        | true =>
          refine ⟨false, Ev.succ ?_, fun h => by cases h⟩
          simp only [keelsonlaw5_small.j1]
          exact Ev.pos (by first | rfl | trivial) (Ev.some rfl)
        | false =>
          refine ⟨c, Ev.succ ?_, fun h st hst => ?_⟩
          · simp only [keelsonlaw5_small.j1]
            exact Ev.neg (by decide) hc
          · rw [List.drop_eq_getElem_cons hil] at hst
            rcases List.mem_cons.1 hst with hst | hst
            · subst hst
              exact ⟨h45, fun f hf => (hq h).2 f (by rw [List.drop_zero]; exact hf)⟩
            · exact hp (hq h).1 st hst
      by_cases h20 : l.length > 20
      · obtain ⟨c', hc', hr⟩ := hok (decide ((l[i].length : Int) > 3))
        refine ⟨c', Ev.succ ?_, hr⟩
        simp only [keelsonlaw5_small.l0]
        rw [rdL_nat l i hil]
        exact Ev.pos (by omega) (Ev.pos (by omega) (Ev.neg (by omega) (Ev.pos (by omega) hc')))
      · obtain ⟨c', hc', hr⟩ := hok false
        refine ⟨c', Ev.succ ?_, hr⟩
        simp only [keelsonlaw5_small.l0]
        rw [rdL_nat l i hil]
        exact Ev.pos (by omega) (Ev.pos (by omega) (Ev.neg (by omega) (Ev.neg (by omega) hc')))
    · refine ⟨false, Ev.succ ?_, fun h => by cases h⟩
      simp only [keelsonlaw5_small.l0]
      rw [rdL_nat l i hil]
      refine Ev.pos (by omega) (Ev.pos (by omega) (Ev.pos (by omega) (Ev.succ ?_)))
      simp only [keelsonlaw5_small.j1]
      exact Ev.pos (by first | rfl | trivial) (Ev.some rfl)
theorem small_ev (l : List (List Fd)) : ∃ c, Ev (fun k => keelsonlaw5_small.f k l) c ∧ (c = true → SmallL l) := by
  by_cases hl : l.length ≤ 210
  · obtain ⟨c, hc, hp⟩ := small_loop l hl l.length 0 (by omega)
    refine ⟨c, ?_, fun h => ⟨hl, fun st hst => hp h st (by rw [List.drop_zero]; exact hst)⟩⟩
    unfold keelsonlaw5_small.f
    exact Ev.neg (by omega) hc
  · refine ⟨false, ?_, fun h => by cases h⟩
    unfold keelsonlaw5_small.f
    exact Ev.pos (by omega) (Ev.some rfl)

theorem StanzaPrints_pure {P0 P1 : Prop} (l : List (List Fd)) (_ : P0) (s : ByteArray) (_ : P1) : ∃ k, keelsonlaw5_StanzaPrints.f k l s = some true := by
  refine Ev.rounds (g := fun k => keelsonlaw5_StanzaPrints.f k l s) ?_
  unfold keelsonlaw5_StanzaPrints.f
  obtain ⟨c, hc, hp⟩ := small_ev l
  refine Ev.bind shown5_ev (Ev.bind hc ?_)
  have hout : Ev (fun k => keelsonlaw5_StanzaPrints.j0 k l s true true) true := by
    refine Ev.succ ?_
    simp only [keelsonlaw5_StanzaPrints.j0]
    exact Ev.pos (by first | rfl | trivial) (Ev.some rfl)
  cases c with
  | false => exact Ev.pos rfl (Ev.neg (by decide) hout)
  | true =>
    refine Ev.pos rfl (Ev.pos rfl ?_)
    have hs := hp rfl
    by_cases hl : (s.size : Int) > 300
    · rw [decide_eq_true hl]; exact hout
    · rw [decide_eq_false hl]
      refine Ev.succ ?_
      simp only [keelsonlaw5_StanzaPrints.j0]
      have hR : stanza_Right.f l = some (rightL l) := by unfold stanza_Right.f; rw [if_pos (small_fits hs)]
      have hP : stanza_Print.f l = some (printL l) := by unfold stanza_Print.f; rw [if_pos (small_fits hs)]; rfl
      have ha := as_ev l (by have := hs.1; omega)
      refine Ev.neg (by decide) (Ev.call (show stanza_Name.f s = some (nameL s.data.toList) from rfl) (Ev.bind (refname_ev s (by omega)) (Ev.pos (by simp) ?_)))
      exact Ev.call hR (Ev.bind ha (Ev.bind (refright_ev l hs) (Ev.pos (by simp) (Ev.call hP (Ev.bind ha (Ev.bind (refprint_ev l hs) (Ev.some (by simp))))))))
end Go.Proofs.YtekplcjgmnahmaaDoor.PA
namespace Go.Proofs.YtekplcjgmnahmaaDoor.stanzaPrints
open Go.ChangeShapes Go.WideShapes Go.ChangeAt Go.RowKit Go.Proofs.YtekplcjgmnahmaaDoor.PA Go.Proofs.YtekplcjgmnahmaaDoorW.PrintWords
open Go.ChangeMaps (open_string shut_string)
theorem own : ownKnob Tryd.prog.godebug = none := by kernel_rfl
theorem laidOut : laidOutB Tryd.prog = true := by kernel_rfl
set_option maxRecDepth 100000 in
theorem lifted (os : Os) (started : os.Started) (H : Type) (enc : TypeId × Value → H) :
    ReturnsInHanded {} Tryd.checked os 8 .any (fun w args => (Rows.stanzaPrintsSpec.pre enc Tryd.prog Tryd.f8 [] false w args ∧ laidMet Tryd.prog Rows.stanzaPrintsRow.laid w) ∧ sizedMet enc Tryd.prog Tryd.f8 (OpenSpec.ofChange Rows.stanzaPrintsSpec) false w args) (Rows.stanzaPrintsSpec.post enc Tryd.prog Tryd.f8 false true false false) := by
  refine returns_laid_shaped (C := Tryd.checked) (X := fun w _ => laidMet Tryd.prog Rows.stanzaPrintsRow.laid w) (fun _ _ _ hh h => h.of_heap hh) own started (by kernel_rfl) Tryd.func8
    (ChangeSpec.witness_at (enc := enc) (C := Tryd.checked) (os := os) (X := fun w _ => laidMet Tryd.prog Rows.stanzaPrintsRow.laid w) false (laidWorld os) #[.slice none 0 0, .string ByteArray.empty] 8 rfl (by kernel_rfl) (by kernel_rfl) (by kernel_rfl) (by kernel_rfl) (by kernel_rfl) (laid_met_acceptRanges_first os _)) ?_
  intro W base args ds gs before hval0 hW hcnd hsz0 hL hSh _
  have hsz : (DataW.weightsEach Tryd.prog (Tryd.f8.params.toList ++ Rows.stanzaPrintsSpec.plain.varTypes Tryd.prog) (ds ++ gs)).all (· ≤ reachBytes) = true := hsz0
  have hval : ∀ (j : Nat) t v, Tryd.f8.params[j]? = some t → args[j]? = some v → Value.okWide Tryd.prog W .any base t v := hval0
  have hW' := hW
  obtain ⟨p, q, hA0, hV, rfl, hfz, hnd⟩ := hW
  have hA : DataW.TrodAll enc Tryd.prog W 0 (fun _ => true) true Tryd.f8.params.toList args.toList ds p := hA0
  rw [Tryd.params8] at hA hval hsz
  obtain ⟨v0, vs0, d0, ds0, p0, q0, hargs, rfl, rfl, h0, r0⟩ := trodAll_cons hA
  obtain ⟨v1, vs1, d1, ds1, p1, q1, rfl, rfl, rfl, h1, r1⟩ := trodAll_cons r0
  obtain ⟨rfl, rfl, rfl⟩ := trodAll_nil r1
  obtain rfl : args = #[v0, v1] := by cases args; simp_all
  obtain ⟨rfl, rfl⟩ := trodVars_none hV
  have hwt : ∀ n ∈ DataW.weightsEach Tryd.prog (([23, 9] : List TypeId) ++ []) (([d0, d1] : List (DataW H)) ++ []), n ≤ reachBytes := fun n hn => of_decide_eq_true (List.all_eq_true.1 hsz n hn)
  obtain ⟨a0, len0, cap0, rfl⟩ := okWide_slice Tryd.underlying23 (hval 0 23 v0 rfl rfl)
  have k0 := h0
  have lt0 : ∀ x ∈ p0, x.block < W.heap.size := by obtain ⟨m, hm⟩ := k0; exact DataW.trod_lt m _ _ _ hm
  obtain ⟨l0, hK0, ok0⟩ : ∃ l, ((Kd.slice 36 (Kd.slice 49 k49))).K W l [.slice a0 len0 cap0] ∧ (okL (Tryd.prog.bytesOf 36) (okL (Tryd.prog.bytesOf 49) (fun x : S49 => (okP okS okS) (x.f0, x.f1)))) l := by
    obtain ⟨fuel, hf⟩ := h0
    exact (opens_slice (d := (Kd.slice 49 k49)) (ok := (okL (Tryd.prog.bytesOf 49) (fun x : S49 => (okP okS okS) (x.f0, x.f1)))) Tryd.underlying23 (by kernel_rfl) (opens_slice (d := k49) (ok := (fun x : S49 => (okP okS okS) (x.f0, x.f1))) Tryd.underlying36 (by kernel_rfl) (opens_iso (fun x : S49 => (x.f0, x.f1)) (fun p => ⟨p.1, p.2⟩) (fun _ => rfl) (opens_struct (ts := [9, 9]) Tryd.underlying49 (by kernel_rfl) (by kernel_rfl) (by kernel_rfl) (opensF_cons (opens_string Tryd.underlying9 (by kernel_rfl)) (opensF_one (opens_string Tryd.underlying9 (by kernel_rfl)))))))).2 enc W _ _ fuel _ _ hf (fun n hn => hwt n (DataW.weights_mem_each (j := 0) rfl rfl n hn))
  obtain ⟨A0, c0, hcs0, hc0, hr0⟩ := hK0
  simp only [List.cons.injEq, Value.slice.injEq, and_true] at hcs0
  obtain ⟨rfl, rfl, rfl⟩ := hcs0
  obtain ⟨a1, rfl, rfl, rfl, y1⟩ := open_string Tryd.underlying9 (hval 1 9 v1 rfl rfl) h1
  have ok1 : okS a1 := by
    have z := sized_string hsz (j := 1) (t := 9) rfl rfl
    rw [Array.length_toList] at z
    exact z
  obtain ⟨k, hk⟩ := StanzaPrints_pure l0 ok0 a1 ok1
  refine (keelsonlaw5_StanzaPrints.calls k _ _ l0 a1 true W hr0 hc0 (maxLen_of_shape hSh) hk).mono fun e W' ⟨he, bel⟩ => ?_
  subst he
  exact ⟨_, rfl, _, _, _, [], _, [], hW', trodAll_mk1 (shut_bool Tryd.underlying4 _), (trodAll_cons_mk (Below.trod laidOut (by kernel_rfl) (of_decide_eq_true (by kernel_rfl)) k0 bel lt0) (trodAll_cons_mk (shut_string Tryd.underlying9 y1) trodAll_mk0)), rfl, bel.frame _, fun h => by cases h⟩
theorem over : Rows.stanzaPrintsRow.holds Tryd.pinned (OpenSpec.ofChange Rows.stanzaPrintsSpec) :=
  OpenClaim.holds_of_wide 8 Tryd.f8 rfl rfl rfl rfl rfl rfl rfl ⟨rfl, rfl, rfl, rfl, rfl⟩ rfl rfl rfl rfl rfl (by kernel_rfl) Tryd.func8 (by kernel_rfl)
    (of_decide_eq_true (by kernel_rfl)) (by unfold Func.isWrapper; first | (rw [if_pos (by decide +kernel)]; kernel_rfl) | (rw [if_neg (by decide +kernel)]; exact ⟨rfl, rfl⟩))
    (fun os started H enc _ => lifted os started H enc)
theorem said : Rows.StanzaPrintsSaid := over
theorem proved : Rows.StanzaPrintsCardSaid :=
  Claim7.holds_tied_plain_at .later [] [.data, .pinned] true (true, "e92b81f376b973091396ef97f828d6e392391b83c63ac2be2249062c92d9016a") true
    said (fun _ h => by cases h) (by kernel_rfl) (fun _ h => by cases h) stanzaPrints_row_tie rfl ⟨rfl, rfl⟩ (by kernel_rfl) rfl
    (fun f fn hf hfn => by
      obtain rfl : f = 8 := Option.some.inj ((show Tryd.prog.funcNamed "keelson/keelsonlaw5.StanzaPrints" = some 8 by kernel_rfl).symm.trans hf) |>.symm
      obtain rfl : fn = Tryd.f8 := (Option.some.inj (Tryd.func8.symm.trans hfn)).symm
      exact ⟨by kernel_rfl, fun j t ht => by
        rw [Tryd.params8] at ht
        have hm : t ∈ ([23, 9] : List TypeId) := List.mem_of_getElem? (by simpa using ht)
        have hall : ([23, 9] : List TypeId).all (fun t => !Tryd.prog.wantsStandIn t) = true := by kernel_rfl
        have := List.all_eq_true.1 hall t hm
        exact (show Tryd.prog.wantsStandIn t = false by simpa using this)⟩)
    (by kernel_rfl)
#print axioms proved
end Go.Proofs.YtekplcjgmnahmaaDoor.stanzaPrints
namespace Go.Proofs.YtekplcjgmnahmaaDoor
/-- The statement, under a short name, for the claim. -/
theorem stanzaPrints_holds : Rows.StanzaPrintsCardSaid := stanzaPrints.proved
end Go.Proofs.YtekplcjgmnahmaaDoor
