/- A reader of stanzas on the heap: a block of its own with the slice of stanzas and a flag; each stanza a row of its own, the last one apart from the others. What is asked of the element types: that they are three. -/
import Derived.Test.YtekplcjgmnahmaaDoorGBase
import Derived.Test.YtekplcjgmnahmaaDoorMStanza0
namespace Go.Proofs.YtekplcjgmnahmaaDoor.PA
open Go.RowKit Go.Proofs.YtekplcjgmnahmaaDoorW.PrintWords Go.Proofs.YtekplcjgmnahmaaDoorW.PrintLast Go.Proofs.YtekplcjgmnahmaaDoorW.PrintMore

def fcells : List Fd → List Value
  | [] => []
  | f :: x => .string f.f0 :: .string f.f1 :: fcells x
theorem fcells_len (x : List Fd) : (fcells x).length = x.length * 2 := by
  induction x with
  | nil => rfl
  | cons f x ih => simp only [fcells, List.length_cons, ih]; omega
theorem fcells_app (x y : List Fd) : fcells (x ++ y) = fcells x ++ fcells y := by
  induction x with
  | nil => rfl
  | cons f x ih => simp only [fcells, List.cons_append, ih]
/-- A stanza: a row of the call's own. -/
abbrev OwnF (B : Nat) (W : World) (v : Value) (x : List Fd) : Prop := W.ownsRow B 49 2 v x.length (fcells x)
def RowsF (B : Nat) (W : World) (vs : List Value) (l : List (List Fd)) : Prop := vs.length = l.length ∧ ∀ (j : Nat) (v : Value) (x : List Fd), vs[j]? = some v → l[j]? = some x → OwnF B W v x
theorem RowsF.nil (B : Nat) (W : World) : RowsF B W [] [] := ⟨rfl, fun j v x h _ => by simp at h⟩
theorem RowsF.snoc {B : Nat} {W : World} {vs : List Value} {l : List (List Fd)} {z : Value} {x : List Fd} (h : RowsF B W vs l) (hz : OwnF B W z x) : RowsF B W (vs ++ [z]) (l ++ [x]) := by
  refine ⟨by simp [h.1], fun j v y hv hy => ?_⟩
  have hlen := h.1
  rcases Nat.lt_or_ge j vs.length with hj | hj
  · rw [List.getElem?_append_left hj] at hv
    rw [List.getElem?_append_left (by omega)] at hy
    exact h.2 j v y hv hy
  · have h1 := (List.getElem?_eq_some_iff.1 hv).1
    simp only [List.length_append, List.length_singleton] at h1
    obtain rfl : j = vs.length := by omega
    rw [List.getElem?_append_right (Nat.le_refl _), Nat.sub_self] at hv
    rw [hlen, List.getElem?_append_right (Nat.le_refl _), Nat.sub_self] at hy
    cases hv
    cases hy
    exact hz
theorem RowsF.init {B : Nat} {W : World} {vs : List Value} {l : List (List Fd)} {z : Value} {x : List Fd} (h : RowsF B W (vs ++ [z]) (l ++ [x])) : RowsF B W vs l ∧ OwnF B W z x := by
  have hl : vs.length = l.length := by have := h.1; simp only [List.length_append, List.length_singleton] at this; omega
  refine ⟨⟨hl, fun j v y hv hy => h.2 j v y ?_ ?_⟩, h.2 vs.length z x ?_ ?_⟩
  · rw [List.getElem?_append_left (List.getElem?_eq_some_iff.1 hv).1]; exact hv
  · rw [List.getElem?_append_left (List.getElem?_eq_some_iff.1 hy).1]; exact hy
  · rw [List.getElem?_append_right (Nat.le_refl _), Nat.sub_self]; rfl
  · rw [hl, List.getElem?_append_right (Nat.le_refl _), Nat.sub_self]; rfl
theorem RowsF.move {B : Nat} {W W1 : World} {vs : List Value} {l : List (List Fd)} (h : RowsF B W vs l) (hm : ∀ v ∈ vs, ∀ k, v.ownBlock = some k → k < W.heap.size → W1.heap[k]? = W.heap[k]?) : RowsF B W1 vs l :=
  ⟨h.1, fun j v x hv hx => own_move (h.2 j v x hv hx) fun k hk => hm v (List.mem_of_getElem? hv) k hk (own_lt (h.2 j v x hv hx) k hk)⟩
theorem RowsF.mem {B : Nat} {W : World} {vs : List Value} {l : List (List Fd)} (h : RowsF B W vs l) {v : Value} (hv : v ∈ vs) : ∃ x, OwnF B W v x := by
  obtain ⟨j, hj, e⟩ := List.getElem_of_mem hv
  have hl := h.1
  exact ⟨_, h.2 j v _ (by rw [List.getElem?_eq_getElem hj, e]) (List.getElem?_eq_getElem (by omega))⟩

/-- A block that stands by: of another type. -/
structure Guest where
  b : Nat
  cs : Array Value
  t : TypeId
/-- The stanzas' rows and their slice, apart from the reader's own block. The last stanza lies apart from the others. -/
structure RdP (TS TR B : Nat) (w0 W : World) (rb : Nat) (gs : List Guest) (v : Value) (vs : List Value) (l : List (List Fd)) (o : Bool) : Prop where
  bel : Below B w0 W
  base : B ≤ W.heap.size
  hrb : B ≤ rb
  cell : W.heap[rb]? = some (.cells #[v, .bool o] TR (0, 0))
  row : W.ownsRow B TS 1 v l.length vs
  rows : RowsF B W vs l
  apart : vs.Pairwise fun u z => ∀ k, u.ownBlock = some k → z.ownBlock ≠ some k
  guest : ∀ q ∈ gs, W.heap[q.b]? = some (.cells q.cs q.t (0, 0)) ∧ TS ≠ q.t ∧ TR ≠ q.t ∧ 49 ≠ q.t
section
variable {TS TR B : Nat} {w0 W : World} {rb : Nat} {gs : List Guest} {v : Value} {vs : List Value} {l : List (List Fd)} {o : Bool}
theorem RdP.start (hb : Below B w0 W) (hB : B ≤ W.heap.size) (hrb : B ≤ rb) (hc : W.heap[rb]? = some (.cells #[.slice none 0 0, .bool false] TR (0, 0))) : RdP TS TR B w0 W rb [] (.slice none 0 0) [] [] false :=
  ⟨hb, hB, hrb, hc, own_nil _ _ _ _, RowsF.nil _ _, List.Pairwise.nil, fun q hq => by cases hq⟩
theorem RdP.move (h : RdP TS TR B w0 W rb gs v vs l o) {W1 : World} (hb : Below W.heap.size W W1) : RdP TS TR B w0 W1 rb gs v vs l o where
  bel := h.bel.trans (hb.mono h.base)
  base := Nat.le_trans h.base hb.size
  hrb := h.hrb
  cell := by rw [hb.block _ (Array.getElem?_eq_some_iff.1 h.cell).1]; exact h.cell
  row := pw_own_below h.row hb
  rows := h.rows.move fun _ _ k _ hk => hb.block k hk
  apart := h.apart
  guest q hq := ⟨by rw [hb.block _ (Array.getElem?_eq_some_iff.1 (h.guest q hq).1).1]; exact (h.guest q hq).1, (h.guest q hq).2⟩
theorem RdP.lt (h : RdP TS TR B w0 W rb gs v vs l o) : rb < W.heap.size := (Array.getElem?_eq_some_iff.1 h.cell).1
theorem RdP.cell0 (h : RdP TS TR B w0 W rb gs v vs l o) : W.cell? ⟨rb, 0, none⟩ = some v := by rw [cell_of_row W rb 0 _ _ _ h.cell]; rfl
theorem RdP.cell1 (h : RdP TS TR B w0 W rb gs v vs l o) : W.cell? ⟨rb, 1, none⟩ = some (.bool o) := by rw [cell_of_row W rb 1 _ _ _ h.cell]; rfl
theorem RdP.frozen (h : RdP TS TR B w0 W rb gs v vs l o) (j : Nat) : W.frozen? ⟨rb, j, none⟩ = false := frozen_of_row W rb j _ _ h.cell
theorem RdP.slice (h : RdP TS TR B w0 W rb gs v vs l o) (hl : l ≠ []) : ∃ g cap, v = .slice (some ⟨g, 0, none⟩) l.length cap ∧ B ≤ g ∧ g < W.heap.size := by
  rcases h.row.2 with ⟨_, e⟩ | ⟨g, cap, cur, e, hg, hh, _⟩
  · exact absurd (List.length_eq_zero_iff.1 e) hl
  · exact ⟨g, cap, e, hg, (Array.getElem?_eq_some_iff.1 hh).1⟩
theorem RdP.anySlice (h : RdP TS TR B w0 W rb gs v vs l o) : ∃ A cap, v = .slice A l.length cap := own_slice h.row
theorem heap_set_ne (W : World) (a : Addr) (u : Value) (k : Nat) (h : k ≠ a.block) : (W.setCell a u).heap[k]? = W.heap[k]? := Below.heap_setCell W a u k h
theorem guest_ne {W : World} {a b : Nat} {ca cb : Array Value} {ta tb : TypeId} (ha : W.heap[a]? = some (.cells ca ta (0, 0))) (hb : W.heap[b]? = some (.cells cb tb (0, 0))) (hne : tb ≠ ta) : a ≠ b := by
  rintro rfl
  rw [ha] at hb
  injection hb with hb
  injection hb with _ hb
  exact hne hb.symm
/-- A flag, written. -/
theorem RdP.flag (h : RdP TS TR B w0 W rb gs v vs l o) (hTS : TS ≠ TR) (hTF : 49 ≠ TR) (o' : Bool) : RdP TS TR B w0 (W.setCell ⟨rb, 1, none⟩ (.bool o')) rb gs v vs l o' where
  bel := h.bel.setCell h.hrb _
  base := by simpa using h.base
  hrb := h.hrb
  cell := by rw [heap_setCell_same W rb 1 _ _ _ h.cell]; rfl
  row := own_setCell h.row (own_ne h.row h.cell hTS) _
  rows := h.rows.move fun u hu k hk _ => by
    obtain ⟨x, hx⟩ := h.rows.mem hu
    exact heap_set_ne W _ _ k (by have := own_ne hx h.cell hTF; rw [hk] at this; rintro rfl; exact this rfl)
  apart := h.apart
  guest q hq := ⟨by rw [heap_set_ne W _ _ q.b (guest_ne (h.guest q hq).1 h.cell (h.guest q hq).2.2.1)]; exact (h.guest q hq).1, (h.guest q hq).2⟩
/-- The slice of stanzas has grown by an empty one, and stands in the reader, which is open. -/
theorem RdP.pushed (h : RdP TS TR B w0 W rb gs v vs l o) (hTS : TS ≠ TR) (hTF : 49 ≠ TR) (hFS : 49 ≠ TS) {v1 : Value} {w1 : World} (h1 : w1.ownsRow B TS 1 v1 (l.length + 1) (vs ++ [.slice none 0 0])) (hb : Below B w0 w1) (hg : W.grownBy w1 v.ownBlock)
    : RdP TS TR B w0 ((w1.setCell ⟨rb, 0, none⟩ v1).setCell ⟨rb, 1, none⟩ (.bool true)) rb gs v1 (vs ++ [.slice none 0 0]) (l ++ [[]]) true := by
  have hc1 : w1.heap[rb]? = some (.cells #[v, .bool o] TR (0, 0)) := by rw [hg.block rb h.lt (own_ne h.row h.cell hTS)]; exact h.cell
  have hc2 : (w1.setCell ⟨rb, 0, none⟩ v1).heap[rb]? = some (.cells #[v1, .bool o] TR (0, 0)) := by rw [heap_setCell_same w1 rb 0 _ _ _ hc1]; rfl
  have hr1 : RowsF B w1 vs l := h.rows.move fun u hu k hk hlt => by
    obtain ⟨x, hx⟩ := h.rows.mem hu
    refine hg.block k hlt ?_
    rcases own_type_ne hx h.row hFS with e | e
    · rw [hk] at e; cases e
    · rw [hk] at e; exact e
  refine ⟨(hb.setCell h.hrb _).setCell h.hrb _, ?_, h.hrb, ?_, ?_, ?_, ?_, ?_⟩
  · simpa using Nat.le_trans h.base hg.size
  · rw [heap_setCell_same _ rb 1 _ _ _ hc2]; rfl
  · rw [List.length_append]
    exact own_setCell (own_setCell h1 (own_ne h1 hc1 hTS) _) (own_ne h1 hc1 hTS) _
  · refine RowsF.snoc (hr1.move fun u hu k hk _ => ?_) (own_nil _ _ _ _)
    obtain ⟨x, hx⟩ := hr1.mem hu
    have hne : k ≠ rb := by have := own_ne hx hc1 hTF; rw [hk] at this; rintro rfl; exact this rfl
    rw [heap_set_ne _ _ _ k hne, heap_set_ne _ _ _ k hne]
  · refine List.pairwise_append.2 ⟨h.apart, List.pairwise_singleton _ _, ?_⟩
    intro u _ z hz k _
    rw [List.mem_singleton] at hz
    subst hz
    simp [Value.ownBlock]
  · intro q hq
    obtain ⟨q1, q2, q3, q4⟩ := h.guest q hq
    have q5 : w1.heap[q.b]? = some (.cells q.cs q.t (0, 0)) := by rw [hg.block q.b (Array.getElem?_eq_some_iff.1 q1).1 (own_ne h.row q1 q2)]; exact q1
    have hne := guest_ne q5 hc1 q3
    exact ⟨by rw [heap_set_ne _ _ _ q.b hne, heap_set_ne _ _ _ q.b hne]; exact q5, q2, q3, q4⟩
/-- The last stanza's slice. -/
theorem RdP.last (h : RdP TS TR B w0 W rb gs v vs l o) (hl : l ≠ []) : ∃ us z, vs = us ++ [z] ∧ RowsF B W us l.dropLast ∧ OwnF B W z (lastS l) ∧ us.length + 1 = l.length := by
  have hlen := h.rows.1
  have hv : vs ≠ [] := by rintro rfl; exact hl (List.length_eq_zero_iff.1 hlen.symm)
  have e := (List.dropLast_concat_getLast hv).symm
  have e2 := (split_last hl).symm
  have hr := h.rows
  rw [e, e2] at hr
  refine ⟨vs.dropLast, vs.getLast hv, e, hr.init.1, hr.init.2, ?_⟩
  have := List.length_pos_iff.2 hl
  rw [List.length_dropLast]; omega
/-- Another row stands for the last stanza: one that is apart. -/
theorem RdP.put {us : List Value} {z z1 : Value} {x1 : List Fd} {g cap : Nat} {w1 : World} (h : RdP TS TR B w0 W rb gs v vs l o) (hl : l ≠ []) (hTS : TS ≠ TR) (hTF : 49 ≠ TR) (hFS : 49 ≠ TS) (hv : v = .slice (some ⟨g, 0, none⟩) l.length cap) (hvs : vs = us ++ [z])
    (hb : Below B w0 w1) (hg : W.grownBy w1 z.ownBlock) (h1 : OwnF B w1 z1 x1) (hat : z1.ownBlock = z.ownBlock ∨ ∃ b, z1.ownBlock = some b ∧ W.heap.size ≤ b) :
    RdP TS TR B w0 (w1.setCell ⟨g, l.length - 1, none⟩ z1) rb gs v (us ++ [z1]) (l.dropLast ++ [x1]) o := by
  obtain ⟨us', z', e, hru, hz, hlen⟩ := h.last hl
  obtain ⟨rfl, e2⟩ := List.append_inj' (hvs.symm.trans e) rfl
  cases e2
  have hc1 : w1.heap[rb]? = some (.cells #[v, .bool o] TR (0, 0)) := by rw [hg.block rb h.lt (own_ne hz h.cell hTF)]; exact h.cell
  have hrow1 : w1.ownsRow B TS 1 v l.length vs := own_other h.row hg (own_type_ne h.row hz (Ne.symm hFS))
  have hgo : v.ownBlock = some g := by rw [hv]; rfl
  have hBg : B ≤ g := own_base h.row g hgo
  have hst := hrow1
  rw [hv] at hst
  have hst1 := (World.ownsRow.stored hst (l.length - 1) z1).1
  have hne : rb ≠ g := by have := own_ne hrow1 hc1 hTS; rw [hgo] at this; rintro rfl; exact this rfl
  have hF : ∀ u x, OwnF B w1 u x → ∀ k, u.ownBlock = some k → k ≠ g := by
    intro u x hx k hk
    rcases own_type_ne hx hrow1 hFS with e | e
    · rw [hk] at e; cases e
    · rw [hk, hgo] at e; rintro rfl; exact e rfl
  have hap := h.apart
  rw [hvs] at hap
  obtain ⟨ap1, _, ap2⟩ := List.pairwise_append.1 hap
  have hru1 : RowsF B w1 us l.dropLast := hru.move fun u hu k hk hlt => hg.block k hlt (fun e => ap2 u hu z (List.mem_singleton.2 rfl) k hk e.symm)
  have hll : (l.dropLast ++ [x1]).length = l.length := by simp only [List.length_append, List.length_dropLast, List.length_singleton]; omega
  refine ⟨hb.setCell hBg _, ?_, h.hrb, ?_, ?_, ?_, ?_, ?_⟩
  · simpa using Nat.le_trans h.base hg.size
  · rw [heap_set_ne _ _ _ rb hne]; exact hc1
  · rw [hll, hv]
    have e3 : vs.set (l.length - 1) z1 = us ++ [z1] := by
      rw [hvs, List.set_append_right _ _ (by omega), show l.length - 1 - us.length = 0 by omega]; rfl
    rw [e3] at hst1
    exact hst1
  · refine RowsF.snoc (hru1.move fun u hu k hk _ => ?_) (own_move h1 fun k hk => ?_)
    · obtain ⟨x, hx⟩ := hru1.mem hu
      exact heap_set_ne _ _ _ k (hF u x hx k hk)
    · exact heap_set_ne _ _ _ k (hF z1 x1 h1 k hk)
  · refine List.pairwise_append.2 ⟨ap1, List.pairwise_singleton _ _, ?_⟩
    intro u hu z2 hz2 k hk
    rw [List.mem_singleton] at hz2
    subst hz2
    rcases hat with e5 | ⟨b, e5, hbs⟩
    · rw [e5]; exact ap2 u hu z (List.mem_singleton.2 rfl) k hk
    · rw [e5]
      obtain ⟨x, hx⟩ := hru.mem hu
      have := own_lt hx k hk
      intro e6
      cases e6
      omega
  · intro q hq
    obtain ⟨q1, q2, q3, q4⟩ := h.guest q hq
    have q5 : w1.heap[q.b]? = some (.cells q.cs q.t (0, 0)) := by rw [hg.block q.b (Array.getElem?_eq_some_iff.1 q1).1 (own_ne hz q1 q4)]; exact q1
    have hne : q.b ≠ g := by have := own_ne hrow1 q5 q2; rw [hgo] at this; intro e; exact this (by rw [e])
    exact ⟨by rw [heap_set_ne _ _ _ q.b hne]; exact q5, q2, q3, q4⟩
/-- The value of the last stanza's last field, written in place. -/
theorem RdP.value {us : List Value} {z : Value} {g cap : Nat} {x : List Fd} {f : Fd} (h : RdP TS TR B w0 W rb gs v vs l o) (hl : l ≠ []) (hTF : 49 ≠ TR) (hFS : 49 ≠ TS) (hvs : vs = us ++ [z]) (hx : lastS l = x ++ [f]) (hz : z = .slice (some ⟨g, 0, none⟩) (x.length + 1) cap) (s : ByteArray) :
    RdP TS TR B w0 (W.setCell ⟨g, x.length * 2 + 1, none⟩ (.string s)) rb gs v vs (l.dropLast ++ [x ++ [⟨f.f0, s⟩]]) o := by
  obtain ⟨us', z', e, hru, hzo, hlen⟩ := h.last hl
  obtain ⟨rfl, e2⟩ := List.append_inj' (hvs.symm.trans e) rfl
  cases e2
  rw [hx] at hzo
  have hgo : z.ownBlock = some g := by rw [hz]; rfl
  have hBg : B ≤ g := own_base hzo g hgo
  have hzl : (x ++ [f]).length = x.length + 1 := by simp
  have hll : (l.dropLast ++ [x ++ [(⟨f.f0, s⟩ : Fd)]]).length = l.length := by simp only [List.length_append, List.length_dropLast, List.length_singleton]; omega
  have hst := hzo
  unfold OwnF at hst
  rw [hz, hzl] at hst
  have hst1 := (World.ownsRow.stored hst (x.length * 2 + 1) (.string s)).1
  have hne : rb ≠ g := by have := own_ne hzo h.cell hTF; rw [hgo] at this; rintro rfl; exact this rfl
  refine ⟨h.bel.setCell hBg _, by simpa using h.base, h.hrb, ?_, ?_, ?_, h.apart, ?_⟩
  · rw [heap_set_ne _ _ _ rb hne]; exact h.cell
  · rw [hll]
    refine own_setCell h.row ?_ _
    rcases own_type_ne hzo h.row hFS with e | e
    · rw [hgo] at e; cases e
    · rw [hgo] at e; exact e
  · have hap := h.apart
    rw [hvs] at hap
    obtain ⟨_, _, ap2⟩ := List.pairwise_append.1 hap
    rw [hvs]
    refine RowsF.snoc (hru.move fun u hu k hk _ => heap_set_ne _ _ _ k (fun e => ap2 u hu z (List.mem_singleton.2 rfl) k hk (by rw [hgo, e]))) ?_
    show (W.setCell _ _).ownsRow B _ 2 z (x ++ [(⟨f.f0, s⟩ : Fd)]).length _
    rw [show (x ++ [(⟨f.f0, s⟩ : Fd)]).length = x.length + 1 by simp, hz]
    have e3 : (fcells (x ++ [f])).set (x.length * 2 + 1) (.string s) = fcells (x ++ [(⟨f.f0, s⟩ : Fd)]) := by
      rw [fcells_app, fcells_app, List.set_append_right _ _ (by rw [fcells_len]; omega), fcells_len, show x.length * 2 + 1 - x.length * 2 = 1 by omega]; rfl
    rw [e3] at hst1
    exact hst1
  · intro q hq
    obtain ⟨q1, q2, q3, q4⟩ := h.guest q hq
    have hne : q.b ≠ g := by have := own_ne hzo q1 q4; rw [hgo] at this; intro e; exact this (by rw [e])
    exact ⟨by rw [heap_set_ne _ _ _ q.b hne]; exact q1, q2, q3, q4⟩
/-- What was read, as a row of rows of the call's own, no two of which lie in one block. -/
theorem fcells_reps (w : World) (base : Nat) (ok : Nat → Prop) : ∀ x : List Fd, Reps (k49.M w base ok) 2 x (fcells x)
  | [] => Reps.none _ _
  | f :: x => by
    have h := fcells_reps w base ok x
    refine ⟨fcells_len _, fun j p hp => ?_⟩
    cases j with
    | zero => cases hp; exact k49_mkM w base ok f
    | succ j =>
      have := h.2 j p hp
      rw [show (j + 1) * 2 = j * 2 + 1 + 1 by omega]
      exact this
def ownerOf (vs : List Value) (k : Nat) : Nat := vs.findIdx fun v => decide (v.ownBlock = some k)
theorem ownerOf_at {vs : List Value} (h : vs.Pairwise fun u z => ∀ k, u.ownBlock = some k → z.ownBlock ≠ some k) {j : Nat} {v : Value} (hv : vs[j]? = some v) {k : Nat} (hk : v.ownBlock = some k) : ownerOf vs k = j := by
  obtain ⟨hj, rfl⟩ := List.getElem?_eq_some_iff.1 hv
  unfold ownerOf
  rw [List.findIdx_eq hj]
  refine ⟨decide_eq_true hk, fun i hi => ?_⟩
  refine decide_eq_false fun e => ?_
  exact List.pairwise_iff_getElem.1 h i j (by omega) hj hi k e hk
theorem RdP.S (h : RdP TS TR B w0 W rb gs v vs l o) (hFS : 49 ≠ TS) : Kd.S (Kd.slice 49 k49) TS W B (fun _ => True) v l := by
  refine ⟨ownerOf vs, fun _ _ => trivial, vs, by rw [List.length_zipIdx]; exact h.row, ?_⟩
  have hlen := h.rows.1
  refine ⟨by rw [List.length_zipIdx, hlen]; exact (Nat.mul_one _).symm, fun j p hp => ?_⟩
  obtain ⟨x, i⟩ := p
  rw [List.getElem?_zipIdx] at hp
  cases e : l[j]? with
  | none => rw [e] at hp; cases hp
  | some y =>
    rw [e] at hp
    simp only [Option.map_some, Nat.zero_add, Option.some.injEq, Prod.mk.injEq] at hp
    obtain ⟨rfl, rfl⟩ := hp
    have hj : j < vs.length := by have := (List.getElem?_eq_some_iff.1 e).1; omega
    have hown := h.rows.2 j vs[j] y (List.getElem?_eq_getElem hj) e
    rw [show (Kd.tag (ownerOf vs) (Kd.slice 49 k49)).sz = 1 from rfl, Nat.mul_one, List.drop_eq_getElem_cons hj]
    refine ⟨vs[j], rfl, fun k hk => ⟨⟨trivial, ?_⟩, ownerOf_at h.apart (List.getElem?_eq_getElem hj) hk⟩, fcells y, hown, fcells_reps _ _ _ y⟩
    rcases own_type_ne hown h.row hFS with e | e
    · rw [e] at hk; cases hk
    · rw [← hk]; exact e
end
end Go.Proofs.YtekplcjgmnahmaaDoor.PA
