/- What reads as data reads as a kind's value, within the machine's bounds: for the rows of this seat's laws. No condition. -/
import Derived.Test.YtekplcjgmnahmaaDoorPA0
import Derived.ProofKit
import Derived.ChangeArms
import Derived.ChangeOld
import Derived.SizedLaws
import Derived.DataReads
namespace Go.Proofs.YtekplcjgmnahmaaDoor.PA
open Go Go.RowKit Go.Proofs.YtekplcjgmnahmaaDoorW.PrintWords Go.Proofs.YtekplcjgmnahmaaDoorW.PrintLast Go.Proofs.YtekplcjgmnahmaaDoorW.PrintMore

def Opens {α : Type} (P : Program) (t : TypeId) (d : Kd α) (ok : α → Prop) : Prop :=
  P.cellsOf t = d.sz ∧ ∀ {H : Type} (enc : TypeId × Value → H) (w : World) (sp : Nat → Bool) (held : Bool) (fuel : Nat) (cs : List Value) (x : DataW H × List MemPlace),
    DataW.trod enc P w 0 sp held fuel t cs = some x → (∀ n ∈ x.1.weights P t, n ≤ reachBytes) → ∃ v : α, d.K w v cs ∧ ok v
def okI (k : IntKind) (x : Int) : Prop := (Lit.int k x).wf = true
def okB (_ : Bool) : Prop := True
def okS (s : ByteArray) : Prop := s.size ≤ 140737488351232
def okL {α : Type} (bytes : Nat) (ok : α → Prop) (l : List α) : Prop := l.length * bytes ≤ 140737488351232 ∧ ∀ x ∈ l, ok x
def okP {α β : Type} (a : α → Prop) (b : β → Prop) (x : α × β) : Prop := a x.1 ∧ b x.2

variable {P : Program}
theorem opens_int {t : TypeId} {k : IntKind} (ht : P.underlying t = some (.int k)) (hc : P.cellsOf t = 1) : Opens P t (Kd.int k) (okI k) :=
  ⟨hc, fun _ _ _ _ _ _ _ h _ => by
    obtain ⟨n, rfl, _, hw⟩ := DataW.trod_int ht h
    exact ⟨n, rfl, hw⟩⟩
theorem opens_bool {t : TypeId} (ht : P.underlying t = some .bool) (hc : P.cellsOf t = 1) : Opens P t Kd.bool okB :=
  ⟨hc, fun _ _ _ _ _ _ _ h _ => by
    obtain ⟨b, rfl, _⟩ := DataW.trod_bool ht h
    exact ⟨b, rfl, trivial⟩⟩
theorem opens_string {t : TypeId} (ht : P.underlying t = some .string) (hc : P.cellsOf t = 1) : Opens P t Kd.string okS :=
  ⟨hc, fun _ _ _ _ _ _ _ h hz => by
    obtain ⟨s, rfl, rfl, _⟩ := DataW.trod_string ht h
    refine ⟨s, rfl, ?_⟩
    have h1 := hz s.data.toList.length (by unfold DataW.weights; exact List.mem_singleton.2 rfl)
    have h2 : reachBytes = 140737488351232 := by decide
    have h3 : s.data.toList.length = s.size := Array.length_toList
    unfold okS
    omega⟩
theorem list_of_each {α : Type} {Q : Nat → α → Prop} : ∀ n, (∀ j, j < n → ∃ v, Q j v) → ∃ xs : List α, xs.length = n ∧ ∀ j p, xs[j]? = some p → Q j p
  | 0, _ => ⟨[], rfl, fun j p h => by simp at h⟩
  | n + 1, h => by
    obtain ⟨xs, hl, hx⟩ := list_of_each n fun j hj => h j (by omega)
    obtain ⟨v, hv⟩ := h n (by omega)
    refine ⟨xs ++ [v], by simp [hl], fun j p hp => ?_⟩
    rcases Nat.lt_or_ge j n with hj | hj
    · rw [List.getElem?_append_left (by omega)] at hp
      exact hx j p hp
    · have hjn : j = n := by
        have := (List.getElem?_eq_some_iff.1 hp).1
        simp at this; omega
      subst hjn
      rw [List.getElem?_append_right (by omega), hl, Nat.sub_self] at hp
      simp at hp
      subst hp
      exact hv
theorem weights_all {H : Type} {e : TypeId} : ∀ {l : List (DataW H)} {d : DataW H}, d ∈ l → ∀ n ∈ d.weights P e, n ∈ DataW.weightsAll P e l
  | d0 :: l, d, hd, n, hn => by
    simp only [DataW.weightsAll, List.mem_append]
    rcases List.mem_cons.1 hd with rfl | hd
    · exact .inl hn
    · exact .inr (weights_all hd n hn)
theorem add_add' (a : Addr) (i j : Nat) : (a.add i).add j = a.add (i + j) := by
  unfold Addr.add
  by_cases hi : i = 0 <;> by_cases hj : j = 0 <;> simp [hi, hj] <;> omega
theorem opens_slice {α : Type} {t e : TypeId} {d : Kd α} {ok : α → Prop} (ht : P.underlying t = some (.slice e)) (hc : P.cellsOf t = 1) (he : Opens P e d ok) :
    Opens P t (Kd.slice e d) (okL (P.bytesOf e) ok) :=
  ⟨hc, fun enc w sp held fuel cs x h hz => by
    rcases DataW.trod_slice ht h with ⟨rfl, rfl⟩ | ⟨a, len, cap, elems, rest, n, rfl, rfl, rfl, _, hlc, hcm, hlen, hel, _, _⟩
    · exact ⟨[], ⟨none, 0, rfl, Nat.le_refl _, rfl, Nat.zero_le _, fun h => absurd h (Nat.lt_irrefl _)⟩, by simp [okL]⟩
    · have hw : (elems.length + rest.length) * P.bytesOf e ≤ reachBytes := hz _ (by simp [DataW.weights, ht])
      have hx : ∀ i, i < len → ∃ v, (∃ c, c.length = d.sz ∧ d.K w v c ∧ ∀ j u, c[j]? = some u → w.cell? (a.add (i * d.sz + j)) = some u) ∧ ok v := by
        intro i hi
        have h1 := hel i hi
        have hie : i < elems.length := by omega
        rw [List.getElem?_eq_getElem hie, Option.bind_eq_some_iff] at h1
        obtain ⟨c, hcc, htr⟩ := h1
        obtain ⟨v, hK, hok⟩ := he.2 enc w sp held n c elems[i] htr (fun m hm => hz m (by
          have h2 : elems[i].1 ∈ elems.map (·.1) := List.mem_map_of_mem (List.getElem_mem hie)
          simp only [DataW.weights, ht, List.mem_cons, List.mem_append]
          exact .inr (.inl (weights_all h2 m hm))))
        obtain ⟨_, hcl, hget⟩ := World.cells?_some hcc
        refine ⟨v, ⟨c, d.K_len hK, hK, fun j u hj => ?_⟩, hok⟩
        have hjl := (List.getElem?_eq_some_iff.1 hj).1
        rw [← he.1, ← add_add', hget j (by rw [← hcl]; exact hjl)]
        exact hj
      obtain ⟨xs, hxl, hxs⟩ := list_of_each len hx
      refine ⟨xs, ⟨some a, cap, by rw [hxl], by omega, hxl.symm ▸ rfl, ?_, fun _ => ⟨a, rfl, fun j p hp => (hxs j p hp).1⟩⟩, ?_, fun y hy => ?_⟩
      · have hm : maxLen = 9223372036854775807 := by decide
        omega
      · have h3 : xs.length * P.bytesOf e ≤ (elems.length + rest.length) * P.bytesOf e := Nat.mul_le_mul_right _ (by omega)
        have h4 : reachBytes = 140737488351232 := by decide
        omega
      · obtain ⟨j, hj, rfl⟩ := List.getElem_of_mem hy
        exact (hxs j _ (List.getElem?_eq_getElem hj)).2⟩

/-! Structs: field by field -/
def ReadsF {H : Type} (enc : TypeId × Value → H) (P : Program) (w : World) (sp : Nat → Bool) (held : Bool) (n : Nat) : List TypeId → List Value → List (DataW H × List MemPlace) → Prop
  | [], cs, xs => cs = [] ∧ xs = []
  | t :: ts, cs, xs => ∃ c0 rest x0 xr, cs = c0 ++ rest ∧ xs = x0 :: xr ∧ DataW.trod enc P w 0 sp held n t c0 = some x0 ∧ ReadsF enc P w sp held n ts rest xr
def OpensF {α : Type} (P : Program) (ts : List TypeId) (d : Kd α) (ok : α → Prop) : Prop :=
  (ts.map P.cellsOf).sum = d.sz ∧ ∀ {H : Type} (enc : TypeId × Value → H) (w : World) (sp : Nat → Bool) (held : Bool) (n : Nat) (cs : List Value) (xs : List (DataW H × List MemPlace)),
    ReadsF enc P w sp held n ts cs xs → (∀ n ∈ DataW.weightsEach P ts (xs.map (·.1)), n ≤ reachBytes) → ∃ v : α, d.K w v cs ∧ ok v
theorem opensF_one {α : Type} {t : TypeId} {d : Kd α} {ok : α → Prop} (h : Opens P t d ok) : OpensF P [t] d ok :=
  ⟨by simpa using h.1, fun enc w sp held n cs xs hr hz => by
    obtain ⟨c0, rest, x0, xr, rfl, rfl, h0, rfl, rfl⟩ := hr
    rw [List.append_nil]
    exact h.2 enc w sp held n c0 x0 h0 (fun m hm => hz m (by simp [DataW.weightsEach, hm]))⟩
theorem opensF_cons {α β : Type} {t : TypeId} {ts : List TypeId} {d : Kd α} {e : Kd β} {ok : α → Prop} {ok' : β → Prop} (h : Opens P t d ok) (k : OpensF P ts e ok') : OpensF P (t :: ts) (Kd.pair d e) (okP ok ok') :=
  ⟨by simp only [List.map_cons, List.sum_cons, h.1, k.1]; rfl, fun enc w sp held n cs xs hr hz => by
    obtain ⟨c0, rest, x0, xr, rfl, rfl, h0, hr⟩ := hr
    obtain ⟨v, hv, hok⟩ := h.2 enc w sp held n c0 x0 h0 (fun m hm => hz m (by simp [DataW.weightsEach, hm]))
    obtain ⟨u, hu, hok'⟩ := k.2 enc w sp held n rest xr hr (fun m hm => hz m (by simp [DataW.weightsEach, hm]))
    exact ⟨(v, u), ⟨c0, rest, rfl, hv, hu⟩, hok, hok'⟩⟩
def offsF (P : Program) : Nat → List Field → List Nat
  | _, [] => []
  | o, f :: fs => o :: offsF P (o + P.cellsOf f.type) fs
theorem readsF_of {H : Type} {enc : TypeId × Value → H} {w : World} {sp : Nat → Bool} {held : Bool} {n : Nat} : ∀ (fs : List Field) (cs : List Value) (xs : List (DataW H × List MemPlace)) (o : Nat),
    fs.map (·.offset) = offsF P o fs → xs.length = fs.length → cs.length = o + ((fs.map fun f => P.cellsOf f.type).sum) →
    (∀ (i : Nat) (f : Field), fs[i]? = some f → DataW.trod enc P w 0 sp held n f.type ((cs.drop f.offset).take (P.cellsOf f.type)) = xs[i]?) →
    ReadsF enc P w sp held n (fs.map (·.type)) (cs.drop o) xs
  | [], cs, xs, o, _, hx, hl, _ => by
    refine ⟨List.drop_eq_nil_of_le (by simp at hl; omega), by simpa using hx⟩
  | f :: fs, cs, xs, o, ho, hx, hl, hr => by
    obtain ⟨x0, xr, rfl⟩ : ∃ x0 xr, xs = x0 :: xr := by
      match xs, hx with
      | x0 :: xr, _ => exact ⟨x0, xr, rfl⟩
    simp only [List.map_cons, offsF, List.cons.injEq] at ho
    have hr0 := hr 0 f rfl
    rw [ho.1] at hr0
    refine ⟨(cs.drop o).take (P.cellsOf f.type), (cs.drop o).drop (P.cellsOf f.type), x0, xr, (List.take_append_drop _ _).symm, rfl, hr0, ?_⟩
    rw [List.drop_drop]
    refine readsF_of fs cs xr (o + P.cellsOf f.type) ho.2 (by simpa using hx) (by simp at hl; omega) (fun i g hg => ?_)
    have := hr (i + 1) g (by simpa using hg)
    simpa using this
theorem opens_struct {α : Type} {t : TypeId} {fs : Array Field} {ts : List TypeId} {d : Kd α} {ok : α → Prop} (ht : P.underlying t = some (.struct fs)) (hts : fs.toList.map (·.type) = ts) (hc : P.cellsOf t = (ts.map P.cellsOf).sum)
    (ho : fs.toList.map (·.offset) = offsF P 0 fs.toList) (h : OpensF P ts d ok) : Opens P t d ok :=
  ⟨by rw [hc]; exact h.1, fun enc w sp held fuel cs x hx hz => by
    obtain ⟨xs, n, rfl, rfl, hl, hxl, hr⟩ := DataW.trod_struct ht hx
    subst hts
    have hmm : (fs.toList.map fun f => P.cellsOf f.type).sum = ((fs.toList.map (·.type)).map P.cellsOf).sum := by rw [List.map_map]; rfl
    have hrd := readsF_of (P := P) (enc := enc) (w := w) (sp := sp) (held := held) (n := n) fs.toList cs xs 0 ho (by simpa using hxl) (by rw [hl, hc, Nat.zero_add, hmm]) (fun i f hf => hr i f (by simpa using hf))
    rw [List.drop_zero] at hrd
    exact h.2 enc w sp held n cs xs hrd (fun m hm => hz m (by simp only [DataW.weights, ht]; exact hm))⟩
theorem opens_iso {α β : Type} {t : TypeId} {d : Kd α} {ok : α → Prop} (f : β → α) (g : α → β) (hfg : ∀ a, f (g a) = a) (h : Opens P t d ok) : Opens P t (Kd.iso d f) (fun b => ok (f b)) :=
  ⟨h.1, fun enc w sp held fuel cs x hx hz => by
    obtain ⟨v, hv, hok⟩ := h.2 enc w sp held fuel cs x hx hz
    exact ⟨g v, (by show d.K w (f (g v)) cs; rw [hfg]; exact hv), (by show ok (f (g v)); rw [hfg]; exact hok)⟩⟩
theorem okI_i64 {x : Int} (h : okI .i64 x) : -9223372036854775808 ≤ x ∧ x ≤ 9223372036854775807 := by
  unfold okI at h
  simp only [Lit.wf, IntKind.min, IntKind.max, IntKind.signed, IntKind.bits, Bool.and_eq_true, decide_eq_true_eq, if_true] at h
  omega
end Go.Proofs.YtekplcjgmnahmaaDoor.PA
