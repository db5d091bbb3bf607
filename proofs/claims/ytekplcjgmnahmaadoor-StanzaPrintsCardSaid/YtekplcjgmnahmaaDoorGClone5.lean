/- slices.Clone of a stanza: a row of the call's own. At most 2^42 fields (the machine's room). -/
import Derived.Test.YtekplcjgmnahmaaDoorGBase
import Derived.Test.YtekplcjgmnahmaaDoorPA0
import Derived.Lib.SliceRun
namespace Go.Proofs.YtekplcjgmnahmaaDoor.PA
open Go.RowKit Go.Proofs.YtekplcjgmnahmaaDoorW.PrintWords Go.Proofs.YtekplcjgmnahmaaDoorW.PrintLast Go.Proofs.YtekplcjgmnahmaaDoorW.PrintMore
theorem fd_KM {w W : World} {B : Nat} {ok : Nat → Prop} (x : S49) (cs : List Value) (h : k49.K w x cs) : k49.M W B ok x cs := by
  obtain rfl := k49_open h
  exact k49_mkM W B ok x
theorem fd_empty {w W : World} (hb : Below w.heap.size w W) : Kd.R k49 49 (W.alloc (.cells #[] 49)) w.heap.size (fun _ => True) (.slice (some ⟨W.heap.size, 0, none⟩) 0 0) [] :=
  ⟨fun _ _ => trivial, [], World.ownsRow_made W #[] 0 hb.size (by decide) rfl, Reps.none _ _⟩
theorem alloc_below (w : World) (o : Obj) : Below w.heap.size w (w.alloc o) := (Below.refl _ w).alloc (Nat.le_refl _) _
theorem alloc_base (w : World) (o : Obj) : w.heap.size ≤ (w.alloc o).heap.size := (alloc_below w o).size
def api_Field.f (l0 : List S49) : Option (List S49) := if l0.length ≤ 4398046511104 then some l0 else none
set_option maxRecDepth 20000 in
set_option maxHeartbeats 1000000 in
theorem api_Field.calls (A0 : Option Addr) (c0 : Nat) (l0 : List S49) (r : List S49) (w : World) (hr0 : Kd.C k49 w A0 l0.length l0) (_hc0 : l0.length ≤ c0) (h : api_Field.f l0 = some r) :
    Calls Tryd.prog 33 #[.slice A0 l0.length c0] w fun e w' => ∃ v0_ : Value, e = .returned v0_ ∧ Kd.R k49 49 w' w.heap.size (fun _ => True) v0_ r ∧ Below w.heap.size w w' := by
  unfold api_Field.f at h
  split at h
  case isFalse => cases h
  case isTrue hlen =>
  obtain rfl := Option.some.inj h
  clear h
  have H0 := Lib.hid hr0
  have q := fun w a n c n' c' => Lib.run_eql_slice_nil (P := Tryd.prog) w 36 49 a n c n' c' Tryd.underlying36
  have HN := Lib.hid (Kd.R_nil k49 49 w w.heap.size (fun _ => True))
  cases A0 with
  | none =>
    have hn : l0 = [] := by
      rcases Nat.eq_zero_or_pos l0.length with h | h
      · exact List.length_eq_zero_iff.1 h
      · obtain ⟨ad, e⟩ := C_addr hr0 h; cases e
    subst hn
    clear hr0
    go_enter Tryd.func33, Tryd.ntmps33
    go_wp2
    go_ret
    exact ⟨_, rfl, HN.out, Below.refl _ _⟩
  | some ad =>
    clear hr0
    go_enter Tryd.func33, Tryd.ntmps33
    go_wp2_with ((with_reducible refine gate_builtin (b := .append) (xs := #[.tmp 5, .tmp 6]) rfl ?_); (try (refine gate_guard (by rfl) ?_; dsimp only)); at_builtin; refine Kd.R_append_rows k49 (w0 := w) w.heap.size rfl (.tmp 5) (.tmp 6) 36 49 _ 32 rfl Tryd.underlying36 info49 rfl (by decide) (by decide) (.slice (some ⟨w.heap.size, 0, none⟩) 0 0) [] l0 _ _ _ (fun _ => True) (fun _ => False) rfl rfl (fd_empty (Below.refl _ _)) (Kd.C_below H0.out (alloc_below _ _)) fd_KM (fun _ h => h.elim) (fun _ _ => trivial) (alloc_below _ _) (alloc_base _ _) (by simp only [List.length_nil]; omega) ?_; intro v3 w3 ho hb hg hat; have O3 := Lib.hid ho; have B3 := Lib.hid hb; clear ho hb hg hat)
    go_ret
    exact ⟨_, rfl, O3.out, B3.out⟩
end Go.Proofs.YtekplcjgmnahmaaDoor.PA
