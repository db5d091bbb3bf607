/- keelson/clause.Holds: has each clause a literal that is true by a truth. The truth's length is at most 2^45 (else the machine's room for a slice is passed). -/
import Derived.Test.YtooobbbpcpfddaaDoorGClause
import Derived.Test.YtooobbbpcpfddaaDoorGIdx
namespace Go.Proofs.YtooobbbpcpfddaaDoor.PA
open Go.RowKit Go.Proofs.YtooobbbpcpfddaaDoorW.PrintWords Go.Proofs.YtooobbbpcpfddaaDoorW.PrintLast Go.Proofs.YtooobbbpcpfddaaDoorW.PrintMore

theorem infoI : (Tryd.prog.info? 3).map (fun i => (i.zero, i.size, i.bytes)) = some (some (.int .i64 0), 1, 8) := by kernel_rfl
def clause_Holds.f (l0 : List (List Int)) (l1 : List Bool) : Option Bool := if l1.length ≤ 35184372088832 then some (holdsG l0 l1) else none

set_option maxHeartbeats 400000 in
theorem holds1_any (p : Addr) (A : Option Addr) (c : Nat) (x : List Int) (B : Option Addr) (cb : Nat) (a : List Int) (w : World) (hp : w.cell? p = some (.slice B a.length cb)) (hcb : a.length ≤ cb)
    (hx : Kd.C (Kd.int .i64) w A x.length x) (hcx : x.length ≤ c) (ha : Kd.C (Kd.int .i64) w B a.length a) :
    Calls Tryd.prog 43 #[.slice A x.length c, .pointer (some p)] w fun e w' => e = .returned (.bool (decide (valueG x a < 1))) ∧ Below w.heap.size w w' := by
  have h := value_calls A c x B cb a w hx hcx ha hcb
  generalize valueG x a = v at h ⊢
  clear hx hcx ha hcb
  go_enter Tryd.func43, Tryd.ntmps43
  by_cases hv : v < 1
  · go_wp2_with (go_at_call 44; refine h.mono ?_; rintro e w' ⟨rfl, hb⟩)
    go_ret
    exact ⟨by simp [hv], hb⟩
  · go_wp2_with (go_at_call 44; refine h.mono ?_; rintro e w' ⟨rfl, hb⟩)
    go_ret
    exact ⟨by simp, hb⟩

/-- The truth's numbers, so far. -/
def encTo (m : List Bool) (k : Nat) : List Int := encM (m.take k) ++ List.replicate (m.length - k) 0
theorem encTo_zero (m : List Bool) : encTo m 0 = List.replicate m.length 0 := by simp [encTo, encM]
theorem encTo_all (m : List Bool) : encTo m m.length = encM m := by simp [encTo, encM]
theorem encTo_len (m : List Bool) (k : Nat) (hk : k ≤ m.length) : (encTo m k).length = m.length := by simp [encTo, encM]; omega
theorem encTo_step (m : List Bool) (k : Nat) (hk : k < m.length) : (encTo m k).set k (if m[k] then (1 : Int) else -1) = encTo m (k + 1) := by
  unfold encTo encM
  have hl : (List.map (fun b => if b = true then (1 : Int) else -1) (m.take k)).length = k := by simp; omega
  rw [List.set_append_right _ _ (by rw [hl]; exact Nat.le_refl _), hl, Nat.sub_self]
  obtain ⟨d, hd⟩ : ∃ d, m.length - k = d + 1 := ⟨m.length - k - 1, by omega⟩
  rw [hd, List.replicate_succ, List.set_cons_zero, List.take_succ_eq_append_getElem hk, List.map_append, List.append_assoc]
  congr 1
  rw [show m.length - (k + 1) = d from by omega]
  rfl
theorem set_set {α : Type} (l : List α) (k : Nat) (x y : α) : (l.set k x).set k y = l.set k y := by simp

set_option maxHeartbeats 2000000 in
theorem clause_Holds.calls (A0 : Option Addr) (c0 : Nat) (l0 : List (List Int)) (A1 : Option Addr) (c1 : Nat) (l1 : List Bool) (r : Bool) (w : World) (hr0 : Kd.C (Kd.slice 3 (Kd.int .i64)) w A0 l0.length l0) (_hc0 : l0.length ≤ c0)
    (hr1 : Kd.C Kd.bool w A1 l1.length l1) (_hc1 : l1.length ≤ c1) (h : clause_Holds.f l0 l1 = some r) :
    Calls Tryd.prog 20 #[.slice A0 l0.length c0, .slice A1 l1.length c1] w fun e w' => e = .returned (.bool r) ∧ Below w.heap.size w w' := by
  unfold clause_Holds.f at h
  split at h
  case isFalse => cases h
  case isTrue hlen =>
  obtain rfl := Option.some.inj h
  clear h
  have hn : l1.length ≤ 9223372036854775807 := hr1.2.1
  have hmf : ∀ (fn : Fn) (first cap : Array Value) (w : World), (Instr.makeFunc fn first cap).run Tryd.prog w = .ok (.func fn first cap) w := fun _ _ _ _ => rfl
  have H0 := Lib.hid hr0
  have H1 := Lib.hid hr1
  clear hr0 hr1
  go_enter Tryd.func20, Tryd.ntmps20
  go_wp2_with ((with_reducible refine gate_dst (N := 10) rfl ?_); refine Kd.R_make (Kd.int .i64) _ 3 rfl (N := 10) rfl 22 _ _ rfl (l1.length : Int) rfl rfl Tryd.underlying22 (.int .i64 0) 8 infoI rfl (by decide) (by omega) 0 (ok := fun _ => True) (okp := fun _ => True) rfl (fun _ hk => hk) trivial (by omega) (by omega) (Below.refl _ _) (Nat.le_refl _) ?_; intro v1 w1 ho hb hg_ hnew; clear hg_; (rw [Int.toNat_natCast, ← encTo_zero] at ho); obtain ⟨g0, cap, hv, hB0, hlt0, hcap⟩ := make_form ho hnew; (rw [encTo_len _ _ (Nat.zero_le _)] at hv); rw [hv]; rw [hv] at ho; clear hv hnew; have HO := Lib.hid ho; clear ho; have HB := Lib.hid hb; clear hb)
  rw [encTo_len _ _ (Nat.zero_le _)] at hcap
  have hgb : ¬ w1.heap.size = g0 := by omega
  have hgb' : ¬ g0 = w1.heap.size := by omega
  go_loopg [6, 7, 13] l1.length (fun gg _ _ s13 wr => ∃ kk : Nat, kk ≤ l1.length ∧ l1.length - kk ≤ gg ∧ s13 = .int .i64 kk ∧
    Aside (Kd.R (Kd.int .i64) 3 wr w.heap.size (fun _ => True) (.slice (some ⟨g0, 0, none⟩) l1.length cap) (encTo l1 kk)) ∧ Aside (wr.cell? ⟨w1.heap.size, 0, none⟩ = some (.slice (some ⟨g0, 0, none⟩) l1.length cap)) ∧ Aside (Below w.heap.size w wr))
  case atStart => exact ⟨0, Nat.zero_le _, by omega, rfl, Kd.R_alloc HO.out _, (show (w1.alloc _).cell? _ = _ from by simp [go_sem]), HB.out.alloc HB.out.size _⟩
  case round =>
    obtain ⟨kk, hkk, hg, rfl, RO, hcell, RB⟩ := hrel
    by_cases hlt : kk < l1.length
    · have hltz : (kk : Int) < (l1.length : Int) := by omega
      obtain ⟨ad, e, hx⟩ := Kd.at_bool H1.out (kk : Int) (by omega) (by omega)
      subst e
      rw [Int.toNat_natCast] at hx
      replace hx := pw_cell_below (Below.mono RB.out (Nat.le_refl _)) hx
      obtain ⟨hc1, hf1⟩ := Kd.R_celln 0 RO.out (kk : Int) (by omega) (by omega)
      have hst := Kd.R_putn RO.out (kk : Int) (-1)
      rw [Int.toNat_natCast] at hc1 hf1 hst
      have hxb : rdOf false l1 (kk : Int) = l1[kk] := by unfold rdOf; simp [List.getD_eq_getElem?_getD, List.getElem?_eq_getElem hlt]
      rw [hxb] at hx
      have hstep := encTo_step l1 kk hlt
      generalize rdOf 0 (encTo l1 kk) (kk : Int) = old at hc1
      have hcb : wr.cell? ⟨w1.heap.size, 0, none⟩ = some (.slice (some ⟨g0, 0, none⟩) l1.length cap) := hcell.out
      have hRB := RB.out.setCell (p := ⟨g0, kk, none⟩) hB0 (.int .i64 (-1))
      have hcw : ∀ v, (wr.setCell ⟨g0, kk, none⟩ v).cell? ⟨w1.heap.size, 0, none⟩ = some (.slice (some ⟨g0, 0, none⟩) l1.length cap) := fun v => by
        rw [World.cell?_setCell_other _ _ _ _ (by simp <;> omega)]; exact hcb
      clear hxb
      cases hb : l1[kk] with
      | false =>
        rw [hb] at hx hstep
        have ST := Lib.hid hst; have SP := Lib.hid hstep; have SB := Lib.hid hRB; have CW := Lib.hid hcw
        clear hst hstep hRB hb RO hcell RB hcw
        go_wp2
        go_roundg (l1.length - (kk + 1))
        case measure => omega
        case rel => exact ⟨kk + 1, by omega, by omega, by go_num, (by rw [← SP.out]; exact ST.out), CW.out _, SB.out⟩
      | true =>
        rw [hb] at hx hstep
        have hst2 := Kd.R_putn hst (kk : Int) 1
        rw [Int.toNat_natCast, set_set] at hst2
        have hRB2 := hRB.setCell (p := ⟨g0, kk, none⟩) hB0 (.int .i64 1)
        have hcw2 : ((wr.setCell ⟨g0, kk, none⟩ (.int .i64 (-1))).setCell ⟨g0, kk, none⟩ (.int .i64 1)).cell? ⟨w1.heap.size, 0, none⟩ = some (.slice (some ⟨g0, 0, none⟩) l1.length cap) := by
          rw [World.cell?_setCell_other _ _ _ _ (by simp <;> omega)]; exact hcw _
        have ST := Lib.hid hst2; have SP := Lib.hid hstep; have SB := Lib.hid hRB2; have CW := Lib.hid hcw2
        clear hst hst2 hstep hRB hRB2 hb RO hcell RB hcw hcw2
        go_wp2
        go_roundg (l1.length - (kk + 1))
        case measure => omega
        case rel => exact ⟨kk + 1, by omega, by omega, by go_num, (by rw [← SP.out]; exact ST.out), CW.out, SB.out⟩
    · have hltz : ¬ (kk : Int) < (l1.length : Int) := by omega
      have hk : kk = l1.length := by omega
      have hR := RO.out
      rw [hk, encTo_all] at hR
      have hl : (encM l1).length = l1.length := by simp [encM]
      obtain ⟨_, _, hCa⟩ := Kd.R_reads' hR
      rw [hl] at hCa
      have hcb := hcell.out
      have hpred : PredOn (Kd.slice 3 (Kd.int .i64)) oneV 43 #[.pointer (some ⟨w1.heap.size, 0, none⟩)] (fun x => decide (valueG x (encM l1) < 1)) l0 wr := by
        rintro x _ cs W hW ⟨A, c, rfl, hle, hC⟩
        have h := holds1_any ⟨w1.heap.size, 0, none⟩ A c x (some ⟨g0, 0, none⟩) cap (encM l1) W (by rw [hl]; exact pw_cell_below hW hcb) (by omega) hC hle (by rw [hl]; exact Kd.C_below hCa hW)
        exact h
      have eg : ∀ args w, (callFunc 43 args).run Tryd.prog w = .ok (.enter 43 args) w := enters_of Tryd.func43 (by kernel_rfl) rfl
      have hcon := (con42 _ rfl _ _ eg A0 c0 l0 _ wr (Kd.C_below H0.out RB.out) hpred).mono fun e w' h => (⟨h.1, RB.out.trans (h.2.mono RB.out.size)⟩ : e = .returned (.bool (l0.any fun x => decide (valueG x (encM l1) < 1))) ∧ Below w.heap.size w w')
      have hall : (!l0.any fun x => decide (valueG x (encM l1) < 1)) = holdsG l0 l1 := by
        unfold holdsG; rw [List.not_any_eq_all_not]
      have AL := Lib.hid hall
      clear hpred eg hCa hR RO hcell RB hl hk hall
      generalize (l0.any fun x => decide (valueG x (encM l1) < 1)) = b at hcon AL
      go_wp2_with (go_at_call 42; refine hcon.mono ?_; rintro e w' ⟨rfl, hb⟩)
      go_ret
      exact ⟨congrArg (fun z => Ending.returned (Value.bool z)) AL.out, hb⟩
end Go.Proofs.YtooobbbpcpfddaaDoor.PA
