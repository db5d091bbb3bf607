/- keelsonref5's reader: begins: what it comes to. Conditions: the reader lies as GRead says. -/
import Derived.Test.YtekplcjgmnahmaaDoorGField5
import Derived.Test.YtekplcjgmnahmaaDoorMStanzaR
import Derived.Test.YtekplcjgmnahmaaDoorPureStanzaFields
import Derived.BigRegion
namespace Go.Proofs.YtekplcjgmnahmaaDoor.PA
open Go.RowKit Go.Proofs.YtekplcjgmnahmaaDoorW.PrintWords Go.Proofs.YtekplcjgmnahmaaDoorW.PrintLast Go.Proofs.YtekplcjgmnahmaaDoorW.PrintMore

abbrev RdR (w0 W : World) (rb : Nat) (gs : List Guest) (v : Value) (vs : List Value) (l : List (List Fd)) (o : Bool) : Prop := RdP 35 62 w0.heap.size w0 W rb gs v vs l o
theorem name_calls (s : ByteArray) (w : World) (hs : s.size ≤ 4611686018427387904) : Calls Tryd.prog 24 #[.string s] w fun e w' => e = .returned (.bool (nameL s.data.toList)) ∧ ∃ n, w' = w.drewN n := by
  obtain ⟨k, hk⟩ := Ev.rounds (refname_ev s hs)
  exact (keelsonref5_Name.calls k s _ w hk).mono fun e w' h => ⟨h.1, h.2.out⟩
theorem colon_step {S : List UInt8} {k : Nat} (hk : k < S.length) (h : (S[k]).toNat ≠ 58) (hc : colonL S = (S.take k ++ (colonL (S.drop k)).1, (colonL (S.drop k)).2.1, (colonL (S.drop k)).2.2)) :
    colonL S = (S.take (k + 1) ++ (colonL (S.drop (k + 1))).1, (colonL (S.drop (k + 1))).2.1, (colonL (S.drop (k + 1))).2.2) := by
  have e : S.drop k = S[k] :: S.drop (k + 1) := List.drop_eq_getElem_cons hk
  rw [e, colonL, if_neg h] at hc
  rw [hc, List.take_succ_eq_append_getElem hk, List.append_assoc]; rfl
theorem colon_hit {S : List UInt8} {k : Nat} (hk : k < S.length) (h : (S[k]).toNat = 58) (hc : colonL S = (S.take k ++ (colonL (S.drop k)).1, (colonL (S.drop k)).2.1, (colonL (S.drop k)).2.2)) : colonL S = (S.take k, S.drop (k + 1), true) := by
  have e : S.drop k = S[k] :: S.drop (k + 1) := List.drop_eq_getElem_cons hk
  rw [e, colonL, if_pos h] at hc
  rw [hc, List.append_nil]
theorem colon_miss {S : List UInt8} {k : Nat} (hk : S.length ≤ k) (hc : colonL S = (S.take k ++ (colonL (S.drop k)).1, (colonL (S.drop k)).2.1, (colonL (S.drop k)).2.2)) : colonL S = (S, [], false) := by
  rw [List.drop_eq_nil_of_le hk, List.take_of_length_le hk] at hc
  rw [hc, colonL, List.append_nil]
theorem trim_step {S : List UInt8} {k : Nat} (hk : k < S.length) (h : (S[k]).toNat = 32) : trimL (S.drop k) = trimL (S.drop (k + 1)) := by
  rw [List.drop_eq_getElem_cons hk]; unfold trimL; rw [List.dropWhile_cons, if_pos (decide_eq_true h)]
theorem trim_stop {S : List UInt8} {k : Nat} (hk : k < S.length) (h : (S[k]).toNat ≠ 32) : trimL (S.drop k) = S.drop k := by
  rw [List.drop_eq_getElem_cons hk]; unfold trimL; rw [List.dropWhile_cons, if_neg (by rw [decide_eq_false h]; decide)]
theorem byte_at (s : ByteArray) (k : Nat) (_hk : k < s.data.toList.length) : ∀ h : k < s.size, ((s[k]'h).toNat : Int) = ((s.data.toList[k]).toNat : Int) := by
  intro h
  congr 2

/-- The slice of stanzas has grown by one that is new, and stands in the reader, which is open. -/
theorem RdP.pushed1 {TS TR B : Nat} {w0 W W1 w1 : World} {rb : Nat} {gs : List Guest} {v v1 z : Value} {vs : List Value} {l : List (List Fd)} {o : Bool} {x : List Fd} (h0 : RdP TS TR B w0 W rb gs v vs l o) (hTS : TS ≠ TR) (hTF : 49 ≠ TR) (hFS : 49 ≠ TS) (hb1 : Below W.heap.size W W1) (hz : OwnF B W1 z x) (hzn : ∀ k, z.ownBlock = some k → W.heap.size ≤ k)
    (h1 : w1.ownsRow B TS 1 v1 (l.length + 1) (vs ++ [z])) (hg0 : W1.drew.grownBy w1 v.ownBlock) : RdP TS TR B w0 ((w1.setCell ⟨rb, 0, none⟩ v1).setCell ⟨rb, 1, none⟩ (.bool true)) rb gs v1 (vs ++ [z]) (l ++ [x]) true := by
  have h := h0.move hb1
  have hg := grown_drew hg0
  have hb : Below B w0 w1 := h.bel.grown hg h.base (own_base h.row)
  have hc1 : w1.heap[rb]? = some (.cells #[v, .bool o] TR (0, 0)) := by rw [hg.block rb h.lt (own_ne h.row h.cell hTS)]; exact h.cell
  have hc2 : (w1.setCell ⟨rb, 0, none⟩ v1).heap[rb]? = some (.cells #[v1, .bool o] TR (0, 0)) := by rw [heap_setCell_same w1 rb 0 _ _ _ hc1]; rfl
  have hkeep : ∀ (u : Value) (y : List Fd), OwnF B W1 u y → ∀ k, u.ownBlock = some k → k < W1.heap.size → w1.heap[k]? = W1.heap[k]? := by
    intro u y hx k hk hlt
    refine hg.block k hlt ?_
    rcases own_type_ne hx h.row hFS with e | e
    · rw [hk] at e; cases e
    · rw [hk] at e; exact e
  have hr1 : RowsF B w1 vs l := h.rows.move fun u hu k hk hlt => by
    obtain ⟨x, hx⟩ := h.rows.mem hu
    exact hkeep u x hx k hk hlt
  have hz1 : OwnF B w1 z x := own_move hz fun k hk => hkeep z x hz k hk (own_lt hz k hk)
  have hset : ∀ (u : Value) (y : List Fd), OwnF B w1 u y → ∀ k, u.ownBlock = some k → ((w1.setCell ⟨rb, 0, none⟩ v1).setCell ⟨rb, 1, none⟩ (.bool true)).heap[k]? = w1.heap[k]? := by
    intro u y hx k hk
    have hne : k ≠ rb := by have := own_ne hx hc1 hTF; rw [hk] at this; rintro rfl; exact this rfl
    rw [heap_set_ne _ _ _ k hne, heap_set_ne _ _ _ k hne]
  refine ⟨(hb.setCell h.hrb _).setCell h.hrb _, ?_, h.hrb, ?_, ?_, ?_, ?_, ?_⟩
  · simpa using Nat.le_trans h.base hg.size
  · rw [heap_setCell_same _ rb 1 _ _ _ hc2]; rfl
  · rw [List.length_append]
    exact own_setCell (own_setCell h1 (own_ne h1 hc1 hTS) _) (own_ne h1 hc1 hTS) _
  · refine RowsF.snoc (hr1.move fun u hu k hk _ => ?_) (own_move hz1 fun k hk => hset z x hz1 k hk)
    obtain ⟨y, hy⟩ := hr1.mem hu
    exact hset u y hy k hk
  · refine List.pairwise_append.2 ⟨h.apart, List.pairwise_singleton _ _, ?_⟩
    intro u hu q hq k hk
    rw [List.mem_singleton] at hq
    subst hq
    obtain ⟨y, hy⟩ := h0.rows.mem hu
    have := own_lt hy k hk
    intro e
    have := hzn k e
    omega
  · intro q hq
    obtain ⟨q1, q2, q3, q4⟩ := h.guest q hq
    have q5 : w1.heap[q.b]? = some (.cells q.cs q.t (0, 0)) := by rw [hg.block q.b (Array.getElem?_eq_some_iff.1 q1).1 (own_ne h.row q1 q2)]; exact q1
    have hne := guest_ne q5 hc1 q3
    exact ⟨by rw [heap_set_ne _ _ _ q.b hne, heap_set_ne _ _ _ q.b hne]; exact q5, q2, q3, q4⟩
theorem lit_own (W : World) (B : Nat) (hB : B ≤ W.heap.size) (f : Fd) : OwnF B (W.alloc (.cells #[.string f.f0, .string f.f1] 49)) (.slice (some ⟨W.heap.size, 0, none⟩) 1 1) [f] :=
  World.ownsRow_lit (base := B) (e := 49) (size := 2) W #[.string f.f0, .string f.f1] 1 hB (by decide) rfl

theorem add_block (p : Addr) (j : Nat) : (p.add j).block = p.block := by unfold Addr.add; split <;> rfl
theorem news_alloc (w : World) (a tb : ByteArray) : ∀ (j : Nat) u, ([.string a, .string tb] : List Value)[j]? = some u → (w.alloc (.cells #[.string a, .string tb] 49)).cell? ((⟨w.heap.size, 0, none⟩ : Addr).add j) = some u := by
  simpa using World.news_of_block (cs := #[.string a, .string tb]) (t := 49) (fr := (0, 0)) (heap_alloc_new w (.cells #[.string a, .string tb] 49))
theorem gr_drew {W X : World} (h : W.grownBy X none) : W.grownBy X.drew none := ⟨h.os, h.tape, h.output, h.size, h.block⟩
theorem gr_alloc {W w7 : World} (h : W.grownBy w7 none) (ob : Obj) : W.grownBy (w7.alloc ob) none := h.trans (World.grownBy_alloc w7 ob none)
theorem blk_le {b k n c lo : Nat} (h : lo ≤ b) (hk : (Value.slice (some ⟨b, 0, none⟩) n c).ownBlock = some k) : lo ≤ k := by cases hk; exact h
theorem fresh_grown {W X w7 : World} {row : Option Nat} (hX : W.grownBy X none) (hg : X.grownBy w7 row) (hr : ∀ k, row = some k → W.heap.size ≤ k) : W.grownBy w7 none :=
  ⟨hg.os.trans hX.os, hg.tape.trans hX.tape, hg.output.trans hX.output, Nat.le_trans hX.size hg.size, fun k hk _ => (hg.block k (Nat.lt_of_lt_of_le hk hX.size) (fun e => by have := hr k e.symm; omega)).trans (hX.block k hk (by simp))⟩
theorem fcells_one : ∀ x : List Fd, ∀ u ∈ fcells x, u.oneCell' = true := by
  intro x
  induction x with
  | nil => intro u hu; cases hu
  | cons f x ih =>
    intro u hu
    rcases List.mem_cons.1 hu with h | hu
    · subst h; rfl
    · rcases List.mem_cons.1 hu with h | hu
      · subst h; rfl
      · exact ih u hu
theorem grown_cell {W w7 : World} (h : W.grownBy w7 none) {p : Addr} {u : Value} (hc : W.cell? p = some u) : w7.cell? p = some u := h.cell hc (by simp)
theorem grown_frozen {W w7 : World} (h : W.grownBy w7 none) {p : Addr} {u : Value} (hc : W.cell? p = some u) (hf : W.frozen? p = false) : w7.frozen? p = false :=
  (World.frozen?_of_block (h.block p.block (World.block_lt_of_cell? W p hc) (by simp))).trans hf
/-- A new row stands for the last stanza. -/
theorem RdP.fresh {TS TR B : Nat} {w0 W w8 : World} {rb : Nat} {gs : List Guest} {v : Value} {vs us : List Value} {z z1 : Value} {l : List (List Fd)} {o : Bool} {x1 : List Fd} {g cap : Nat} (h : RdP TS TR B w0 W rb gs v vs l o) (hl : l ≠ []) (hTS : TS ≠ TR) (hTF : 49 ≠ TR) (hFS : 49 ≠ TS) (hv : v = .slice (some ⟨g, 0, none⟩) l.length cap) (hvs : vs = us ++ [z]) (hlen : us.length + 1 = l.length)
    (hg : W.grownBy w8 none) (h1 : w8.ownsRow W.heap.size 49 2 z1 x1.length (fcells x1)) (hx : x1 ≠ []) : RdP TS TR B w0 (w8.setCell ⟨g, us.length, none⟩ z1) rb gs v (us ++ [z1]) (l.dropLast ++ [x1]) o := by
  have hb : Below B w0 w8 := h.bel.grown hg h.base (fun k e => by cases e)
  have hz1 : ∃ b, z1.ownBlock = some b := by
    rcases h1.2 with ⟨_, e⟩ | ⟨g1, cap1, cur, e, _⟩
    · exact absurd (List.length_eq_zero_iff.1 e) hx
    · exact ⟨g1, by rw [e]; rfl⟩
  obtain ⟨b, hb1⟩ := hz1
  have := h.put hl hTS hTF hFS hv hvs hb ⟨hg.os, hg.tape, hg.output, hg.size, fun k hk _ => hg.block k hk (by simp)⟩ (own_weaken h1 h.base) (.inr ⟨b, hb1, own_base h1 b hb1⟩)
  rw [show l.length - 1 = us.length by omega] at this
  exact this

set_option maxRecDepth 20000 in
set_option maxHeartbeats 16000000 in
theorem begins_calls (w0 W : World) (rb : Nat) (gs : List Guest) (v : Value) (vs : List Value) (l : List (List Fd)) (o : Bool) (s : ByteArray) (hs : s.size ≤ 4611686018427387904) (hF : FineR l o) (h : RdR w0 W rb gs v vs l o) :
    Calls Tryd.prog 55 #[.pointer (some ⟨rb, 0, none⟩), .string s] W fun e w' =>
      match fieldG l o s.data.toList with
      | .error q => e = .returned (.int .i64 q) ∧ Below w0.heap.size w0 w'
      | .ok p => e = .returned (.int .i64 0) ∧ ∃ v' vs', RdR w0 w' rb gs v' vs' p.1 p.2 := by
  obtain ⟨r, hr⟩ : ∃ r, fieldG l o s.data.toList = r := ⟨_, rfl⟩
  rw [hr]
  unfold fieldG at hr
  obtain ⟨S, hS⟩ : ∃ S, s.data.toList = S := ⟨_, rfl⟩
  have hsl : S.length = s.size := by rw [← hS]; exact data_length s
  have hbt : ∀ k (hk : k < S.length) (h : k < s.size), ((s[k]'h).toNat : Int) = ((S[k]).toNat : Int) := by subst hS; exact byte_at s
  rw [hS] at hr
  have H0 := Lib.hid h
  have HR := Lib.hid hr
  have hdr : ∀ n, Below w0.heap.size w0 (W.drewN n) := fun n => pw_below_drewN h.bel n
  have HD := Lib.hid hdr
  clear h hr hdr
  go_enter Tryd.func55, Tryd.ntmps55
  go_wp2
  go_loopg [5] s.size (fun gg s5 wr => ∃ kk : Nat, kk ≤ s.size ∧ s.size - kk ≤ gg ∧ s5 = .int .i64 kk ∧ wr = W ∧ Aside (colonL S = (S.take kk ++ (colonL (S.drop kk)).1, (colonL (S.drop kk)).2.1, (colonL (S.drop kk)).2.2)))
  case atStart => exact ⟨0, Nat.zero_le _, by omega, rfl, rfl, by rw [List.take_zero, List.drop_zero]; exact rfl⟩
  case round =>
    obtain ⟨kk, hkk, hg, rfl, rfl, RC⟩ := hrel
    by_cases hlt : kk < s.size
    · have hltz : (kk : Int) < (s.size : Int) := by omega
      have p0 : (0 ≤ (kk : Int)) = True := eq_true (by omega)
      have hkS : kk < S.length := by omega
      have hx := hbt kk hkS
      by_cases h58 : (S[kk]).toNat = 58
      · have hc := colon_hit hkS h58 RC.out
        have hi : ((S[kk]).toNat : Int) = 58 := by omega
        rw [hi] at hx
        have hr := HR.out
        rw [hc] at hr
        dsimp only at hr
        have hex : s.extract 0 kk = mkB (S.take kk) := by rw [extract_mk, List.drop_zero, Nat.sub_zero, hS]
        have hnm := fun w => name_calls (mkB (S.take kk)) w (by rw [mkB_size, List.length_take]; omega)
        rw [show (mkB (S.take kk)).data.toList = S.take kk from rfl] at hnm
        have j1 : ¬ (kk : Int) = (s.size : Int) := by omega
        have j2 : ((kk : Int) == (s.size : Int)) = false := beq_eq_false_iff_ne.2 j1
        have j3 : IntKind.i64.wrap ((kk : Int) + 1) = (kk : Int) + 1 := by rw [i64_w]; unfold wrap64; omega
        have j4 : ((kk : Int) ≤ (s.size : Int)) = True := eq_true (by omega)
        clear RC HR hi
        cases hn : nameL (S.take kk) with
        | false =>
          rw [hn] at hr hnm
          rw [Bool.and_false, if_neg (by decide)] at hr
          subst hr
          go_wp2_with (go_at_call 24; with_reducible refine (hnm _).mono ?_; rintro e w1 ⟨rfl, n, rfl⟩)
          go_ret
          exact ⟨rfl, HD.out _⟩
        | true =>
          rw [hn] at hr hnm
          rw [Bool.and_true, if_pos rfl] at hr
          have HR2 := Lib.hid hr
          clear hr
          go_wp2_with (go_at_call 24; with_reducible refine (hnm _).mono ?_; rintro e w1 ⟨rfl, n, rfl⟩)
          clear hc hx p0 hltz j1 j2 j3 j4 hnm
          go_loopg [7] s.size (fun gg s7 wr2 => ∃ ff : Nat, kk + 1 ≤ ff ∧ ff ≤ s.size ∧ s.size - ff ≤ gg ∧ s7 = .int .i64 ff ∧ wr2 = wr.drewN n ∧ Aside (trimL (S.drop (kk + 1)) = trimL (S.drop ff)))
          case atStart => exact ⟨kk + 1, Nat.le_refl _, by omega, by omega, rfl, rfl, rfl⟩
          case round =>
            obtain ⟨ff, hf1, hf2, hg2, rfl, rfl, RT⟩ := hrel
            have p0 : (0 ≤ (ff : Int)) = True := eq_true (by omega)
            by_cases hgo : ∃ h : ff < S.length, (S[ff]).toNat = 32
            · obtain ⟨hfS, h32⟩ := hgo
              have hltz : (ff : Int) < (s.size : Int) := by omega
              have hx := hbt ff hfS
              rw [h32] at hx
              have hT := Lib.hid (RT.out.trans (trim_step hfS h32))
              clear RT
              go_wp2
              go_roundg (s.size - (ff + 1))
              case measure => omega
              case rel => exact ⟨ff + 1, by omega, by omega, by omega, by go_num, rfl, hT.out⟩
            · have htb : trimL (S.drop (kk + 1)) = S.drop ff := by
                rw [RT.out]
                by_cases hfS : ff < S.length
                · exact trim_stop hfS fun e => hgo ⟨hfS, e⟩
                · rw [List.drop_eq_nil_of_le (by omega)]; rfl
              have hr := HR2.out
              rw [htb] at hr
              have hexa : s.extract 0 kk = mkB (S.take kk) := hex
              have hexb : s.extract ff s.size = mkB (S.drop ff) := by
                rw [extract_mk, hS, List.take_of_length_le (by rw [List.length_drop]; omega)]
              have k1 : ((kk : Int) ≤ (s.size : Int)) = True := eq_true (by omega)
              have k2 : ((ff : Int) ≤ (s.size : Int)) = True := eq_true (by omega)
              have k3 : (0 ≤ (kk : Int)) = True := eq_true (by omega)
              have hcase : (∃ ci : Int, (∀ h : ff < s.size, ((s[ff]'h).toNat : Int) = ci) ∧ ci ≠ 32 ∧ (ff : Int) < (s.size : Int)) ∨ ¬ (ff : Int) < (s.size : Int) := by
                by_cases hfS : ff < S.length
                · exact .inl ⟨_, hbt ff hfS, fun e => hgo ⟨hfS, by omega⟩, by omega⟩
                · exact .inr (by omega)
              clear RT HR2 hgo htb hex hbt
              generalize mkB (S.take kk) = a at hexa hr
              generalize mkB (S.drop ff) = tb at hexb hr
              have HR3 := Lib.hid hr
              clear hr
              have hcase2 : ∃ (ci : Int) (bb : Bool), (bb = true → (∀ h : ff < s.size, ((s[ff]'h).toNat : Int) = ci)) ∧ (bb = true → (ci == 32) = false) ∧ decide ((ff : Int) < (s.size : Int)) = bb := by
                rcases hcase with ⟨ci, h1, h2, h3⟩ | h
                · exact ⟨ci, true, fun _ => h1, fun _ => beq_eq_false_iff_ne.2 h2, decide_eq_true h3⟩
                · exact ⟨0, false, (fun h => by cases h), (fun h => by cases h), decide_eq_false h⟩
              clear hcase
              obtain ⟨ci, bb, hx, hci, hbb⟩ := hcase2
              cases bb with
              | true =>
                have hx := hx rfl
                have hci := hci rfl
                have hltz : (ff : Int) < (s.size : Int) := of_decide_eq_true hbb
                have a0 : ((wr.drewN (n + 1)).alloc (.cells #[.string ⟨#[]⟩, .string ⟨#[]⟩] 49)).cell? ⟨wr.heap.size, 0, none⟩ = some (.string ⟨#[]⟩) := by simp [World.cell?, World.alloc, World.drewN]
                have a1 : ((wr.drewN (n + 1)).alloc (.cells #[.string ⟨#[]⟩, .string ⟨#[]⟩] 49)).cell? ⟨wr.heap.size, 1, none⟩ = some (.string ⟨#[]⟩) := by simp [World.cell?, World.alloc, World.drewN]
                have a2 : ((wr.drewN (n + 1)).alloc (.cells #[.string ⟨#[]⟩, .string ⟨#[]⟩] 49)).frozen? ⟨wr.heap.size, 0, none⟩ = false := by simp [World.frozen?, World.alloc, World.drewN]
                have a3 : ((wr.drewN (n + 1)).alloc (.cells #[.string ⟨#[]⟩, .string ⟨#[]⟩] 49)).frozen? ⟨wr.heap.size, 1, none⟩ = false := by simp [World.frozen?, World.alloc, World.drewN]
                go_wp2
                go_region
                have b2 : Below wr.heap.size wr ((((wr.drewN (n + 1)).alloc (.cells #[.string ⟨#[]⟩, .string ⟨#[]⟩] 49)).setCell ⟨wr.heap.size, 0, none⟩ (.string a)).setCell ⟨wr.heap.size, 1, none⟩ (.string tb)) := (((pw_below_drewN (Below.refl wr.heap.size wr) (n + 1)).alloc (Nat.le_refl _) _).setCell (Nat.le_refl _) _).setCell (Nat.le_refl _) _
                have q0 : ((((wr.drewN (n + 1)).alloc (.cells #[.string ⟨#[]⟩, .string ⟨#[]⟩] 49)).setCell ⟨wr.heap.size, 0, none⟩ (.string a)).setCell ⟨wr.heap.size, 1, none⟩ (.string tb)).cell? ⟨wr.heap.size, 0, none⟩ = some (.string a) := by simp [go_sem, a0]
                have q1 : ((((wr.drewN (n + 1)).alloc (.cells #[.string ⟨#[]⟩, .string ⟨#[]⟩] 49)).setCell ⟨wr.heap.size, 0, none⟩ (.string a)).setCell ⟨wr.heap.size, 1, none⟩ (.string tb)).cell? ⟨wr.heap.size, 1, none⟩ = some (.string tb) := by simp [go_sem, a1]
                have H2 := H0.out.move b2
                clear a0 a1 a2 a3 b2
                generalize ((((wr.drewN (n + 1)).alloc (.cells #[.string ⟨#[]⟩, .string ⟨#[]⟩] 49)).setCell ⟨wr.heap.size, 0, none⟩ (.string a)).setCell ⟨wr.heap.size, 1, none⟩ (.string tb)) = w2 at q0 q1 H2 ⊢
                have hgf : ∀ k, v.ownBlock = some k → k < wr.heap.size := own_lt H0.out.row
                have hfb : wr.heap.size < w2.heap.size := World.block_lt_of_cell? w2 _ q0
                generalize wr.heap.size = fb at q0 q1 hgf hfb ⊢
                have c0 := H2.cell0
                have c1 := H2.cell1
                have hr := HR3.out
                clear HR3 H0 HD
                cases o with
                | false =>
                  rw [if_neg (by decide)] at hr
                  obtain ⟨A1, cap1, hv1⟩ := H2.anySlice
                  subst hv1
                  by_cases h200 : l.length < 200
                  case neg =>
                    rw [if_neg h200] at hr
                    subst hr
                    have j1 : decide ((200 : Int) ≤ (l.length : Int)) = true := decide_eq_true (by omega)
                    go_wp2
                    go_ret
                    exact ⟨rfl, H2.bel⟩
                  case pos =>
                    rw [if_pos h200] at hr
                    subst hr
                    have j1 : decide ((200 : Int) ≤ (l.length : Int)) = false := decide_eq_false (by omega)
                    have HH := Lib.hid H2
                    have hb9 : Below w2.heap.size w2 ((w2.alloc (.cells #[.string a, .string tb] 49)).alloc (.cells #[.slice (some ⟨w2.heap.size, 0, none⟩) 1 1] 35)) := (alloc_below w2 _).alloc (by simp) _
                    have HB9 := Lib.hid hb9
                    have HW9 := Lib.hid (H2.move hb9)
                    have HZ9 := Lib.hid ((lit_own w2 w0.heap.size H2.base ⟨a, tb⟩).alloc (.cells #[.slice (some ⟨w2.heap.size, 0, none⟩) 1 1] 35))
                    have c0a : ∀ ob, (w2.alloc ob).cell? ⟨rb, 0, none⟩ = some (.slice A1 l.length cap1) := fun ob => pw_cell_below (alloc_below w2 ob) c0
                    have c0b : ∀ ob ob', ((w2.alloc ob).alloc ob').cell? ⟨rb, 0, none⟩ = some (.slice A1 l.length cap1) := fun ob ob' => pw_cell_below (alloc_below _ ob') (c0a ob)
                    have q0a : ∀ ob, (w2.alloc ob).cell? ⟨fb, 0, none⟩ = some (.string a) := fun ob => pw_cell_below (alloc_below w2 ob) q0
                    have q1a : ∀ ob, (w2.alloc ob).cell? ⟨fb, 1, none⟩ = some (.string tb) := fun ob => pw_cell_below (alloc_below w2 ob) q1
                    clear H2 hb9
                    obtain ⟨i35, hi35, hz35⟩ := Option.map_eq_some_iff.1 info35
                    simp only [Prod.mk.injEq] at hz35
                    obtain ⟨hi1, hi2, hi3⟩ := hz35
                    have e9 : (w2.alloc (.cells #[.string a, .string tb] 49)).heap.size = w2.heap.size + 1 := by simp
                    have n5 : ∀ (j : Nat) u, ([.slice (some ⟨w2.heap.size, 0, none⟩) 1 1] : List Value)[j]? = some u → ((w2.alloc (.cells #[.string a, .string tb] 49)).alloc (.cells #[.slice (some ⟨w2.heap.size, 0, none⟩) 1 1] 35)).drew.cell? ((⟨w2.heap.size + 1, 0, none⟩ : Addr).add j) = some u := by
                      have := World.news_of_block (cs := #[.slice (some ⟨w2.heap.size, 0, none⟩) 1 1]) (t := 35) (fr := (0, 0)) (heap_alloc_new (w2.alloc (.cells #[.string a, .string tb] 49)) (.cells #[.slice (some ⟨w2.heap.size, 0, none⟩) 1 1] 35))
                      rw [e9] at this
                      simpa using this
                    have o5 : ∀ u ∈ ([.slice (some ⟨w2.heap.size, 0, none⟩) 1 1] : List Value), u.oneCell' = true := by
                      intro u hu
                      rw [List.mem_singleton] at hu
                      subst hu; rfl
                    have s5 : w0.heap.size ≤ ((w2.alloc (.cells #[.string a, .string tb] 49)).alloc (.cells #[.slice (some ⟨w2.heap.size, 0, none⟩) 1 1] 35)).drew.heap.size := HW9.out.base
                    have z5 : ((w2.alloc (.cells #[.string a, .string tb] 49)).alloc (.cells #[.slice (some ⟨w2.heap.size, 0, none⟩) 1 1] 35)).drew.heap.size = w2.heap.size + 2 := by simp
                    have m5 : l.length + 1 ≤ maxLen := by simp only [maxLen]; omega
                    have b5 : (l.length + 1) * 24 ≤ 140737488355328 := by omega
                    have hOW := HW9.out.row
                    have k7 := fun w7 (hg : ((w2.alloc (.cells #[.string a, .string tb] 49)).alloc (.cells #[.slice (some ⟨w2.heap.size, 0, none⟩) 1 1] 35)).drew.grownBy w7 (Value.slice A1 l.length cap1).ownBlock) => HW9.out.keptAt (by decide) (grown_drew hg)
                    clear e9
                    go_wp2
                    go_region_law (refine step_append_lies _ rfl (.tmp 72) (.tmp 75) 27 rfl w0.heap.size 35 i35 _ 1 24 Tryd.underlying27 hi35 hi1 hi2 hi3 rfl (by decide) (.slice A1 l.length cap1) l.length vs rfl hOW ⟨w2.heap.size + 1, 0, none⟩ 1 1 [.slice (some ⟨w2.heap.size, 0, none⟩) 1 1] rfl rfl n5 o5 (by decide) m5 b5 s5 (w2.heap.size + 2) z5 ?_; intro g7 cap7 w7 hown7 hg7 hat7 hlt7; obtain ⟨e70, e71, e72, e73⟩ := k7 w7 hg7)
                    all_goals
                      have h8 := HH.out.pushed1 (by decide) (by decide) (by decide) HB9.out HZ9.out (fun k hk => by cases hk; exact Nat.le_refl _) hown7 hg7
                      go_wp2
                      go_ret
                      exact ⟨rfl, _, _, h8⟩
                | true =>
                  rw [if_pos rfl] at hr
                  have hl := hF.2.2 rfl
                  have hF1 := hF.1
                  have h40 := (hF.2.1 _ (lastS_mem hl)).2
                  obtain ⟨g, cap, hv, _, _⟩ := H2.slice hl
                  obtain ⟨us, z, hvs, _, hz, hlen⟩ := H2.last hl
                  obtain ⟨Az, cz, hzv, hcz, hzC⟩ := fcells_C hz
                  have c2 := (H2.lastAt hv hvs hlen).1
                  obtain ⟨kg, hkg⟩ := Ev.rounds (refget_ev (lastS l) a (by omega))
                  have hget := fun m => keelsonref5_Get.calls kg Az cz (lastS l) a _ _ (w2.drewN m) (Kd.C_below hzC (pw_below_drewN (Below.refl _ _) m)) hcz hkg
                  rw [← hlen] at hv
                  have i1 : IntKind.i64.wrap ((us.length : Int) + 1 - 1) = (us.length : Int) := by
                    rw [i64_w]; unfold wrap64; omega
                  have i1b : IntKind.i64.wrap (us.length : Int) = (us.length : Int) := by
                    rw [i64_w]; unfold wrap64; omega
                  have i2 : (0 ≤ (us.length : Int)) = True := eq_true (by omega)
                  have i3 : ((us.length : Int) < (us.length : Int) + 1) = True := eq_true (by omega)
                  obtain ⟨x, hxx⟩ : ∃ x, lastS l = x := ⟨_, rfl⟩
                  rw [hxx] at hr hget hzv h40 hz
                  subst hv hzv
                  have HL := Lib.hid hlen
                  have HH := Lib.hid H2
                  have HZ := Lib.hid hz
                  clear hzC hlen hkg H2 hz
                  cases hgn : getG x a with
                  | some y =>
                    rw [hgn] at hr hget
                    dsimp only [Option.isSome, Option.getD] at hr hget
                    rw [if_pos rfl] at hr
                    subst hr
                    go_wp2
                    go_quiet (fail)
                    go_wp2_with (go_at_call 18; with_reducible refine (hget _).mono ?_; rintro e w6 ⟨rfl, ⟨m6, rfl⟩⟩)
                    go_ret
                    exact ⟨rfl, pw_below_drewN HH.out.bel _⟩
                  | none =>
                    rw [hgn] at hr hget
                    dsimp only [Option.isSome, Option.getD] at hr hget
                    rw [if_neg (by decide)] at hr
                    by_cases hx40 : x.length < 40
                    case neg =>
                      rw [if_neg hx40] at hr
                      subst hr
                      have j1 : decide ((40 : Int) ≤ (x.length : Int)) = true := decide_eq_true (by omega)
                      go_wp2
                      go_quiet (fail)
                      go_wp2_with (go_at_call 18; with_reducible refine (hget _).mono ?_; rintro e w6 ⟨rfl, ⟨m6, rfl⟩⟩)
                      go_ret
                      exact ⟨rfl, pw_below_drewN HH.out.bel _⟩
                    case pos =>
                      rw [if_pos hx40] at hr
                      subst hr
                      have j1 : decide ((40 : Int) ≤ (x.length : Int)) = false := decide_eq_false (by omega)
                      go_wp2
                      go_quiet (fail)
                      go_wp2_with (go_at_call 18; with_reducible refine (hget _).mono ?_; rintro e w6 ⟨rfl, ⟨m6, rfl⟩⟩)
                      obtain ⟨w9, hw9⟩ : ∃ w9, w2.drewN (nq + m6) = w9 := ⟨_, rfl⟩
                      rw [hw9]
                      have HD9 := Lib.hid hw9
                      have H9 := Lib.hid (hw9 ▸ HH.out.move (pw_below_drewN (Below.refl _ w2) (nq + m6)))
                      have hx0 : 0 < x.length := by
                        have := (hF.2.1 _ (lastS_mem hl)).1
                        rw [hxx] at this
                        exact List.length_pos_iff.2 this
                      obtain ⟨i49, hi49, hz49⟩ := Option.map_eq_some_iff.1 info49
                      simp only [Prod.mk.injEq] at hz49
                      obtain ⟨hi1, hi2, hi3⟩ := hz49
                      have Z9 := lastOwn H9.out hl hvs hxx
                      obtain ⟨gz, hAz⟩ : ∃ gz, Az = some ⟨gz, 0, none⟩ := by
                        rcases Z9.2 with ⟨e, e2⟩ | ⟨gz, _, _, e, _⟩
                        · omega
                        · cases e; exact ⟨gz, rfl⟩
                      subst hAz
                      have c0 := H9.out.cell0
                      have c2 := (H9.out.lastAt (by rw [HL.out]) hvs HL.out).1
                      have c3 := (H9.out.lastAt (by rw [HL.out]) hvs HL.out).2
                      have q0 : w9.cell? ⟨fb, 0, none⟩ = some (.string a) := by rw [← HD9.out]; exact q0
                      have q1 : w9.cell? ⟨fb, 1, none⟩ = some (.string tb) := by rw [← HD9.out]; exact q1
                      have K0 : ∀ w', w9.grownBy w' none → w'.cell? ⟨rb, 0, none⟩ = some (.slice (some ⟨g, 0, none⟩) (us.length + 1) cap) ∧ w'.cell? ⟨g, us.length, none⟩ = some (.slice (some ⟨gz, 0, none⟩) x.length cz) ∧ w'.frozen? ⟨g, us.length, none⟩ = false ∧ w'.cell? ⟨fb, 0, none⟩ = some (.string a) ∧ w'.cell? ⟨fb, 1, none⟩ = some (.string tb) :=
                        fun w' h => ⟨grown_cell h c0, grown_cell h c2, grown_frozen h c2 c3, grown_cell h q0, grown_cell h q1⟩
                      have gr_a : w9.grownBy (w9.alloc (.cells #[] 49)).drew none := gr_drew (World.grownBy_alloc w9 _ none)
                      have gr_b : w9.grownBy ((w9.alloc (.cells #[] 49)).alloc (.cells #[.string a, .string tb] 49)).drew none := gr_drew (gr_alloc (World.grownBy_alloc w9 _ none) _)
                      have gr_c : w9.grownBy ((w9.alloc (.cells #[.string a, .string tb] 49)).alloc (.cells #[] 49)).drew none := gr_drew (gr_alloc (World.grownBy_alloc w9 _ none) _)
                      have a0 := fun ob => grown_cell (World.grownBy_alloc w9 ob none) c0
                      have a1 := fun ob => grown_cell (World.grownBy_alloc w9 ob none) q0
                      have a2 := fun ob => grown_cell (World.grownBy_alloc w9 ob none) q1
                      have a3 := fun ob ob' => grown_cell ((World.grownBy_alloc w9 ob none).trans (World.grownBy_alloc (w9.alloc ob) ob' none)) c0
                      have a4 := fun ob ob' => grown_cell ((World.grownBy_alloc w9 ob none).trans (World.grownBy_alloc (w9.alloc ob) ob' none)) q0
                      have a5 := fun ob ob' => grown_cell ((World.grownBy_alloc w9 ob none).trans (World.grownBy_alloc (w9.alloc ob) ob' none)) q1
                      have own_a : (w9.alloc (.cells #[] 49)).drew.ownsRow w9.heap.size 49 2 (.slice (some ⟨w9.heap.size, 0, none⟩) 0 0) 0 [] := World.ownsRow_made w9 #[] 0 (Nat.le_refl _) (by decide) rfl
                      have own_b : ((w9.alloc (.cells #[] 49)).alloc (.cells #[.string a, .string tb] 49)).drew.ownsRow w9.heap.size 49 2 (.slice (some ⟨w9.heap.size, 0, none⟩) 0 0) 0 [] := World.ownsRow.alloc (World.ownsRow_made w9 #[] 0 (Nat.le_refl _) (by decide) rfl) _
                      have own_c : ((w9.alloc (.cells #[.string a, .string tb] 49)).alloc (.cells #[] 49)).drew.ownsRow w9.heap.size 49 2 (.slice (some ⟨w9.heap.size + 1, 0, none⟩) 0 0) 0 [] := by
                        have := World.ownsRow_made (base := w9.heap.size) (e := 49) (size := 2) (w9.alloc (.cells #[.string a, .string tb] 49)) #[] 0 (by simp) (by decide) rfl
                        rw [show (w9.alloc (.cells #[.string a, .string tb] 49)).heap.size = w9.heap.size + 1 by simp] at this
                        exact this
                      have nx : ∀ W', w9.grownBy W' none → ∀ (j : Nat) u, (fcells x)[j]? = some u → W'.cell? ((⟨gz, 0, none⟩ : Addr).add j) = some u := fun W' h j u hu => grown_cell h (World.ownsRow.cells Z9 (g := gz) rfl j u hu)
                      have mx : 0 + x.length ≤ maxLen := by simp only [maxLen]; omega
                      have bx : (0 + x.length) * 32 ≤ 140737488355328 := by omega
                      have m6x : x.length + 1 ≤ maxLen := by simp only [maxLen]; omega
                      have b6x : (x.length + 1) * 32 ≤ 140737488355328 := by omega
                      have o6 : ∀ u ∈ ([.string a, .string tb] : List Value), u.oneCell' = true := fcells_one [⟨a, tb⟩]
                      have news_b : ∀ (j : Nat) u, ([.string a, .string tb] : List Value)[j]? = some u → ((w9.alloc (.cells #[] 49)).alloc (.cells #[.string a, .string tb] 49)).drew.cell? ((⟨w9.heap.size + 1, 0, none⟩ : Addr).add j) = some u := by
                        have := news_alloc (w9.alloc (.cells #[] 49)) a tb
                        rw [show (w9.alloc (.cells #[] 49)).heap.size = w9.heap.size + 1 by simp] at this
                        exact this
                      have news_c : ∀ (j : Nat) u, ([.string a, .string tb] : List Value)[j]? = some u → ((w9.alloc (.cells #[.string a, .string tb] 49)).alloc (.cells #[] 49)).drew.cell? ((⟨w9.heap.size, 0, none⟩ : Addr).add j) = some u := fun j u h => pw_cell_below (alloc_below _ _) (news_alloc w9 a tb j u h)
                      have ne_b : ∀ j, some ((⟨w9.heap.size + 1, 0, none⟩ : Addr).add j).block ≠ (Value.slice (some ⟨w9.heap.size, 0, none⟩) 0 0).ownBlock := fun j e => by
                        rw [add_block] at e; simp [Value.ownBlock] at e
                      have ne_c : ∀ j, some ((⟨w9.heap.size, 0, none⟩ : Addr).add j).block ≠ (Value.slice (some ⟨w9.heap.size + 1, 0, none⟩) 0 0).ownBlock := fun j e => by
                        rw [add_block] at e; simp [Value.ownBlock] at e
                      clear hgn hget hkk hf1 hf2 k1 k2 k3 hlt hltz
                      have S0 : w9.cell? ⟨rb, 0, none⟩ = some (.slice (some ⟨g, 0, none⟩) (us.length + 1) cap) ∧ w9.cell? ⟨fb, 0, none⟩ = some (.string a) ∧ w9.cell? ⟨fb, 1, none⟩ = some (.string tb) := ⟨c0, q0, q1⟩
                      have kS : ∀ w', w9.grownBy w' none → w'.cell? ⟨rb, 0, none⟩ = some (.slice (some ⟨g, 0, none⟩) (us.length + 1) cap) ∧ w'.cell? ⟨fb, 0, none⟩ = some (.string a) ∧ w'.cell? ⟨fb, 1, none⟩ = some (.string tb) := fun w' h => ⟨grown_cell h c0, grown_cell h q0, grown_cell h q1⟩
                      have hgrb : rb ≠ g := by
                        have := own_ne H9.out.row H9.out.cell (show 35 ≠ 62 by decide)
                        rintro rfl
                        exact this rfl
                      have hgfb : fb ≠ g := by have := hgf g rfl; omega
                      have kT : ∀ w' u, w9.grownBy w' none → (w'.setCell ⟨g, us.length, none⟩ u).cell? ⟨rb, 0, none⟩ = some (.slice (some ⟨g, 0, none⟩) (us.length + 1) cap) ∧ (w'.setCell ⟨g, us.length, none⟩ u).cell? ⟨fb, 0, none⟩ = some (.string a) ∧ (w'.setCell ⟨g, us.length, none⟩ u).cell? ⟨fb, 1, none⟩ = some (.string tb) := fun w' u h =>
                        ⟨(World.cell?_of_block (heap_set_ne w' _ u _ hgrb)).trans (grown_cell h c0), (World.cell?_of_block (heap_set_ne w' _ u _ hgfb)).trans (grown_cell h q0), (World.cell?_of_block (heap_set_ne w' _ u _ hgfb)).trans (grown_cell h q1)⟩
                      have gr_l : w9.grownBy (w9.alloc (.cells #[.string a, .string tb] 49)).drew none := gr_drew (World.grownBy_alloc w9 _ none)
                      have gr_0 : w9.grownBy w9.drew none := gr_drew (World.grownBy.refl w9 none)
                      clear a0 a1 a2 a3 a4 a5 c2 c3 hgf hfb j1 i1 hF1 h40
                      go_region_held3 (fun w' => w'.cell? ⟨rb, 0, none⟩ = some (.slice (some ⟨g, 0, none⟩) (us.length + 1) cap) ∧ w'.cell? ⟨fb, 0, none⟩ = some (.string a) ∧ w'.cell? ⟨fb, 1, none⟩ = some (.string tb)) (first | exact S0 | exact kS _ gr_0 | exact kS _ gr_a | exact kS _ gr_l | exact kS _ gr_b | exact kS _ gr_c | exact kS _ G8 | exact kT _ _ G8 | exact kS _ gr7 | exact kS _ G7) (first | (refine step_append_lies _ rfl (.tmp 115) (.tmp 116) 35 rfl w9.heap.size 49 i49 _ 2 32 Tryd.underlying35 hi49 hi1 hi2 hi3 rfl (by decide) (.slice (some ⟨w9.heap.size, 0, none⟩) 0 0) 0 [] rfl own_a ⟨gz, 0, none⟩ x.length cz (fcells x) rfl (fcells_len x) (nx _ gr_a) (fcells_one x) hx0 mx bx (gr_a.size) (w9.heap.size + 1) (by simp) ?_; intro g7 cap7 w7 hown7 hg7 hat7 hlt7; simp only [Nat.zero_add, List.nil_append] at hown7 ⊢; have G7 := fresh_grown gr_a hg7 (fun k hk => blk_le (Nat.le_refl _) hk); obtain ⟨k0, k1, k2, k3, k4⟩ := K0 w7 G7; have G7b := G7.size; have n7 := news_alloc w7 a tb; have s7 := Nat.le_trans G7b (alloc_base w7 (.cells #[.string a, .string tb] 49)); have gr7 := gr_alloc G7 (.cells #[.string a, .string tb] 49); have e70 := fun ob => grown_cell (gr_alloc G7 ob) c0; have e71 := fun ob => grown_cell (gr_alloc G7 ob) q0; have e72 := fun ob => grown_cell (gr_alloc G7 ob) q1) | (refine step_append_lies _ rfl (.tmp 115) (.tmp 116) 35 rfl w9.heap.size 49 i49 _ 2 32 Tryd.underlying35 hi49 hi1 hi2 hi3 rfl (by decide) (.slice (some ⟨w9.heap.size, 0, none⟩) 0 0) 0 [] rfl own_b ⟨gz, 0, none⟩ x.length cz (fcells x) rfl (fcells_len x) (nx _ gr_b) (fcells_one x) hx0 mx bx (gr_b.size) (w9.heap.size + 2) (by simp) ?_; intro g7 cap7 w7 hown7 hg7 hat7 hlt7; simp only [Nat.zero_add, List.nil_append] at hown7 ⊢; have G7 := fresh_grown gr_b hg7 (fun k hk => blk_le (Nat.le_refl _) hk); obtain ⟨k0, k1, k2, k3, k4⟩ := K0 w7 G7; have G7b := G7.size; have n7b := fun j u h => hg7.cell (news_b j u h) (ne_b j)) | (refine step_append_lies _ rfl (.tmp 115) (.tmp 116) 35 rfl w9.heap.size 49 i49 _ 2 32 Tryd.underlying35 hi49 hi1 hi2 hi3 rfl (by decide) (.slice (some ⟨w9.heap.size + 1, 0, none⟩) 0 0) 0 [] rfl own_c ⟨gz, 0, none⟩ x.length cz (fcells x) rfl (fcells_len x) (nx _ gr_c) (fcells_one x) hx0 mx bx (gr_c.size) (w9.heap.size + 2) (by simp) ?_; intro g7 cap7 w7 hown7 hg7 hat7 hlt7; simp only [Nat.zero_add, List.nil_append] at hown7 ⊢; have G7 := fresh_grown gr_c hg7 (fun k hk => blk_le (Nat.le_succ _) hk); obtain ⟨k0, k1, k2, k3, k4⟩ := K0 w7 G7; have G7b := G7.size; have n7c := fun j u h => hg7.cell (news_c j u h) (ne_c j)) | (refine step_append_lies _ rfl (.tmp 117) (.tmp 119) 35 rfl w9.heap.size 49 i49 _ 2 32 Tryd.underlying35 hi49 hi1 hi2 hi3 rfl (by decide) (.slice (some ⟨g7, 0, none⟩) x.length cap7) x.length (fcells x) rfl (hown7.alloc _) ⟨w7.heap.size, 0, none⟩ 1 1 [.string a, .string tb] rfl rfl n7 o6 (by decide) m6x b6x s7 (w7.heap.size + 1) (by simp) ?_; intro g8 cap8 w8 hown8 hg8 hat8 hlt8; have G8 := fresh_grown gr7 hg8 (fun k hk => own_base hown7 k hk); obtain ⟨r0, r1, r2, r3, r4⟩ := K0 w8 G8) | (refine step_append_lies _ rfl (.tmp 117) (.tmp 119) 35 rfl w9.heap.size 49 i49 _ 2 32 Tryd.underlying35 hi49 hi1 hi2 hi3 rfl (by decide) (.slice (some ⟨g7, 0, none⟩) x.length cap7) x.length (fcells x) rfl hown7 ⟨w9.heap.size + 1, 0, none⟩ 1 1 [.string a, .string tb] rfl rfl n7b o6 (by decide) m6x b6x G7b (w7.heap.size) rfl ?_; intro g8 cap8 w8 hown8 hg8 hat8 hlt8; have G8 := fresh_grown G7 hg8 (fun k hk => own_base hown7 k hk); obtain ⟨r0, r1, r2, r3, r4⟩ := K0 w8 G8) | (refine step_append_lies _ rfl (.tmp 117) (.tmp 119) 35 rfl w9.heap.size 49 i49 _ 2 32 Tryd.underlying35 hi49 hi1 hi2 hi3 rfl (by decide) (.slice (some ⟨g7, 0, none⟩) x.length cap7) x.length (fcells x) rfl hown7 ⟨w9.heap.size, 0, none⟩ 1 1 [.string a, .string tb] rfl rfl n7c o6 (by decide) m6x b6x G7b (w7.heap.size) rfl ?_; intro g8 cap8 w8 hown8 hg8 hat8 hlt8; have G8 := fresh_grown G7 hg8 (fun k hk => own_base hown7 k hk); obtain ⟨r0, r1, r2, r3, r4⟩ := K0 w8 G8))
                      all_goals
                        have h8 := H9.out.fresh (x1 := x ++ [⟨a, tb⟩]) hl (by decide) (by decide) (by decide) (by rw [HL.out]) hvs HL.out G8 (by rw [List.length_append, List.length_singleton, fcells_app]; exact hown8) (by simp)
                        go_wp2
                        go_ret
                        exact ⟨rfl, _, _, h8⟩
              | false =>
                have hltz : ¬ (ff : Int) < (s.size : Int) := of_decide_eq_false hbb
                clear hx hci
                have a0 : ((wr.drewN (n + 1)).alloc (.cells #[.string ⟨#[]⟩, .string ⟨#[]⟩] 49)).cell? ⟨wr.heap.size, 0, none⟩ = some (.string ⟨#[]⟩) := by simp [World.cell?, World.alloc, World.drewN]
                have a1 : ((wr.drewN (n + 1)).alloc (.cells #[.string ⟨#[]⟩, .string ⟨#[]⟩] 49)).cell? ⟨wr.heap.size, 1, none⟩ = some (.string ⟨#[]⟩) := by simp [World.cell?, World.alloc, World.drewN]
                have a2 : ((wr.drewN (n + 1)).alloc (.cells #[.string ⟨#[]⟩, .string ⟨#[]⟩] 49)).frozen? ⟨wr.heap.size, 0, none⟩ = false := by simp [World.frozen?, World.alloc, World.drewN]
                have a3 : ((wr.drewN (n + 1)).alloc (.cells #[.string ⟨#[]⟩, .string ⟨#[]⟩] 49)).frozen? ⟨wr.heap.size, 1, none⟩ = false := by simp [World.frozen?, World.alloc, World.drewN]
                go_wp2
                go_region
                have b2 : Below wr.heap.size wr ((((wr.drewN (n + 1)).alloc (.cells #[.string ⟨#[]⟩, .string ⟨#[]⟩] 49)).setCell ⟨wr.heap.size, 0, none⟩ (.string a)).setCell ⟨wr.heap.size, 1, none⟩ (.string tb)) := (((pw_below_drewN (Below.refl wr.heap.size wr) (n + 1)).alloc (Nat.le_refl _) _).setCell (Nat.le_refl _) _).setCell (Nat.le_refl _) _
                have q0 : ((((wr.drewN (n + 1)).alloc (.cells #[.string ⟨#[]⟩, .string ⟨#[]⟩] 49)).setCell ⟨wr.heap.size, 0, none⟩ (.string a)).setCell ⟨wr.heap.size, 1, none⟩ (.string tb)).cell? ⟨wr.heap.size, 0, none⟩ = some (.string a) := by simp [go_sem, a0]
                have q1 : ((((wr.drewN (n + 1)).alloc (.cells #[.string ⟨#[]⟩, .string ⟨#[]⟩] 49)).setCell ⟨wr.heap.size, 0, none⟩ (.string a)).setCell ⟨wr.heap.size, 1, none⟩ (.string tb)).cell? ⟨wr.heap.size, 1, none⟩ = some (.string tb) := by simp [go_sem, a1]
                have H2 := H0.out.move b2
                clear a0 a1 a2 a3 b2
                generalize ((((wr.drewN (n + 1)).alloc (.cells #[.string ⟨#[]⟩, .string ⟨#[]⟩] 49)).setCell ⟨wr.heap.size, 0, none⟩ (.string a)).setCell ⟨wr.heap.size, 1, none⟩ (.string tb)) = w2 at q0 q1 H2 ⊢
                have hgf : ∀ k, v.ownBlock = some k → k < wr.heap.size := own_lt H0.out.row
                have hfb : wr.heap.size < w2.heap.size := World.block_lt_of_cell? w2 _ q0
                generalize wr.heap.size = fb at q0 q1 hgf hfb ⊢
                have c0 := H2.cell0
                have c1 := H2.cell1
                have hr := HR3.out
                clear HR3 H0 HD
                cases o with
                | false =>
                  rw [if_neg (by decide)] at hr
                  obtain ⟨A1, cap1, hv1⟩ := H2.anySlice
                  subst hv1
                  by_cases h200 : l.length < 200
                  case neg =>
                    rw [if_neg h200] at hr
                    subst hr
                    have j1 : decide ((200 : Int) ≤ (l.length : Int)) = true := decide_eq_true (by omega)
                    go_wp2
                    go_ret
                    exact ⟨rfl, H2.bel⟩
                  case pos =>
                    rw [if_pos h200] at hr
                    subst hr
                    have j1 : decide ((200 : Int) ≤ (l.length : Int)) = false := decide_eq_false (by omega)
                    have HH := Lib.hid H2
                    have hb9 : Below w2.heap.size w2 ((w2.alloc (.cells #[.string a, .string tb] 49)).alloc (.cells #[.slice (some ⟨w2.heap.size, 0, none⟩) 1 1] 35)) := (alloc_below w2 _).alloc (by simp) _
                    have HB9 := Lib.hid hb9
                    have HW9 := Lib.hid (H2.move hb9)
                    have HZ9 := Lib.hid ((lit_own w2 w0.heap.size H2.base ⟨a, tb⟩).alloc (.cells #[.slice (some ⟨w2.heap.size, 0, none⟩) 1 1] 35))
                    have c0a : ∀ ob, (w2.alloc ob).cell? ⟨rb, 0, none⟩ = some (.slice A1 l.length cap1) := fun ob => pw_cell_below (alloc_below w2 ob) c0
                    have c0b : ∀ ob ob', ((w2.alloc ob).alloc ob').cell? ⟨rb, 0, none⟩ = some (.slice A1 l.length cap1) := fun ob ob' => pw_cell_below (alloc_below _ ob') (c0a ob)
                    have q0a : ∀ ob, (w2.alloc ob).cell? ⟨fb, 0, none⟩ = some (.string a) := fun ob => pw_cell_below (alloc_below w2 ob) q0
                    have q1a : ∀ ob, (w2.alloc ob).cell? ⟨fb, 1, none⟩ = some (.string tb) := fun ob => pw_cell_below (alloc_below w2 ob) q1
                    clear H2 hb9
                    obtain ⟨i35, hi35, hz35⟩ := Option.map_eq_some_iff.1 info35
                    simp only [Prod.mk.injEq] at hz35
                    obtain ⟨hi1, hi2, hi3⟩ := hz35
                    have e9 : (w2.alloc (.cells #[.string a, .string tb] 49)).heap.size = w2.heap.size + 1 := by simp
                    have n5 : ∀ (j : Nat) u, ([.slice (some ⟨w2.heap.size, 0, none⟩) 1 1] : List Value)[j]? = some u → ((w2.alloc (.cells #[.string a, .string tb] 49)).alloc (.cells #[.slice (some ⟨w2.heap.size, 0, none⟩) 1 1] 35)).drew.cell? ((⟨w2.heap.size + 1, 0, none⟩ : Addr).add j) = some u := by
                      have := World.news_of_block (cs := #[.slice (some ⟨w2.heap.size, 0, none⟩) 1 1]) (t := 35) (fr := (0, 0)) (heap_alloc_new (w2.alloc (.cells #[.string a, .string tb] 49)) (.cells #[.slice (some ⟨w2.heap.size, 0, none⟩) 1 1] 35))
                      rw [e9] at this
                      simpa using this
                    have o5 : ∀ u ∈ ([.slice (some ⟨w2.heap.size, 0, none⟩) 1 1] : List Value), u.oneCell' = true := by
                      intro u hu
                      rw [List.mem_singleton] at hu
                      subst hu; rfl
                    have s5 : w0.heap.size ≤ ((w2.alloc (.cells #[.string a, .string tb] 49)).alloc (.cells #[.slice (some ⟨w2.heap.size, 0, none⟩) 1 1] 35)).drew.heap.size := HW9.out.base
                    have z5 : ((w2.alloc (.cells #[.string a, .string tb] 49)).alloc (.cells #[.slice (some ⟨w2.heap.size, 0, none⟩) 1 1] 35)).drew.heap.size = w2.heap.size + 2 := by simp
                    have m5 : l.length + 1 ≤ maxLen := by simp only [maxLen]; omega
                    have b5 : (l.length + 1) * 24 ≤ 140737488355328 := by omega
                    have hOW := HW9.out.row
                    have k7 := fun w7 (hg : ((w2.alloc (.cells #[.string a, .string tb] 49)).alloc (.cells #[.slice (some ⟨w2.heap.size, 0, none⟩) 1 1] 35)).drew.grownBy w7 (Value.slice A1 l.length cap1).ownBlock) => HW9.out.keptAt (by decide) (grown_drew hg)
                    clear e9
                    go_wp2
                    go_region_law (refine step_append_lies _ rfl (.tmp 72) (.tmp 75) 27 rfl w0.heap.size 35 i35 _ 1 24 Tryd.underlying27 hi35 hi1 hi2 hi3 rfl (by decide) (.slice A1 l.length cap1) l.length vs rfl hOW ⟨w2.heap.size + 1, 0, none⟩ 1 1 [.slice (some ⟨w2.heap.size, 0, none⟩) 1 1] rfl rfl n5 o5 (by decide) m5 b5 s5 (w2.heap.size + 2) z5 ?_; intro g7 cap7 w7 hown7 hg7 hat7 hlt7; obtain ⟨e70, e71, e72, e73⟩ := k7 w7 hg7)
                    all_goals
                      have h8 := HH.out.pushed1 (by decide) (by decide) (by decide) HB9.out HZ9.out (fun k hk => by cases hk; exact Nat.le_refl _) hown7 hg7
                      go_wp2
                      go_ret
                      exact ⟨rfl, _, _, h8⟩
                | true =>
                  rw [if_pos rfl] at hr
                  have hl := hF.2.2 rfl
                  have hF1 := hF.1
                  have h40 := (hF.2.1 _ (lastS_mem hl)).2
                  obtain ⟨g, cap, hv, _, _⟩ := H2.slice hl
                  obtain ⟨us, z, hvs, _, hz, hlen⟩ := H2.last hl
                  obtain ⟨Az, cz, hzv, hcz, hzC⟩ := fcells_C hz
                  have c2 := (H2.lastAt hv hvs hlen).1
                  obtain ⟨kg, hkg⟩ := Ev.rounds (refget_ev (lastS l) a (by omega))
                  have hget := fun m => keelsonref5_Get.calls kg Az cz (lastS l) a _ _ (w2.drewN m) (Kd.C_below hzC (pw_below_drewN (Below.refl _ _) m)) hcz hkg
                  rw [← hlen] at hv
                  have i1 : IntKind.i64.wrap ((us.length : Int) + 1 - 1) = (us.length : Int) := by
                    rw [i64_w]; unfold wrap64; omega
                  have i1b : IntKind.i64.wrap (us.length : Int) = (us.length : Int) := by
                    rw [i64_w]; unfold wrap64; omega
                  have i2 : (0 ≤ (us.length : Int)) = True := eq_true (by omega)
                  have i3 : ((us.length : Int) < (us.length : Int) + 1) = True := eq_true (by omega)
                  obtain ⟨x, hxx⟩ : ∃ x, lastS l = x := ⟨_, rfl⟩
                  rw [hxx] at hr hget hzv h40 hz
                  subst hv hzv
                  have HL := Lib.hid hlen
                  have HH := Lib.hid H2
                  have HZ := Lib.hid hz
                  clear hzC hlen hkg H2 hz
                  cases hgn : getG x a with
                  | some y =>
                    rw [hgn] at hr hget
                    dsimp only [Option.isSome, Option.getD] at hr hget
                    rw [if_pos rfl] at hr
                    subst hr
                    go_wp2
                    go_quiet (fail)
                    go_wp2_with (go_at_call 18; with_reducible refine (hget _).mono ?_; rintro e w6 ⟨rfl, ⟨m6, rfl⟩⟩)
                    go_ret
                    exact ⟨rfl, pw_below_drewN HH.out.bel _⟩
                  | none =>
                    rw [hgn] at hr hget
                    dsimp only [Option.isSome, Option.getD] at hr hget
                    rw [if_neg (by decide)] at hr
                    by_cases hx40 : x.length < 40
                    case neg =>
                      rw [if_neg hx40] at hr
                      subst hr
                      have j1 : decide ((40 : Int) ≤ (x.length : Int)) = true := decide_eq_true (by omega)
                      go_wp2
                      go_quiet (fail)
                      go_wp2_with (go_at_call 18; with_reducible refine (hget _).mono ?_; rintro e w6 ⟨rfl, ⟨m6, rfl⟩⟩)
                      go_ret
                      exact ⟨rfl, pw_below_drewN HH.out.bel _⟩
                    case pos =>
                      rw [if_pos hx40] at hr
                      subst hr
                      have j1 : decide ((40 : Int) ≤ (x.length : Int)) = false := decide_eq_false (by omega)
                      go_wp2
                      go_quiet (fail)
                      go_wp2_with (go_at_call 18; with_reducible refine (hget _).mono ?_; rintro e w6 ⟨rfl, ⟨m6, rfl⟩⟩)
                      obtain ⟨w9, hw9⟩ : ∃ w9, w2.drewN (nq + m6) = w9 := ⟨_, rfl⟩
                      rw [hw9]
                      have HD9 := Lib.hid hw9
                      have H9 := Lib.hid (hw9 ▸ HH.out.move (pw_below_drewN (Below.refl _ w2) (nq + m6)))
                      have hx0 : 0 < x.length := by
                        have := (hF.2.1 _ (lastS_mem hl)).1
                        rw [hxx] at this
                        exact List.length_pos_iff.2 this
                      obtain ⟨i49, hi49, hz49⟩ := Option.map_eq_some_iff.1 info49
                      simp only [Prod.mk.injEq] at hz49
                      obtain ⟨hi1, hi2, hi3⟩ := hz49
                      have Z9 := lastOwn H9.out hl hvs hxx
                      obtain ⟨gz, hAz⟩ : ∃ gz, Az = some ⟨gz, 0, none⟩ := by
                        rcases Z9.2 with ⟨e, e2⟩ | ⟨gz, _, _, e, _⟩
                        · omega
                        · cases e; exact ⟨gz, rfl⟩
                      subst hAz
                      have c0 := H9.out.cell0
                      have c2 := (H9.out.lastAt (by rw [HL.out]) hvs HL.out).1
                      have c3 := (H9.out.lastAt (by rw [HL.out]) hvs HL.out).2
                      have q0 : w9.cell? ⟨fb, 0, none⟩ = some (.string a) := by rw [← HD9.out]; exact q0
                      have q1 : w9.cell? ⟨fb, 1, none⟩ = some (.string tb) := by rw [← HD9.out]; exact q1
                      have K0 : ∀ w', w9.grownBy w' none → w'.cell? ⟨rb, 0, none⟩ = some (.slice (some ⟨g, 0, none⟩) (us.length + 1) cap) ∧ w'.cell? ⟨g, us.length, none⟩ = some (.slice (some ⟨gz, 0, none⟩) x.length cz) ∧ w'.frozen? ⟨g, us.length, none⟩ = false ∧ w'.cell? ⟨fb, 0, none⟩ = some (.string a) ∧ w'.cell? ⟨fb, 1, none⟩ = some (.string tb) :=
                        fun w' h => ⟨grown_cell h c0, grown_cell h c2, grown_frozen h c2 c3, grown_cell h q0, grown_cell h q1⟩
                      have gr_a : w9.grownBy (w9.alloc (.cells #[] 49)).drew none := gr_drew (World.grownBy_alloc w9 _ none)
                      have gr_b : w9.grownBy ((w9.alloc (.cells #[] 49)).alloc (.cells #[.string a, .string tb] 49)).drew none := gr_drew (gr_alloc (World.grownBy_alloc w9 _ none) _)
                      have gr_c : w9.grownBy ((w9.alloc (.cells #[.string a, .string tb] 49)).alloc (.cells #[] 49)).drew none := gr_drew (gr_alloc (World.grownBy_alloc w9 _ none) _)
                      have a0 := fun ob => grown_cell (World.grownBy_alloc w9 ob none) c0
                      have a1 := fun ob => grown_cell (World.grownBy_alloc w9 ob none) q0
                      have a2 := fun ob => grown_cell (World.grownBy_alloc w9 ob none) q1
                      have a3 := fun ob ob' => grown_cell ((World.grownBy_alloc w9 ob none).trans (World.grownBy_alloc (w9.alloc ob) ob' none)) c0
                      have a4 := fun ob ob' => grown_cell ((World.grownBy_alloc w9 ob none).trans (World.grownBy_alloc (w9.alloc ob) ob' none)) q0
                      have a5 := fun ob ob' => grown_cell ((World.grownBy_alloc w9 ob none).trans (World.grownBy_alloc (w9.alloc ob) ob' none)) q1
                      have own_a : (w9.alloc (.cells #[] 49)).drew.ownsRow w9.heap.size 49 2 (.slice (some ⟨w9.heap.size, 0, none⟩) 0 0) 0 [] := World.ownsRow_made w9 #[] 0 (Nat.le_refl _) (by decide) rfl
                      have own_b : ((w9.alloc (.cells #[] 49)).alloc (.cells #[.string a, .string tb] 49)).drew.ownsRow w9.heap.size 49 2 (.slice (some ⟨w9.heap.size, 0, none⟩) 0 0) 0 [] := World.ownsRow.alloc (World.ownsRow_made w9 #[] 0 (Nat.le_refl _) (by decide) rfl) _
                      have own_c : ((w9.alloc (.cells #[.string a, .string tb] 49)).alloc (.cells #[] 49)).drew.ownsRow w9.heap.size 49 2 (.slice (some ⟨w9.heap.size + 1, 0, none⟩) 0 0) 0 [] := by
                        have := World.ownsRow_made (base := w9.heap.size) (e := 49) (size := 2) (w9.alloc (.cells #[.string a, .string tb] 49)) #[] 0 (by simp) (by decide) rfl
                        rw [show (w9.alloc (.cells #[.string a, .string tb] 49)).heap.size = w9.heap.size + 1 by simp] at this
                        exact this
                      have nx : ∀ W', w9.grownBy W' none → ∀ (j : Nat) u, (fcells x)[j]? = some u → W'.cell? ((⟨gz, 0, none⟩ : Addr).add j) = some u := fun W' h j u hu => grown_cell h (World.ownsRow.cells Z9 (g := gz) rfl j u hu)
                      have mx : 0 + x.length ≤ maxLen := by simp only [maxLen]; omega
                      have bx : (0 + x.length) * 32 ≤ 140737488355328 := by omega
                      have m6x : x.length + 1 ≤ maxLen := by simp only [maxLen]; omega
                      have b6x : (x.length + 1) * 32 ≤ 140737488355328 := by omega
                      have o6 : ∀ u ∈ ([.string a, .string tb] : List Value), u.oneCell' = true := fcells_one [⟨a, tb⟩]
                      have news_b : ∀ (j : Nat) u, ([.string a, .string tb] : List Value)[j]? = some u → ((w9.alloc (.cells #[] 49)).alloc (.cells #[.string a, .string tb] 49)).drew.cell? ((⟨w9.heap.size + 1, 0, none⟩ : Addr).add j) = some u := by
                        have := news_alloc (w9.alloc (.cells #[] 49)) a tb
                        rw [show (w9.alloc (.cells #[] 49)).heap.size = w9.heap.size + 1 by simp] at this
                        exact this
                      have news_c : ∀ (j : Nat) u, ([.string a, .string tb] : List Value)[j]? = some u → ((w9.alloc (.cells #[.string a, .string tb] 49)).alloc (.cells #[] 49)).drew.cell? ((⟨w9.heap.size, 0, none⟩ : Addr).add j) = some u := fun j u h => pw_cell_below (alloc_below _ _) (news_alloc w9 a tb j u h)
                      have ne_b : ∀ j, some ((⟨w9.heap.size + 1, 0, none⟩ : Addr).add j).block ≠ (Value.slice (some ⟨w9.heap.size, 0, none⟩) 0 0).ownBlock := fun j e => by
                        rw [add_block] at e; simp [Value.ownBlock] at e
                      have ne_c : ∀ j, some ((⟨w9.heap.size, 0, none⟩ : Addr).add j).block ≠ (Value.slice (some ⟨w9.heap.size + 1, 0, none⟩) 0 0).ownBlock := fun j e => by
                        rw [add_block] at e; simp [Value.ownBlock] at e
                      clear hgn hget hkk hf1 hf2 k1 k2 k3 hlt hltz
                      have S0 : w9.cell? ⟨rb, 0, none⟩ = some (.slice (some ⟨g, 0, none⟩) (us.length + 1) cap) ∧ w9.cell? ⟨fb, 0, none⟩ = some (.string a) ∧ w9.cell? ⟨fb, 1, none⟩ = some (.string tb) := ⟨c0, q0, q1⟩
                      have kS : ∀ w', w9.grownBy w' none → w'.cell? ⟨rb, 0, none⟩ = some (.slice (some ⟨g, 0, none⟩) (us.length + 1) cap) ∧ w'.cell? ⟨fb, 0, none⟩ = some (.string a) ∧ w'.cell? ⟨fb, 1, none⟩ = some (.string tb) := fun w' h => ⟨grown_cell h c0, grown_cell h q0, grown_cell h q1⟩
                      have hgrb : rb ≠ g := by
                        have := own_ne H9.out.row H9.out.cell (show 35 ≠ 62 by decide)
                        rintro rfl
                        exact this rfl
                      have hgfb : fb ≠ g := by have := hgf g rfl; omega
                      have kT : ∀ w' u, w9.grownBy w' none → (w'.setCell ⟨g, us.length, none⟩ u).cell? ⟨rb, 0, none⟩ = some (.slice (some ⟨g, 0, none⟩) (us.length + 1) cap) ∧ (w'.setCell ⟨g, us.length, none⟩ u).cell? ⟨fb, 0, none⟩ = some (.string a) ∧ (w'.setCell ⟨g, us.length, none⟩ u).cell? ⟨fb, 1, none⟩ = some (.string tb) := fun w' u h =>
                        ⟨(World.cell?_of_block (heap_set_ne w' _ u _ hgrb)).trans (grown_cell h c0), (World.cell?_of_block (heap_set_ne w' _ u _ hgfb)).trans (grown_cell h q0), (World.cell?_of_block (heap_set_ne w' _ u _ hgfb)).trans (grown_cell h q1)⟩
                      have gr_l : w9.grownBy (w9.alloc (.cells #[.string a, .string tb] 49)).drew none := gr_drew (World.grownBy_alloc w9 _ none)
                      have gr_0 : w9.grownBy w9.drew none := gr_drew (World.grownBy.refl w9 none)
                      clear a0 a1 a2 a3 a4 a5 c2 c3 hgf hfb j1 i1 hF1 h40
                      go_region_held3 (fun w' => w'.cell? ⟨rb, 0, none⟩ = some (.slice (some ⟨g, 0, none⟩) (us.length + 1) cap) ∧ w'.cell? ⟨fb, 0, none⟩ = some (.string a) ∧ w'.cell? ⟨fb, 1, none⟩ = some (.string tb)) (first | exact S0 | exact kS _ gr_0 | exact kS _ gr_a | exact kS _ gr_l | exact kS _ gr_b | exact kS _ gr_c | exact kS _ G8 | exact kT _ _ G8 | exact kS _ gr7 | exact kS _ G7) (first | (refine step_append_lies _ rfl (.tmp 115) (.tmp 116) 35 rfl w9.heap.size 49 i49 _ 2 32 Tryd.underlying35 hi49 hi1 hi2 hi3 rfl (by decide) (.slice (some ⟨w9.heap.size, 0, none⟩) 0 0) 0 [] rfl own_a ⟨gz, 0, none⟩ x.length cz (fcells x) rfl (fcells_len x) (nx _ gr_a) (fcells_one x) hx0 mx bx (gr_a.size) (w9.heap.size + 1) (by simp) ?_; intro g7 cap7 w7 hown7 hg7 hat7 hlt7; simp only [Nat.zero_add, List.nil_append] at hown7 ⊢; have G7 := fresh_grown gr_a hg7 (fun k hk => blk_le (Nat.le_refl _) hk); obtain ⟨k0, k1, k2, k3, k4⟩ := K0 w7 G7; have G7b := G7.size; have n7 := news_alloc w7 a tb; have s7 := Nat.le_trans G7b (alloc_base w7 (.cells #[.string a, .string tb] 49)); have gr7 := gr_alloc G7 (.cells #[.string a, .string tb] 49); have e70 := fun ob => grown_cell (gr_alloc G7 ob) c0; have e71 := fun ob => grown_cell (gr_alloc G7 ob) q0; have e72 := fun ob => grown_cell (gr_alloc G7 ob) q1) | (refine step_append_lies _ rfl (.tmp 115) (.tmp 116) 35 rfl w9.heap.size 49 i49 _ 2 32 Tryd.underlying35 hi49 hi1 hi2 hi3 rfl (by decide) (.slice (some ⟨w9.heap.size, 0, none⟩) 0 0) 0 [] rfl own_b ⟨gz, 0, none⟩ x.length cz (fcells x) rfl (fcells_len x) (nx _ gr_b) (fcells_one x) hx0 mx bx (gr_b.size) (w9.heap.size + 2) (by simp) ?_; intro g7 cap7 w7 hown7 hg7 hat7 hlt7; simp only [Nat.zero_add, List.nil_append] at hown7 ⊢; have G7 := fresh_grown gr_b hg7 (fun k hk => blk_le (Nat.le_refl _) hk); obtain ⟨k0, k1, k2, k3, k4⟩ := K0 w7 G7; have G7b := G7.size; have n7b := fun j u h => hg7.cell (news_b j u h) (ne_b j)) | (refine step_append_lies _ rfl (.tmp 115) (.tmp 116) 35 rfl w9.heap.size 49 i49 _ 2 32 Tryd.underlying35 hi49 hi1 hi2 hi3 rfl (by decide) (.slice (some ⟨w9.heap.size + 1, 0, none⟩) 0 0) 0 [] rfl own_c ⟨gz, 0, none⟩ x.length cz (fcells x) rfl (fcells_len x) (nx _ gr_c) (fcells_one x) hx0 mx bx (gr_c.size) (w9.heap.size + 2) (by simp) ?_; intro g7 cap7 w7 hown7 hg7 hat7 hlt7; simp only [Nat.zero_add, List.nil_append] at hown7 ⊢; have G7 := fresh_grown gr_c hg7 (fun k hk => blk_le (Nat.le_succ _) hk); obtain ⟨k0, k1, k2, k3, k4⟩ := K0 w7 G7; have G7b := G7.size; have n7c := fun j u h => hg7.cell (news_c j u h) (ne_c j)) | (refine step_append_lies _ rfl (.tmp 117) (.tmp 119) 35 rfl w9.heap.size 49 i49 _ 2 32 Tryd.underlying35 hi49 hi1 hi2 hi3 rfl (by decide) (.slice (some ⟨g7, 0, none⟩) x.length cap7) x.length (fcells x) rfl (hown7.alloc _) ⟨w7.heap.size, 0, none⟩ 1 1 [.string a, .string tb] rfl rfl n7 o6 (by decide) m6x b6x s7 (w7.heap.size + 1) (by simp) ?_; intro g8 cap8 w8 hown8 hg8 hat8 hlt8; have G8 := fresh_grown gr7 hg8 (fun k hk => own_base hown7 k hk); obtain ⟨r0, r1, r2, r3, r4⟩ := K0 w8 G8) | (refine step_append_lies _ rfl (.tmp 117) (.tmp 119) 35 rfl w9.heap.size 49 i49 _ 2 32 Tryd.underlying35 hi49 hi1 hi2 hi3 rfl (by decide) (.slice (some ⟨g7, 0, none⟩) x.length cap7) x.length (fcells x) rfl hown7 ⟨w9.heap.size + 1, 0, none⟩ 1 1 [.string a, .string tb] rfl rfl n7b o6 (by decide) m6x b6x G7b (w7.heap.size) rfl ?_; intro g8 cap8 w8 hown8 hg8 hat8 hlt8; have G8 := fresh_grown G7 hg8 (fun k hk => own_base hown7 k hk); obtain ⟨r0, r1, r2, r3, r4⟩ := K0 w8 G8) | (refine step_append_lies _ rfl (.tmp 117) (.tmp 119) 35 rfl w9.heap.size 49 i49 _ 2 32 Tryd.underlying35 hi49 hi1 hi2 hi3 rfl (by decide) (.slice (some ⟨g7, 0, none⟩) x.length cap7) x.length (fcells x) rfl hown7 ⟨w9.heap.size, 0, none⟩ 1 1 [.string a, .string tb] rfl rfl n7c o6 (by decide) m6x b6x G7b (w7.heap.size) rfl ?_; intro g8 cap8 w8 hown8 hg8 hat8 hlt8; have G8 := fresh_grown G7 hg8 (fun k hk => own_base hown7 k hk); obtain ⟨r0, r1, r2, r3, r4⟩ := K0 w8 G8))
                      all_goals
                        have h8 := H9.out.fresh (x1 := x ++ [⟨a, tb⟩]) hl (by decide) (by decide) (by decide) (by rw [HL.out]) hvs HL.out G8 (by rw [List.length_append, List.length_singleton, fcells_app]; exact hown8) (by simp)
                        go_wp2
                        go_ret
                        exact ⟨rfl, _, _, h8⟩
      · have hc := Lib.hid (colon_step hkS h58 RC.out)
        have hi : ¬ ((S[kk]).toNat : Int) = 58 := by omega
        have hi2 : (((S[kk]).toNat : Int) != 58) = true := bne_iff_ne.2 hi
        generalize ((S[kk]).toNat : Int) = ci at hx hi hi2
        clear RC
        go_wp2
        go_roundg (s.size - (kk + 1))
        case measure => omega
        case rel => exact ⟨kk + 1, by omega, by omega, by go_num, rfl, hc.out⟩
    · have hltz : ¬ (kk : Int) < (s.size : Int) := by omega
      have hke : kk = s.size := by omega
      subst hke
      have hc := colon_miss (by omega) RC.out
      have hr := HR.out
      rw [hc] at hr
      dsimp only at hr
      rw [Bool.false_and, if_neg (by decide)] at hr
      subst hr
      have hex : (s.extract 0 s.size) = s := by rw [extract_mk, List.drop_zero, Nat.sub_zero, List.take_of_length_le (by rw [data_length]; exact Nat.le_refl _)]; exact mk_toList s
      have hnm := fun w => name_calls s w hs
      clear HR
      go_wp2_with (go_at_call 24; with_reducible refine (hnm _).mono ?_; rintro e w1 ⟨rfl, n, rfl⟩)
      go_ret
      exact ⟨rfl, HD.out _⟩
end Go.Proofs.YtekplcjgmnahmaaDoor.PA
