/- The document's reader: Take, Left, Ok, Open; condition: the state is as told. -/
import Derived.Test.YthgghbmckpflcaaOctD
namespace Go.Proofs.Ythgghbmckpflcaa.Oct.Ref
open Go.RowKit Go.Proofs.YthgghbmckpflcaaW.PrintWords Go.Proofs.YthgghbmckpflcaaW.PrintLast Go.Proofs.YthgghbmckpflcaaW.PrintMore

set_option maxHeartbeats 1000000 in
theorem take_bad (B N : Nat) (W : World) (g : Nat) (l : List Int) (n : Int) (h : Rd 58 B N W g l true) :
    Calls Try.prog 33 #[.pointer (some ⟨g, 0, none⟩), .int .i64 n] W fun e w' => ∃ v, e = .returned v ∧ Kd.R (Kd.int .u8) 5 w' W.heap.size (fun _ => True) v [] ∧ Rd 58 B N w' g [] true ∧ W.grownBy w' (some g) := by
  have H := Aside0.mk h
  obtain ⟨A, c, hb, h1, h2, h3, h4, h5, h6⟩ := h
  have hc0 : W.cell? ⟨g, 0, none⟩ = some (.slice A l.length c) := (blk_cell hb 0).trans rfl
  have hc1 : W.cell? ⟨g, 1, none⟩ = some (.bool true) := (blk_cell hb 1).trans rfl
  have hf0 := blk_frozen hb 0
  have hf1 := blk_frozen hb 1
  have hln := Kd.C_max h5
  clear hb h4 h5 h6
  go_enter Try.func33, Try.ntmps33
  go_wp2
  go_ret
  exact ⟨_, rfl, Kd.R_nil _ _ _ _ _, H.out.failed'⟩
set_option maxHeartbeats 1000000 in
theorem take_neg (B N : Nat) (W : World) (g : Nat) (l : List Int) (n : Int) (h : Rd 58 B N W g l false) (hn : n < 0) :
    Calls Try.prog 33 #[.pointer (some ⟨g, 0, none⟩), .int .i64 n] W fun e w' => ∃ v, e = .returned v ∧ Kd.R (Kd.int .u8) 5 w' W.heap.size (fun _ => True) v [] ∧ Rd 58 B N w' g [] true ∧ W.grownBy w' (some g) := by
  have H := Aside0.mk h
  obtain ⟨A, c, hb, h1, h2, h3, h4, h5, h6⟩ := h
  have hc0 : W.cell? ⟨g, 0, none⟩ = some (.slice A l.length c) := (blk_cell hb 0).trans rfl
  have hc1 : W.cell? ⟨g, 1, none⟩ = some (.bool false) := (blk_cell hb 1).trans rfl
  have hf0 := blk_frozen hb 0
  have hf1 := blk_frozen hb 1
  have hln := Kd.C_max h5
  clear hb h4 h5 h6
  go_enter Try.func33, Try.ntmps33
  go_wp2
  go_ret
  exact ⟨_, rfl, Kd.R_nil _ _ _ _ _, H.out.failed'⟩
set_option maxHeartbeats 1000000 in
theorem take_much (B N : Nat) (W : World) (g : Nat) (l : List Int) (n : Int) (h : Rd 58 B N W g l false) (hn0 : 0 ≤ n) (hn : (l.length : Int) < n) :
    Calls Try.prog 33 #[.pointer (some ⟨g, 0, none⟩), .int .i64 n] W fun e w' => ∃ v, e = .returned v ∧ Kd.R (Kd.int .u8) 5 w' W.heap.size (fun _ => True) v [] ∧ Rd 58 B N w' g [] true ∧ W.grownBy w' (some g) := by
  have H := Aside0.mk h
  obtain ⟨A, c, hb, h1, h2, h3, h4, h5, h6⟩ := h
  have hc0 : W.cell? ⟨g, 0, none⟩ = some (.slice A l.length c) := (blk_cell hb 0).trans rfl
  have hc1 : W.cell? ⟨g, 1, none⟩ = some (.bool false) := (blk_cell hb 1).trans rfl
  have hf0 := blk_frozen hb 0
  have hf1 := blk_frozen hb 1
  have hln := Kd.C_max h5
  clear hb h4 h5 h6
  go_enter Try.func33, Try.ntmps33
  go_wp2
  go_ret
  exact ⟨_, rfl, Kd.R_nil _ _ _ _ _, H.out.failed'⟩
theorem take_no (B N : Nat) (W : World) (g : Nat) (l : List Int) (bad : Bool) (n : Int) (h : Rd 58 B N W g l bad) (hc : bad = true ∨ n < 0 ∨ (l.length : Int) < n) :
    Calls Try.prog 33 #[.pointer (some ⟨g, 0, none⟩), .int .i64 n] W fun e w' => ∃ v, e = .returned v ∧ Kd.R (Kd.int .u8) 5 w' W.heap.size (fun _ => True) v [] ∧ Rd 58 B N w' g [] true ∧ W.grownBy w' (some g) := by
  cases bad with
  | true => exact take_bad B N W g l n h
  | false =>
    by_cases h1 : n < 0
    · exact take_neg B N W g l n h h1
    · exact take_much B N W g l n h (by omega) (by rcases hc with hc | hc | hc; · cases hc
                                                   · exact absurd hc h1
                                                   · exact hc)
set_option maxHeartbeats 1000000 in
theorem take_yes (B N : Nat) (W : World) (g : Nat) (l : List Int) (n : Int) (h : Rd 58 B N W g l false) (hl : l.length ≤ 140737488355328) (hn0 : 0 ≤ n) (hn : n ≤ (l.length : Int)) :
    Calls Try.prog 33 #[.pointer (some ⟨g, 0, none⟩), .int .i64 n] W fun e w' => ∃ v, e = .returned v ∧ Kd.R (Kd.int .u8) 5 w' W.heap.size (fun _ => True) v (l.take n.toNat) ∧ Rd 58 B N w' g (l.drop n.toNat) false ∧ W.grownBy w' (some g) := by
  obtain ⟨A, c, hb, h1, h2, h3, h4, h5, h6⟩ := h
  have hc0 : W.cell? ⟨g, 0, none⟩ = some (.slice A l.length c) := (blk_cell hb 0).trans rfl
  have hc1 : W.cell? ⟨g, 1, none⟩ = some (.bool false) := (blk_cell hb 1).trans rfl
  have hf0 := blk_frozen hb 0
  obtain ⟨i5, hi5, _, hsz5, _⟩ := info_parts info5
  obtain ⟨hcut, hA1, hC1⟩ := print_take_of (P := Try.prog) (Value.int .u8) 0 24 5 .i64 Try.underlying24 hi5 hsz5 A c l n hn0 hn h4
  obtain ⟨A2, hcut2, hA2, hC2, hB2⟩ := drop_run (P := Try.prog) (k := .u8) 24 5 Try.underlying24 hi5 hsz5 A c l n hn0 hn h4
  have HT := Aside0.mk (Kd.C_of_reads (h1 := fun _ => rfl) (hA1 W (Kd.reads_of_C h5)))
  have HD := Aside0.mk (hA2 W h5)
  have HC2 := Aside0.mk hC2
  have HB := Aside0.mk hb
  have hgW : g < W.heap.size := blk_lt hb
  have HREF := Aside0.mk (Below.refl W.heap.size W)
  have H6 := Aside0.mk h6
  have HB2 := Aside0.mk hB2
  have HL := Aside0.mk hl
  have HN := Aside0.mk h3
  have HLT : Aside0 (n.toNat = (l.take n.toNat).length) := ⟨by rw [List.length_take]; omega⟩
  have HLD : Aside0 (l.length - n.toNat = (l.drop n.toNat).length) := ⟨List.length_drop.symm⟩
  have hd1 : decide (n < 0) = false := decide_eq_false (by omega)
  have hd2 : decide ((l.length : Int) < n) = false := decide_eq_false (by omega)
  clear hb h4 h5 h6 hA1 hC1 hA2 hC2 hB2 hl h3 hi5 hsz5
  go_enter Try.func33, Try.ntmps33
  go_wp2_with (first
    | ((with_reducible refine gate_dst (N := 29) rfl ?_); refine Kd.R_lit (Kd.int .u8) _ 5 ?hg (N := 29) ?hd (xs := ([] : List Int)) (inner := []) (ok := fun _ => True) (okp := fun _ => True) ?hr ?hp (fun _ hk => hk) trivial (Below.refl _ _) (Nat.le_refl _) (by simp) ?_; (case hd => rfl); (case hg => rfl); (case hr => first | (go_simp; done) | (go_simp; rfl)); (case hp => exact (Reps.none _ _)); intro v1 w1 ho hbl hg_ hnew_; clear hg_ hnew_; have HO := Aside0.mk ho; have HB1 := Aside0.mk hbl; have hb1 : w1.heap[g]? = some (.cells #[.slice A l.length c, .bool false] 58 (0, 0)) := (hbl.block g hgW).trans HB.out; have hd0 : w1.cell? ⟨g, 0, none⟩ = some (.slice A l.length c) := (blk_cell hb1 0).trans rfl; clear ho hbl hb1)
    | ((with_reducible refine gate_builtin (b := .append) (xs := #[.tmp 29, .tmp 35]) rfl ?_); at_builtin; refine Kd.R_append_rows (Kd.int .u8) (w0 := W) W.heap.size rfl (.tmp 29) (.tmp 35) 24 5 (.int .u8 0) 1 rfl Try.underlying24 info5 rfl (by decide) (by omega) v1 [] (l.take n.toNat) _ _ _ (fun _ => True) (fun _ => False) rfl rfl HO.out ?aR (fun _ _ h => h) (fun _ h => h.elim) (fun _ _ => trivial) HB1.out (below_size HB1.out) ?aL ?_; (case aR => have hq := Kd.C_below HT.out HB1.out; rw [← HLT.out] at hq; exact hq); (case aL => have := HL.out; simp; omega); intro v2 w2 ho2 hb2 hg2 hat2; have HO2 := Aside0.mk ho2; have HBL := Aside0.mk hb2; have hb3 : w2.heap[g]? = some (.cells #[.slice A l.length c, .bool false] 58 (0, 0)) := (hb2.block g hgW).trans HB.out; have hd2 : w2.cell? ⟨g, 0, none⟩ = some (.slice A l.length c) := (blk_cell hb3 0).trans rfl; have hg02 := blk_frozen hb3 0; have HB3 := Aside0.mk hb3; clear ho2 hb2 hg2 hat2 hb3))
  go_ret
  refine ⟨_, rfl, R_elder HO2.out hgW _, ⟨A2, c - n.toNat, ?_, h1, h2, ?_, HC2.out, ?_, ?_⟩, ?_⟩
  · rw [blk_set HB3.out 0 _, ← HLD.out]; rfl
  · have h7 := HBL.out.size
    have h8 := HN.out
    simp only [World.setCell]; simp; omega
  · exact C_same (Kd.C_below HD.out HBL.out) (fun ad e => by
      obtain ⟨ad0, e0, hbk⟩ := HB2.out ad e
      have h9 := (H6.out ad0 e0).2.2
      exact Below.heap_setCell _ _ _ _ (by rw [hbk]; exact h9))
  · intro ad e
    obtain ⟨ad0, e0, hbk⟩ := HB2.out ad e
    rw [hbk]; exact H6.out ad0 e0
  · exact (grown_of_below HBL.out (some g)).trans (grown_set _ _ _)
theorem take_calls (B N : Nat) (W : World) (g : Nat) (l : List Int) (bad : Bool) (n : Int) (h : Rd 58 B N W g l bad) (hl : l.length ≤ 140737488355328) :
    Calls Try.prog 33 #[.pointer (some ⟨g, 0, none⟩), .int .i64 n] W fun e w' => ∃ v, e = .returned v ∧ Kd.R (Kd.int .u8) 5 w' W.heap.size (fun _ => True) v (takeS l bad n).1 ∧ Rd 58 B N w' g (takeS l bad n).2.1 (takeS l bad n).2.2 ∧ W.grownBy w' (some g) := by
  by_cases hc : bad = true ∨ n < 0 ∨ (l.length : Int) < n
  · rw [show takeS l bad n = ([], [], true) from if_pos hc]
    exact take_no B N W g l bad n h hc
  · rw [show takeS l bad n = (l.take n.toNat, l.drop n.toNat, false) from if_neg hc]
    cases bad with
    | true => exact absurd (Or.inl rfl) hc
    | false => exact take_yes B N W g l n h hl (by omega) (by omega)
set_option maxHeartbeats 1000000 in
theorem open_calls (A : Option Addr) (c : Nat) (l : List Int) (w : World) (hr : Kd.C (Kd.int .u8) w A l.length l) (hl : l.length ≤ 140737488355328) :
    Calls Try.prog 26 #[.slice A l.length c] w fun e w' => ∃ g, e = .returned (.pointer (some ⟨g, 0, none⟩)) ∧ Rd 58 w.heap.size w'.heap.size w' g l false ∧ Below w.heap.size w w' := by
  have HR := Aside0.mk hr
  have HL := Aside0.mk hl
  clear hr hl
  go_enter Try.func26, Try.ntmps26
  go_wp2_with (first
    | ((with_reducible refine gate_dst (N := 3) rfl ?_); refine Kd.R_lit (Kd.int .u8) _ 5 ?hg (N := 3) ?hd (xs := ([] : List Int)) (inner := []) (ok := fun _ => True) (okp := fun _ => True) ?hr ?hp (fun _ hk => hk) trivial (Below.refl _ _) (Nat.le_refl _) (by simp) ?_; (case hd => rfl); (case hg => rfl); (case hr => first | (go_simp; done) | (go_simp; rfl)); (case hp => exact (Reps.none _ _)); intro v1 w1 ho hbl hg_ hnew_; clear hg_ hnew_; have HO := Aside0.mk ho; have HB1 := Aside0.mk hbl; clear ho hbl)
    | ((with_reducible refine gate_builtin (b := .append) (xs := #[.tmp 3, .tmp 4]) rfl ?_); at_builtin; refine Kd.R_append_rows (Kd.int .u8) (w0 := w) w.heap.size rfl (.tmp 3) (.tmp 4) 24 5 (.int .u8 0) 1 rfl Try.underlying24 info5 rfl (by decide) (by omega) v1 [] l _ _ _ (fun _ => True) (fun _ => False) rfl rfl HO.out ?aR (fun _ _ h => h) (fun _ h => h.elim) (fun _ _ => trivial) HB1.out (below_size HB1.out) ?aL ?_; (case aR => exact Kd.C_below HR.out HB1.out); (case aL => have := HL.out; simp; omega); intro v2 w2 ho2 hb2 hg2 hat2; obtain ⟨A1, c1, rfl, hc1, hr1⟩ := Kd.R_reads ho2; have HBL := Aside0.mk hb2; have HC1 := Aside0.mk hc1; have HR1 := Aside0.mk hr1; have HA1 : Aside0 (∀ ad, A1 = some ad → w.heap.size ≤ ad.block ∧ ad.block < w2.heap.size) := Aside0.mk (fun ad e => by (subst e; have h := (Kd.R_bound ho2).1 ad.block (by simp [Value.ownBlock]); exact And.intro h.2.1 h.2.2.1)); clear ho2 hb2 hg2 hat2 hc1 hr1))
  go_ret
  exact ⟨_, rfl, Rd.make HBL.out HC1.out HR1.out HA1.out, below_alloc HBL.out _⟩
end Go.Proofs.Ythgghbmckpflcaa.Oct.Ref
