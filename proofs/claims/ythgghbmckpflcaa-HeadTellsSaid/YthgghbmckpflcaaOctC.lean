/- Take of the program's reader: what it hands back and what is left; condition: the state is as told. -/
import Derived.Test.YthgghbmckpflcaaOctB
namespace Go.Proofs.Ythgghbmckpflcaa.Oct
open Go.RowKit Go.Proofs.YthgghbmckpflcaaW.PrintWords Go.Proofs.YthgghbmckpflcaaW.PrintLast Go.Proofs.YthgghbmckpflcaaW.PrintMore

set_option maxHeartbeats 1000000 in
theorem take_bad (B N : Nat) (W : World) (g : Nat) (l : List Int) (n : Int) (h : Rd 53 B N W g l true) :
    Calls Try.prog 20 #[.pointer (some ⟨g, 0, none⟩), .int .i64 n] W fun e w' => ∃ v, e = .returned v ∧ Kd.R (Kd.int .u8) 5 w' W.heap.size (fun _ => True) v [] ∧ Rd 53 B N w' g [] true ∧ W.grownBy w' (some g) := by
  have H := Aside0.mk h
  obtain ⟨A, c, hb, h1, h2, h3, h4, h5, h6⟩ := h
  have hc0 : W.cell? ⟨g, 0, none⟩ = some (.slice A l.length c) := (blk_cell hb 0).trans rfl
  have hc1 : W.cell? ⟨g, 1, none⟩ = some (.bool true) := (blk_cell hb 1).trans rfl
  have hf0 := blk_frozen hb 0
  have hf1 := blk_frozen hb 1
  have hln := Kd.C_max h5
  clear hb h4 h5 h6
  go_enter Try.func20, Try.ntmps20
  go_wp2
  go_ret
  exact ⟨_, rfl, Kd.R_nil _ _ _ _ _, H.out.failed⟩
set_option maxHeartbeats 1000000 in
theorem take_neg (B N : Nat) (W : World) (g : Nat) (l : List Int) (n : Int) (h : Rd 53 B N W g l false) (hn : n < 0) :
    Calls Try.prog 20 #[.pointer (some ⟨g, 0, none⟩), .int .i64 n] W fun e w' => ∃ v, e = .returned v ∧ Kd.R (Kd.int .u8) 5 w' W.heap.size (fun _ => True) v [] ∧ Rd 53 B N w' g [] true ∧ W.grownBy w' (some g) := by
  have H := Aside0.mk h
  obtain ⟨A, c, hb, h1, h2, h3, h4, h5, h6⟩ := h
  have hc0 : W.cell? ⟨g, 0, none⟩ = some (.slice A l.length c) := (blk_cell hb 0).trans rfl
  have hc1 : W.cell? ⟨g, 1, none⟩ = some (.bool false) := (blk_cell hb 1).trans rfl
  have hf0 := blk_frozen hb 0
  have hf1 := blk_frozen hb 1
  have hln := Kd.C_max h5
  clear hb h4 h5 h6
  go_enter Try.func20, Try.ntmps20
  go_wp2
  go_ret
  exact ⟨_, rfl, Kd.R_nil _ _ _ _ _, H.out.failed⟩
set_option maxHeartbeats 1000000 in
theorem take_much (B N : Nat) (W : World) (g : Nat) (l : List Int) (n : Int) (h : Rd 53 B N W g l false) (hn0 : 0 ≤ n) (hn : (l.length : Int) < n) :
    Calls Try.prog 20 #[.pointer (some ⟨g, 0, none⟩), .int .i64 n] W fun e w' => ∃ v, e = .returned v ∧ Kd.R (Kd.int .u8) 5 w' W.heap.size (fun _ => True) v [] ∧ Rd 53 B N w' g [] true ∧ W.grownBy w' (some g) := by
  have H := Aside0.mk h
  obtain ⟨A, c, hb, h1, h2, h3, h4, h5, h6⟩ := h
  have hc0 : W.cell? ⟨g, 0, none⟩ = some (.slice A l.length c) := (blk_cell hb 0).trans rfl
  have hc1 : W.cell? ⟨g, 1, none⟩ = some (.bool false) := (blk_cell hb 1).trans rfl
  have hf0 := blk_frozen hb 0
  have hf1 := blk_frozen hb 1
  have hln := Kd.C_max h5
  clear hb h4 h5 h6
  go_enter Try.func20, Try.ntmps20
  go_wp2
  go_ret
  exact ⟨_, rfl, Kd.R_nil _ _ _ _ _, H.out.failed⟩
theorem take_no (B N : Nat) (W : World) (g : Nat) (l : List Int) (bad : Bool) (n : Int) (h : Rd 53 B N W g l bad) (hc : bad = true ∨ n < 0 ∨ (l.length : Int) < n) :
    Calls Try.prog 20 #[.pointer (some ⟨g, 0, none⟩), .int .i64 n] W fun e w' => ∃ v, e = .returned v ∧ Kd.R (Kd.int .u8) 5 w' W.heap.size (fun _ => True) v [] ∧ Rd 53 B N w' g [] true ∧ W.grownBy w' (some g) := by
  cases bad with
  | true => exact take_bad B N W g l n h
  | false =>
    by_cases h1 : n < 0
    · exact take_neg B N W g l n h h1
    · exact take_much B N W g l n h (by omega) (by rcases hc with hc | hc | hc; · cases hc
                                                   · exact absurd hc h1
                                                   · exact hc)
set_option maxHeartbeats 1000000 in
theorem take_yes (B N : Nat) (W : World) (g : Nat) (l : List Int) (n : Int) (h : Rd 53 B N W g l false) (hl : l.length ≤ 140737488355328) (hn0 : 0 ≤ n) (hn : n ≤ (l.length : Int)) :
    Calls Try.prog 20 #[.pointer (some ⟨g, 0, none⟩), .int .i64 n] W fun e w' => ∃ v, e = .returned v ∧ Kd.R (Kd.int .u8) 5 w' W.heap.size (fun _ => True) v (l.take n.toNat) ∧ Rd 53 B N w' g (l.drop n.toNat) false ∧ W.grownBy w' (some g) := by
  obtain ⟨A, c, hb, h1, h2, h3, h4, h5, h6⟩ := h
  have hc0 : W.cell? ⟨g, 0, none⟩ = some (.slice A l.length c) := (blk_cell hb 0).trans rfl
  have hc1 : W.cell? ⟨g, 1, none⟩ = some (.bool false) := (blk_cell hb 1).trans rfl
  have hf0 := blk_frozen hb 0
  obtain ⟨i5, hi5, _, hsz5, _⟩ := info_parts info5
  obtain ⟨hcut, hA1, hC1⟩ := print_take_of (P := Try.prog) (Value.int .u8) 0 24 5 .i64 Try.underlying24 hi5 hsz5 A c l n hn0 hn h4
  obtain ⟨A2, hcut2, hA2, hC2, hB2⟩ := drop_run (P := Try.prog) (k := .u8) 24 5 Try.underlying24 hi5 hsz5 A c l n hn0 hn h4
  have HT := Aside0.mk (Kd.C_of_reads (h1 := fun _ => rfl) (hA1 W (Kd.reads_of_C h5)))
  have HD := Aside0.mk (hA2 W h5)
  have HC2 := Aside0.mk hC2
  have HB := Aside0.mk hb
  have H6 := Aside0.mk h6
  have HB2 := Aside0.mk hB2
  have HL := Aside0.mk hl
  have HN := Aside0.mk h3
  have HLT : Aside0 (n.toNat = (l.take n.toNat).length) := ⟨by rw [List.length_take]; omega⟩
  have HLD : Aside0 (l.length - n.toNat = (l.drop n.toNat).length) := ⟨List.length_drop.symm⟩
  have hd1 : decide (n < 0) = false := decide_eq_false (by omega)
  have hd2 : decide ((l.length : Int) < n) = false := decide_eq_false (by omega)
  clear hb h4 h5 h6 hA1 hC1 hA2 hC2 hB2 hl h3 hi5 hsz5
  go_enter Try.func20, Try.ntmps20
  go_wp2_with fail
  rw [HLT.out]
  refine (clone_calls A c (l.take n.toNat) W HT.out (by have := HL.out; have := List.length_take_le' n.toNat l; omega)).mono ?_
  rintro e w1 ⟨v, rfl, hv, hbl⟩
  have HV := Aside0.mk hv
  have HBL := Aside0.mk hbl
  have hgW : g < W.heap.size := blk_lt HB.out
  have hb1 : w1.heap[g]? = some (.cells #[.slice A l.length c, .bool false] 53 (0, 0)) := (hbl.block g hgW).trans HB.out
  have hd0 : w1.cell? ⟨g, 0, none⟩ = some (.slice A l.length c) := (blk_cell hb1 0).trans rfl
  have hg0 := blk_frozen hb1 0
  have HB1 := Aside0.mk hb1
  clear hv hbl hb1
  go_wp2
  go_ret
  refine ⟨_, rfl, R_elder HV.out hgW _, ⟨A2, c - n.toNat, ?_, h1, h2, ?_, HC2.out, ?_, ?_⟩, ?_⟩
  · rw [blk_set HB1.out 0 _, ← HLD.out]; rfl
  · have h7 := HBL.out.size
    have h8 := HN.out
    simp only [World.setCell]; simp; omega
  · exact C_same (Kd.C_below HD.out HBL.out) (fun ad e => by
      obtain ⟨ad0, e0, hbk⟩ := HB2.out ad e
      have h9 := (H6.out ad0 e0).2.2
      exact Below.heap_setCell _ _ _ _ (by rw [hbk]; exact h9))
  · intro ad e
    obtain ⟨ad0, e0, hbk⟩ := HB2.out ad e
    rw [hbk]; exact H6.out ad0 e0
  · exact (grown_of_below HBL.out (some g)).trans (grown_set _ _ _)
end Go.Proofs.Ythgghbmckpflcaa.Oct
