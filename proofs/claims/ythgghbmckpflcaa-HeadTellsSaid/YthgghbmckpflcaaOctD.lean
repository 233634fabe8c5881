/- The program's reader: Take in one statement, Left, Ok, and which sizes may be; condition: the state is as told. -/
import Derived.Test.YthgghbmckpflcaaOctC
namespace Go.Proofs.Ythgghbmckpflcaa.Oct
open Go.RowKit Go.Proofs.YthgghbmckpflcaaW.PrintWords Go.Proofs.YthgghbmckpflcaaW.PrintLast Go.Proofs.YthgghbmckpflcaaW.PrintMore

theorem take_calls (B N : Nat) (W : World) (g : Nat) (l : List Int) (bad : Bool) (n : Int) (h : Rd 53 B N W g l bad) (hl : l.length ≤ 140737488355328) :
    Calls Try.prog 20 #[.pointer (some ⟨g, 0, none⟩), .int .i64 n] W fun e w' => ∃ v, e = .returned v ∧ Kd.R (Kd.int .u8) 5 w' W.heap.size (fun _ => True) v (takeS l bad n).1 ∧ Rd 53 B N w' g (takeS l bad n).2.1 (takeS l bad n).2.2 ∧ W.grownBy w' (some g) := by
  by_cases hc : bad = true ∨ n < 0 ∨ (l.length : Int) < n
  · rw [show takeS l bad n = ([], [], true) from if_pos hc]
    exact take_no B N W g l bad n h hc
  · rw [show takeS l bad n = (l.take n.toNat, l.drop n.toNat, false) from if_neg hc]
    cases bad with
    | true => exact absurd (Or.inl rfl) hc
    | false => exact take_yes B N W g l n h hl (by omega) (by omega)
set_option maxHeartbeats 400000 in
theorem ok_calls (B N : Nat) (W : World) (g : Nat) (l : List Int) (bad : Bool) (h : Rd 53 B N W g l bad) :
    Calls Try.prog 24 #[.pointer (some ⟨g, 0, none⟩)] W fun e w' => e = .returned (.bool (!bad)) ∧ w' = W := by
  obtain ⟨A, c, hb, h1, h2, h3, h4, h5, h6⟩ := h
  have hc1 : W.cell? ⟨g, 1, none⟩ = some (.bool bad) := (blk_cell hb 1).trans rfl
  clear hb h5 h6
  go_enter Try.func24, Try.ntmps24
  go_wp2
  go_ret
  exact ⟨rfl, rfl⟩
def sizeB (size : Int) : Bool := decide (size = 1 ∨ size = 4 ∨ size = 8)
set_option maxHeartbeats 400000 in
theorem may0_calls (W : World) (size : Int) :
    Calls Try.prog 30 #[.int .i64 0, .int .i64 size] W fun e w' => e = .returned (.bool (sizeB size)) ∧ w' = W := by
  by_cases h1 : size = 1
  · subst h1
    go_enter Try.func30, Try.ntmps30
    go_wp2
    go_ret
    exact ⟨rfl, rfl⟩
  by_cases h4 : size = 4
  · subst h4
    go_enter Try.func30, Try.ntmps30
    go_wp2
    go_ret
    exact ⟨rfl, rfl⟩
  by_cases h8 : size = 8
  · subst h8
    go_enter Try.func30, Try.ntmps30
    go_wp2
    go_ret
    exact ⟨rfl, rfl⟩
  have hs : sizeB size = false := decide_eq_false (by omega)
  rw [hs]
  have b1 : (size == 1) = false := beq_eq_false_iff_ne.2 h1
  have b4 : (size == 4) = false := beq_eq_false_iff_ne.2 h4
  have b8 : (size == 8) = false := beq_eq_false_iff_ne.2 h8
  have c1 : ((1 : Int) == size) = false := beq_eq_false_iff_ne.2 (fun h => h1 h.symm)
  have c4 : ((4 : Int) == size) = false := beq_eq_false_iff_ne.2 (fun h => h4 h.symm)
  have c8 : ((8 : Int) == size) = false := beq_eq_false_iff_ne.2 (fun h => h8 h.symm)
  clear hs h1 h4 h8
  go_enter Try.func30, Try.ntmps30
  go_wp2
  go_ret
  exact ⟨rfl, rfl⟩
theorem Rd.make {T : Nat} {w W : World} {A : Option Addr} {c : Nat} {l : List Int} (hb : Below w.heap.size w W) (hl : l.length ≤ c) (hr : Kd.C (Kd.int .u8) W A l.length l) (hA : ∀ ad, A = some ad → w.heap.size ≤ ad.block ∧ ad.block < W.heap.size) :
    Rd T w.heap.size (W.alloc (.cells #[.slice A l.length c, .bool false] T)).heap.size (W.alloc (.cells #[.slice A l.length c, .bool false] T)) W.heap.size l false := by
  have hz : (W.alloc (.cells #[.slice A l.length c, .bool false] T)).heap.size = W.heap.size + 1 := by simp
  refine ⟨A, c, by simpa using heap_alloc_new W _, hb.size, by omega, Nat.le_refl _, hl, Kd.C_below hr (below_alloc (Below.refl _ _) _), fun ad e => ?_⟩
  have := hA ad e
  omega
set_option maxHeartbeats 1000000 in
theorem open_calls (A : Option Addr) (c : Nat) (l : List Int) (w : World) (hr : Kd.C (Kd.int .u8) w A l.length l) (hl : l.length ≤ 140737488355328) :
    Calls Try.prog 19 #[.slice A l.length c] w fun e w' => ∃ g, e = .returned (.pointer (some ⟨g, 0, none⟩)) ∧ Rd 53 w.heap.size w'.heap.size w' g l false ∧ Below w.heap.size w w' := by
  have HR := Aside0.mk hr
  have HL := Aside0.mk hl
  clear hr hl
  go_enter Try.func19, Try.ntmps19
  go_wp2_with fail
  refine (clone_calls A c l w HR.out HL.out).mono ?_
  rintro e w1 ⟨v, rfl, hv, hbl⟩
  obtain ⟨A1, c1, rfl, hc1, hr1⟩ := Kd.R_reads hv
  have HBL := Aside0.mk hbl
  have HC1 := Aside0.mk hc1
  have HR1 := Aside0.mk hr1
  have HA1 : Aside0 (∀ ad, A1 = some ad → w.heap.size ≤ ad.block ∧ ad.block < w1.heap.size) := ⟨fun ad e => by
    subst e
    have h := (Kd.R_bound hv).1 ad.block (by simp [Value.ownBlock])
    exact ⟨h.2.1, h.2.2.1⟩⟩
  clear hv hbl hc1 hr1
  go_wp2
  go_ret
  exact ⟨_, rfl, Rd.make HBL.out HC1.out HR1.out HA1.out, below_alloc HBL.out _⟩
end Go.Proofs.Ythgghbmckpflcaa.Oct
