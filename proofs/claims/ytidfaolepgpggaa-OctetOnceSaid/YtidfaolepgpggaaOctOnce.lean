/- OctetOnce returns true: bytes that are read as a number are laid so; no condition but that the bytes lie in memory. -/
import Derived.Test.YtidfaolepgpggaaOctFails
namespace Go.Proofs.Ytidfaolepgpggaa.Oct
open Go.RowKit Go.Proofs.YtidfaolepgpggaaW.PrintWords Go.Proofs.YtidfaolepgpggaaW.PrintLast Go.Proofs.YtidfaolepgpggaaW.PrintMore

theorem once_pure {l : List Int} {size : Int} (hb : B8 l) (hs : sizeB size = true) (hl : size ≤ l.length) :
    ∃ m l2, numS l false size = (m, l2, false) ∧ putS [] m size = (l.take size.toNat, true) ∧ (l2.length : Int) = l.length - size := by
  have h1 := size_cases hs
  have ht : takeS l false size = (l.take size.toNat, l.drop size.toNat, false) := if_neg (by simp; omega)
  have hz : sizeS size = size := if_pos hs
  have hbt : B8 (l.take size.toNat) := fun x hx => hb x (List.mem_of_mem_take hx)
  have hlt : (l.take size.toNat).length = size.toNat := by rw [List.length_take]; omega
  obtain ⟨h2, h3⟩ := back_read hbt hs hlt
  refine ⟨numL size true 0 (l.take size.toNat), l.drop size.toNat, ?_, ?_, by rw [List.length_drop]; omega⟩
  · unfold numS; rw [hz, ht]
  · unfold putS; rw [if_pos h2, h3, List.nil_append]
theorem once_bad {l : List Int} {size : Int} (h : sizeB size = false ∨ (l.length : Int) < size) : numS l false size = (0, [], true) := by
  have ht : ∀ z, z = -1 ∨ (l.length : Int) < z → takeS l false z = ([], [], true) := fun z hz => if_pos (by omega)
  have : takeS l false (sizeS size) = ([], [], true) := by
    refine ht _ ?_
    unfold sizeS
    split
    · rcases h with h | h
      · rename_i h2; rw [h] at h2; cases h2
      · exact Or.inr h
    · exact Or.inl rfl
  unfold numS; rw [this]; rfl
set_option maxHeartbeats 4000000 in
set_option maxRecDepth 100000 in
theorem once_walk (A : Option Addr) (c : Nat) (l : List Int) (size : Int) (w : World) (hr : Kd.C (Kd.int .u8) w A l.length l) (hc : l.length ≤ c) (hb : B8 l) :
    Calls Try.prog 5 #[.slice A l.length c, .int .i64 size] w fun e w' => e = .returned (.bool true) ∧ Below w.heap.size w w' := by
  have HR := Aside0.mk hr
  have HC := Aside0.mk hc
  have HBY := Aside0.mk hb
  have hmx : l.length ≤ 9223372036854775807 := Kd.C_max hr
  clear hr hc hb
  by_cases hlen : l.length > 100
  · go_enter Try.func5, Try.ntmps5
    go_wp2_with fail
    refine (small_calls w).mono ?_
    rintro e w1 ⟨rfl, hb1⟩
    have HB1 := Aside0.mk hb1
    clear hb1
    go_wp2
    go_ret
    exact ⟨rfl, HB1.out⟩
  · by_cases hs : sizeB size = true
    · by_cases hsl : size ≤ (l.length : Int)
      · obtain ⟨m, l2, ht, hp, hl2⟩ := once_pure HBY.out hs hsl
        have hq : ((l2.length : Int) == (l.length : Int) - size) = true := beq_iff_eq.2 hl2
        have HT := Aside0.mk ht
        have HP := Aside0.mk hp
        have hs0 : 0 ≤ size := by have := size_cases hs; omega
        have hs8 : size ≤ 8 := by have := size_cases hs; omega
        obtain ⟨i5, hi5, _, hsz5, _⟩ := info_parts info5
        obtain ⟨hcut, hA1, hC1⟩ := print_take_of (P := Try.prog) (Value.int .u8) 0 22 5 .i64 Try.underlying22 hi5 hsz5 A c l size hs0 hsl HC.out
        have HA1 := Aside0.mk hA1
        clear hA1 hC1 hi5 hsz5 ht hp hl2 hs
        go_enter Try.func5, Try.ntmps5
        go_wp2_with fail
        refine (small_calls w).mono ?_
        rintro e w1 ⟨rfl, hb1⟩
        have HB1 := Aside0.mk hb1
        clear hb1
        go_wp2_with fail
        refine (open_calls A c l w1 (Kd.C_below HR.out HB1.out) (by omega)).mono ?_
        rintro e w2 ⟨g, rfl, hrd, hb2⟩
        have HD2 := Aside0.mk hrd
        have HB2 := Aside0.mk hb2
        have HG := Aside0.mk (hrd.size).1
        clear hrd hb2
        go_wp2_with fail
        refine (num_is HT.out HD2.out (by omega)).mono ?_
        rintro e w3 ⟨rfl, hrd, hg3⟩
        have HD3 := Aside0.mk hrd
        have HB3 := Aside0.mk (pw_below_grown HB2.out (some g) HB2.out.size hg3 (fun k e => by injection e with e; rw [← e]; exact HG.out))
        have HB := Aside0.mk (below_step HB1.out HB3.out)
        clear hrd hg3
        go_wp2_with fail
        refine (ok_calls _ _ _ _ _ _ HD3.out).mono ?_
        rintro e w4 ⟨rfl, rfl⟩
        go_wp2_with fail
        refine (put_is HP.out (Kd.C_nil _ _) (by simp)).mono ?_
        rintro e w5 ⟨A1, c1, rfl, _, hr1, hb5⟩
        have HD5 := Aside0.mk (HD3.out.below hb5)
        have HBB := Aside0.mk (below_step HB.out hb5)
        have HLT : Aside0 ((l.take size.toNat).length = size.toNat) := ⟨by rw [List.length_take]; omega⟩
        have hs1 := str_q (c := c1) hr1 rfl
        have hs2 := str_q (Kd.C_of_reads (h1 := fun _ => rfl) (HA1.out w5 (Kd.reads_of_C (Kd.C_below HR.out HBB.out))) : Kd.C (Kd.int .u8) w5 A (l.take size.toNat).length (l.take size.toNat)) (c := c) rfl
        rw [HLT.out] at hs1 hs2
        clear hr1 hb5
        go_wp2
        go_quiet ((first | (go_at_call 18; exact Calls.quiet_of_same (left_calls _ _ _ _ _ _ HD5.out)) | (go_at_call 20; exact Calls.quiet_of_same (ok_calls _ _ _ _ _ _ HD5.out))))
        go_wp2
        go_ret
        exact ⟨rfl, pw_below_drewN HBB.out _⟩
      · have HT := Aside0.mk (once_bad (l := l) (size := size) (Or.inr (by omega)))
        rcases size_cases hs with rfl | rfl | rfl
        all_goals
          clear hs
          go_enter Try.func5, Try.ntmps5
          go_wp2_with fail
          refine (small_calls w).mono ?_
          rintro e w1 ⟨rfl, hb1⟩
          have HB1 := Aside0.mk hb1
          clear hb1
          go_wp2_with fail
          refine (open_calls A c l w1 (Kd.C_below HR.out HB1.out) (by omega)).mono ?_
          rintro e w2 ⟨g, rfl, hrd, hb2⟩
          have HD2 := Aside0.mk hrd
          have HB2 := Aside0.mk hb2
          have HG := Aside0.mk (hrd.size).1
          clear hrd hb2
          go_wp2_with fail
          refine (num_is HT.out HD2.out (by omega)).mono ?_
          rintro e w3 ⟨rfl, hrd, hg3⟩
          have HD3 := Aside0.mk hrd
          have HB3 := Aside0.mk (pw_below_grown HB2.out (some g) HB2.out.size hg3 (fun k e => by injection e with e; rw [← e]; exact HG.out))
          have HB := Aside0.mk (below_step HB1.out HB3.out)
          clear hrd hg3
          go_wp2_with fail
          refine (ok_calls _ _ _ _ _ _ HD3.out).mono ?_
          rintro e w4 ⟨rfl, rfl⟩
          go_wp2_with (first | (go_at_call 18; refine (left_calls _ _ _ _ _ _ HD3.out).mono ?_; rintro e w' ⟨rfl, rfl⟩))
          go_ret
          exact ⟨rfl, HB.out⟩
    · have hs' : sizeB size = false := Bool.eq_false_iff.mpr hs
      have HT := Aside0.mk (once_bad (l := l) (size := size) (Or.inl hs'))
      have hn : ¬ (size = 1 ∨ size = 4 ∨ size = 8) := of_decide_eq_false hs'
      have b1 : (size != 1) = true := bne_iff_ne.2 (by omega)
      have b4 : (size != 4) = true := bne_iff_ne.2 (by omega)
      have b8 : (size != 8) = true := bne_iff_ne.2 (by omega)
      clear hs hs' hn
      go_enter Try.func5, Try.ntmps5
      go_wp2_with fail
      refine (small_calls w).mono ?_
      rintro e w1 ⟨rfl, hb1⟩
      have HB1 := Aside0.mk hb1
      clear hb1
      go_wp2_with fail
      refine (open_calls A c l w1 (Kd.C_below HR.out HB1.out) (by omega)).mono ?_
      rintro e w2 ⟨g, rfl, hrd, hb2⟩
      have HD2 := Aside0.mk hrd
      have HB2 := Aside0.mk hb2
      have HG := Aside0.mk (hrd.size).1
      clear hrd hb2
      go_wp2_with fail
      refine (num_is HT.out HD2.out (by omega)).mono ?_
      rintro e w3 ⟨rfl, hrd, hg3⟩
      have HD3 := Aside0.mk hrd
      have HB3 := Aside0.mk (pw_below_grown HB2.out (some g) HB2.out.size hg3 (fun k e => by injection e with e; rw [← e]; exact HG.out))
      have HB := Aside0.mk (below_step HB1.out HB3.out)
      clear hrd hg3
      go_wp2_with fail
      refine (ok_calls _ _ _ _ _ _ HD3.out).mono ?_
      rintro e w4 ⟨rfl, rfl⟩
      go_wp2_with (first | (go_at_call 18; refine (left_calls _ _ _ _ _ _ HD3.out).mono ?_; rintro e w' ⟨rfl, rfl⟩))
      go_ret
      exact ⟨rfl, HB.out⟩
end Go.Proofs.Ytidfaolepgpggaa.Oct
