/- OctetFails returns true: who has failed reads nothing any more, and a failure comes just if there are too few bytes; no condition but that the bytes lie in memory. -/
import Derived.Test.YtidfaolepgpggaaOctS
import Derived.Test.YtidfaolepgpggaaOctP
namespace Go.Proofs.Ytidfaolepgpggaa.Oct
open Go.RowKit Go.Proofs.YtidfaolepgpggaaW.PrintWords Go.Proofs.YtidfaolepgpggaaW.PrintLast Go.Proofs.YtidfaolepgpggaaW.PrintMore

theorem take_is {B N : Nat} {W : World} {g : Nat} {l : List Int} {bad : Bool} {n : Int} {r l2 : List Int} {b2 : Bool} (hn : takeS l bad n = (r, l2, b2)) (h : Rd 43 B N W g l bad) (hl : l.length ≤ 140737488355328) :
    Calls Try.prog 16 #[.pointer (some ⟨g, 0, none⟩), .int .i64 n] W fun e w' => ∃ A1 c1, e = .returned (.slice A1 r.length c1) ∧ r.length ≤ c1 ∧ Kd.C (Kd.int .u8) w' A1 r.length r ∧ Rd 43 B N w' g l2 b2 ∧ W.grownBy w' (some g) :=
  (take_calls B N W g l bad n h hl).mono fun e w' ⟨v, he, hv, hr, hg⟩ => by
    rw [hn] at hv hr
    obtain ⟨A1, c1, rfl, hc, hr1⟩ := Kd.R_reads hv
    exact ⟨A1, c1, he, hc, hr1, hr, hg⟩

set_option maxHeartbeats 4000000 in
set_option maxRecDepth 100000 in
theorem fails_walk (A : Option Addr) (c : Nat) (l : List Int) (n : Int) (w : World) (hr : Kd.C (Kd.int .u8) w A l.length l) (hc : l.length ≤ c) :
    Calls Try.prog 6 #[.slice A l.length c, .int .i64 n] w fun e w' => e = .returned (.bool true) ∧ Below w.heap.size w w' := by
  have HR := Aside0.mk hr
  have HC := Aside0.mk hc
  have hmx : l.length ≤ 9223372036854775807 := Kd.C_max hr
  clear hr hc
  by_cases hlen : l.length > 500
  · go_enter Try.func6, Try.ntmps6
    go_wp2_with fail
    refine (small_calls w).mono ?_
    rintro e w1 ⟨rfl, hb1⟩
    have HB1 := Aside0.mk hb1
    clear hb1
    go_wp2
    go_ret
    exact ⟨rfl, HB1.out⟩
  · by_cases hn : 0 ≤ n ∧ n ≤ (l.length : Int)
    · obtain ⟨hn0, hn1⟩ := hn
      obtain ⟨l2, HT, hl2⟩ : ∃ l2, Aside0 (takeS l false n = (l.take n.toNat, l2, false)) ∧ (l2.length : Int) = l.length - n := ⟨l.drop n.toNat, ⟨if_neg (by simp; omega)⟩, by rw [List.length_drop]; omega⟩
      have hq : ((l2.length : Int) == (l.length : Int) - n) = true := beq_iff_eq.2 hl2
      clear hl2
      obtain ⟨i5, hi5, _, hsz5, _⟩ := info_parts info5
      obtain ⟨hcut, hA1, hC1⟩ := print_take_of (P := Try.prog) (Value.int .u8) 0 22 5 .i64 Try.underlying22 hi5 hsz5 A c l n hn0 hn1 HC.out
      have HA1 := Aside0.mk hA1
      clear hA1 hC1 hi5 hsz5
      go_enter Try.func6, Try.ntmps6
      go_wp2_with fail
      refine (small_calls w).mono ?_
      rintro e w1 ⟨rfl, hb1⟩
      have HB1 := Aside0.mk hb1
      clear hb1
      go_wp2_with fail
      refine (open_calls A c l w1 (Kd.C_below HR.out HB1.out) (by omega)).mono ?_
      rintro e w2 ⟨g, rfl, hrd, hb2⟩
      have HD2 := Aside0.mk hrd
      have HB2 := Aside0.mk hb2
      have HG := Aside0.mk (hrd.size).1
      clear hrd hb2
      go_wp2_with fail
      refine (take_is HT.out HD2.out (by omega)).mono ?_
      rintro e w3 ⟨A1, c1, rfl, hc1, hr1, hrd, hg3⟩
      have HD3 := Aside0.mk hrd
      have HB3 := Aside0.mk (pw_below_grown HB2.out (some g) HB2.out.size hg3 (fun k e => by injection e with e; rw [← e]; exact HG.out))
      have HB := Aside0.mk (below_step HB1.out HB3.out)
      have HLT : Aside0 ((l.take n.toNat).length = n.toNat) := ⟨by rw [List.length_take]; omega⟩
      have hs1 := str_q (c := c1) hr1 rfl
      have hs2 := str_q (Kd.C_of_reads (h1 := fun _ => rfl) (HA1.out w3 (Kd.reads_of_C (Kd.C_below HR.out HB.out))) : Kd.C (Kd.int .u8) w3 A (l.take n.toNat).length (l.take n.toNat)) (c := c) rfl
      rw [HLT.out] at hs1 hs2
      clear hrd hg3 hr1 hc1
      go_wp2
      go_quiet ((first | (go_at_call 18; exact Calls.quiet_of_same (left_calls _ _ _ _ _ _ HD3.out)) | (go_at_call 20; exact Calls.quiet_of_same (ok_calls _ _ _ _ _ _ HD3.out))))
      go_wp2
      go_ret
      exact ⟨rfl, pw_below_drewN HB.out _⟩
    · have HT1 : Aside0 (takeS l false n = ([], [], true)) := ⟨if_pos (by omega)⟩
      have HT2 : Aside0 (takeS [] true 0 = ([], [], true)) := ⟨if_pos (Or.inl rfl)⟩
      have HT3 : Aside0 (numS [] true 1 = (0, [], true)) := ⟨by decide +kernel⟩
      have hd : n < 0 ∨ (0 ≤ n ∧ (l.length : Int) < n) := by omega
      clear hn
      rcases hd with hd | ⟨hd0, hd⟩
      all_goals
        go_enter Try.func6, Try.ntmps6
        go_wp2_with fail
        refine (small_calls w).mono ?_
        rintro e w1 ⟨rfl, hb1⟩
        have HB1 := Aside0.mk hb1
        clear hb1
        go_wp2_with fail
        refine (open_calls A c l w1 (Kd.C_below HR.out HB1.out) (by omega)).mono ?_
        rintro e w2 ⟨g, rfl, hrd, hb2⟩
        have HD2 := Aside0.mk hrd
        have HB2 := Aside0.mk hb2
        have HG := Aside0.mk (hrd.size).1
        clear hrd hb2
        go_wp2_with fail
        refine (take_is HT1.out HD2.out (by omega)).mono ?_
        rintro e w3 ⟨A1, c1, rfl, _, _, hrd, hg3⟩
        have HD3 := Aside0.mk hrd
        have HB3 := Aside0.mk (pw_below_grown HB2.out (some g) HB2.out.size hg3 (fun k e => by injection e with e; rw [← e]; exact HG.out))
        clear hrd hg3
        go_wp2_with fail
        refine (take_is HT2.out HD3.out (by simp)).mono ?_
        rintro e w4 ⟨A2, c2, rfl, _, _, hrd, hg4⟩
        have HD4 := Aside0.mk hrd
        have HB4 := Aside0.mk (pw_below_grown HB3.out (some g) HB3.out.size hg4 (fun k e => by injection e with e; rw [← e]; exact HG.out))
        clear hrd hg4
        go_wp2_with fail
        refine (num_is HT3.out HD4.out (by simp)).mono ?_
        rintro e w5 ⟨rfl, hrd, hg5⟩
        have HD5 := Aside0.mk hrd
        have HB5 := Aside0.mk (pw_below_grown HB4.out (some g) HB4.out.size hg5 (fun k e => by injection e with e; rw [← e]; exact HG.out))
        have HB := Aside0.mk (below_step HB1.out HB5.out)
        clear hrd hg5
        go_wp2_with (first | (go_at_call 18; refine (left_calls _ _ _ _ _ _ HD5.out).mono ?_; rintro e w' ⟨rfl, rfl⟩) | (go_at_call 20; refine (ok_calls _ _ _ _ _ _ HD5.out).mono ?_; rintro e w' ⟨rfl, rfl⟩))
        go_ret
        exact ⟨rfl, HB.out⟩
end Go.Proofs.Ytidfaolepgpggaa.Oct
