/- The program's reader: Num; condition: the state is as told. -/
import Derived.Test.YthgghbmckpflcaaOctD
import Derived.Deep.LoopGhost
namespace Go.Proofs.Ythgghbmckpflcaa.Oct
open Go.RowKit Go.Proofs.YthgghbmckpflcaaW.PrintWords Go.Proofs.YthgghbmckpflcaaW.PrintLast Go.Proofs.YthgghbmckpflcaaW.PrintMore

/-- What the loop over the bytes makes of a number. -/
def numL (size : Int) : Bool → Int → List Int → Int
  | _, n, [] => n
  | first, n, c :: r => numL size false (if first = true ∧ size = 4 then wrap64 (IntKind.i8.wrap c) else Go.bits .or .i64 (wrap64 (n * 256)) (wrap64 c)) r
def sizeS (size : Int) : Int := if sizeB size = true then size else -1
def numS (l : List Int) (bad : Bool) (size : Int) : Int × List Int × Bool := (numL (sizeS size) true 0 (takeS l bad (sizeS size)).1, (takeS l bad (sizeS size)).2)

set_option maxHeartbeats 2000000 in
theorem num_good (B N : Nat) (W : World) (g : Nat) (l : List Int) (bad : Bool) (size : Int) (h : Rd 53 B N W g l bad) (hl : l.length ≤ 140737488355328) (hs : sizeB size = true) (bs l2 : List Int) (b2 : Bool) (ht : takeS l bad size = (bs, l2, b2)) :
    Calls Try.prog 22 #[.pointer (some ⟨g, 0, none⟩), .int .i64 size] W fun e w' => e = .returned (.int .i64 (numL size true 0 bs)) ∧ Rd 53 B N w' g l2 b2 ∧ W.grownBy w' (some g) := by
  have H := Aside0.mk h
  have HL := Aside0.mk hl
  have HS := Aside0.mk hs
  have HT := Aside0.mk ht
  clear h hl hs ht
  go_enter Try.func22, Try.ntmps22
  go_wp2_with fail
  refine (may0_calls W size).mono ?_
  rintro e w1 ⟨rfl, rfl⟩
  rw [HS.out]
  go_wp2_with fail
  refine (take_calls B N _ g l bad size H.out HL.out).mono ?_
  rintro e w1 ⟨v, rfl, hv, hrd, hgr⟩
  rw [HT.out] at hv hrd
  obtain ⟨A1, c1, rfl, hc1, hr1⟩ := Kd.R_reads hv
  have HRD := Aside0.mk hrd
  have HGR := Aside0.mk hgr
  have HR1 := Aside0.mk hr1
  clear hv hrd hgr hc1 hr1
  go_wp2
  go_loop [4, 14] (fun n i => ∃ (k : Nat) (m : Int), k ≤ bs.length ∧ i = .int .i64 k ∧ n = .int .i64 m ∧ Aside0 (numL size (decide (k = 0)) m (bs.drop k) = numL size true 0 bs)) (fun _ i => bs.length - (intOf i).toNat)
  case atStart => exact ⟨0, 0, Nat.zero_le _, rfl, rfl, ⟨by simp⟩⟩
  case round =>
    obtain ⟨k, m, hk, rfl, rfl, HK⟩ := hrel
    have hmx : bs.length ≤ 9223372036854775807 := Kd.C_max HR1.out
    by_cases hlt : k < bs.length
    · obtain ⟨ad, rfl, hcell⟩ := Kd.at_int HR1.out (k : Int) (by omega) (by omega)
      have hx : rd bs (k : Int) = bs[k] := by unfold rd; simp [List.getD, hlt]
      rw [hx, Int.toNat_natCast] at hcell
      have HD : Aside0 (bs.drop k = bs[k] :: bs.drop (k + 1)) := ⟨List.drop_eq_getElem_cons hlt⟩
      generalize bs[k] = c at *
      clear hx
      by_cases hk0 : k = 0
      · subst hk0
        rw [Addr.add_zero'] at hcell
        by_cases h4 : size = 4
        · subst h4
          go_wp2
          go_round
          case rel => exact ⟨1, wrap64 (IntKind.i8.wrap c), by omega, rfl, rfl, ⟨by rw [← HK.out, HD.out]; rfl⟩⟩
          case measure => simp [intOf]; omega
        · have b4 : (size == 4) = false := beq_eq_false_iff_ne.2 h4
          have H4 := Aside0.mk h4
          clear h4
          go_wp2
          go_round
          case rel => exact ⟨1, _, by omega, rfl, rfl, ⟨by rw [← HK.out, HD.out]; simp [numL, H4.out]⟩⟩
          case measure => simp [intOf]; omega
      · have b0 : ((k : Int) == 0) = false := beq_eq_false_iff_ne.2 (by omega)
        have H0 := Aside0.mk hk0
        clear hk0
        go_wp2
        go_round
        case rel => exact ⟨k + 1, _, by omega, by go_num, rfl, ⟨by rw [← HK.out, HD.out]; simp [numL, H0.out]⟩⟩
        case measure => simp [intOf]; omega
    · have hke : k = bs.length := by omega
      have HF : Aside0 (m = numL size true 0 bs) := ⟨by rw [← HK.out, List.drop_of_length_le (by omega)]; rfl⟩
      clear hke
      go_wp2
      go_ret
      exact ⟨by rw [← HF.out]; rfl, HRD.out, HGR.out⟩

theorem takeS_neg (l : List Int) (bad : Bool) : takeS l bad (-1) = ([], [], true) := if_pos (by omega)
set_option maxHeartbeats 2000000 in
theorem num_none (B N : Nat) (W : World) (g : Nat) (l : List Int) (bad : Bool) (size : Int) (h : Rd 53 B N W g l bad) (hl : l.length ≤ 140737488355328) (hs : sizeB size = false) :
    Calls Try.prog 22 #[.pointer (some ⟨g, 0, none⟩), .int .i64 size] W fun e w' => e = .returned (.int .i64 0) ∧ Rd 53 B N w' g [] true ∧ W.grownBy w' (some g) := by
  have H := Aside0.mk h
  have HL := Aside0.mk hl
  have HS := Aside0.mk hs
  have HT := Aside0.mk (takeS_neg l bad)
  clear h hl hs
  go_enter Try.func22, Try.ntmps22
  go_wp2_with fail
  refine (may0_calls W size).mono ?_
  rintro e w1 ⟨rfl, rfl⟩
  rw [HS.out]
  go_wp2_with fail
  refine (take_calls B N _ g l bad (-1) H.out HL.out).mono ?_
  rintro e w1 ⟨v, rfl, hv, hrd, hgr⟩
  rw [HT.out] at hv hrd
  obtain ⟨A1, c1, rfl, hc1, hr1⟩ := Kd.R_reads hv
  have HRD := Aside0.mk hrd
  have HGR := Aside0.mk hgr
  clear hv hrd hgr hc1 hr1
  go_wp2
  go_loop [4, 14] (fun n i => i = .int .i64 0 ∧ n = .int .i64 0) (fun _ i => (intOf i).toNat)
  case atStart => exact ⟨rfl, rfl⟩
  case round =>
    obtain ⟨rfl, rfl⟩ := hrel
    go_wp2
    go_ret
    exact ⟨rfl, HRD.out, HGR.out⟩
theorem num_calls (B N : Nat) (W : World) (g : Nat) (l : List Int) (bad : Bool) (size : Int) (h : Rd 53 B N W g l bad) (hl : l.length ≤ 140737488355328) :
    Calls Try.prog 22 #[.pointer (some ⟨g, 0, none⟩), .int .i64 size] W fun e w' => e = .returned (.int .i64 (numS l bad size).1) ∧ Rd 53 B N w' g (numS l bad size).2.1 (numS l bad size).2.2 ∧ W.grownBy w' (some g) := by
  unfold numS sizeS
  by_cases hs : sizeB size = true
  · rw [if_pos hs]
    exact num_good B N W g l bad size h hl hs _ _ _ rfl
  · have hs' : sizeB size = false := Bool.eq_false_iff.mpr hs
    rw [if_neg hs, takeS_neg]
    exact num_none B N W g l bad size h hl hs'
end Go.Proofs.Ythgghbmckpflcaa.Oct
