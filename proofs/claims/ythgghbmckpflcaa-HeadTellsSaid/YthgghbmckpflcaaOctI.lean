/- Put and Num of the document; condition: the state is as told, the bytes have room. -/
import Derived.Test.YthgghbmckpflcaaOctF
import Derived.Test.YthgghbmckpflcaaOctH
import Derived.Test.YthgghbmckpflcaaOctE
namespace Go.Proofs.Ythgghbmckpflcaa.Oct.Ref
open Go.RowKit Go.Proofs.YthgghbmckpflcaaW.PrintWords Go.Proofs.YthgghbmckpflcaaW.PrintLast Go.Proofs.YthgghbmckpflcaaW.PrintMore Go.Proofs.Ythgghbmckpflcaa.Oct

/-- What the loop over the bytes makes of a number of 64 bits without a sign. -/
def numU : Int → List Int → Int
  | n, [] => n
  | n, c :: r => numU (Go.bits .or .u64 (IntKind.u64.wrap (n * 256)) (IntKind.u64.wrap c)) r
def finU (size n : Int) : Int := if size = 4 then wrap64 (wrap32 (n % 4294967296)) else wrap64 n
def numS (l : List Int) (bad : Bool) (size : Int) : Int × List Int × Bool := (finU (sizeS size) (numU 0 (takeS l bad (sizeS size)).1), (takeS l bad (sizeS size)).2)

set_option maxHeartbeats 2000000 in
theorem num_any (B N : Nat) (W : World) (g : Nat) (l : List Int) (bad : Bool) (size sz : Int) (h : Rd 58 B N W g l bad) (hl : l.length ≤ 140737488355328) (hs : (sizeB size = true ∧ sz = size) ∨ (sizeB size = false ∧ sz = -1)) (bs l2 : List Int) (b2 : Bool) (ht : takeS l bad sz = (bs, l2, b2)) :
    Calls Try.prog 27 #[.pointer (some ⟨g, 0, none⟩), .int .i64 size] W fun e w' => e = .returned (.int .i64 (finU sz (numU 0 bs))) ∧ Rd 58 B N w' g l2 b2 ∧ W.grownBy w' (some g) := by
  have H := Aside0.mk h
  have HL := Aside0.mk hl
  have HT := Aside0.mk ht
  have HE := Aside0.mk (show (size = 1 ∧ sz = 1) ∨ (size = 4 ∧ sz = 4) ∨ (size = 8 ∧ sz = 8) ∨ (size ≠ 1 ∧ size ≠ 4 ∧ size ≠ 8 ∧ sz = -1) by
    unfold sizeB at hs; simp only [decide_eq_true_eq, decide_eq_false_iff_not] at hs; omega)
  clear h hl ht hs
  rcases HE.out with ⟨rfl, rfl⟩ | ⟨rfl, rfl⟩ | ⟨rfl, rfl⟩ | ⟨n1, n4, n8, rfl⟩
  all_goals clear HE
  · go_enter Try.func27, Try.ntmps27
    go_wp2_with fail
    refine (take_calls B N _ g l bad (1) H.out HL.out).mono ?_
    rintro e w1 ⟨v, rfl, hv, hrd, hgr⟩
    rw [HT.out] at hv hrd
    obtain ⟨A1, c1, rfl, hc1, hr1⟩ := Kd.R_reads hv
    have HRD := Aside0.mk hrd
    have HGR := Aside0.mk hgr
    have HR1 := Aside0.mk hr1
    clear hv hrd hgr hc1 hr1
    go_wp2
    go_loop [6, 7] (fun n i => ∃ (k : Nat) (m : Int), k ≤ bs.length ∧ i = .int .i64 k ∧ n = .int .u64 m ∧ Aside0 (numU m (bs.drop k) = numU 0 bs)) (fun _ i => bs.length - (intOf i).toNat)
    case atStart => exact ⟨0, 0, Nat.zero_le _, rfl, rfl, ⟨by simp⟩⟩
    case round =>
      obtain ⟨k, m, hk, rfl, rfl, HK⟩ := hrel
      have hmx : bs.length ≤ 9223372036854775807 := Kd.C_max HR1.out
      by_cases hlt : k < bs.length
      · obtain ⟨ad, rfl, hcell⟩ := Kd.at_int HR1.out (k : Int) (by omega) (by omega)
        have hx : rd bs (k : Int) = bs[k] := by unfold rd; simp [List.getD, hlt]
        rw [hx, Int.toNat_natCast] at hcell
        have HD : Aside0 (bs.drop k = bs[k] :: bs.drop (k + 1)) := ⟨List.drop_eq_getElem_cons hlt⟩
        generalize bs[k] = c at *
        clear hx
        go_wp2
        go_round
        case rel => exact ⟨k + 1, _, by omega, by go_num, rfl, ⟨by rw [← HK.out, HD.out]; rfl⟩⟩
        case measure => simp [intOf]; omega
      · have hke : k = bs.length := by omega
        have HF : Aside0 (m = numU 0 bs) := ⟨by rw [← HK.out, List.drop_of_length_le (by omega)]; rfl⟩
        clear hke
        go_wp2
        go_ret
        exact ⟨by rw [← HF.out]; rfl, HRD.out, HGR.out⟩
  · go_enter Try.func27, Try.ntmps27
    go_wp2_with fail
    refine (take_calls B N _ g l bad (4) H.out HL.out).mono ?_
    rintro e w1 ⟨v, rfl, hv, hrd, hgr⟩
    rw [HT.out] at hv hrd
    obtain ⟨A1, c1, rfl, hc1, hr1⟩ := Kd.R_reads hv
    have HRD := Aside0.mk hrd
    have HGR := Aside0.mk hgr
    have HR1 := Aside0.mk hr1
    clear hv hrd hgr hc1 hr1
    go_wp2
    go_loop [6, 7] (fun n i => ∃ (k : Nat) (m : Int), k ≤ bs.length ∧ i = .int .i64 k ∧ n = .int .u64 m ∧ Aside0 (numU m (bs.drop k) = numU 0 bs)) (fun _ i => bs.length - (intOf i).toNat)
    case atStart => exact ⟨0, 0, Nat.zero_le _, rfl, rfl, ⟨by simp⟩⟩
    case round =>
      obtain ⟨k, m, hk, rfl, rfl, HK⟩ := hrel
      have hmx : bs.length ≤ 9223372036854775807 := Kd.C_max HR1.out
      by_cases hlt : k < bs.length
      · obtain ⟨ad, rfl, hcell⟩ := Kd.at_int HR1.out (k : Int) (by omega) (by omega)
        have hx : rd bs (k : Int) = bs[k] := by unfold rd; simp [List.getD, hlt]
        rw [hx, Int.toNat_natCast] at hcell
        have HD : Aside0 (bs.drop k = bs[k] :: bs.drop (k + 1)) := ⟨List.drop_eq_getElem_cons hlt⟩
        generalize bs[k] = c at *
        clear hx
        go_wp2
        go_round
        case rel => exact ⟨k + 1, _, by omega, by go_num, rfl, ⟨by rw [← HK.out, HD.out]; rfl⟩⟩
        case measure => simp [intOf]; omega
      · have hke : k = bs.length := by omega
        have HF : Aside0 (m = numU 0 bs) := ⟨by rw [← HK.out, List.drop_of_length_le (by omega)]; rfl⟩
        clear hke
        go_wp2
        go_ret
        exact ⟨by rw [← HF.out]; rfl, HRD.out, HGR.out⟩
  · go_enter Try.func27, Try.ntmps27
    go_wp2_with fail
    refine (take_calls B N _ g l bad (8) H.out HL.out).mono ?_
    rintro e w1 ⟨v, rfl, hv, hrd, hgr⟩
    rw [HT.out] at hv hrd
    obtain ⟨A1, c1, rfl, hc1, hr1⟩ := Kd.R_reads hv
    have HRD := Aside0.mk hrd
    have HGR := Aside0.mk hgr
    have HR1 := Aside0.mk hr1
    clear hv hrd hgr hc1 hr1
    go_wp2
    go_loop [6, 7] (fun n i => ∃ (k : Nat) (m : Int), k ≤ bs.length ∧ i = .int .i64 k ∧ n = .int .u64 m ∧ Aside0 (numU m (bs.drop k) = numU 0 bs)) (fun _ i => bs.length - (intOf i).toNat)
    case atStart => exact ⟨0, 0, Nat.zero_le _, rfl, rfl, ⟨by simp⟩⟩
    case round =>
      obtain ⟨k, m, hk, rfl, rfl, HK⟩ := hrel
      have hmx : bs.length ≤ 9223372036854775807 := Kd.C_max HR1.out
      by_cases hlt : k < bs.length
      · obtain ⟨ad, rfl, hcell⟩ := Kd.at_int HR1.out (k : Int) (by omega) (by omega)
        have hx : rd bs (k : Int) = bs[k] := by unfold rd; simp [List.getD, hlt]
        rw [hx, Int.toNat_natCast] at hcell
        have HD : Aside0 (bs.drop k = bs[k] :: bs.drop (k + 1)) := ⟨List.drop_eq_getElem_cons hlt⟩
        generalize bs[k] = c at *
        clear hx
        go_wp2
        go_round
        case rel => exact ⟨k + 1, _, by omega, by go_num, rfl, ⟨by rw [← HK.out, HD.out]; rfl⟩⟩
        case measure => simp [intOf]; omega
      · have hke : k = bs.length := by omega
        have HF : Aside0 (m = numU 0 bs) := ⟨by rw [← HK.out, List.drop_of_length_le (by omega)]; rfl⟩
        clear hke
        go_wp2
        go_ret
        exact ⟨by rw [← HF.out]; rfl, HRD.out, HGR.out⟩
  · have b1 : (size != 1) = true := bne_iff_ne.2 n1
    have b4 : (size != 4) = true := bne_iff_ne.2 n4
    have b8 : (size != 8) = true := bne_iff_ne.2 n8
    clear n1 n4 n8
    go_enter Try.func27, Try.ntmps27
    go_wp2_with fail
    refine (take_calls B N _ g l bad (-1) H.out HL.out).mono ?_
    rintro e w1 ⟨v, rfl, hv, hrd, hgr⟩
    rw [HT.out] at hv hrd
    obtain ⟨A1, c1, rfl, hc1, hr1⟩ := Kd.R_reads hv
    have HRD := Aside0.mk hrd
    have HGR := Aside0.mk hgr
    have HR1 := Aside0.mk hr1
    clear hv hrd hgr hc1 hr1
    go_wp2
    go_loop [6, 7] (fun n i => ∃ (k : Nat) (m : Int), k ≤ bs.length ∧ i = .int .i64 k ∧ n = .int .u64 m ∧ Aside0 (numU m (bs.drop k) = numU 0 bs)) (fun _ i => bs.length - (intOf i).toNat)
    case atStart => exact ⟨0, 0, Nat.zero_le _, rfl, rfl, ⟨by simp⟩⟩
    case round =>
      obtain ⟨k, m, hk, rfl, rfl, HK⟩ := hrel
      have hmx : bs.length ≤ 9223372036854775807 := Kd.C_max HR1.out
      by_cases hlt : k < bs.length
      · obtain ⟨ad, rfl, hcell⟩ := Kd.at_int HR1.out (k : Int) (by omega) (by omega)
        have hx : rd bs (k : Int) = bs[k] := by unfold rd; simp [List.getD, hlt]
        rw [hx, Int.toNat_natCast] at hcell
        have HD : Aside0 (bs.drop k = bs[k] :: bs.drop (k + 1)) := ⟨List.drop_eq_getElem_cons hlt⟩
        generalize bs[k] = c at *
        clear hx
        go_wp2
        go_round
        case rel => exact ⟨k + 1, _, by omega, by go_num, rfl, ⟨by rw [← HK.out, HD.out]; rfl⟩⟩
        case measure => simp [intOf]; omega
      · have hke : k = bs.length := by omega
        have HF : Aside0 (m = numU 0 bs) := ⟨by rw [← HK.out, List.drop_of_length_le (by omega)]; rfl⟩
        clear hke
        go_wp2
        go_ret
        exact ⟨by rw [← HF.out]; rfl, HRD.out, HGR.out⟩
theorem num_calls (B N : Nat) (W : World) (g : Nat) (l : List Int) (bad : Bool) (size : Int) (h : Rd 58 B N W g l bad) (hl : l.length ≤ 140737488355328) :
    Calls Try.prog 27 #[.pointer (some ⟨g, 0, none⟩), .int .i64 size] W fun e w' => e = .returned (.int .i64 (numS l bad size).1) ∧ Rd 58 B N w' g (numS l bad size).2.1 (numS l bad size).2.2 ∧ W.grownBy w' (some g) := by
  unfold numS
  refine num_any B N W g l bad size (sizeS size) h hl ?_ _ _ _ rfl
  unfold sizeS
  by_cases hs : sizeB size = true
  · rw [if_pos hs]; exact Or.inl ⟨hs, rfl⟩
  · rw [if_neg hs]; exact Or.inr ⟨Bool.eq_false_iff.mpr hs, rfl⟩
end Go.Proofs.Ythgghbmckpflcaa.Oct.Ref
