/- The small functions that head.Decode calls; condition: the slice is read. -/
import Derived.Test.YthgghbmckpflcaaOctD
namespace Go.Proofs.Ythgghbmckpflcaa.Oct
open Go.RowKit Go.Proofs.YthgghbmckpflcaaW.PrintWords Go.Proofs.YthgghbmckpflcaaW.PrintLast Go.Proofs.YthgghbmckpflcaaW.PrintMore

def verS (c : Int) : Int := if c = 0 then 1 else if 50 ≤ c ∧ c ≤ 52 then c - 48 else 0
theorem version_calls (c : Int) (w : World) :
    Calls Try.prog 21 #[.int .i64 c] w fun e w' => e = .returned (.int .i64 (verS c)) ∧ w' = w := by
  by_cases h0 : c = 0
  · subst h0
    go_enter Try.func21, Try.ntmps21
    go_wp2
    go_ret
    exact ⟨rfl, rfl⟩
  · have b0 : (c == 0) = false := beq_eq_false_iff_ne.2 h0
    by_cases h1 : c ≥ 50
    · by_cases h2 : c ≤ 52
      · have hv : verS c = c - 48 := by unfold verS; rw [if_neg h0, if_pos ⟨h1, h2⟩]
        rw [hv]
        clear hv
        go_enter Try.func21, Try.ntmps21
        go_wp2
        go_ret
        exact ⟨by first | rfl | (congr 2; done) | (congr 2; go_num), rfl⟩
      · have hv : verS c = 0 := by unfold verS; rw [if_neg h0, if_neg (by omega)]
        rw [hv]
        clear hv
        go_enter Try.func21, Try.ntmps21
        go_wp2
        go_ret
        exact ⟨rfl, rfl⟩
    · have hv : verS c = 0 := by unfold verS; rw [if_neg h0, if_neg (by omega)]
      rw [hv]
      clear hv
      go_enter Try.func21, Try.ntmps21
      go_wp2
      go_ret
      exact ⟨rfl, rfl⟩
theorem used_calls (c : Int) (w : World) :
    Calls Try.prog 23 #[.int .u8 c] w fun e w' => e = .returned (.bool (c != 0)) ∧ w' = w := by
  go_enter Try.func23, Try.ntmps23
  go_wp2
  go_ret
  exact ⟨rfl, rfl⟩
/-- Where the first byte is that is not 0, counted from k. -/
def idxS : List Int → Int → Int
  | [], _ => -1
  | c :: r, k => if c != 0 then k else idxS r (k + 1)
theorem idxS_any : ∀ (l : List Int) (k : Int), 0 ≤ k → decide (idxS l k ≥ 0) = l.any (fun c => c != 0)
  | [], k, _ => rfl
  | c :: r, k, hk => by
    unfold idxS
    rw [List.any_cons]
    by_cases hc : (c != 0) = true
    · rw [if_pos hc, hc]; simpa using hk
    · rw [if_neg hc, idxS_any r (k + 1) (by omega)]; simp [hc]
set_option maxHeartbeats 1000000 in
theorem index_calls (A : Option Addr) (c : Nat) (l : List Int) (w : World) (hr : Kd.C (Kd.int .u8) w A l.length l) :
    Calls Try.prog 32 #[.slice A l.length c, .func (.func 23) #[] #[]] w fun e w' => e = .returned (.int .i64 (idxS l 0)) ∧ w' = w := by
  have HR := Aside0.mk hr
  have HM := Aside0.mk (Kd.C_max hr)
  clear hr
  go_enter Try.func32, Try.ntmps32
  go_wp2
  go_loop [8] (fun i => ∃ (k : Nat), k ≤ l.length ∧ i = .int .i64 k ∧ Aside0 (idxS (l.drop k) k = idxS l 0)) (fun i => l.length - (intOf i).toNat)
  case atStart => exact ⟨0, Nat.zero_le _, rfl, ⟨by simp⟩⟩
  case round =>
    obtain ⟨k, hk, rfl, HK⟩ := hrel
    have hmx : l.length ≤ 9223372036854775807 := HM.out
    by_cases hlt : k < l.length
    · obtain ⟨ad, rfl, hcell⟩ := Kd.at_int HR.out (k : Int) (by omega) (by omega)
      have hx : rd l (k : Int) = l[k] := by unfold rd; simp [List.getD, hlt]
      rw [hx, Int.toNat_natCast] at hcell
      have HD : Aside0 (l.drop k = l[k] :: l.drop (k + 1)) := ⟨List.drop_eq_getElem_cons hlt⟩
      generalize l[k] = x at *
      clear hx
      go_wp2_with fail
      refine (used_calls x _).mono ?_
      rintro e w1 ⟨rfl, rfl⟩
      by_cases hx0 : (x != 0) = true
      · have HI : Aside0 ((k : Int) = idxS l 0) := ⟨by rw [← HK.out, HD.out, idxS, if_pos hx0]⟩
        rw [hx0]
        clear hx0
        go_wp2
        go_ret
        exact ⟨by rw [← HI.out]; rfl, rfl⟩
      · have HI : Aside0 (idxS (l.drop (k + 1)) ((k : Int) + 1) = idxS l 0) := ⟨by rw [← HK.out, HD.out, idxS, if_neg hx0]⟩
        rw [Bool.eq_false_iff.mpr hx0]
        clear hx0
        go_wp2
        go_round
        case rel => exact ⟨k + 1, by omega, by go_num, ⟨by rw [← HI.out]; congr 1⟩⟩
        case measure => simp [intOf]; omega
    · have hke : k = l.length := by omega
      have HF : Aside0 ((-1 : Int) = idxS l 0) := ⟨by rw [← HK.out, List.drop_of_length_le (by omega)]; rfl⟩
      clear hke
      go_wp2
      go_ret
      exact ⟨by rw [← HF.out]; rfl, rfl⟩
theorem contains_calls (A : Option Addr) (c : Nat) (l : List Int) (w : World) (hr : Kd.C (Kd.int .u8) w A l.length l) :
    Calls Try.prog 25 #[.slice A l.length c, .func (.func 23) #[] #[]] w fun e w' => e = .returned (.bool (l.any (fun c => c != 0))) ∧ w' = w := by
  have HR := Aside0.mk hr
  clear hr
  go_enter Try.func25, Try.ntmps25
  go_wp2_with fail
  refine (index_calls A c l _ HR.out).mono ?_
  rintro e w1 ⟨rfl, rfl⟩
  have HI := Aside0.mk (idxS_any l 0 (Int.le_refl _))
  go_wp2
  go_ret
  exact ⟨by rw [← HI.out]; rfl, rfl⟩
end Go.Proofs.Ythgghbmckpflcaa.Oct
