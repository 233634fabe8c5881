/- NtpBack: seconds of both epochs are each other's, and later ones later: the plain law; no condition. -/
import Derived.Test.YtncbhlionllpmaaPNtpBackx1
namespace Go.Proofs.Ytncbhlionllpmaa.Pure
open Go.RowKit Go.Proofs.Ytncbhlionllpmaa.PNtpBack Go.Proofs.YtncbhlionllpmaaW.PrintWords Go.Proofs.YtncbhlionllpmaaW.PrintLast

theorem w64 {x : Int} (h : -9223372036854775808 ≤ x ∧ x ≤ 9223372036854775807) : wrap64 x = x := by
  unfold wrap64; omega
theorem posix_lo {n : Int} (h : n < 0) : ntp_Posix.f n = some (0, false) := by
  unfold ntp_Posix.f
  rw [if_pos h]
theorem posix_hi {n : Int} (h : 0 ≤ n) (h2 : n ≤ 9223372036854775807) : ntp_Posix.f n = some (n - 2208988800, true) := by
  unfold ntp_Posix.f num_Sub.f
  rw [if_neg (by omega), w64 (by omega), decide_eq_true (show n - 2208988800 < n by omega), if_neg (by decide)]
  rfl
theorem ntp_far {p : Int} (h : 9223372034645787007 < p) (h2 : p ≤ 9223372036854775807) : ntp_Ntp.f p = some (0, false) := by
  unfold ntp_Ntp.f num_Add.f
  have e : wrap64 (p + 2208988800) = p + 2208988800 - 18446744073709551616 := by unfold wrap64; omega
  rw [e, decide_eq_false (show ¬ (p + 2208988800 - 18446744073709551616 > p) by omega), if_pos (by decide), if_neg (by decide)]
  rfl
theorem ntp_near {p : Int} (h : p ≤ 9223372034645787007) (h2 : -9223372036854775808 ≤ p) : ntp_Ntp.f p = if p + 2208988800 < 0 then some (0, false) else some (p + 2208988800, true) := by
  unfold ntp_Ntp.f num_Add.f
  rw [w64 (by omega), decide_eq_true (show p + 2208988800 > p by omega), if_neg (by decide)]
  rfl
theorem ntp_some (p : Int) (h : -9223372036854775808 ≤ p ∧ p ≤ 9223372036854775807) : ∃ r, ntp_Ntp.f p = some r ∧ (r.2 = true → r.1 = p + 2208988800 ∧ 0 ≤ r.1 ∧ r.1 ≤ 9223372036854775807) := by
  by_cases h1 : p ≤ 9223372034645787007
  · rw [ntp_near h1 h.1]
    by_cases h2 : p + 2208988800 < 0
    · rw [if_pos h2]; exact ⟨_, rfl, fun e => by cases e⟩
    · rw [if_neg h2]; exact ⟨_, rfl, fun _ => ⟨rfl, by simp only; omega, by simp only; omega⟩⟩
  · rw [ntp_far (by omega) h.2]; exact ⟨_, rfl, fun e => by cases e⟩
/-- What is left of the law behind the first case. -/
theorem back_rest (k : Nat) {n m x6 : Int} {x7 : Bool} (hn : -9223372036854775808 ≤ n ∧ n ≤ 9223372036854775807) (hm : -9223372036854775808 ≤ m ∧ m ≤ 9223372036854775807) (h7 : x7 = decide (n ≥ 0)) (h6 : x7 = true → x6 = n - 2208988800) :
    epactlaw07_NtpBack.j0 (k + 1) n m true x6 x7 = some true := by
  have tail : ((ntp_Posix.f m).bind fun bt114 => (if true = true then (if (x7 == (decide (n ≥ 0))) = true then (if x7 = true then (if bt114.2 = true then (some ((decide (x6 < bt114.1)) == (decide (n < m)))) else (some true)) else (some true)) else (some false)) else (some false))) = some true := by
    rw [← h7]
    simp only [beq_self_eq_true, if_true]
    by_cases hm0 : m < 0
    · rw [posix_lo hm0]
      cases x7 <;> rfl
    · rw [posix_hi (by omega) hm.2]
      cases x7 with
      | false => rfl
      | true =>
        rw [h6 rfl]
        simp only [Option.bind_some, if_true]
        have e : decide (n - 2208988800 < m - 2208988800) = decide (n < m) := decide_eq_decide.2 (by omega)
        rw [e, beq_self_eq_true]
  rw [epactlaw07_NtpBack.j0]
  obtain ⟨r, hr, hr2⟩ := ntp_some n hn
  rw [hr, Option.bind_some]
  by_cases hb : r.2 = true
  · obtain ⟨e1, e2, e3⟩ := hr2 hb
    rw [if_pos hb, posix_hi e2 e3, Option.bind_some, if_pos rfl, if_pos (by simp only; omega)]
    exact tail
  · rw [if_neg hb]
    exact tail
theorem NtpBack : epactlaw07_NtpBack.Pure := by
  intro n m w0 w1
  have hn : -9223372036854775808 ≤ n ∧ n ≤ 9223372036854775807 := by
    simp [Lit.wf, IntKind.min, IntKind.max, IntKind.signed, IntKind.bits] at w0
    omega
  have hm : -9223372036854775808 ≤ m ∧ m ≤ 9223372036854775807 := by
    simp [Lit.wf, IntKind.min, IntKind.max, IntKind.signed, IntKind.bits] at w1
    omega
  refine ⟨1, ?_⟩
  unfold epactlaw07_NtpBack.f epactlaw07_small.f
  rw [Option.bind_some]
  by_cases h0 : n < 0
  · rw [posix_lo h0, Option.bind_some, if_neg (by decide)]
    exact back_rest 0 hn hm (by rw [decide_eq_false (by omega)]) (fun e => by cases e)
  · rw [posix_hi (by omega) hn.2, Option.bind_some, if_pos rfl]
    have e : ntp_Ntp.f (n - 2208988800) = some (n, true) := by
      rw [ntp_near (by omega) (by omega), if_neg (by omega)]
      congr 2
      omega
    rw [e, Option.bind_some, if_pos rfl, if_pos rfl]
    exact back_rest 0 hn hm (by rw [decide_eq_true (by omega)]) (fun _ => rfl)
end Go.Proofs.Ytncbhlionllpmaa.Pure
