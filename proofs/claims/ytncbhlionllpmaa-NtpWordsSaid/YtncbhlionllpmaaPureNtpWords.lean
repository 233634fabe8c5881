/- NtpWords: a word with a digit behind it is sixteen times as much, and the digit, as long as it is short enough: the plain law; no condition. -/
import Derived.Test.YtncbhlionllpmaaPNtpWordsx1
import Derived.Test.YtncbhlionllpmaaNtW
namespace Go.Proofs.Ytncbhlionllpmaa.Pure
open Go.RowKit Go.Proofs.Ytncbhlionllpmaa.PNtpWords Go.Proofs.YtncbhlionllpmaaW.PrintWords Go.Proofs.YtncbhlionllpmaaW.PrintLast Nt

theorem w64 {x : Int} (h : -9223372036854775808 ≤ x ∧ x ≤ 9223372036854775807) : wrap64 x = x := by
  unfold wrap64; omega
/-- The digit's sign. -/
def sgn (d : Nat) : UInt8 := UInt8.ofNat (if d < 10 then 48 + d else 87 + d)
theorem sgn_digit {d : Nat} (h : d < 16) : digN (sgn d).toNat = some d := by
  have key : ∀ d : Fin 16, digN (sgn d.val).toNat = some d.val := by decide
  exact key ⟨d, h⟩
theorem sgn_cut {d : Nat} (h : d < 16) : ((⟨#[48, 49, 50, 51, 52, 53, 54, 55, 56, 57, 97, 98, 99, 100, 101, 102]⟩ : ByteArray).extract d (d + 1)).data.toList = [sgn d] := by
  rw [Lib.extract_data]
  have key : ∀ d : Fin 16, (([48, 49, 50, 51, 52, 53, 54, 55, 56, 57, 97, 98, 99, 100, 101, 102] : List UInt8).drop d.val).take (d.val + 1 - d.val) = [sgn d.val] := by decide
  exact key ⟨d, h⟩
theorem words_end (s c : ByteArray) (d : Nat) (hd : d < 16) (hc : c.data.toList = [sgn d]) :
    (if (wordN s).2 = true then (if (s.size : Int) = 8 then (if (wordN (s ++ c)).2 = true then (some false) else (some ((wordN (s ++ c)).1 == 0))) else (if (wordN (s ++ c)).2 = true then (some ((wordN (s ++ c)).1 == ((((16 * (wordN s).1) % 4294967296) + (((d : Nat) : Int) % 4294967296)) % 4294967296))) else (some false))) else (if (wordN s).1 = 0 then (some ((wordN (s ++ c)).2 == (s.toList == ([] : List UInt8)))) else (some false))) = some true := by
  have hcs : c.size = 1 := by rw [Lib.size_eq, hc]; rfl
  have hss := Lib.size_eq s
  have hz : (s ++ c).size = s.size + 1 := by rw [ByteArray.size_append, hcs]
  have happ : wordB (s ++ c).data.toList 0 = (wordB s.data.toList 0).map (fun m => m * 16 + d) := by
    rw [ByteArray.data_append, Array.toList_append, hc, wordB_app, sgn_digit hd]
    cases wordB s.data.toList 0 <;> rfl
  have h2 : wordN (s ++ c) = if 8 < s.size + 1 then (0, false) else digE ((wordB s.data.toList 0).map (fun m => m * 16 + d)) := by
    rw [wordN_B, hz, happ]
    by_cases h8 : 8 < s.size + 1
    · rw [if_pos (.inr h8), if_pos h8]
    · rw [if_neg (by omega), if_neg h8]
  have h1 := wordN_B s
  by_cases h0 : s.size = 0
  · have hnil : s.data.toList = [] := List.eq_nil_of_length_eq_zero (by omega)
    rw [if_pos (.inl h0)] at h1
    rw [if_neg (by omega), hnil] at h2
    rw [h1, h2, ByteArray.toList_eq, hnil]
    rfl
  have hne : (s.toList == ([] : List UInt8)) = false := beq_eq_false_iff_ne.mpr (fun e => h0 (by rw [hss, ← ByteArray.toList_eq, e]; rfl))
  rw [hne]
  by_cases h8 : 8 < s.size
  · rw [if_pos (.inr h8)] at h1
    rw [if_pos (by omega)] at h2
    rw [h1, h2]
    rfl
  rw [if_neg (by omega)] at h1
  cases hw : wordB s.data.toList 0 with
  | none =>
    rw [hw] at h1 h2
    have h3 : wordN (s ++ c) = (0, false) := by rw [h2]; split <;> rfl
    rw [h1, h3]
    rfl
  | some n =>
    rw [hw] at h1 h2
    have hlt := wordB_lt _ _ _ hw
    rw [h1]
    show (if true = true then _ else _) = _
    rw [if_pos rfl]
    by_cases hs8 : s.size = 8
    · rw [if_pos (by omega)] at h2
      rw [if_pos (by omega), h2]
      rfl
    · rw [if_neg (by omega)] at h2
      rw [if_neg (by omega), h2]
      show some (((n * 16 + d : Nat) : Int) == (((16 * (n : Int)) % 4294967296) + ((d : Int) % 4294967296)) % 4294967296) = some true
      have hle : 16 ^ s.data.toList.length ≤ 16 ^ 7 := Nat.pow_le_pow_right (by decide) (by omega)
      have hn7 : n < 268435456 := by
        have e7 : (16 : Nat) ^ 7 = 268435456 := by decide
        rw [e7] at hle
        omega
      have e : ((n * 16 + d : Nat) : Int) = (((16 * (n : Int)) % 4294967296) + ((d : Int) % 4294967296)) % 4294967296 := by omega
      rw [← e, beq_self_eq_true]
theorem NtpWords : epactlaw07_NtpWords.Pure := by
  intro s x1 _ _
  unfold epactlaw07_NtpWords.f epactlaw07_small.f
  simp only [Option.bind_some]
  by_cases h1 : (s.size : Int) > 100
  · exact ⟨1, by rw [if_pos h1, epactlaw07_NtpWords.j0, if_pos rfl]⟩
  by_cases h2 : x1 < 0
  · exact ⟨1, by rw [if_neg h1, if_pos h2, epactlaw07_NtpWords.j0, if_pos rfl]⟩
  by_cases h3 : x1 > 15
  · exact ⟨1, by rw [if_neg h1, if_neg h2, decide_eq_true h3, epactlaw07_NtpWords.j0, if_pos rfl]⟩
  obtain ⟨d, rfl⟩ := Int.eq_ofNat_of_zero_le (by omega : 0 ≤ x1)
  refine ⟨1, ?_⟩
  have e1 : wrap64 ((d : Int) + 1) = ((d + 1 : Nat) : Int) := by rw [w64 (by omega)]; omega
  rw [if_neg h1, if_neg h2, decide_eq_false h3, epactlaw07_NtpWords.j0, if_neg Bool.false_ne_true]
  unfold ntp_Word.f
  rw [e1, Option.bind_some, if_pos (by omega), if_pos (by omega), if_pos (by omega)]
  simp only [Int.toNat_natCast]
  obtain ⟨c, hc⟩ : ∃ c, (⟨#[48, 49, 50, 51, 52, 53, 54, 55, 56, 57, 97, 98, 99, 100, 101, 102]⟩ : ByteArray).extract d (d + 1) = c := ⟨_, rfl⟩
  have hcd := sgn_cut (d := d) (by omega)
  rw [hc] at hcd ⊢
  have hcs : c.size = 1 := by rw [Lib.size_eq, hcd]; rfl
  rw [if_pos (by omega), Option.bind_some]
  simp only [if_true]
  exact words_end s c d (by omega) hcd
end Go.Proofs.Ytncbhlionllpmaa.Pure
