/- Words of digits, byte by byte: plain laws; no condition. -/
import Derived.Test.YtncbhlionllpmaaNtF
namespace Go.Proofs.Ytncbhlionllpmaa.Nt
open Go.RowKit Go.Proofs.YtncbhlionllpmaaW.PrintWords Go.Proofs.YtncbhlionllpmaaW.PrintLast Go.Proofs.YtncbhlionllpmaaW.PrintMore

theorem get_at {s : ByteArray} {pos : Nat} (h : pos < s.size) : s.data.toList.drop pos = s.get! pos :: s.data.toList.drop (pos + 1) := by
  have h' : pos < s.data.toList.length := by rw [Array.length_toList]; exact h
  rw [List.drop_eq_getElem_cons h']
  congr 1
  have h2 : pos < s.data.size := h
  show _ = s.data[pos]!
  rw [getElem!_pos s.data pos h2, Array.getElem_toList]
theorem size_len (s : ByteArray) : s.data.toList.length = s.size := (Lib.size_eq s).symm
theorem digN_high {r : Nat} (h : 128 ≤ r) : digN r = none := by
  unfold digN
  rw [if_neg (by omega), if_neg (by omega), if_neg (by omega)]
/-- A word of digits, byte by byte. -/
def wordB : List UInt8 → Nat → Option Nat
  | [], n => some n
  | b :: r, n => match digN b.toNat with
    | some d => wordB r (n * 16 + d)
    | none => none
theorem rune_cases {t : ByteArray} {pos : Nat} : ((t.get! pos).toNat < 128 ∧ Utf8.decode t pos = ((t.get! pos).toNat, 1)) ∨ (128 ≤ (t.get! pos).toNat ∧ 128 ≤ (Utf8.decode t pos).1) := by
  have hd := Lib.decode_at t pos
  have h0 : (t.get! pos).toNat < 256 := UInt8.toNat_lt _
  have hcases := Lib.decodeN_shape (t.size - pos) (t.get! pos).toNat (t.get! (pos + 1)).toNat (t.get! (pos + 2)).toNat (t.get! (pos + 3)).toNat
  rcases Nat.lt_or_ge (t.get! pos).toNat 128 with hl | hl
  · left
    refine ⟨hl, ?_⟩
    rw [hd]
    unfold Lib.decodeN
    rw [if_pos hl]
  · right
    refine ⟨hl, ?_⟩
    rw [hd]
    rcases hcases with ⟨h1, he⟩ | ⟨h1, h2, h3, h4, he⟩ | ⟨h1, h2, h3, h3', h4, h5, he⟩ | ⟨h1, h2, h3, h3', h3'', h4, h5, he⟩ | he <;> rw [he] <;> simp only <;> omega
theorem wordG_B (s : ByteArray) : ∀ (f pos n : Nat), s.size ≤ pos + f → wordG s f pos n = wordB (s.data.toList.drop pos) n
  | 0, pos, n, h => by
    rw [List.drop_of_length_le (by rw [size_len]; omega)]
    rfl
  | f + 1, pos, n, h => by
    unfold wordG
    by_cases hp : pos < s.size
    · rw [if_pos hp, get_at hp]
      rcases rune_cases (t := s) (pos := pos) with ⟨_, he⟩ | ⟨hb, hr⟩
      · rw [he]
        show (match digN (s.get! pos).toNat with | some d => wordG s f (pos + 1) (n * 16 + d) | none => none) = (match digN (s.get! pos).toNat with | some d => wordB _ (n * 16 + d) | none => none)
        cases digN (s.get! pos).toNat with
        | none => rfl
        | some d => exact wordG_B s f (pos + 1) _ (by omega)
      · rw [digN_high hr]
        show none = (match digN (s.get! pos).toNat with | some d => wordB _ (n * 16 + d) | none => none)
        rw [digN_high hb]
    · rw [if_neg hp, List.drop_of_length_le (by rw [size_len]; omega)]
      rfl
theorem wordN_B (s : ByteArray) : wordN s = if s.size = 0 ∨ 8 < s.size then (0, false) else digE (wordB s.data.toList 0) := by
  unfold wordN
  rw [wordG_B s s.size 0 0 (by omega), List.drop_zero]
theorem wordB_app : ∀ (l : List UInt8) (c : UInt8) (n : Nat), wordB (l ++ [c]) n = (wordB l n).bind (fun m => (digN c.toNat).map (fun d => m * 16 + d))
  | [], c, n => by
    show (match digN c.toNat with | some d => some (n * 16 + d) | none => none) = (digN c.toNat).map _
    cases digN c.toNat <;> rfl
  | b :: l, c, n => by
    show (match digN b.toNat with | some d => wordB (l ++ [c]) (n * 16 + d) | none => none) = (match digN b.toNat with | some d => wordB l (n * 16 + d) | none => none).bind _
    cases digN b.toNat with
    | none => rfl
    | some d => exact wordB_app l c _
theorem wordB_lt : ∀ (l : List UInt8) (n m : Nat), wordB l n = some m → m < (n + 1) * 16 ^ l.length
  | [], n, m, h => by
    have : n = m := Option.some.inj h
    rw [List.length_nil, Nat.pow_zero]; omega
  | b :: l, n, m, h => by
    have h2 : (match digN b.toNat with | some d => wordB l (n * 16 + d) | none => none) = some m := h
    cases hd : digN b.toNat with
    | none => rw [hd] at h2; cases h2
    | some d =>
      rw [hd] at h2
      have h3 := wordB_lt l _ m h2
      have h4 := digN_lt hd
      rw [List.length_cons, Nat.pow_succ]
      refine Nat.lt_of_lt_of_le h3 ?_
      have h5 : (n * 16 + d + 1) ≤ (n + 1) * 16 := by omega
      calc (n * 16 + d + 1) * 16 ^ l.length ≤ ((n + 1) * 16) * 16 ^ l.length := Nat.mul_le_mul_right _ h5
        _ = (n + 1) * (16 ^ l.length * 16) := by rw [Nat.mul_assoc, Nat.mul_comm 16]
end Go.Proofs.Ytncbhlionllpmaa.Nt
