/- Words of bytes and bytes of words: plain laws; no condition. -/
import Derived.Test.YtncbhlionllpmaaNtD
namespace Go.Proofs.Ytncbhlionllpmaa.Nt
open Go.RowKit Go.Proofs.YtncbhlionllpmaaW.PrintWords Go.Proofs.YtncbhlionllpmaaW.PrintLast Go.Proofs.YtncbhlionllpmaaW.PrintMore

theorem wraps_u32 (n : Int) (h0 : 0 ≤ n) (h1 : n < 2 ^ 32) : IntKind.u32.wrap n = n := by rw [IntKind.wrap_u32]; omega
theorem or_u32 {x y : Int} (h0 : 0 ≤ x) (h1 : x % 256 = 0) (h2 : x < 4294967296) (h3 : 0 ≤ y) (h4 : y < 256) : bits .or .u32 x y = x + y :=
  bits_join .u32 32 (by decide) wraps_u32 8 x y h0 h1 h2 h3 h4 (by omega)
/-- The first n bytes of a word. -/
def wordV (L : List Int) (q : Nat) : Nat → Int
  | 0 => 0
  | n + 1 => wordV L q n * 256 + L.getD (4 * q + n) 0
def Bytes (L : List Int) : Prop := ∀ i, 0 ≤ L.getD i 0 ∧ L.getD i 0 < 256
theorem bytes_all {L : List Int} (hl : L.length = 20) (hb : ∀ i < 20, 0 ≤ L.getD i 0 ∧ L.getD i 0 < 256) : Bytes L := fun i => by
  rcases Nat.lt_or_ge i 20 with h | h
  · exact hb i h
  · simp [List.getD, List.getElem?_eq_none (show L.length ≤ i by omega)]
theorem wordV_lt {L : List Int} (hb : Bytes L) (q : Nat) : ∀ n, 0 ≤ wordV L q n ∧ wordV L q n < 256 ^ n
  | 0 => ⟨Int.le_refl 0, (by decide : (0 : Int) < 256 ^ 0)⟩
  | n + 1 => by
    have ih := wordV_lt hb q n
    have h := hb (4 * q + n)
    unfold wordV
    rw [Int.pow_succ]
    omega
theorem getD_set {l : List Int} {i j : Nat} (x : Int) : (l.set i x).getD j 0 = if i = j ∧ j < l.length then x else l.getD j 0 := by
  simp only [List.getD, List.getElem?_set]
  by_cases h : i = j
  · subst h
    by_cases h2 : i < l.length
    · rw [if_pos rfl, if_pos h2, if_pos ⟨rfl, h2⟩]; rfl
    · rw [if_pos rfl, if_neg h2, if_neg (by omega), List.getElem?_eq_none (by omega)]
  · rw [if_neg h, if_neg (by omega)]
theorem wordsK_at {L : List Int} (hb : Bytes L) : ∀ k, k ≤ 20 → ∀ q < 5, (wordsK L k).getD q 0 = wordV L q (min 4 (k - 4 * q))
  | 0, _, q, hq => by
    rw [show min 4 (0 - 4 * q) = 0 from by omega]
    show ([0, 0, 0, 0, 0] : List Int).getD q 0 = 0
    have : q = 0 ∨ q = 1 ∨ q = 2 ∨ q = 3 ∨ q = 4 := by omega
    rcases this with rfl | rfl | rfl | rfl | rfl <;> rfl
  | k + 1, hk, q, hq => by
    have hlen := wordsK_length L k
    unfold wordsK
    rw [getD_set]
    by_cases h : k / 4 = q
    · rw [if_pos ⟨h, by omega⟩, h, wordsK_at hb k (by omega) q hq]
      obtain ⟨r, hr⟩ : ∃ r, k % 4 = r := ⟨_, rfl⟩
      have hkr : k = 4 * q + r := by omega
      have hr4 : r < 4 := by omega
      have e1 : min 4 (k - 4 * q) = r := by omega
      have e2 : min 4 (k + 1 - 4 * q) = r + 1 := by omega
      rw [e1, e2]
      have hv := wordV_lt hb q r
      have hle : (256 : Int) ^ r ≤ 16777216 := by
        have : r = 0 ∨ r = 1 ∨ r = 2 ∨ r = 3 := by omega
        rcases this with rfl | rfl | rfl | rfl <;> decide
      have hx := hb k
      have e3 : wordV L q r * 256 % 4294967296 = wordV L q r * 256 := by omega
      rw [e3, or_u32 (by omega) (by omega) (by omega) hx.1 hx.2]
      show _ = wordV L q r * 256 + L.getD (4 * q + r) 0
      rw [← hkr]
    · rw [if_neg (by omega), wordsK_at hb k (by omega) q hq]
      congr 1
      omega
theorem words_four {L : List Int} (hb : Bytes L) {q : Nat} (hq : q < 5) : (wordsK L 20).getD q 0 = wordV L q 4 := by
  rw [wordsK_at hb 20 (Nat.le_refl _) q hq, show min 4 (20 - 4 * q) = 4 from by omega]
theorem words_bound {L : List Int} (hb : Bytes L) : ∀ i < 5, 0 ≤ (wordsK L 20).getD i 0 ∧ (wordsK L 20).getD i 0 < 4294967296 := fun i hi => by
  rw [words_four hb hi]
  have h := wordV_lt hb i 4
  have e : (256 : Int) ^ 4 = 4294967296 := by decide
  omega
theorem four_bytes {a b c d : Int} (ha : 0 ≤ a ∧ a < 256) (hb : 0 ≤ b ∧ b < 256) (hc : 0 ≤ c ∧ c < 256) (hd : 0 ≤ d ∧ d < 256) :
    ((((0 * 256 + a) * 256 + b) * 256 + c) * 256 + d) / 2 ^ (24 - 0 * 8) % 256 = a ∧ ((((0 * 256 + a) * 256 + b) * 256 + c) * 256 + d) / 2 ^ (24 - 1 * 8) % 256 = b ∧
    ((((0 * 256 + a) * 256 + b) * 256 + c) * 256 + d) / 2 ^ (24 - 2 * 8) % 256 = c ∧ ((((0 * 256 + a) * 256 + b) * 256 + c) * 256 + d) / 2 ^ (24 - 3 * 8) % 256 = d := by
  have e0 : (2 : Int) ^ (24 - 0 * 8) = 16777216 := by decide
  have e1 : (2 : Int) ^ (24 - 1 * 8) = 65536 := by decide
  have e2 : (2 : Int) ^ (24 - 2 * 8) = 256 := by decide
  have e3 : (2 : Int) ^ (24 - 3 * 8) = 1 := by decide
  rw [e0, e1, e2, e3]
  omega
theorem byteAt_words {L : List Int} (hb : Bytes L) {k : Nat} (hk : k < 20) : byteAt (wordsK L 20) k = L.getD k 0 := by
  unfold byteAt
  rw [words_four hb (by omega)]
  obtain ⟨q, hq⟩ : ∃ q, k / 4 = q := ⟨_, rfl⟩
  obtain ⟨r, hr⟩ : ∃ r, k % 4 = r := ⟨_, rfl⟩
  have hkr : k = 4 * q + r := by omega
  rw [hq, hr, hkr]
  have h0 := hb (4 * q + 0)
  have h1 := hb (4 * q + 1)
  have h2 := hb (4 * q + 2)
  have h3 := hb (4 * q + 3)
  simp only [wordV]
  have hr4 : r = 0 ∨ r = 1 ∨ r = 2 ∨ r = 3 := by omega
  clear hkr hk hq hr hb
  have key := four_bytes h0 h1 h2 h3
  rcases hr4 with rfl | rfl | rfl | rfl
  · exact key.1
  · exact key.2.1
  · exact key.2.2.1
  · exact key.2.2.2
theorem bytesK_at (H : List Int) : ∀ k, k ≤ 20 → ∀ i, (bytesK H k).getD i 0 = if i < k then byteAt H i else 0
  | 0, _, i => by
    rw [if_neg (by omega)]
    exact zeros_at 20 i
  | k + 1, hk, i => by
    have hlen := bytesK_length H k
    unfold bytesK
    rw [getD_set, bytesK_at H k (by omega) i]
    by_cases h : k = i
    · subst h
      rw [if_pos ⟨rfl, by omega⟩, if_pos (by omega)]
    · rw [if_neg (by omega)]
      by_cases h2 : i < k
      · rw [if_pos h2, if_pos (by omega)]
      · rw [if_neg h2, if_neg (by omega)]
theorem list_ext {l m : List Int} (hl : l.length = m.length) (h : ∀ i < l.length, l.getD i 0 = m.getD i 0) : l = m := by
  refine List.ext_getElem hl fun i h1 h2 => ?_
  have := h i h1
  simpa [List.getD, h1, h2] using this
/-- The bytes of the words are the bytes. -/
theorem bytes_back {L : List Int} (hl : L.length = 20) (hb : Bytes L) : bytesK (wordsK L 20) 20 = L :=
  list_ext (by rw [bytesK_length, hl]) fun i hi => by
    rw [bytesK_length] at hi
    rw [bytesK_at _ 20 (Nat.le_refl _) i, if_pos hi, byteAt_words hb hi]
end Go.Proofs.Ytncbhlionllpmaa.Nt
