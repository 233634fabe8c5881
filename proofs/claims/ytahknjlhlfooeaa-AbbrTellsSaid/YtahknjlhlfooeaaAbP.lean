/- abbr: plain laws on what stands at a place; no condition. -/
import Derived.Test.YtahknjlhlfooeaaAbS
namespace Go.Proofs.Ytahknjlhlfooeaa.Ab
open Go.RowKit Go.Proofs.YtahknjlhlfooeaaW.PrintWords Go.Proofs.YtahknjlhlfooeaaW.PrintLast Go.Proofs.YtahknjlhlfooeaaW.PrintMore

theorem ext_get (s : ByteArray) (a k : Nat) : (s.extract a s.size).data.toList[k]? = s.data[a + k]? := by
  rw [ByteArray.data_extract, Array.getElem?_toList, Array.getElem?_extract]
  split
  · rfl
  · rename_i h
    rw [Array.getElem?_eq_none]
    have : s.data.size = s.size := rfl
    omega
theorem get_lt {s : ByteArray} {k : Nat} {x : UInt8} (h : s.data[k]? = some x) : k < s.size := by
  by_cases hk : k < s.data.size
  · exact hk
  · rw [Array.getElem?_eq_none (by omega)] at h; cases h
def atR (s : ByteArray) : ByteArray × Bool := match rightN s with
  | true => (s, true)
  | false => (⟨#[]⟩, false)
theorem at_hit {pool : ByteArray} {a i : Nat} (h0 : pool.data[a + i]? = some 0) (hn : ∀ j < i, pool.data[a + j]? ≠ some 0) : atN pool (a : Int) = atR (pool.extract a (a + i)) := by
  have hlt := get_lt h0
  unfold atN
  rw [decide_eq_true (by omega)]
  simp only [Int.toNat_natCast]
  rcases index_cases (pool.extract a pool.size).data.toList with ⟨_, h2⟩ | ⟨i', h1, _, h3, h4⟩
  · exact absurd (by rw [ext_get]; exact h0) (h2 i)
  · rw [ext_get] at h3
    have hi : i' = i := by
      rcases Nat.lt_trichotomy i' i with hl | hl | hl
      · exact absurd h3 (hn i' hl)
      · exact hl
      · exact absurd (by rw [ext_get]; exact h0) (h4 i hl)
    subst hi
    rw [h1]
    show atR ((pool.extract a pool.size).extract 0 i') = _
    rw [ByteArray.extract_extract, Nat.add_zero, Nat.min_eq_left (by omega)]
theorem at_miss {pool : ByteArray} {a : Nat} (hn : ∀ j, pool.data[a + j]? ≠ some 0) : atN pool (a : Int) = (⟨#[]⟩, false) := by
  unfold atN
  split
  · simp only [Int.toNat_natCast]
    rcases index_cases (pool.extract a pool.size).data.toList with ⟨h1, _⟩ | ⟨i', h1, _, h3, h4⟩
    · rw [h1]; rfl
    · rw [ext_get] at h3
      exact absurd h3 (hn i')
  · rfl
theorem at_out {pool : ByteArray} {x : Int} (h : ¬ (0 ≤ x ∧ x < pool.size)) : atN pool x = (⟨#[]⟩, false) := by
  unfold atN
  rw [decide_eq_false h]
/-- The first byte 0, if there is one. -/
theorem first0 (pool : ByteArray) (a : Nat) : (∀ j, pool.data[a + j]? ≠ some 0) ∨ ∃ i, pool.data[a + i]? = some 0 ∧ ∀ j < i, pool.data[a + j]? ≠ some 0 := by
  rcases index_cases (pool.extract a pool.size).data.toList with ⟨_, h2⟩ | ⟨i', _, _, h3, h4⟩
  · exact .inl fun j => by rw [← ext_get]; exact h2 j
  · exact .inr ⟨i', by rw [← ext_get]; exact h3, fun j hj => by rw [← ext_get]; exact h4 j hj⟩
theorem at_cases (pool : ByteArray) (x : Int) : atN pool x = (⟨#[]⟩, false) ∨ ∃ a i : Nat, x = a ∧ a + i < pool.size ∧ atN pool x = (pool.extract a (a + i), true) ∧ rightN (pool.extract a (a + i)) = true ∧ pool.data[a + i]? = some 0 := by
  by_cases h : 0 ≤ x ∧ x < pool.size
  · obtain ⟨a, rfl⟩ : ∃ a : Nat, x = a := ⟨x.toNat, by omega⟩
    rcases first0 pool a with hm | ⟨i, h0, hn⟩
    · exact .inl (at_miss hm)
    · rw [at_hit h0 hn]
      unfold atR
      cases hr : rightN (pool.extract a (a + i)) with
      | true => exact .inr ⟨a, i, rfl, get_lt h0, rfl, hr, h0⟩
      | false => exact .inl rfl
  · exact .inl (at_out h)
theorem atF_some {pool : ByteArray} {x : Int} (h : pool.size ≤ 9223372036854775807) : atF pool x = some (atN pool x) := by
  unfold atF; rw [decide_eq_true h]
theorem rightF_some {s : ByteArray} (h : s.size ≤ 9223372036854775807) : rightF s = some (rightN s) := by
  unfold rightF; rw [decide_eq_true h]
theorem w64 {x : Int} (h : -9223372036854775808 ≤ x ∧ x ≤ 9223372036854775807) : wrap64 x = x := by
  unfold wrap64; omega
theorem bt_get {s : ByteArray} {k : Nat} {x : UInt8} (h : s.data[k]? = some x) : bt s (k : Int) = x.toNat := by
  have hlt := get_lt h
  unfold bt
  rw [dif_pos (by simpa using hlt)]
  have h2 : s.data[k]? = some (s.data[k]'hlt) := Array.getElem?_eq_getElem hlt
  rw [h2] at h
  injection h with h
  rw [← h]
  rfl
theorem nil_list : (⟨#[]⟩ : ByteArray).toList = [] := by decide +kernel
end Go.Proofs.Ytahknjlhlfooeaa.Ab
