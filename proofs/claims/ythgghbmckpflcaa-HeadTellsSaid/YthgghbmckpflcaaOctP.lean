/- Plain facts of chapter 13: numbers as bytes and back, both ways; no program in sight. -/
import Derived.Test.YthgghbmckpflcaaOctE
import Derived.Test.YthgghbmckpflcaaOctI
import Derived.Test.YthgghbmckpflcaaOctH
namespace Go.Proofs.Ythgghbmckpflcaa.Oct
open Go.RowKit

def B8 (l : List Int) : Prop := ∀ x ∈ l, 0 ≤ x ∧ x ≤ 255
theorem B8_of {l : List Int} (h : ∀ x ∈ l, (Lit.int .u8 x).wf = true) : B8 l := fun x hx => by
  have := h x hx
  simp [Lit.wf, IntKind.min, IntKind.max, IntKind.signed, IntKind.bits] at this
  omega
theorem R_of {x : Int} (h : (Lit.int .i64 x).wf = true) : -9223372036854775808 ≤ x ∧ x ≤ 9223372036854775807 := by
  simp [Lit.wf, IntKind.min, IntKind.max, IntKind.signed, IntKind.bits] at h
  omega
theorem or_low (k : IntKind) (hk : k.bits = 64) (x c : Int) (hx : x % 256 = 0) (h0 : 0 ≤ c) (h1 : c < 256) : Go.bits .or k x c = k.wrap (x % 18446744073709551616 + c) := by
  obtain ⟨b, rfl⟩ := Int.eq_ofNat_of_zero_le h0
  have hb : b < 256 := by omega
  have hm : x % 256 = 0 := hx
  have hbl : (b % 2 ^ k.bits) = b := by rw [hk]; exact Nat.mod_eq_of_lt (by omega)
  have e : (x % 2 ^ k.bits).toNat = 2 ^ 8 * ((x % 18446744073709551616).toNat / 256) := by
    rw [hk, show ((2 : Int) ^ 64) = 18446744073709551616 by decide]
    omega
  have e2 : (BitVec.ofInt k.bits x ||| BitVec.ofInt k.bits (b : Int)).toNat = (x % 18446744073709551616).toNat + b := by
    rw [BitVec.toNat_or, BitVec.ofInt_natCast, BitVec.toNat_ofNat, BitVec.toNat_ofInt, hbl]
    have e3 : (x % ((2 ^ k.bits : Nat) : Int)).toNat = 2 ^ 8 * ((x % 18446744073709551616).toNat / 256) := by
      rw [← e]; congr 2
    rw [e3, ← Nat.two_pow_add_eq_or_of_lt hb]
    omega
  show k.wrap ((BitVec.ofInt k.bits x ||| BitVec.ofInt k.bits (b : Int)).toNat : Int) = _
  rw [e2]
  congr 1
  omega
theorem or_byte (n c : Int) (h0 : 0 ≤ c) (h1 : c ≤ 255) : Go.bits .or .i64 (wrap64 (n * 256)) (wrap64 c) = wrap64 (n * 256) + c := by
  have ec : wrap64 c = c := by unfold wrap64; omega
  rw [ec, or_low .i64 rfl _ _ (by unfold wrap64; omega) h0 (by omega), IntKind.wrap_i64]
  unfold wrap64; omega
theorem or_byte_u (n c : Int) (h0 : 0 ≤ c) (h1 : c ≤ 255) : Go.bits .or .u64 (IntKind.u64.wrap (n * 256)) (IntKind.u64.wrap c) = (n * 256) % 18446744073709551616 + c := by
  have ew : ∀ n : Int, IntKind.u64.wrap n = n % 18446744073709551616 := fun n => by simp [IntKind.wrap, IntKind.bits, IntKind.signed]
  rw [ew, ew, or_low .u64 rfl _ _ (by omega) (by omega) (by omega), ew]
  omega
/-- The loop, without bits. -/
def numP (size : Int) : Bool → Int → List Int → Int
  | _, n, [] => n
  | first, n, c :: r => numP size false (if first = true ∧ size = 4 then (if c < 128 then c else c - 256) else wrap64 (n * 256) + c) r
theorem numL_eq (size : Int) (l : List Int) (hl : B8 l) : ∀ first n, numL size first n l = numP size first n l := by
  induction l with
  | nil => intro _ _; rfl
  | cons c r ih =>
    intro first n
    have hc := hl c (List.mem_cons_self ..)
    unfold numL numP
    rw [ih (fun x hx => hl x (List.mem_cons_of_mem _ hx)), or_byte n c hc.1 hc.2]
    have e : wrap64 (IntKind.i8.wrap c) = if c < 128 then c else c - 256 := by
      have : IntKind.i8.wrap c = (c + 128) % 256 - 128 := by
        simp [IntKind.wrap, IntKind.bits, IntKind.signed]; split <;> omega
      rw [this]; unfold wrap64; split <;> omega
    rw [e]
def numQ : Int → List Int → Int
  | n, [] => n
  | n, c :: r => numQ ((n * 256) % 18446744073709551616 + c) r
theorem numU_eq (l : List Int) (hl : B8 l) : ∀ n, Ref.numU n l = numQ n l := by
  induction l with
  | nil => intro _; rfl
  | cons c r ih =>
    intro n
    have hc := hl c (List.mem_cons_self ..)
    unfold Ref.numU numQ
    rw [ih (fun x hx => hl x (List.mem_cons_of_mem _ hx)), or_byte_u n c hc.1 hc.2]
theorem len1 {l : List Int} (h : l.length = 1) : ∃ a, l = [a] := by
  match l, h with
  | [a], _ => exact ⟨a, rfl⟩
theorem len4 {l : List Int} (h : l.length = 4) : ∃ a b c d, l = [a, b, c, d] := by
  match l, h with
  | [a, b, c, d], _ => exact ⟨a, b, c, d, rfl⟩
theorem len8 {l : List Int} (h : l.length = 8) : ∃ a b c d e f g k, l = [a, b, c, d, e, f, g, k] := by
  match l, h with
  | [a, b, c, d, e, f, g, k], _ => exact ⟨a, b, c, d, e, f, g, k, rfl⟩
theorem bytes1 (n : Int) : bytesS n 1 = [n % 256] := by simp [bytesS]
theorem bytes4 (n : Int) : bytesS n 4 = [n / 16777216 % 256, n / 65536 % 256, n / 256 % 256, n % 256] := by simp [bytesS]
theorem bytes8 (n : Int) : bytesS n 8 = [n / 72057594037927936 % 256, n / 281474976710656 % 256, n / 1099511627776 % 256, n / 4294967296 % 256, n / 16777216 % 256, n / 65536 % 256, n / 256 % 256, n % 256] := by simp [bytesS]
theorem bytes_B8 (n : Int) (m : Nat) : B8 (bytesS n m) := by
  induction m with
  | zero => intro x hx; cases hx
  | succ m ih =>
    intro x hx
    unfold bytesS at hx
    rcases List.mem_cons.1 hx with h | h
    · subst h; omega
    · exact ih x h
theorem size_cases {size : Int} (h : sizeB size = true) : size = 1 ∨ size = 4 ∨ size = 8 := by unfold sizeB at h; exact of_decide_eq_true h
theorem mem4 {a b c d : Int} (h : B8 [a, b, c, d]) : (0 ≤ a ∧ a ≤ 255) ∧ (0 ≤ b ∧ b ≤ 255) ∧ (0 ≤ c ∧ c ≤ 255) ∧ (0 ≤ d ∧ d ≤ 255) :=
  ⟨h a (by simp), h b (by simp), h c (by simp), h d (by simp)⟩
theorem val1 (a : Int) (h : B8 [a]) : numL 1 true 0 [a] = a := by
  have ha := h a (by simp)
  rw [numL_eq _ _ h]; simp only [numP]; simp; unfold wrap64; omega
theorem val4 (a b c d : Int) (h : B8 [a, b, c, d]) : numL 4 true 0 [a, b, c, d] = (if a < 128 then a else a - 256) * 16777216 + b * 65536 + c * 256 + d := by
  obtain ⟨ha, hb, hc, hd⟩ := mem4 h
  rw [numL_eq _ _ h]; simp only [numP]; simp; unfold wrap64; split <;> omega
theorem val8 (a b c d e f g k : Int) (h : B8 [a, b, c, d, e, f, g, k]) : numL 8 true 0 [a, b, c, d, e, f, g, k] = wrap64 (a * 72057594037927936 + b * 281474976710656 + c * 1099511627776 + d * 4294967296 + e * 16777216 + f * 65536 + g * 256 + k) := by
  have ha := h a (by simp)
  have hb := h b (by simp)
  have hc := h c (by simp)
  have hd := h d (by simp)
  have he := h e (by simp)
  have hf := h f (by simp)
  have hg := h g (by simp)
  have hk := h k (by simp)
  rw [numL_eq _ _ h]; simp only [numP]; simp; unfold wrap64; omega
/-- What is read is laid so. -/
theorem back_read {bs : List Int} {size : Int} (hb : B8 bs) (hs : sizeB size = true) (hl : bs.length = size.toNat) :
    mayS (numL size true 0 bs) size = true ∧ bytesS (numL size true 0 bs) size.toNat = bs := by
  rcases size_cases hs with rfl | rfl | rfl
  · obtain ⟨a, rfl⟩ := len1 hl
    have ha := hb a (by simp)
    rw [val1 a hb]
    refine ⟨by unfold mayS; simp; omega, ?_⟩
    show bytesS a 1 = [a]
    rw [bytes1]; congr 1; omega
  · obtain ⟨a, b, c, d, rfl⟩ := len4 hl
    obtain ⟨ha, hb', hc, hd⟩ := mem4 hb
    rw [val4 a b c d hb]
    refine ⟨by unfold mayS; simp; split <;> omega, ?_⟩
    show bytesS _ 4 = _
    rw [bytes4]
    have e1 : ((if a < 128 then a else a - 256) * 16777216 + b * 65536 + c * 256 + d) / 16777216 % 256 = a := by split <;> omega
    have e2 : ((if a < 128 then a else a - 256) * 16777216 + b * 65536 + c * 256 + d) / 65536 % 256 = b := by split <;> omega
    have e3 : ((if a < 128 then a else a - 256) * 16777216 + b * 65536 + c * 256 + d) / 256 % 256 = c := by split <;> omega
    have e4 : ((if a < 128 then a else a - 256) * 16777216 + b * 65536 + c * 256 + d) % 256 = d := by split <;> omega
    rw [e1, e2, e3, e4]
  · obtain ⟨a, b, c, d, e, f, g, k, rfl⟩ := len8 hl
    have ha := hb a (by simp)
    have hb' := hb b (by simp)
    have hc := hb c (by simp)
    have hd := hb d (by simp)
    have he := hb e (by simp)
    have hf := hb f (by simp)
    have hg := hb g (by simp)
    have hk := hb k (by simp)
    rw [val8 a b c d e f g k hb]
    refine ⟨by unfold mayS; simp, ?_⟩
    show bytesS _ 8 = _
    rw [bytes8]
    generalize hn : wrap64 (a * 72057594037927936 + b * 281474976710656 + c * 1099511627776 + d * 4294967296 + e * 16777216 + f * 65536 + g * 256 + k) = n
    have hn2 : n = a * 72057594037927936 + b * 281474976710656 + c * 1099511627776 + d * 4294967296 + e * 16777216 + f * 65536 + g * 256 + k ∨ n = a * 72057594037927936 + b * 281474976710656 + c * 1099511627776 + d * 4294967296 + e * 16777216 + f * 65536 + g * 256 + k - 18446744073709551616 := by
      rw [← hn]; unfold wrap64; omega
    have e1 : n / 72057594037927936 % 256 = a := by omega
    have e2 : n / 281474976710656 % 256 = b := by omega
    have e3 : n / 1099511627776 % 256 = c := by omega
    have e4 : n / 4294967296 % 256 = d := by omega
    have e5 : n / 16777216 % 256 = e := by omega
    have e6 : n / 65536 % 256 = f := by omega
    have e7 : n / 256 % 256 = g := by omega
    have e8 : n % 256 = k := by omega
    rw [e1, e2, e3, e4, e5, e6, e7, e8]
theorem R_mod (n : Int) (h : -9223372036854775808 ≤ n ∧ n ≤ 9223372036854775807) : wrap64 n = n := by unfold wrap64; omega
/-- What was laid is read so. -/
theorem read_back {n size : Int} (hn : -9223372036854775808 ≤ n ∧ n ≤ 9223372036854775807) (hm : mayS n size = true) : numL size true 0 (bytesS n size.toNat) = n := by
  have hs : (size = 1 ∧ n % 256 = n) ∨ (size = 4 ∧ -2147483648 ≤ n ∧ n ≤ 2147483647) ∨ size = 8 := of_decide_eq_true hm
  rcases hs with ⟨rfl, h⟩ | ⟨rfl, h⟩ | rfl
  · show numL 1 true 0 (bytesS n 1) = n
    have hb := bytes_B8 n 1
    rw [bytes1] at hb ⊢
    rw [val1 _ hb, h]
  · show numL 4 true 0 (bytesS n 4) = n
    have hb := bytes_B8 n 4
    rw [bytes4] at hb ⊢
    rw [val4 _ _ _ _ hb]; split <;> omega
  · show numL 8 true 0 (bytesS n 8) = n
    have hb := bytes_B8 n 8
    rw [bytes8] at hb ⊢
    rw [val8 _ _ _ _ _ _ _ _ hb]
    have e : n / 72057594037927936 % 256 * 72057594037927936 + n / 281474976710656 % 256 * 281474976710656 + n / 1099511627776 % 256 * 1099511627776 + n / 4294967296 % 256 * 4294967296 + n / 16777216 % 256 * 16777216 + n / 65536 % 256 * 65536 + n / 256 % 256 * 256 + n % 256 = n % 18446744073709551616 := by omega
    rw [e]; unfold wrap64; omega
/-- The document reads the same number. -/
theorem ref_num {bs : List Int} {size : Int} (hb : B8 bs) (hs : bs = [] ∨ (sizeB size = true ∧ bs.length = size.toNat)) : Ref.finU size (Ref.numU 0 bs) = numL size true 0 bs := by
  rcases hs with rfl | ⟨hs, hl⟩
  · unfold Ref.finU; simp only [Ref.numU, numL]; split <;> (unfold wrap64; (try unfold wrap32); omega)
  · rw [numU_eq _ hb]
    rcases size_cases hs with rfl | rfl | rfl
    · obtain ⟨a, rfl⟩ := len1 hl
      have ha := hb a (by simp)
      rw [val1 a hb]; unfold Ref.finU; rw [if_neg (by omega)]; simp only [numQ]; unfold wrap64; omega
    · obtain ⟨a, b, c, d, rfl⟩ := len4 hl
      obtain ⟨ha, hb', hc, hd⟩ := mem4 hb
      rw [val4 a b c d hb]; unfold Ref.finU; rw [if_pos rfl]; simp only [numQ]; unfold wrap64 wrap32; split <;> omega
    · obtain ⟨a, b, c, d, e, f, g, k, rfl⟩ := len8 hl
      have ha := hb a (by simp)
      have hb' := hb b (by simp)
      have hc := hb c (by simp)
      have hd := hb d (by simp)
      have he := hb e (by simp)
      have hf := hb f (by simp)
      have hg := hb g (by simp)
      have hk := hb k (by simp)
      rw [val8 a b c d e f g k hb]; unfold Ref.finU; rw [if_neg (by omega)]; simp only [numQ]
      congr 1; omega
end Go.Proofs.Ythgghbmckpflcaa.Oct
