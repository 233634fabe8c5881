/- The plain law of OctetBack: numbers that were laid, one behind the other, are read as they were; no program in sight. -/
import Derived.Test.YtidfaolepgpggaaOctP
namespace Go.Proofs.Ytidfaolepgpggaa.Oct
open Go.RowKit

def kept (l : List (Int × Int)) : List (Int × Int) := l.filter fun a => mayS a.2 a.1
def flat (l : List (Int × Int)) : List Int := l.flatMap fun a => bytesS a.2 a.1.toNat
theorem kept_snoc (l : List (Int × Int)) (a : Int × Int) : kept (l ++ [a]) = if mayS a.2 a.1 = true then kept l ++ [a] else kept l := by
  unfold kept; rw [List.filter_append]; by_cases h : mayS a.2 a.1 = true <;> simp [h]
theorem flat_snoc (l : List (Int × Int)) (a : Int × Int) : flat (l ++ [a]) = flat l ++ bytesS a.2 a.1.toNat := by
  unfold flat; simp
theorem flat_cons (l : List (Int × Int)) (a : Int × Int) : flat (a :: l) = bytesS a.2 a.1.toNat ++ flat l := by
  unfold flat; simp
theorem kept_length (l : List (Int × Int)) : (kept l).length ≤ l.length := List.length_filter_le _ _
theorem kept_may {l : List (Int × Int)} {a : Int × Int} (h : a ∈ kept l) : mayS a.2 a.1 = true ∧ a ∈ l := by
  unfold kept at h; rw [List.mem_filter] at h; exact ⟨h.2, h.1⟩
theorem may_size {n size : Int} (h : mayS n size = true) : size = 1 ∨ size = 4 ∨ size = 8 := by
  have : (size = 1 ∧ n % 256 = n) ∨ (size = 4 ∧ -2147483648 ≤ n ∧ n ≤ 2147483647) ∨ size = 8 := of_decide_eq_true h
  omega
theorem flat_length (l : List (Int × Int)) (h : ∀ a ∈ l, mayS a.2 a.1 = true) : (flat l).length ≤ 8 * l.length := by
  induction l with
  | nil => simp [flat]
  | cons a l ih =>
    rw [flat_cons, List.length_append, bytesS_length, List.length_cons]
    have h1 := may_size (h a (List.mem_cons_self ..))
    have h2 := ih (fun x hx => h x (List.mem_cons_of_mem _ hx))
    omega
/-- The first number is read, and no more. -/
theorem read_one {a : Int × Int} {r : List Int} (hm : mayS a.2 a.1 = true) (hn : -9223372036854775808 ≤ a.2 ∧ a.2 ≤ 9223372036854775807) : numS (bytesS a.2 a.1.toNat ++ r) false a.1 = (a.2, r, false) := by
  have hs := may_size hm
  have hb : sizeB a.1 = true := decide_eq_true hs
  have hz : sizeS a.1 = a.1 := if_pos hb
  have hl := bytesS_length a.2 a.1.toNat
  have ht : takeS (bytesS a.2 a.1.toNat ++ r) false a.1 = (bytesS a.2 a.1.toNat, r, false) := by
    have : takeS (bytesS a.2 a.1.toNat ++ r) false a.1 = ((bytesS a.2 a.1.toNat ++ r).take a.1.toNat, (bytesS a.2 a.1.toNat ++ r).drop a.1.toNat, false) := if_neg (by rw [List.length_append, hl]; simp; omega)
    rw [this, List.take_append_of_le_length (by omega), List.drop_append_of_le_length (by omega), List.take_of_length_le (by omega), List.drop_of_length_le (by omega), List.nil_append]
  unfold numS
  rw [hz, ht, read_back hn hm]
end Go.Proofs.Ytidfaolepgpggaa.Oct
