/- A row of texts that is handed in: what is read of it. (The kit's proof for rows of numbers, at texts.) -/
import Derived.Test.YtlljcfadfgnmjaaDoorRows
import Derived.Test.YtlljcfadfgnmjaaDoorWMore
import Derived.SliceStrings
namespace Go.Proofs.YtlljcfadfgnmjaaDoor.Row
open Go.RowKit Go.Proofs.YtlljcfadfgnmjaaDoorW.PrintWords Go.ChangeShapes Go.WideShapes

def IsRowS (w : World) (a : Option Addr) (len cap : Nat) (ss : List ByteArray) : Prop :=
  (a = none ∧ len = 0 ∧ cap = 0 ∧ ss = []) ∨
  ∃ x, a = some x ∧ len ≤ cap ∧ cap ≤ maxLen ∧ len ≤ ss.length ∧ (∀ i, i < ss.length → w.cell? (x.add i) = some (.string (ss.getD i ByteArray.empty))) ∧ ∀ s ∈ ss, s.size ≤ maxLen
theorem strs_of_row {w : World} {a : Option Addr} {len cap : Nat} {ss : List ByteArray} (h : IsRowS w a len cap ss) :
    ∃ l : List ByteArray, len = l.length ∧ Kd.C Kd.string w a l.length l ∧ l.length ≤ maxLen ∧ (∀ s ∈ l, s.size ≤ 9223372036854775807) ∧ l.length ≤ cap := by
  rcases h with ⟨rfl, rfl, rfl, rfl⟩ | ⟨x, rfl, hl, hm, hz, hc, hw⟩
  · exact ⟨[], rfl, ⟨rfl, by simp, fun hn => absurd hn (by simp)⟩, Nat.zero_le _, (fun s hs => by cases hs), Nat.le_refl _⟩
  · have e : (ss.take len).length = len := by simp; omega
    have hm' : len ≤ maxLen := Nat.le_trans hl hm
    refine ⟨ss.take len, e.symm, ?_, by rw [e]; exact hm', fun s hs => by have := hw s (List.mem_of_mem_take hs); unfold maxLen at this; omega, by rw [e]; exact hl⟩
    refine Kd.C_of_reads (enc := Value.string) (d := ByteArray.empty) (h1 := fun _ => rfl) ⟨rfl, by rw [e]; simpa [maxLen] using hm', fun _ => ⟨x, rfl, fun j hj => ?_⟩⟩
    rw [e] at hj
    rw [hc j (by omega)]
    simp [List.getD, hj]
theorem row_of_open {H : Type} {enc : TypeId × Value → H} {P : Program} {w : World} {base : Nat} {spare : Nat → Bool} {held : Bool} {t e : TypeId} {a : Option Addr} {len cap : Nat} {d : DataW H} {p : List MemPlace} (ht : P.underlying t = some (.slice e)) (he : P.underlying e = some .string) (hc : P.cellsOf e = 1)
    (h : DataW.Trod enc P w base spare held t (.slice a len cap) d p) : ∃ ss, IsRowS w a len cap ss := by
  obtain ⟨fuel, hf⟩ := h
  rcases open_strings ht he hc hf with ⟨hcs, _⟩ | ⟨x, l, c, ss, hcs, _, hl, hm, hz, _, hcell, hws⟩
  · simp [Value.cells] at hcs
    obtain ⟨rfl, rfl, rfl⟩ := hcs
    exact ⟨[], .inl ⟨rfl, rfl, rfl, rfl⟩⟩
  · simp [Value.cells] at hcs
    obtain ⟨rfl, rfl, rfl⟩ := hcs
    refine ⟨ss, .inr ⟨_, rfl, hl, hm, ?_, hcell, hws⟩⟩
    rw [hz]
    split
    · exact hl
    · exact Nat.le_refl _
end Go.Proofs.YtlljcfadfgnmjaaDoor.Row
