/- The reader of bytes (of the program, and of the document's answer): its state in memory, and what Take does to it; condition: the state is as told. -/
import Derived.Test.YthgghbmckpflcaaOctA
namespace Go.Proofs.Ythgghbmckpflcaa.Oct
open Go.RowKit Go.Proofs.YthgghbmckpflcaaW.PrintWords Go.Proofs.YthgghbmckpflcaaW.PrintLast Go.Proofs.YthgghbmckpflcaaW.PrintMore

/-- A reader of type T at block g: what is left, whether it failed; its block and its bytes' block lie in [B, N). -/
def Rd (T : Nat) (B N : Nat) (W : World) (g : Nat) (l : List Int) (bad : Bool) : Prop :=
  ∃ A c, W.heap[g]? = some (.cells #[.slice A l.length c, .bool bad] T (0, 0)) ∧ B ≤ g ∧ g < N ∧ N ≤ W.heap.size ∧ l.length ≤ c ∧ Kd.C (Kd.int .u8) W A l.length l ∧ (∀ ad, A = some ad → B ≤ ad.block ∧ ad.block < N ∧ ad.block ≠ g)
theorem Rd.of_same {T B N : Nat} {W W1 : World} {g : Nat} {l : List Int} {bad : Bool} (h : Rd T B N W g l bad) (hs : W.heap.size ≤ W1.heap.size) (hk : ∀ k, B ≤ k → k < N → W1.heap[k]? = W.heap[k]?) : Rd T B N W1 g l bad := by
  obtain ⟨A, c, hb, h1, h2, h3, h4, h5, h6⟩ := h
  refine ⟨A, c, (hk g h1 h2).trans hb, h1, h2, by omega, h4, ?_, h6⟩
  exact C_same h5 (fun ad he => hk ad.block (h6 ad he).1 (h6 ad he).2.1)
theorem Rd.below {T B N : Nat} {W W1 : World} {g : Nat} {l : List Int} {bad : Bool} (h : Rd T B N W g l bad) (hb : Below W.heap.size W W1) : Rd T B N W1 g l bad := by
  obtain ⟨_, _, _, _, _, h3, _⟩ := id h
  exact h.of_same hb.size (fun k _ hk => hb.block k (by omega))
theorem Rd.grown {T B N : Nat} {W W1 : World} {g : Nat} {l : List Int} {bad : Bool} {row : Option Nat} (h : Rd T B N W g l bad) (hb : W.grownBy W1 row) (hr : ∀ k, row = some k → k < B ∨ N ≤ k) : Rd T B N W1 g l bad := by
  obtain ⟨_, _, _, _, _, h3, _⟩ := id h
  refine h.of_same hb.size (fun k h1 hk => hb.block k (by omega) ?_)
  intro he
  rcases hr k he.symm with h | h <;> omega
theorem Rd.size {T B N : Nat} {W : World} {g : Nat} {l : List Int} {bad : Bool} (h : Rd T B N W g l bad) : B ≤ g ∧ g < N ∧ N ≤ W.heap.size := by
  obtain ⟨_, _, _, h1, h2, h3, _⟩ := h
  exact ⟨h1, h2, h3⟩
theorem grown_set (W : World) (p : Addr) (v : Value) : W.grownBy (W.setCell p v) (some p.block) :=
  ⟨rfl, rfl, rfl, by simp [World.setCell], fun k _ hk => Below.heap_setCell W p v k (fun h => hk (by rw [h]))⟩
/-- Nothing is left, and it has failed. -/
theorem Rd.failed {T B N : Nat} {W : World} {g : Nat} {l : List Int} {bad : Bool} (h : Rd T B N W g l bad) : Rd T B N ((W.setCell ⟨g, 0, none⟩ (.slice none 0 0)).setCell ⟨g, 1, none⟩ (.bool true)) g [] true ∧ W.grownBy ((W.setCell ⟨g, 0, none⟩ (.slice none 0 0)).setCell ⟨g, 1, none⟩ (.bool true)) (some g) := by
  obtain ⟨A, c, hb, h1, h2, h3, h4, h5, h6⟩ := h
  have hg := (grown_set W ⟨g, 0, none⟩ (.slice none 0 0)).trans (grown_set _ ⟨g, 1, none⟩ (.bool true))
  refine ⟨⟨none, 0, ?_, h1, h2, Nat.le_trans h3 hg.size, by simp, Kd.C_nil _ _, fun ad e => by cases e⟩, hg⟩
  exact blk_set (blk_set hb 0 (.slice none 0 0)) 1 (.bool true)
theorem Rd.failed' {T B N : Nat} {W : World} {g : Nat} {l : List Int} {bad : Bool} (h : Rd T B N W g l bad) : Rd T B N ((W.setCell ⟨g, 1, none⟩ (.bool true)).setCell ⟨g, 0, none⟩ (.slice none 0 0)) g [] true ∧ W.grownBy ((W.setCell ⟨g, 1, none⟩ (.bool true)).setCell ⟨g, 0, none⟩ (.slice none 0 0)) (some g) := by
  obtain ⟨A, c, hb, h1, h2, h3, h4, h5, h6⟩ := h
  have hg := (grown_set W ⟨g, 1, none⟩ (.bool true)).trans (grown_set _ ⟨g, 0, none⟩ (.slice none 0 0))
  refine ⟨⟨none, 0, ?_, h1, h2, Nat.le_trans h3 hg.size, by simp, Kd.C_nil _ _, fun ad e => by cases e⟩, hg⟩
  exact blk_set (blk_set hb 1 (.bool true)) 0 (.slice none 0 0)
/-- A row made since: a store into an elder block leaves it. -/
theorem R_elder {α : Type} {d : Kd α} {e base : Nat} {W : World} {v : Value} {xs : List α} (h : d.R e W base (fun _ => True) v xs) {p : Addr} (hp : p.block < base) (u : Value) : d.R e (W.setCell p u) base (fun _ => True) v xs :=
  Kd.R_mono (Kd.R_far (Kd.R_bound h) (fun k hk => by have := hk.2.1; omega) u) (fun _ _ => trivial)
def takeS (l : List Int) (bad : Bool) (n : Int) : List Int × List Int × Bool := if bad = true ∨ n < 0 ∨ (l.length : Int) < n then ([], [], true) else (l.take n.toNat, l.drop n.toNat, false)
end Go.Proofs.Ythgghbmckpflcaa.Oct
