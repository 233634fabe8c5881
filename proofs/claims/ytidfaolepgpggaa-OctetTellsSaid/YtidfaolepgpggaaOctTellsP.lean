/- Plain facts for OctetTells: both readers tell the same; rows and states apart; no program in sight. -/
import Derived.Test.YtidfaolepgpggaaOctAct
import Derived.Test.YtidfaolepgpggaaOctJ
namespace Go.Proofs.Ytidfaolepgpggaa.Oct
open Go.RowKit Go.Proofs.YtidfaolepgpggaaW.PrintWords Go.Proofs.YtidfaolepgpggaaW.PrintLast Go.Proofs.YtidfaolepgpggaaW.PrintMore

theorem takeS_bytes {l : List Int} {bad : Bool} {n : Int} (h : B8 l) : B8 (takeS l bad n).1 ∧ B8 (takeS l bad n).2.1 := by
  unfold takeS
  split
  · exact ⟨fun x hx => (by cases hx), fun x hx => (by cases hx)⟩
  · exact ⟨fun x hx => h x (List.mem_of_mem_take hx), fun x hx => h x (List.mem_of_mem_drop hx)⟩
theorem takeS_length (l : List Int) (bad : Bool) (n : Int) : (takeS l bad n).1.length ≤ l.length ∧ (takeS l bad n).2.1.length ≤ l.length := by
  unfold takeS
  split
  · simp
  · exact ⟨List.length_take_le' _ _, by rw [List.length_drop]; omega⟩
theorem takeS_size (l : List Int) (bad : Bool) (n : Int) : (takeS l bad n).1 = [] ∨ (takeS l bad n).1.length = n.toNat := by
  unfold takeS
  split
  · exact Or.inl rfl
  · right; rename_i h; rw [List.length_take]; omega
theorem same_num {l : List Int} {bad : Bool} {size : Int} (h : B8 l) : Ref.numS l bad size = numS l bad size := by
  unfold Ref.numS numS
  rw [ref_num (takeS_bytes h).1]
  by_cases hs : sizeB size = true
  · have hz : sizeS size = size := if_pos hs
    rw [hz]
    rcases takeS_size l bad size with h1 | h1
    · exact Or.inl h1
    · exact Or.inr ⟨hs, h1⟩
  · have hz : sizeS size = -1 := if_neg hs
    rw [hz, takeS_neg]; exact Or.inl rfl
theorem R_state {T B N : Nat} {α : Type} {d : Kd α} {e base g : Nat} {ok : Nat → Prop} {w w1 : World} {v : Value} {xs : List α} {l : List Int} {bad : Bool} (h : d.R e w base ok v xs) (hr : Rd T B N w g l bad) (ht : ∀ q, q ∈ e :: d.E → q ≠ T) (hg : w.grownBy w1 (some g)) : d.R e w1 base ok v xs := by
  obtain ⟨A, c, hb, _⟩ := hr
  refine Kd.R_mono (Kd.R_step (Kd.R_bound h) (fun k hk hlt => hg.block k hlt ?_)) (fun _ hk => hk.1)
  intro he
  injection he with he
  subst he
  obtain ⟨_, _, _, q, hq, cells, hc⟩ := hk
  rw [hc] at hb
  injection hb with hb
  injection hb with _ hb
  exact ht q hq hb
theorem own_blk {e base n c : Nat} {ok : Nat → Prop} {w : World} {A : Option Addr} {xs : List Int} (h : (Kd.int .u8).R e w base ok (.slice A n c) xs) (hn : 0 < n) :
    ∃ g cur, A = some ⟨g, 0, none⟩ ∧ base ≤ g ∧ g < w.heap.size ∧ w.heap[g]? = some (.cells cur e (0, 0)) ∧ n ≤ cur.size := by
  obtain ⟨inner, ho⟩ := Kd.R_own h
  have hl : n = xs.length := (Kd.R_reads' h).1
  obtain ⟨_, h1 | ⟨g, cap, cur, he, hb, hh, hc, _, hs, _⟩⟩ := ho
  · obtain ⟨h1, h2⟩ := h1; omega
  · injection he with h1 h2 h3
    refine ⟨g, cur, h1, hb, blk_lt hh, hh, ?_⟩
    rw [hs]; simp [Kd.int, Kd.scalar]; omega
end Go.Proofs.Ytidfaolepgpggaa.Oct
