/- HeadSizes: what is reckoned answers as the law says. -/
import Derived.Test.YthgghbmckpflcaaPHeadSizesx2
namespace Go.Proofs.Ythgghbmckpflcaa.Oct
open Go.RowKit Go.Proofs.YthgghbmckpflcaaW.PrintWords Go.Proofs.YthgghbmckpflcaaW.PrintLast Go.Proofs.YthgghbmckpflcaaW.PrintMore
theorem sizes_true (v u s l t ty c : Int) : PHeadSizes.epactlaw15_HeadSizes.f v u s l t ty c = some true := by
  unfold PHeadSizes.epactlaw15_HeadSizes.f PHeadSizes.epactlaw15_small.f PHeadSizes.head_Right.f PHeadSizes.head_Size.f
  simp only [Option.bind_some]
  cases hr : rightS v u s l t ty c with
  | false =>
    have h4 : sizeF v u s l t ty c 4 = 0 := by unfold sizeF; rw [hr]
    have h8 : sizeF v u s l t ty c 8 = 0 := by unfold sizeF; rw [hr]
    simp [h4, h8]
  | true =>
    have h := of_decide_eq_true hr
    have hm : wrap64 (Int.tmod c 256 + 1) = Int.tmod c 256 + 1 := by
      have := Int.tmod_nonneg 256 (show 0 ≤ c by omega)
      have := Int.tmod_lt_of_pos c (show (0 : Int) < 256 by decide)
      unfold wrap64; omega
    have h2 : rightS v u s l t ty (Int.tmod c 256 + 1) = true := decide_eq_true (by
      have := Int.tmod_nonneg 256 (show 0 ≤ c by omega)
      have := Int.tmod_lt_of_pos c (show (0 : Int) < 256 by decide)
      omega)
    have h4 : sizeF v u s l t ty c 4 = t * 5 + ty * 6 + c + l * 8 + s + u := by unfold sizeF; rw [hr]; simp
    have h8 : sizeF v u s l t ty c 8 = t * 9 + ty * 6 + c + l * 12 + s + u := by unfold sizeF; rw [hr]; simp
    have hb : sizeF v u s l t ty (Int.tmod c 256 + 1) 4 = t * 5 + ty * 6 + (Int.tmod c 256 + 1) + l * 8 + s + u := by unfold sizeF; rw [h2]; simp
    rw [hm, h4, h8, hb]
    generalize hmc : Int.tmod c 256 = m
    have hm0 : 0 ≤ m ∧ m < 256 := by
      rw [← hmc]; exact ⟨Int.tmod_nonneg 256 (by omega), Int.tmod_lt_of_pos c (by decide)⟩
    rw [if_pos rfl, if_pos trivial, if_pos (by unfold wrap64; omega), if_pos (by omega)]
    congr 1
    rw [beq_iff_eq]
    unfold wrap64; omega
theorem sizes_walk (v u s l t ty c : Int) (w : World) :
    Calls Try.prog 6 #[.agg #[.int .i64 v, .int .i64 u, .int .i64 s, .int .i64 l, .int .i64 t, .int .i64 ty, .int .i64 c]] w fun e w' => e = .returned (.bool true) ∧ Below w.heap.size w w' :=
  PHeadSizes.epactlaw15_HeadSizes.calls v u s l t ty c true w (sizes_true v u s l t ty c)
end Go.Proofs.Ythgghbmckpflcaa.Oct
