/- LinesFolds: a fold is as long, has no great letters, and folded once more it is the same: the plain law; no condition. -/
import Derived.Test.YtlljcfadfgnmjaaDoorPLinesFoldsx1
import Derived.Test.YtlljcfadfgnmjaaDoorLnP
namespace Go.Proofs.YtlljcfadfgnmjaaDoor.Pure
open Go.RowKit Go.Proofs.YtlljcfadfgnmjaaDoor.PLinesFolds Go.Proofs.YtlljcfadfgnmjaaDoorW.PrintWords Go.Proofs.YtlljcfadfgnmjaaDoorW.PrintLast Ln

theorem folds_loop {s : ByteArray} (hs : s.size ≤ 500) : ∀ d i : Nat, i + d = s.size → ∃ k, epactlaw05_LinesFolds.l0 k s true (foldS s) (i : Int) = some true
  | 0, i, hi => ⟨1, by
    rw [epactlaw05_LinesFolds.l0, if_neg (by rw [fold_size]; omega), if_pos rfl]
    unfold lines_Fold.f
    rw [foldF_some (by rw [fold_size]; omega), fold_fold]
    simp⟩
  | d + 1, i, hi => by
    obtain ⟨k, hk⟩ := folds_loop hs d (i + 1) (by omega)
    refine ⟨k + 1, ?_⟩
    have hb := bt_range s (i : Int)
    rw [epactlaw05_LinesFolds.l0, if_pos (by rw [fold_size]; omega), if_pos (by omega), fold_bt (by omega), next_i (by omega), hk]
    generalize bt s (i : Int) = n at *
    unfold foldB
    by_cases h : 65 ≤ n ∧ n ≤ 90
    · rw [if_pos h]
      (repeat' split) <;> first | rfl | (exfalso; omega)
    · rw [if_neg h]
      (repeat' split) <;> first | rfl | (exfalso; omega)
theorem folds_pure (s : ByteArray) : ∃ k, epactlaw05_LinesFolds.f k s = some true := by
  unfold epactlaw05_LinesFolds.f epactlaw05_small.f lines_Fold.f
  simp only [Option.bind_some]
  by_cases h5 : (s.size : Int) > 500
  · exact ⟨0, by rw [if_pos h5]⟩
  obtain ⟨k, hk⟩ := folds_loop (s := s) (by omega) s.size 0 (by omega)
  refine ⟨k, ?_⟩
  rw [if_neg h5, foldF_some (by omega), Option.bind_some, if_pos (by rw [fold_size])]
  exact hk
theorem folds_walk (a0 : ByteArray) (w : World) (hmax : MaxIs w) :
    Calls Tryd.prog 8 #[.string a0] w fun e w' => e = .returned (.bool true) ∧ Below w.heap.size w w' := by
  obtain ⟨k, hk⟩ := folds_pure a0
  exact epactlaw05_LinesFolds.calls k a0 true w hmax hk
end Go.Proofs.YtlljcfadfgnmjaaDoor.Pure
