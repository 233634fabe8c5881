/- NumEnds: adding is too much just where the ends say so; no condition. -/
import Derived.Test.YtobcdjbfhcpijaaPNumEndsx2
import Derived.Test.YtobcdjbfhcpijaaPlain
namespace Go.Proofs.Ytobcdjbfhcpijaa.Pure
open Go.RowKit Go.Proofs.Ytobcdjbfhcpijaa.PNumEnds Go.Proofs.YtobcdjbfhcpijaaW.PrintWords Go.Proofs.YtobcdjbfhcpijaaW.PrintLast Go.Proofs.Ytobcdjbfhcpijaa.Plain
theorem add_f (a b : Int) (ha : R a) (hb : R b) : num_Add.f a b = some (addS a b) := by
  unfold num_Add.f addS
  have ha' := ha; have hb' := hb
  unfold R at ha' hb'
  rcases wrap_add_cases (a + b) (by omega) (by omega) with ⟨h, e⟩ | ⟨h, e⟩ | ⟨h, e⟩
  · rw [e, chk_yes h, if_neg (by simp only [bne_iff_ne, ne_eq, decide_eq_decide]; omega)]
  · rw [e, chk_no (by unfold R; omega), if_pos (by simp only [bne_iff_ne, ne_eq, decide_eq_decide]; omega), if_neg (by omega)]
  · rw [e, chk_no (by unfold R; omega), if_pos (by simp only [bne_iff_ne, ne_eq, decide_eq_decide]; omega), if_neg (by omega)]
theorem sub_f (a b : Int) (ha : R a) (hb : R b) : num_Sub.f a b = some (subS a b) := by
  unfold num_Sub.f subS
  have ha' := ha; have hb' := hb
  unfold R at ha' hb'
  rcases wrap_add_cases (a - b) (by omega) (by omega) with ⟨h, e⟩ | ⟨h, e⟩ | ⟨h, e⟩
  · rw [e, chk_yes h, if_neg (by simp only [bne_iff_ne, ne_eq, decide_eq_decide]; omega)]
  · rw [e, chk_no (by unfold R; omega), if_pos (by simp only [bne_iff_ne, ne_eq, decide_eq_decide]; omega), if_neg (by omega)]
  · rw [e, chk_no (by unfold R; omega), if_pos (by simp only [bne_iff_ne, ne_eq, decide_eq_decide]; omega), if_neg (by omega)]
theorem size_f (a : Int) (ha : R a) : num_size.f a = some (mag a) := by
  unfold R at ha
  unfold num_size.f mag
  simp only [wrap_u64]
  split
  · congr 1; omega
  · congr 1; omega
theorem mul64_f (x y : Int) (hx : 0 ≤ x) (hx' : x < 18446744073709551616) (hy : 0 ≤ y) (hy' : y < 18446744073709551616) : bits_Mul64.f x y = some (hi64 x y, lo64 x y) := by
  unfold bits_Mul64.f
  rw [mul64_eq x y hx hx' hy hy', wrap_u64]; rfl
theorem mul_f (a b : Int) (ha : R a) (hb : R b) : num_Mul.f a b = some (mulS a b) := by
  have b1 := mag_bounds ha
  have b2 := mag_bounds hb
  unfold num_Mul.f
  rw [size_f a ha, size_f b hb]
  simp only [Option.bind_some]
  rw [mul64_f _ _ b1.1 (by omega) b2.1 (by omega)]
  simp only [Option.bind_some]
  exact mul_eq a b ha hb
theorem small_f (k : Nat) (hk : 8 ≤ k) : epactlaw01_small.f k = some true :=
  at_rounds epactlaw01_small.mono hk (by decide +kernel)
theorem wrap_eq {x : Int} (h1 : -9223372036854775808 ≤ x) (h2 : x ≤ 9223372036854775807) : wrap64 x = x := wrap_in ⟨h1, h2⟩
theorem NumEnds : epactlaw01_NumEnds.Pure := by
  intro a b wa wb
  have ha := R_of_wf wa
  have hb := R_of_wf wb
  refine ⟨8, ?_⟩
  unfold epactlaw01_NumEnds.f
  rw [small_f 8 (by omega), add_f a b ha hb, sub_f a b ha hb, mul_f a (-1) ha (by unfold R; omega), mul_f a 1 ha (by unfold R; omega)]
  simp only [Option.bind_some, if_true]
  have e1 : mulS a 1 = (a, true) := by unfold mulS; rw [Int.mul_one]; exact chk_yes ha
  have e2 : (mulS a (-1)).2 = (a != (-9223372036854775808)) := by
    unfold mulS; rw [chk_snd, Bool.eq_iff_iff]; simp only [decide_eq_true_eq, bne_iff_ne, ne_eq]; unfold R at *; omega
  have e3 : (addS a b).2 = decide (R (a + b)) := chk_snd _
  have e4 : (subS a b).2 = decide (R (a - b)) := chk_snd _
  rw [e1, e2, e3, e4]
  have e5 : ((a != (-9223372036854775808)) == (a != (-9223372036854775808))) = true := beq_self_eq_true _
  simp only [e5, if_true]
  unfold R at ha hb
  by_cases hb0 : b ≥ 0
  · rw [if_pos hb0, wrap_eq (x := 9223372036854775807 - b) (by omega) (by omega), wrap_eq (x := (-9223372036854775808) + b) (by omega) (by omega)]
    rw [if_neg (by omega : ¬ b < 0)]
    by_cases c1 : a ≤ 9223372036854775807 - b <;> by_cases c2 : a ≥ -9223372036854775808 + b
    · have f1 : decide (R (a + b)) = true := by simp only [decide_eq_true_eq]; unfold R; omega
      have f2 : decide (R (a - b)) = true := by simp only [decide_eq_true_eq]; unfold R; omega
      simp [c1, c2, f1, f2] <;> (intro hn; exfalso; omega)
    · have f1 : decide (R (a + b)) = true := by simp only [decide_eq_true_eq]; unfold R; omega
      have f2 : decide (R (a - b)) = false := by simp only [decide_eq_false_iff_not]; unfold R; omega
      simp [c1, c2, f1, f2] <;> (intro hn; exfalso; omega)
    · have f1 : decide (R (a + b)) = false := by simp only [decide_eq_false_iff_not]; unfold R; omega
      have f2 : decide (R (a - b)) = true := by simp only [decide_eq_true_eq]; unfold R; omega
      simp [c1, c2, f1, f2] <;> (intro hn; exfalso; omega)
    · have f1 : decide (R (a + b)) = false := by simp only [decide_eq_false_iff_not]; unfold R; omega
      have f2 : decide (R (a - b)) = false := by simp only [decide_eq_false_iff_not]; unfold R; omega
      simp [c1, c2, f1, f2] <;> (intro hn; exfalso; omega)
  · rw [if_neg hb0, wrap_eq (x := (-9223372036854775808) - b) (by omega) (by omega), wrap_eq (x := 9223372036854775807 + b) (by omega) (by omega)]
    rw [if_pos (by omega : b < 0)]
    by_cases c1 : a ≤ 9223372036854775807 + b <;> by_cases c2 : a ≥ -9223372036854775808 - b
    · have f1 : decide (R (a + b)) = true := by simp only [decide_eq_true_eq]; unfold R; omega
      have f2 : decide (R (a - b)) = true := by simp only [decide_eq_true_eq]; unfold R; omega
      simp [c1, c2, f1, f2] <;> (intro hn; exfalso; omega)
    · have f1 : decide (R (a + b)) = false := by simp only [decide_eq_false_iff_not]; unfold R; omega
      have f2 : decide (R (a - b)) = true := by simp only [decide_eq_true_eq]; unfold R; omega
      simp [c1, c2, f1, f2] <;> (intro hn; exfalso; omega)
    · have f1 : decide (R (a + b)) = true := by simp only [decide_eq_true_eq]; unfold R; omega
      have f2 : decide (R (a - b)) = false := by simp only [decide_eq_false_iff_not]; unfold R; omega
      simp [c1, c2, f1, f2] <;> (intro hn; exfalso; omega)
    · have f1 : decide (R (a + b)) = false := by simp only [decide_eq_false_iff_not]; unfold R; omega
      have f2 : decide (R (a - b)) = false := by simp only [decide_eq_false_iff_not]; unfold R; omega
      simp [c1, c2, f1, f2] <;> (intro hn; exfalso; omega)

end Go.Proofs.Ytobcdjbfhcpijaa.Pure
