/- NumBack: what was added may be taken away again, and the other way round; no condition. -/
import Derived.Test.YtobcdjbfhcpijaaPNumBackx2
import Derived.Test.YtobcdjbfhcpijaaPlain
namespace Go.Proofs.Ytobcdjbfhcpijaa.Pure
open Go.RowKit Go.Proofs.Ytobcdjbfhcpijaa.PNumBack Go.Proofs.YtobcdjbfhcpijaaW.PrintWords Go.Proofs.YtobcdjbfhcpijaaW.PrintLast Go.Proofs.Ytobcdjbfhcpijaa.Plain
theorem add_f (a b : Int) (ha : R a) (hb : R b) : num_Add.f a b = some (addS a b) := by
  unfold num_Add.f addS
  have ha' := ha; have hb' := hb
  unfold R at ha' hb'
  rcases wrap_add_cases (a + b) (by omega) (by omega) with ⟨h, e⟩ | ⟨h, e⟩ | ⟨h, e⟩
  · rw [e, chk_yes h, if_neg (by simp only [bne_iff_ne, ne_eq, decide_eq_decide]; omega)]
  · rw [e, chk_no (by unfold R; omega), if_pos (by simp only [bne_iff_ne, ne_eq, decide_eq_decide]; omega), if_neg (by omega)]
  · rw [e, chk_no (by unfold R; omega), if_pos (by simp only [bne_iff_ne, ne_eq, decide_eq_decide]; omega), if_neg (by omega)]
theorem sub_f (a b : Int) (ha : R a) (hb : R b) : num_Sub.f a b = some (subS a b) := by
  unfold num_Sub.f subS
  have ha' := ha; have hb' := hb
  unfold R at ha' hb'
  rcases wrap_add_cases (a - b) (by omega) (by omega) with ⟨h, e⟩ | ⟨h, e⟩ | ⟨h, e⟩
  · rw [e, chk_yes h, if_neg (by simp only [bne_iff_ne, ne_eq, decide_eq_decide]; omega)]
  · rw [e, chk_no (by unfold R; omega), if_pos (by simp only [bne_iff_ne, ne_eq, decide_eq_decide]; omega), if_neg (by omega)]
  · rw [e, chk_no (by unfold R; omega), if_pos (by simp only [bne_iff_ne, ne_eq, decide_eq_decide]; omega), if_neg (by omega)]
theorem size_f (a : Int) (ha : R a) : num_size.f a = some (mag a) := by
  unfold R at ha
  unfold num_size.f mag
  simp only [wrap_u64]
  split
  · congr 1; omega
  · congr 1; omega
theorem mul64_f (x y : Int) (hx : 0 ≤ x) (hx' : x < 18446744073709551616) (hy : 0 ≤ y) (hy' : y < 18446744073709551616) : bits_Mul64.f x y = some (hi64 x y, lo64 x y) := by
  unfold bits_Mul64.f
  rw [mul64_eq x y hx hx' hy hy', wrap_u64]; rfl
theorem mul_f (a b : Int) (ha : R a) (hb : R b) : num_Mul.f a b = some (mulS a b) := by
  have b1 := mag_bounds ha
  have b2 := mag_bounds hb
  unfold num_Mul.f
  rw [size_f a ha, size_f b hb]
  simp only [Option.bind_some]
  rw [mul64_f _ _ b1.1 (by omega) b2.1 (by omega)]
  simp only [Option.bind_some]
  exact mul_eq a b ha hb
theorem small_f (k : Nat) (hk : 8 ≤ k) : epactlaw01_small.f k = some true :=
  at_rounds epactlaw01_small.mono hk (by decide +kernel)
theorem NumBack : epactlaw01_NumBack.Pure := by
  intro a b wa wb
  have ha := R_of_wf wa
  have hb := R_of_wf wb
  refine ⟨8 + 1, ?_⟩
  unfold epactlaw01_NumBack.f
  rw [small_f (8 + 1) (by omega), add_f a b ha hb, add_f b a hb ha]
  simp only [Option.bind_some]
  have e : addS b a = addS a b := by unfold addS; rw [Int.add_comm]
  rw [e, if_pos rfl]
  simp only [epactlaw01_NumBack.j0]
  rw [if_neg (by simp)]
  by_cases h : R (a + b)
  · have e1 : addS a b = (a + b, true) := chk_yes h
    rw [e1]; simp only [if_true]
    have e2 : subS (a + b) b = (a, true) := by unfold subS; rw [show a + b - b = a by omega]; exact chk_yes ha
    rw [sub_f _ _ h hb, e2]; simp only [Option.bind_some, if_true]
  · have e1 : addS a b = (0, false) := chk_no h
    rw [e1, if_neg (by simp), sub_f a b ha hb]
    simp only [Option.bind_some, if_true]
    by_cases h2 : R (a - b)
    · have e2 : subS a b = (a - b, true) := chk_yes h2
      have e3 : addS (a - b) b = (a, true) := by unfold addS; rw [show a - b + b = a by omega]; exact chk_yes ha
      rw [e2]; simp only [if_true]
      rw [add_f _ _ h2 hb, e3]; simp only [Option.bind_some, if_true]
    · have e2 : subS a b = (0, false) := chk_no h2
      rw [e2]; simp

end Go.Proofs.Ytobcdjbfhcpijaa.Pure
