/- NumOrders: of two numbers the greater one makes the greater sum, and the less difference where it is taken away; no condition. -/
import Derived.Test.YtobcdjbfhcpijaaPNumOrdersx2
import Derived.Test.YtobcdjbfhcpijaaPlain
namespace Go.Proofs.Ytobcdjbfhcpijaa.Pure
open Go.RowKit Go.Proofs.Ytobcdjbfhcpijaa.PNumOrders Go.Proofs.YtobcdjbfhcpijaaW.PrintWords Go.Proofs.YtobcdjbfhcpijaaW.PrintLast Go.Proofs.Ytobcdjbfhcpijaa.Plain
theorem add_f (a b : Int) (ha : R a) (hb : R b) : num_Add.f a b = some (addS a b) := by
  unfold num_Add.f addS
  have ha' := ha; have hb' := hb
  unfold R at ha' hb'
  rcases wrap_add_cases (a + b) (by omega) (by omega) with ⟨h, e⟩ | ⟨h, e⟩ | ⟨h, e⟩
  · rw [e, chk_yes h, if_neg (by simp only [bne_iff_ne, ne_eq, decide_eq_decide]; omega)]
  · rw [e, chk_no (by unfold R; omega), if_pos (by simp only [bne_iff_ne, ne_eq, decide_eq_decide]; omega), if_neg (by omega)]
  · rw [e, chk_no (by unfold R; omega), if_pos (by simp only [bne_iff_ne, ne_eq, decide_eq_decide]; omega), if_neg (by omega)]
theorem sub_f (a b : Int) (ha : R a) (hb : R b) : num_Sub.f a b = some (subS a b) := by
  unfold num_Sub.f subS
  have ha' := ha; have hb' := hb
  unfold R at ha' hb'
  rcases wrap_add_cases (a - b) (by omega) (by omega) with ⟨h, e⟩ | ⟨h, e⟩ | ⟨h, e⟩
  · rw [e, chk_yes h, if_neg (by simp only [bne_iff_ne, ne_eq, decide_eq_decide]; omega)]
  · rw [e, chk_no (by unfold R; omega), if_pos (by simp only [bne_iff_ne, ne_eq, decide_eq_decide]; omega), if_neg (by omega)]
  · rw [e, chk_no (by unfold R; omega), if_pos (by simp only [bne_iff_ne, ne_eq, decide_eq_decide]; omega), if_neg (by omega)]
theorem size_f (a : Int) (ha : R a) : num_size.f a = some (mag a) := by
  unfold R at ha
  unfold num_size.f mag
  simp only [wrap_u64]
  split
  · congr 1; omega
  · congr 1; omega
theorem mul64_f (x y : Int) (hx : 0 ≤ x) (hx' : x < 18446744073709551616) (hy : 0 ≤ y) (hy' : y < 18446744073709551616) : bits_Mul64.f x y = some (hi64 x y, lo64 x y) := by
  unfold bits_Mul64.f
  rw [mul64_eq x y hx hx' hy hy', wrap_u64]; rfl
theorem mul_f (a b : Int) (ha : R a) (hb : R b) : num_Mul.f a b = some (mulS a b) := by
  have b1 := mag_bounds ha
  have b2 := mag_bounds hb
  unfold num_Mul.f
  rw [size_f a ha, size_f b hb]
  simp only [Option.bind_some]
  rw [mul64_f _ _ b1.1 (by omega) b2.1 (by omega)]
  simp only [Option.bind_some]
  exact mul_eq a b ha hb
theorem small_f (k : Nat) (hk : 8 ≤ k) : epactlaw01_small.f k = some true :=
  at_rounds epactlaw01_small.mono hk (by decide +kernel)
theorem NumOrders : epactlaw01_NumOrders.Pure := by
  intro a b c wa wb wc
  have ha := R_of_wf wa
  have hb := R_of_wf wb
  have hc := R_of_wf wc
  refine ⟨8, ?_⟩
  unfold epactlaw01_NumOrders.f
  rw [small_f 8 (by omega), add_f a c ha hc, add_f b c hb hc, sub_f c a hc ha, sub_f c b hc hb]
  simp only [Option.bind_some, if_true]
  have t1 : (decide (a + c < b + c) == decide (a < b)) = true := by simp
  have t2 : (decide (c - a > c - b) == decide (a < b)) = true := by
    rw [beq_iff_eq, decide_eq_decide]; omega
  unfold addS subS
  by_cases h1 : R (a + c)
  · rw [chk_yes h1]
    by_cases h2 : R (b + c)
    · rw [chk_yes h2]
      simp only [if_true, t1]
      by_cases h3 : R (c - a)
      · rw [chk_yes h3]
        by_cases h4 : R (c - b)
        · rw [chk_yes h4]; simp only [if_true, t2]
        · rw [chk_no h4]; simp
      · rw [chk_no h3]; simp
    · rw [chk_no h2]
      by_cases h3 : R (c - a)
      · rw [chk_yes h3]
        by_cases h4 : R (c - b)
        · rw [chk_yes h4]; simp
        · rw [chk_no h4]; simp
      · rw [chk_no h3]; simp
  · rw [chk_no h1]
    by_cases h3 : R (c - a)
    · rw [chk_yes h3]
      by_cases h4 : R (c - b)
      · rw [chk_yes h4]; simp
      · rw [chk_no h4]; simp
    · rw [chk_no h3]; simp

end Go.Proofs.Ytobcdjbfhcpijaa.Pure
