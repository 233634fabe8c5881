/- NumDivides: a number is its quotient's fold and its remainder, which is less than what it is divided by; no condition. -/
import Derived.Test.YtobcdjbfhcpijaaPNumDividesx2
import Derived.Test.YtobcdjbfhcpijaaPlain
namespace Go.Proofs.Ytobcdjbfhcpijaa.Pure
open Go.RowKit Go.Proofs.Ytobcdjbfhcpijaa.PNumDivides Go.Proofs.YtobcdjbfhcpijaaW.PrintWords Go.Proofs.YtobcdjbfhcpijaaW.PrintLast Go.Proofs.Ytobcdjbfhcpijaa.Plain
theorem add_f (a b : Int) (ha : R a) (hb : R b) : num_Add.f a b = some (addS a b) := by
  unfold num_Add.f addS
  have ha' := ha; have hb' := hb
  unfold R at ha' hb'
  rcases wrap_add_cases (a + b) (by omega) (by omega) with ⟨h, e⟩ | ⟨h, e⟩ | ⟨h, e⟩
  · rw [e, chk_yes h, if_neg (by simp only [bne_iff_ne, ne_eq, decide_eq_decide]; omega)]
  · rw [e, chk_no (by unfold R; omega), if_pos (by simp only [bne_iff_ne, ne_eq, decide_eq_decide]; omega), if_neg (by omega)]
  · rw [e, chk_no (by unfold R; omega), if_pos (by simp only [bne_iff_ne, ne_eq, decide_eq_decide]; omega), if_neg (by omega)]
theorem sub_f (a b : Int) (ha : R a) (hb : R b) : num_Sub.f a b = some (subS a b) := by
  unfold num_Sub.f subS
  have ha' := ha; have hb' := hb
  unfold R at ha' hb'
  rcases wrap_add_cases (a - b) (by omega) (by omega) with ⟨h, e⟩ | ⟨h, e⟩ | ⟨h, e⟩
  · rw [e, chk_yes h, if_neg (by simp only [bne_iff_ne, ne_eq, decide_eq_decide]; omega)]
  · rw [e, chk_no (by unfold R; omega), if_pos (by simp only [bne_iff_ne, ne_eq, decide_eq_decide]; omega), if_neg (by omega)]
  · rw [e, chk_no (by unfold R; omega), if_pos (by simp only [bne_iff_ne, ne_eq, decide_eq_decide]; omega), if_neg (by omega)]
theorem size_f (a : Int) (ha : R a) : num_size.f a = some (mag a) := by
  unfold R at ha
  unfold num_size.f mag
  simp only [wrap_u64]
  split
  · congr 1; omega
  · congr 1; omega
theorem mul64_f (x y : Int) (hx : 0 ≤ x) (hx' : x < 18446744073709551616) (hy : 0 ≤ y) (hy' : y < 18446744073709551616) : bits_Mul64.f x y = some (hi64 x y, lo64 x y) := by
  unfold bits_Mul64.f
  rw [mul64_eq x y hx hx' hy hy', wrap_u64]; rfl
theorem mul_f (a b : Int) (ha : R a) (hb : R b) : num_Mul.f a b = some (mulS a b) := by
  have b1 := mag_bounds ha
  have b2 := mag_bounds hb
  unfold num_Mul.f
  rw [size_f a ha, size_f b hb]
  simp only [Option.bind_some]
  rw [mul64_f _ _ b1.1 (by omega) b2.1 (by omega)]
  simp only [Option.bind_some]
  exact mul_eq a b ha hb
theorem div_f (a b : Int) (ha : R a) (hb : R b) : num_Div.f a b = some (divS a b) := by
  unfold num_Div.f
  exact div_eq a b ha hb
theorem small_f (k : Nat) (hk : 8 ≤ k) : epactlaw01_small.f k = some true :=
  at_rounds epactlaw01_small.mono hk (by decide +kernel)

theorem div_R {a b : Int} (ha : R a) (hb : 0 < b) : R (a / b) := by
  have ha' := ha; unfold R at ha'
  by_cases h : 0 ≤ a
  · have q0 : 0 ≤ a / b := Int.ediv_nonneg h (by omega)
    have q1 : a / b ≤ a := Int.ediv_le_self _ h
    unfold R; omega
  · have q0 : a / b < 0 := Int.ediv_neg_of_neg_of_pos (by omega) hb
    have q1 : a ≤ a / b := by
      rw [Int.le_ediv_iff_mul_le hb]
      have := Int.mul_le_mul_of_nonpos_left (a := a) (b := b) (c := 1) (by omega) (by omega)
      omega
    unfold R; omega
theorem NumDivides : epactlaw01_NumDivides.Pure := by
  intro a b wa wb
  have ha := R_of_wf wa
  have hb := R_of_wf wb
  refine ⟨8 + 1, ?_⟩
  unfold epactlaw01_NumDivides.f
  rw [small_f (8 + 1) (by omega), div_f a b ha hb]
  simp only [Option.bind_some, if_true]
  by_cases h : b < 1
  · rw [if_pos h]
    have e : divS a b = (0, 0, false) := if_pos h
    rw [e]; simp
  · have e : divS a b = (a / b, a % b, true) := if_neg h
    have e2 := Int.mul_ediv_add_emod a b
    have e3 := Int.emod_nonneg a (by omega : b ≠ 0)
    have e4 := Int.emod_lt_of_pos a (by omega : 0 < b)
    have hq := div_R ha (by omega : 0 < b)
    rw [if_neg h, e]
    dsimp only
    rw [if_neg (by omega), if_neg (by omega)]
    rw [Int.mul_comm] at e2
    generalize hqq : a / b = q at *
    generalize hrr : a % b = r at *
    simp only [epactlaw01_NumDivides.j0]
    rw [if_neg (by simp), mul_f q b hq hb]
    simp only [Option.bind_some, if_true]
    by_cases hm : R (q * b)
    · have e5 : mulS q b = (q * b, true) := chk_yes hm
      have hr : R r := by unfold R at *; omega
      have e6 : addS (q * b) r = (a, true) := by unfold addS; rw [e2]; exact chk_yes ha
      rw [e5]; simp only [if_true]
      rw [add_f _ _ hm hr, e6]; simp
    · have e5 : mulS q b = (0, false) := chk_no hm
      rw [e5, if_neg (by simp)]
      have ha0 : a < 0 := by
        by_cases hn : a < 0
        · exact hn
        · exfalso; apply hm
          have hq0 : 0 ≤ q := by rw [← hqq]; exact Int.ediv_nonneg (by omega) (by omega)
          have := Int.mul_nonneg hq0 (by omega : 0 ≤ b)
          unfold R at *; omega
      have hq0 : q < 0 := by
        by_cases hn : q < 0
        · exact hn
        · exfalso
          have := Int.mul_nonneg (by omega : 0 ≤ q) (by omega : 0 ≤ b)
          omega
      have hr0 : r > 0 := by
        by_cases hn : r > 0
        · exact hn
        · exfalso; apply hm; unfold R at *; omega
      rw [if_pos ha0, if_pos hq0]; simp [hr0]

end Go.Proofs.Ytobcdjbfhcpijaa.Pure
