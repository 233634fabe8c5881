/- NumTimes: multiplying is adding as often, and hangs not on the order; no condition. -/
import Derived.Test.YtobcdjbfhcpijaaPNumTimesx2
import Derived.Test.YtobcdjbfhcpijaaPlain
namespace Go.Proofs.Ytobcdjbfhcpijaa.Pure
open Go.RowKit Go.Proofs.Ytobcdjbfhcpijaa.PNumTimes Go.Proofs.YtobcdjbfhcpijaaW.PrintWords Go.Proofs.YtobcdjbfhcpijaaW.PrintLast Go.Proofs.Ytobcdjbfhcpijaa.Plain
theorem add_f (a b : Int) (ha : R a) (hb : R b) : num_Add.f a b = some (addS a b) := by
  unfold num_Add.f addS
  have ha' := ha; have hb' := hb
  unfold R at ha' hb'
  rcases wrap_add_cases (a + b) (by omega) (by omega) with ⟨h, e⟩ | ⟨h, e⟩ | ⟨h, e⟩
  · rw [e, chk_yes h, if_neg (by simp only [bne_iff_ne, ne_eq, decide_eq_decide]; omega)]
  · rw [e, chk_no (by unfold R; omega), if_pos (by simp only [bne_iff_ne, ne_eq, decide_eq_decide]; omega), if_neg (by omega)]
  · rw [e, chk_no (by unfold R; omega), if_pos (by simp only [bne_iff_ne, ne_eq, decide_eq_decide]; omega), if_neg (by omega)]
theorem sub_f (a b : Int) (ha : R a) (hb : R b) : num_Sub.f a b = some (subS a b) := by
  unfold num_Sub.f subS
  have ha' := ha; have hb' := hb
  unfold R at ha' hb'
  rcases wrap_add_cases (a - b) (by omega) (by omega) with ⟨h, e⟩ | ⟨h, e⟩ | ⟨h, e⟩
  · rw [e, chk_yes h, if_neg (by simp only [bne_iff_ne, ne_eq, decide_eq_decide]; omega)]
  · rw [e, chk_no (by unfold R; omega), if_pos (by simp only [bne_iff_ne, ne_eq, decide_eq_decide]; omega), if_neg (by omega)]
  · rw [e, chk_no (by unfold R; omega), if_pos (by simp only [bne_iff_ne, ne_eq, decide_eq_decide]; omega), if_neg (by omega)]
theorem size_f (a : Int) (ha : R a) : num_size.f a = some (mag a) := by
  unfold R at ha
  unfold num_size.f mag
  simp only [wrap_u64]
  split
  · congr 1; omega
  · congr 1; omega
theorem mul64_f (x y : Int) (hx : 0 ≤ x) (hx' : x < 18446744073709551616) (hy : 0 ≤ y) (hy' : y < 18446744073709551616) : bits_Mul64.f x y = some (hi64 x y, lo64 x y) := by
  unfold bits_Mul64.f
  rw [mul64_eq x y hx hx' hy hy', wrap_u64]; rfl
theorem mul_f (a b : Int) (ha : R a) (hb : R b) : num_Mul.f a b = some (mulS a b) := by
  have b1 := mag_bounds ha
  have b2 := mag_bounds hb
  unfold num_Mul.f
  rw [size_f a ha, size_f b hb]
  simp only [Option.bind_some]
  rw [mul64_f _ _ b1.1 (by omega) b2.1 (by omega)]
  simp only [Option.bind_some]
  exact mul_eq a b ha hb
theorem sum_l (l : List Int) (hl : ∀ x ∈ l, R x) (hn : l.length ≤ 17592186044416) : ∀ (d k i : Nat) (s : Int), i + d = l.length → d < k → R s → num_Sum.l0 k s l (l.length : Int) (i : Int) = some (sumS s (l.drop i)) := by
  intro d
  induction d with
  | zero =>
    intro k i s hi hk _
    obtain ⟨k, rfl⟩ : ∃ m, k = m + 1 := ⟨k - 1, by omega⟩
    simp only [num_Sum.l0]
    rw [if_neg (by omega), List.drop_of_length_le (by omega)]; rfl
  | succ d ih =>
    intro k i s hi hk hs
    obtain ⟨k, rfl⟩ : ∃ m, k = m + 1 := ⟨k - 1, by omega⟩
    simp only [num_Sum.l0]
    have hlt : i < l.length := by omega
    have hx : rd l (i : Int) = l[i] := by unfold rd; simp [List.getD, hlt]
    have hR : R l[i] := hl _ (List.getElem_mem hlt)
    rw [if_pos (by omega), if_pos (by omega), if_pos (by omega), hx, add_f _ _ hs hR]
    simp only [Option.bind_some]
    rw [List.drop_eq_getElem_cons hlt]
    unfold sumS addS
    by_cases h : R (s + l[i])
    · rw [chk_yes h, if_pos rfl, if_pos h]
      have e : wrap64 ((i : Int) + 1) = ((i + 1 : Nat) : Int) := by rw [wrap_in (by unfold R; omega)]; omega
      rw [e]; exact ih k (i + 1) _ (by omega) (by omega) h
    · rw [chk_no h, if_neg h]; rfl
theorem sum_f (k : Nat) (l : List Int) (hl : ∀ x ∈ l, R x) (hn : l.length ≤ 17592186044416) (hk : l.length < k) : num_Sum.f k l = some (sumS 0 l) := by
  have h := sum_l l hl hn l.length k 0 0 (by omega) hk (by unfold R; omega)
  unfold num_Sum.f
  rw [show ((0 : Nat) : Int) = 0 from rfl] at h
  rw [h, List.drop_zero]
theorem small_f (k : Nat) (hk : 8 ≤ k) : epactlaw01_small.f k = some true :=
  at_rounds epactlaw01_small.mono hk (by decide +kernel)
theorem R0 : R 0 := by unfold R; omega
theorem tot_rep (a : Int) (n : Nat) : tot (List.replicate n a) = a * n := by
  induction n with
  | zero => simp [tot]
  | succ n ih => rw [List.replicate_succ, tot_cons, ih, Int.natCast_add, Int.mul_add]; omega
theorem fill (a n : Int) (h0 : 0 ≤ n) (h1 : n ≤ 100) : ∀ (d k i : Nat), (i : Int) + d = n → d + 102 < k → epactlaw01_NumTimes.l0 k a n true (List.replicate i a) (i : Int) = epactlaw01_NumTimes.l0 (k - d) a n true (List.replicate n.toNat a) n := by
  intro d
  induction d with
  | zero =>
    intro k i hi hk
    have : i = n.toNat := by omega
    subst this
    rw [show ((n.toNat : Nat) : Int) = n by omega]; rfl
  | succ d ih =>
    intro k i hi hk
    obtain ⟨k, rfl⟩ : ∃ m, k = m + 1 := ⟨k - 1, by omega⟩
    conv => lhs; simp only [epactlaw01_NumTimes.l0]
    rw [if_pos (by omega), if_pos (by rw [List.length_replicate]; omega)]
    have e : wrap64 ((i : Int) + 1) = ((i + 1 : Nat) : Int) := by rw [wrap_in (by unfold R; omega)]; omega
    rw [e, ← List.replicate_succ', ih k (i + 1) (by omega) (by omega)]
    congr 1; omega
theorem NumTimes : epactlaw01_NumTimes.Pure := by
  intro a n wa wn
  have ha := R_of_wf wa
  have hn := R_of_wf wn
  refine ⟨300 + 1, ?_⟩
  unfold epactlaw01_NumTimes.f
  rw [small_f (300 + 1) (by omega)]
  simp only [Option.bind_some]
  by_cases h0 : n < 0
  · rw [if_pos h0]; simp [epactlaw01_NumTimes.j0]
  · rw [if_neg h0]
    simp only [epactlaw01_NumTimes.j0]
    by_cases h1 : n > 100
    · rw [if_pos (by simpa using h1)]
    · rw [if_neg (by simpa using h1)]
      have hf := fill a n (by omega) (by omega) n.toNat 300 0 (by omega) (by omega)
      rw [List.replicate_zero, show ((0 : Nat) : Int) = 0 from rfl] at hf
      rw [hf]
      obtain ⟨m, hm, hm2⟩ : ∃ m, 300 - n.toNat = m + 1 ∧ 101 < m := ⟨300 - n.toNat - 1, by omega, by omega⟩
      rw [hm]
      simp only [epactlaw01_NumTimes.l0]
      have hall : ∀ x ∈ List.replicate n.toNat a, R x := fun x hx => by rw [List.eq_of_mem_replicate hx]; exact ha
      rw [if_neg (by omega), sum_f m _ hall (by rw [List.length_replicate]; omega) (by rw [List.length_replicate]; omega), mul_f a n ha hn, mul_f n a hn ha]
      simp only [Option.bind_some, if_true]
      have e1 : mulS n a = mulS a n := by unfold mulS; rw [Int.mul_comm]
      have e2 : sumS 0 (List.replicate n.toNat a) = mulS a n := by
        have ht : (0 : Int) + tot (List.replicate n.toNat a) = a * n := by rw [tot_rep, show ((n.toNat : Nat) : Int) = n by omega]; omega
        by_cases hs : 0 ≤ a
        · rw [sumS_up _ (fun x hx => by rw [List.eq_of_mem_replicate hx]; exact hs) 0 (by omega) R0, ht]; rfl
        · rw [sumS_down _ (fun x hx => by rw [List.eq_of_mem_replicate hx]; omega) 0 (by omega) R0, ht]; rfl
      rw [e1, e2]; simp

end Go.Proofs.Ytobcdjbfhcpijaa.Pure
