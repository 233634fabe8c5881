/- NumSums: of numbers that are all from 0 on, or all below, a sum is too much just if that of a part of them and the rest is; no condition. -/
import Derived.Test.YtobcdjbfhcpijaaPNumSumsx2
import Derived.Test.YtobcdjbfhcpijaaPlain
namespace Go.Proofs.Ytobcdjbfhcpijaa.Pure
open Go.RowKit Go.Proofs.Ytobcdjbfhcpijaa.PNumSums Go.Proofs.YtobcdjbfhcpijaaW.PrintWords Go.Proofs.YtobcdjbfhcpijaaW.PrintLast Go.Proofs.Ytobcdjbfhcpijaa.Plain
theorem add_f (a b : Int) (ha : R a) (hb : R b) : num_Add.f a b = some (addS a b) := by
  unfold num_Add.f addS
  have ha' := ha; have hb' := hb
  unfold R at ha' hb'
  rcases wrap_add_cases (a + b) (by omega) (by omega) with ⟨h, e⟩ | ⟨h, e⟩ | ⟨h, e⟩
  · rw [e, chk_yes h, if_neg (by simp only [bne_iff_ne, ne_eq, decide_eq_decide]; omega)]
  · rw [e, chk_no (by unfold R; omega), if_pos (by simp only [bne_iff_ne, ne_eq, decide_eq_decide]; omega), if_neg (by omega)]
  · rw [e, chk_no (by unfold R; omega), if_pos (by simp only [bne_iff_ne, ne_eq, decide_eq_decide]; omega), if_neg (by omega)]
theorem sub_f (a b : Int) (ha : R a) (hb : R b) : num_Sub.f a b = some (subS a b) := by
  unfold num_Sub.f subS
  have ha' := ha; have hb' := hb
  unfold R at ha' hb'
  rcases wrap_add_cases (a - b) (by omega) (by omega) with ⟨h, e⟩ | ⟨h, e⟩ | ⟨h, e⟩
  · rw [e, chk_yes h, if_neg (by simp only [bne_iff_ne, ne_eq, decide_eq_decide]; omega)]
  · rw [e, chk_no (by unfold R; omega), if_pos (by simp only [bne_iff_ne, ne_eq, decide_eq_decide]; omega), if_neg (by omega)]
  · rw [e, chk_no (by unfold R; omega), if_pos (by simp only [bne_iff_ne, ne_eq, decide_eq_decide]; omega), if_neg (by omega)]
theorem size_f (a : Int) (ha : R a) : num_size.f a = some (mag a) := by
  unfold R at ha
  unfold num_size.f mag
  simp only [wrap_u64]
  split
  · congr 1; omega
  · congr 1; omega
theorem mul64_f (x y : Int) (hx : 0 ≤ x) (hx' : x < 18446744073709551616) (hy : 0 ≤ y) (hy' : y < 18446744073709551616) : bits_Mul64.f x y = some (hi64 x y, lo64 x y) := by
  unfold bits_Mul64.f
  rw [mul64_eq x y hx hx' hy hy', wrap_u64]; rfl
theorem mul_f (a b : Int) (ha : R a) (hb : R b) : num_Mul.f a b = some (mulS a b) := by
  have b1 := mag_bounds ha
  have b2 := mag_bounds hb
  unfold num_Mul.f
  rw [size_f a ha, size_f b hb]
  simp only [Option.bind_some]
  rw [mul64_f _ _ b1.1 (by omega) b2.1 (by omega)]
  simp only [Option.bind_some]
  exact mul_eq a b ha hb
theorem sum_l (l : List Int) (hl : ∀ x ∈ l, R x) (hn : l.length ≤ 17592186044416) : ∀ (d k i : Nat) (s : Int), i + d = l.length → d < k → R s → num_Sum.l0 k s l (l.length : Int) (i : Int) = some (sumS s (l.drop i)) := by
  intro d
  induction d with
  | zero =>
    intro k i s hi hk _
    obtain ⟨k, rfl⟩ : ∃ m, k = m + 1 := ⟨k - 1, by omega⟩
    simp only [num_Sum.l0]
    rw [if_neg (by omega), List.drop_of_length_le (by omega)]; rfl
  | succ d ih =>
    intro k i s hi hk hs
    obtain ⟨k, rfl⟩ : ∃ m, k = m + 1 := ⟨k - 1, by omega⟩
    simp only [num_Sum.l0]
    have hlt : i < l.length := by omega
    have hx : rd l (i : Int) = l[i] := by unfold rd; simp [List.getD, hlt]
    have hR : R l[i] := hl _ (List.getElem_mem hlt)
    rw [if_pos (by omega), if_pos (by omega), if_pos (by omega), hx, add_f _ _ hs hR]
    simp only [Option.bind_some]
    rw [List.drop_eq_getElem_cons hlt]
    unfold sumS addS
    by_cases h : R (s + l[i])
    · rw [chk_yes h, if_pos rfl, if_pos h]
      have e : wrap64 ((i : Int) + 1) = ((i + 1 : Nat) : Int) := by rw [wrap_in (by unfold R; omega)]; omega
      rw [e]; exact ih k (i + 1) _ (by omega) (by omega) h
    · rw [chk_no h, if_neg h]; rfl
theorem sum_f (k : Nat) (l : List Int) (hl : ∀ x ∈ l, R x) (hn : l.length ≤ 17592186044416) (hk : l.length < k) : num_Sum.f k l = some (sumS 0 l) := by
  have h := sum_l l hl hn l.length k 0 0 (by omega) hk (by unfold R; omega)
  unfold num_Sum.f
  rw [show ((0 : Nat) : Int) = 0 from rfl] at h
  rw [h, List.drop_zero]
theorem small_f (k : Nat) (hk : 8 ≤ k) : epactlaw01_small.f k = some true :=
  at_rounds epactlaw01_small.mono hk (by decide +kernel)
theorem R0 : R 0 := by unfold R; omega
theorem last_part (l : List Int) (k : Int) (hl : ∀ x ∈ l, R x) (hlen : l.length ≤ 1000) (h0 : 0 ≤ k) (h1 : k ≤ l.length) (hs : (∀ x ∈ l, 0 ≤ x) ∨ (∀ x ∈ l, x ≤ 0)) (m : Nat) (hm : 1000 < m) (i : Int) (hi : ¬ i < (l.length : Int)) :
    epactlaw01_NumSums.l0 (m + 1) l k true i = some true := by
  simp only [epactlaw01_NumSums.l0]
  have ht : ∀ x ∈ l.take k.toNat, x ∈ l := fun x hx => List.mem_of_mem_take hx
  have hd : ∀ x ∈ l.drop k.toNat, x ∈ l := fun x hx => List.mem_of_mem_drop hx
  have hlt : (l.take k.toNat).length ≤ l.length := List.length_take_le' _ _
  have hld : (l.drop k.toNat).length ≤ l.length := by rw [List.length_drop]; omega
  rw [if_neg hi, if_pos h0, if_pos h1, sum_f m _ (fun x hx => hl x (ht x hx)) (by omega) (by omega), sum_f m _ (fun x hx => hl x (hd x hx)) (by omega) (by omega), sum_f m l hl (by omega) (by omega)]
  simp only [Option.bind_some]
  rw [add_f _ _ (sumS_R _ _ R0) (sumS_R _ _ R0)]
  simp only [Option.bind_some, if_true]
  have htot : tot l = tot (l.take k.toNat) + tot (l.drop k.toNat) := by rw [← tot_append, List.take_append_drop]
  rcases hs with hs | hs
  · have g1 := tot_nonneg _ (fun x hx => hs x (ht x hx))
    have g2 := tot_nonneg _ (fun x hx => hs x (hd x hx))
    rw [sumS_up _ (fun x hx => hs x (ht x hx)) 0 (by omega) R0, sumS_up _ (fun x hx => hs x (hd x hx)) 0 (by omega) R0, sumS_up _ hs 0 (by omega) R0, htot]
    generalize tot (l.take k.toNat) = A at *
    generalize tot (l.drop k.toNat) = C at *
    unfold addS
    by_cases c1 : R (0 + A)
    · rw [chk_yes c1]
      by_cases c2 : R (0 + C)
      · rw [chk_yes c2]; simp only [if_true]
        rw [show (0 : Int) + A + (0 + C) = 0 + (A + C) by omega]; simp
      · have c3 : ¬ R (0 + (A + C)) := by unfold R at *; omega
        rw [chk_no c2, chk_no c3]; simp
    · have c3 : ¬ R (0 + (A + C)) := by unfold R at *; omega
      rw [chk_no c1, chk_no c3]; simp
  · have g1 := tot_neg _ (fun x hx => hs x (ht x hx))
    have g2 := tot_neg _ (fun x hx => hs x (hd x hx))
    rw [sumS_down _ (fun x hx => hs x (ht x hx)) 0 (by omega) R0, sumS_down _ (fun x hx => hs x (hd x hx)) 0 (by omega) R0, sumS_down _ hs 0 (by omega) R0, htot]
    generalize tot (l.take k.toNat) = A at *
    generalize tot (l.drop k.toNat) = C at *
    unfold addS
    by_cases c1 : R (0 + A)
    · rw [chk_yes c1]
      by_cases c2 : R (0 + C)
      · rw [chk_yes c2]; simp only [if_true]
        rw [show (0 : Int) + A + (0 + C) = 0 + (A + C) by omega]; simp
      · have c3 : ¬ R (0 + (A + C)) := by unfold R at *; omega
        rw [chk_no c2, chk_no c3]; simp
    · have c3 : ¬ R (0 + (A + C)) := by unfold R at *; omega
      rw [chk_no c1, chk_no c3]; simp
theorem look (l : List Int) (k : Int) (hl : ∀ x ∈ l, R x) (hlen : l.length ≤ 1000) (h0 : 0 ≤ k) (h1 : k ≤ l.length) : ∀ (d n i : Nat), i + d = max l.length 1 → d + 1001 < n → 1 ≤ i → (∀ j (h : j < l.length), j < i → (l[j] < 0 ↔ rd l 0 < 0)) →
    epactlaw01_NumSums.l0 n l k true (i : Int) = some true := by
  intro d
  induction d with
  | zero =>
    intro n i hi hn h1i hj
    obtain ⟨n, rfl⟩ : ∃ m, n = m + 1 := ⟨n - 1, by omega⟩
    refine last_part l k hl hlen h0 h1 ?_ n (by omega) _ (by omega)
    by_cases hz : rd l 0 < 0
    · right; intro x hx
      obtain ⟨j, hjl, rfl⟩ := List.getElem_of_mem hx
      have := (hj j hjl (by omega)).2 hz; omega
    · left; intro x hx
      obtain ⟨j, hjl, rfl⟩ := List.getElem_of_mem hx
      have := mt (hj j hjl (by omega)).1 hz; omega
  | succ d ih =>
    intro n i hi hn h1i hj
    obtain ⟨n, rfl⟩ : ∃ m, n = m + 1 := ⟨n - 1, by omega⟩
    have hlt : i < l.length := by omega
    simp only [epactlaw01_NumSums.l0]
    have hx : rd l (i : Int) = l[i] := by unfold rd; simp [List.getD, hlt]
    rw [if_pos (by omega), if_pos (by omega), if_pos (by omega), hx]
    by_cases hc : (decide (l[i] < 0) != decide (rd l 0 < 0)) = true
    · rw [if_pos hc]
    · rw [if_neg hc]
      have e : wrap64 ((i : Int) + 1) = ((i + 1 : Nat) : Int) := by rw [wrap_in (by unfold R; omega)]; omega
      rw [e]
      refine ih n (i + 1) (by omega) (by omega) (by omega) (fun j hjl hji => ?_)
      by_cases hje : j = i
      · subst hje; simpa using hc
      · exact hj j hjl (by omega)
theorem NumSums : epactlaw01_NumSums.Pure := by
  intro l k hm hb hw wk
  have hl : ∀ x ∈ l, R x := fun x hx => R_of_wf (hw x hx)
  refine ⟨3000 + 1, ?_⟩
  unfold epactlaw01_NumSums.f
  rw [small_f (3000 + 1) (by omega)]
  simp only [Option.bind_some]
  by_cases c1 : (l.length : Int) > 1000
  · rw [if_pos c1]; simp [epactlaw01_NumSums.j0]
  · rw [if_neg c1]
    by_cases c2 : k < 0
    · rw [if_pos c2]; simp [epactlaw01_NumSums.j0]
    · rw [if_neg c2]
      simp only [epactlaw01_NumSums.j0]
      by_cases c3 : k > (l.length : Int)
      · rw [if_pos (by simpa using c3)]
      · rw [if_neg (by simpa using c3)]
        refine look l k hl (by omega) (by omega) (by omega) (max l.length 1 - 1) 3000 1 (by omega) (by omega) (by omega) (fun j hjl hj => ?_)
        have : j = 0 := by omega
        subst this
        have hx : rd l (0 : Int) = l[0] := by unfold rd; simp [List.getD, hjl]
        rw [hx]

end Go.Proofs.Ytobcdjbfhcpijaa.Pure
