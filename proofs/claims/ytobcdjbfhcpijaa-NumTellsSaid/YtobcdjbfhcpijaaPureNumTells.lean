/- NumTells: what is reckoned is the document's own answer; no condition. -/
import Derived.Test.YtobcdjbfhcpijaaPNumTellsx2
import Derived.Test.YtobcdjbfhcpijaaPlain
namespace Go.Proofs.Ytobcdjbfhcpijaa.Pure
open Go.RowKit Go.Proofs.Ytobcdjbfhcpijaa.PNumTells Go.Proofs.YtobcdjbfhcpijaaW.PrintWords Go.Proofs.YtobcdjbfhcpijaaW.PrintLast Go.Proofs.Ytobcdjbfhcpijaa.Plain
theorem add_f (a b : Int) (ha : R a) (hb : R b) : num_Add.f a b = some (addS a b) := by
  unfold num_Add.f addS
  have ha' := ha; have hb' := hb
  unfold R at ha' hb'
  rcases wrap_add_cases (a + b) (by omega) (by omega) with ⟨h, e⟩ | ⟨h, e⟩ | ⟨h, e⟩
  · rw [e, chk_yes h, if_neg (by simp only [bne_iff_ne, ne_eq, decide_eq_decide]; omega)]
  · rw [e, chk_no (by unfold R; omega), if_pos (by simp only [bne_iff_ne, ne_eq, decide_eq_decide]; omega), if_neg (by omega)]
  · rw [e, chk_no (by unfold R; omega), if_pos (by simp only [bne_iff_ne, ne_eq, decide_eq_decide]; omega), if_neg (by omega)]
theorem sub_f (a b : Int) (ha : R a) (hb : R b) : num_Sub.f a b = some (subS a b) := by
  unfold num_Sub.f subS
  have ha' := ha; have hb' := hb
  unfold R at ha' hb'
  rcases wrap_add_cases (a - b) (by omega) (by omega) with ⟨h, e⟩ | ⟨h, e⟩ | ⟨h, e⟩
  · rw [e, chk_yes h, if_neg (by simp only [bne_iff_ne, ne_eq, decide_eq_decide]; omega)]
  · rw [e, chk_no (by unfold R; omega), if_pos (by simp only [bne_iff_ne, ne_eq, decide_eq_decide]; omega), if_neg (by omega)]
  · rw [e, chk_no (by unfold R; omega), if_pos (by simp only [bne_iff_ne, ne_eq, decide_eq_decide]; omega), if_neg (by omega)]
theorem size_f (a : Int) (ha : R a) : num_size.f a = some (mag a) := by
  unfold R at ha
  unfold num_size.f mag
  simp only [wrap_u64]
  split
  · congr 1; omega
  · congr 1; omega
theorem mul64_f (x y : Int) (hx : 0 ≤ x) (hx' : x < 18446744073709551616) (hy : 0 ≤ y) (hy' : y < 18446744073709551616) : bits_Mul64.f x y = some (hi64 x y, lo64 x y) := by
  unfold bits_Mul64.f
  rw [mul64_eq x y hx hx' hy hy', wrap_u64]; rfl
theorem mul_f (a b : Int) (ha : R a) (hb : R b) : num_Mul.f a b = some (mulS a b) := by
  have b1 := mag_bounds ha
  have b2 := mag_bounds hb
  unfold num_Mul.f
  rw [size_f a ha, size_f b hb]
  simp only [Option.bind_some]
  rw [mul64_f _ _ b1.1 (by omega) b2.1 (by omega)]
  simp only [Option.bind_some]
  exact mul_eq a b ha hb
theorem div_f (a b : Int) (ha : R a) (hb : R b) : num_Div.f a b = some (divS a b) := by
  unfold num_Div.f
  exact div_eq a b ha hb
theorem sum_l (l : List Int) (hl : ∀ x ∈ l, R x) (hn : l.length ≤ 17592186044416) : ∀ (d k i : Nat) (s : Int), i + d = l.length → d < k → R s → num_Sum.l0 k s l (l.length : Int) (i : Int) = some (sumS s (l.drop i)) := by
  intro d
  induction d with
  | zero =>
    intro k i s hi hk _
    obtain ⟨k, rfl⟩ : ∃ m, k = m + 1 := ⟨k - 1, by omega⟩
    simp only [num_Sum.l0]
    rw [if_neg (by omega), List.drop_of_length_le (by omega)]; rfl
  | succ d ih =>
    intro k i s hi hk hs
    obtain ⟨k, rfl⟩ : ∃ m, k = m + 1 := ⟨k - 1, by omega⟩
    simp only [num_Sum.l0]
    have hlt : i < l.length := by omega
    have hx : rd l (i : Int) = l[i] := by unfold rd; simp [List.getD, hlt]
    have hR : R l[i] := hl _ (List.getElem_mem hlt)
    rw [if_pos (by omega), if_pos (by omega), if_pos (by omega), hx, add_f _ _ hs hR]
    simp only [Option.bind_some]
    rw [List.drop_eq_getElem_cons hlt]
    unfold sumS addS
    by_cases h : R (s + l[i])
    · rw [chk_yes h, if_pos rfl, if_pos h]
      have e : wrap64 ((i : Int) + 1) = ((i + 1 : Nat) : Int) := by rw [wrap_in (by unfold R; omega)]; omega
      rw [e]; exact ih k (i + 1) _ (by omega) (by omega) h
    · rw [chk_no h, if_neg h]; rfl
theorem sum_f (k : Nat) (l : List Int) (hl : ∀ x ∈ l, R x) (hn : l.length ≤ 17592186044416) (hk : l.length < k) : num_Sum.f k l = some (sumS 0 l) := by
  have h := sum_l l hl hn l.length k 0 0 (by omega) hk (by unfold R; omega)
  unfold num_Sum.f
  rw [show ((0 : Nat) : Int) = 0 from rfl] at h
  rw [h, List.drop_zero]
theorem small_f (k : Nat) (hk : 8 ≤ k) : epactlaw01_small.f k = some true :=
  at_rounds epactlaw01_small.mono hk (by decide +kernel)
theorem R0 : R 0 := by unfold R; omega

theorem back {a b : Int} (ha : R a) (hb : R b) (c2 : b ≠ 0) (hs : ¬ (a = -9223372036854775808 ∧ b = -1)) (h : wrap64 (Int.tdiv (wrap64 (a * b)) b) = a) : R (a * b) := by
  have hw := R_wrap (a * b)
  have hmod : ∃ t : Int, wrap64 (a * b) = a * b + 18446744073709551616 * t := ⟨-((a * b + 9223372036854775808) / 18446744073709551616), by unfold wrap64; omega⟩
  obtain ⟨t, ht⟩ := hmod
  have e1 := Int.mul_tdiv_add_tmod (wrap64 (a * b)) b
  have l1 := Int.tmod_lt_of_pos (wrap64 (a * b)) (b := b)
  have hab : (Int.tmod (wrap64 (a * b)) b).natAbs < b.natAbs := by
    have := Nat.mod_lt (wrap64 (a * b)).natAbs (Int.natAbs_pos.2 c2)
    rwa [← Int.natAbs_tmod] at this
  have hle : (Int.tdiv (wrap64 (a * b)) b).natAbs ≤ (wrap64 (a * b)).natAbs := by rw [Int.natAbs_tdiv]; exact Nat.div_le_self _ _
  generalize hW : wrap64 (a * b) = W at *
  generalize hQ : Int.tdiv W b = Q at *
  generalize hM : Int.tmod W b = M at *
  unfold R at ha hb hw
  have hQR : Q = a ∨ (Q = 9223372036854775808 ∧ a = -9223372036854775808) := by
    unfold wrap64 at h; omega
  rcases hQR with rfl | ⟨hq, ha2⟩
  · have e2 : b * Q = Q * b := Int.mul_comm _ _
    generalize Q * b = p at *
    have : t = 0 := by omega
    subst this
    unfold R; omega
  · subst ha2; subst hq
    have hWm : W = -9223372036854775808 := by
      have hb2 : b * 9223372036854775808 + M = W := e1
      omega
    exfalso
    omega
theorem radd_f (a b : Int) (ha : R a) (hb : R b) : epactref01_Add.f a b = some (addS a b) := by
  have ha' := ha; have hb' := hb
  unfold R at ha' hb'
  have ew : R (a + b) → wrap64 (a + b) = a + b := wrap_in
  unfold epactref01_Add.f addS
  by_cases c1 : b > 0
  · rw [if_pos c1, wrap_in (x := 9223372036854775807 - b) (by unfold R; omega)]
    by_cases c2 : a > 9223372036854775807 - b
    · rw [if_pos c2, chk_no (by unfold R; omega)]
    · have hR : R (a + b) := by unfold R; omega
      rw [if_neg c2, if_neg (by omega), chk_yes hR, ew hR]
  · rw [if_neg c1]
    by_cases c3 : b < 0
    · rw [if_pos c3, wrap_in (x := (-9223372036854775808) - b) (by unfold R; omega)]
      by_cases c2 : a < -9223372036854775808 - b
      · rw [if_pos c2, chk_no (by unfold R; omega)]
      · have hR : R (a + b) := by unfold R; omega
        rw [if_neg c2, chk_yes hR, ew hR]
    · have hR : R (a + b) := by unfold R; omega
      rw [if_neg c3, chk_yes hR, ew hR]
theorem rsub_f (a b : Int) (ha : R a) (hb : R b) : epactref01_Sub.f a b = some (subS a b) := by
  have ha' := ha; have hb' := hb
  unfold R at ha' hb'
  have ew : R (a - b) → wrap64 (a - b) = a - b := wrap_in
  unfold epactref01_Sub.f subS
  by_cases c1 : b < 0
  · rw [if_pos c1, wrap_in (x := 9223372036854775807 + b) (by unfold R; omega)]
    by_cases c2 : a > 9223372036854775807 + b
    · rw [if_pos c2, chk_no (by unfold R; omega)]
    · have hR : R (a - b) := by unfold R; omega
      rw [if_neg c2, if_neg (by omega), chk_yes hR, ew hR]
  · rw [if_neg c1]
    by_cases c3 : b > 0
    · rw [if_pos c3, wrap_in (x := (-9223372036854775808) + b) (by unfold R; omega)]
      by_cases c2 : a < -9223372036854775808 + b
      · rw [if_pos c2, chk_no (by unfold R; omega)]
      · have hR : R (a - b) := by unfold R; omega
        rw [if_neg c2, chk_yes hR, ew hR]
    · have hR : R (a - b) := by unfold R; omega
      rw [if_neg c3, chk_yes hR, ew hR]
theorem rmul_f (k : Nat) (a b : Int) (ha : R a) (hb : R b) : epactref01_Mul.f (k + 1) a b = some (mulS a b) := by
  have z : ∀ x : Int, x = 0 → chk x = (0, true) := fun x hx => by subst hx; exact chk_yes R0
  unfold epactref01_Mul.f mulS
  simp only [epactref01_Mul.j0]
  by_cases c1 : a = 0
  · rw [if_pos c1, if_pos trivial, z _ (by rw [c1, Int.zero_mul])]
  · rw [if_neg c1]
    by_cases c2 : b = 0
    · rw [if_pos (by simpa using c2), z _ (by rw [c2, Int.mul_zero])]
    · rw [if_neg (by simpa using c2)]
      simp only [if_neg c2]
      have hq : (if (wrap64 (Int.tdiv (wrap64 (a * b)) b)) = a then (some (wrap64 (a * b), true)) else (some ((0 : Int), false))) = some (chk (a * b)) ∨ (a = -9223372036854775808 ∧ b = -1) := by
        by_cases hs : a = -9223372036854775808 ∧ b = -1
        · exact Or.inr hs
        · left
          by_cases hR : R (a * b)
          · rw [wrap_in hR, Int.mul_tdiv_cancel _ c2, wrap_in ha, if_pos rfl, chk_yes hR]
          · rw [chk_no hR, if_neg]
            intro h
            exact hR (back ha hb c2 hs h)
      have no : ∀ x y : Int, R x → R y → (x = -1 ∧ y = -9223372036854775808) → chk (x * y) = (0, false) := by
        intro x y _ _ h
        rw [h.1, h.2]; exact chk_no (by unfold R; omega)
      by_cases d1 : a = -1
      · rw [if_pos d1]
        by_cases d2 : b = -9223372036854775808
        · rw [if_pos d2, no a b ha hb ⟨d1, d2⟩]
        · rw [if_neg d2]
          have hq' : (if (wrap64 (Int.tdiv (wrap64 (a * b)) b)) = a then (some (wrap64 (a * b), true)) else (some ((0 : Int), false))) = some (chk (a * b)) := by
            rcases hq with h | h
            · exact h
            · omega
          by_cases d3 : b = -1
          · rw [if_pos d3, if_neg (by omega)]; exact hq'
          · rw [if_neg d3]; exact hq'
      · rw [if_neg d1]
        by_cases d3 : b = -1
        · rw [if_pos d3]
          by_cases d4 : a = -9223372036854775808
          · rw [if_pos d4, Int.mul_comm a b, no b a hb ha ⟨d3, d4⟩]
          · rw [if_neg d4]
            rcases hq with h | h
            · exact h
            · omega
        · rw [if_neg d3]
          rcases hq with h | h
          · exact h
          · omega
theorem rsum_l (l : List Int) (hl : ∀ x ∈ l, R x) (hn : l.length ≤ 17592186044416) : ∀ (d k i : Nat) (s : Int), i + d = l.length → d < k → R s → epactref01_Sum.l0 k l s (i : Int) = some (sumS s (l.drop i)) := by
  intro d
  induction d with
  | zero =>
    intro k i s hi hk _
    obtain ⟨k, rfl⟩ : ∃ m, k = m + 1 := ⟨k - 1, by omega⟩
    simp only [epactref01_Sum.l0]
    rw [if_neg (by omega), List.drop_of_length_le (by omega)]; rfl
  | succ d ih =>
    intro k i s hi hk hs
    obtain ⟨k, rfl⟩ : ∃ m, k = m + 1 := ⟨k - 1, by omega⟩
    simp only [epactref01_Sum.l0]
    have hlt : i < l.length := by omega
    have hx : rd l (i : Int) = l[i] := by unfold rd; simp [List.getD, hlt]
    have hR : R l[i] := hl _ (List.getElem_mem hlt)
    rw [if_pos (by omega), if_pos (by omega), hx, radd_f _ _ hs hR]
    simp only [Option.bind_some]
    rw [List.drop_eq_getElem_cons hlt]
    unfold sumS addS
    by_cases h : R (s + l[i])
    · rw [chk_yes h, if_pos rfl, if_pos h]
      have e : wrap64 ((i : Int) + 1) = ((i + 1 : Nat) : Int) := by rw [wrap_in (by unfold R; omega)]; omega
      rw [e]; exact ih k (i + 1) _ (by omega) (by omega) h
    · rw [chk_no h, if_neg h]; rfl
theorem NumTells : epactlaw01_NumTells.Pure := by
  intro a b l wa wb hm hby hw
  have ha := R_of_wf wa
  have hb := R_of_wf wb
  have hl : ∀ x ∈ l, R x := fun x hx => R_of_wf (hw x hx)
  refine ⟨l.length + 8 + 1, ?_⟩
  have hlen : l.length ≤ 17592186044416 := by omega
  unfold epactlaw01_NumTells.f
  rw [small_f (l.length + 8 + 1) (by omega)]
  simp only [Option.bind_some]
  by_cases c : (l.length : Int) > 1000
  · rw [if_pos c]
  · rw [if_neg c, add_f a b ha hb, radd_f a b ha hb, sub_f a b ha hb, rsub_f a b ha hb, mul_f a b ha hb, rmul_f _ a b ha hb, div_f a b ha hb]
    have e1 : epactref01_Div.f a b = some (divS a b) := by unfold epactref01_Div.f; exact div_eq a b ha hb
    have e2 : epactref01_Sum.f (l.length + 8 + 1) l = some (sumS 0 l) := by
      have h := rsum_l l hl hlen l.length (l.length + 8 + 1) 0 0 (by omega) (by omega) R0
      unfold epactref01_Sum.f
      rw [show ((0 : Nat) : Int) = 0 from rfl] at h
      rw [h, List.drop_zero]
    rw [e1, e2, sum_f _ l hl hlen (by omega)]
    simp

end Go.Proofs.Ytobcdjbfhcpijaa.Pure
