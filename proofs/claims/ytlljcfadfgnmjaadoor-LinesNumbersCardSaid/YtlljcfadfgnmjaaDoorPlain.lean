/- Plain facts on whole numbers of 64 bits: sums, differences, products and quotients that fit, and what wrapping does to those that do not. -/
import Derived.RowKit
import Derived.Laws.BitsLemmas
namespace Go.Proofs.YtlljcfadfgnmjaaDoor.Plain
open Go.RowKit Go

def R (x : Int) : Prop := -9223372036854775808 ≤ x ∧ x ≤ 9223372036854775807
instance (x : Int) : Decidable (R x) := by unfold R; exact inferInstance

theorem R_of_wf {x : Int} (h : (Lit.int .i64 x).wf = true) : R x := by
  simp [Lit.wf, IntKind.min, IntKind.max, IntKind.signed, IntKind.bits] at h
  unfold R; omega
theorem wrap_in {x : Int} (h : R x) : wrap64 x = x := by unfold R at h; unfold wrap64; omega
theorem R_wrap (x : Int) : R (wrap64 x) := by unfold R wrap64; omega
theorem wrap_bounds (x : Int) : -9223372036854775808 ≤ wrap64 x ∧ wrap64 x ≤ 9223372036854775807 := R_wrap x

def chk (x : Int) : Int × Bool := if R x then (x, true) else (0, false)
def addS (a b : Int) : Int × Bool := chk (a + b)
def subS (a b : Int) : Int × Bool := chk (a - b)
def mulS (a b : Int) : Int × Bool := chk (a * b)
theorem chk_yes {x : Int} (h : R x) : chk x = (x, true) := if_pos h
theorem chk_no {x : Int} (h : ¬ R x) : chk x = (0, false) := if_neg h
theorem chk_R (x : Int) : R (chk x).1 := by
  unfold chk; split
  · assumption
  · unfold R; omega
theorem chk_snd (x : Int) : (chk x).2 = decide (R x) := by unfold chk; split <;> simp_all

theorem wrap_add_cases (x : Int) (h : -18446744073709551616 ≤ x) (h' : x ≤ 18446744073709551615) :
    (R x ∧ wrap64 x = x) ∨ (x < -9223372036854775808 ∧ wrap64 x = x + 18446744073709551616) ∨ (9223372036854775807 < x ∧ wrap64 x = x - 18446744073709551616) := by
  unfold R wrap64; omega

/- the product of two numbers of 64 bits, in halves -/
theorem and32 (x : Int) (h₀ : 0 ≤ x) (h₁ : x < 18446744073709551616) : Go.bits .and .u64 x 4294967295 = x % 4294967296 :=
  bits_mask .u64 64 (by decide) (fun n h h' => by simp [IntKind.wrap, IntKind.bits, IntKind.signed]; omega) 32 (by decide) x h₀ (by simpa using h₁)
theorem wrap_u64 (n : Int) : IntKind.u64.wrap n = n % 18446744073709551616 := by simp [IntKind.wrap, IntKind.bits, IntKind.signed]
theorem halves (x y : Int) : x * y = (x / 4294967296) * (y / 4294967296) * 18446744073709551616 + ((x / 4294967296) * (y % 4294967296) + (x % 4294967296) * (y / 4294967296)) * 4294967296 + (x % 4294967296) * (y % 4294967296) := by
  have hx := Int.mul_ediv_add_emod x 4294967296
  have hy := Int.mul_ediv_add_emod y 4294967296
  generalize x / 4294967296 = x1 at *
  generalize x % 4294967296 = x0 at *
  generalize y / 4294967296 = y1 at *
  generalize y % 4294967296 = y0 at *
  subst hx hy
  have e1 : (4294967296 * x1 + x0) * (4294967296 * y1 + y0) = (4294967296 * 4294967296) * (x1 * y1) + 4294967296 * (x1 * y0) + 4294967296 * (x0 * y1) + x0 * y0 := by
    rw [Int.add_mul, Int.mul_add, Int.mul_add]
    have a1 : 4294967296 * x1 * (4294967296 * y1) = (4294967296 * 4294967296) * (x1 * y1) := by
      rw [Int.mul_assoc, Int.mul_left_comm x1, ← Int.mul_assoc]
    have a2 : 4294967296 * x1 * y0 = 4294967296 * (x1 * y0) := Int.mul_assoc _ _ _
    have a3 : x0 * (4294967296 * y1) = 4294967296 * (x0 * y1) := Int.mul_left_comm _ _ _
    rw [a1, a2, a3]; omega
  rw [e1]; omega
theorem prod_le {a b m n : Int} (ha : 0 ≤ a) (hb : 0 ≤ b) (ham : a ≤ m) (hbn : b ≤ n) : 0 ≤ a * b ∧ a * b ≤ m * n :=
  ⟨Int.mul_nonneg ha hb, Int.mul_le_mul ham hbn hb (by omega)⟩
def hi64 (x y : Int) : Int := x * y / 18446744073709551616
def lo64 (x y : Int) : Int := x * y % 18446744073709551616

theorem mul64_eq (x y : Int) (hx : 0 ≤ x) (hx' : x < 18446744073709551616) (hy : 0 ≤ y) (hy' : y < 18446744073709551616) :
    IntKind.u64.wrap ((IntKind.u64.wrap ((IntKind.u64.wrap ((x / 4294967296) * (y / 4294967296))) + ((IntKind.u64.wrap ((IntKind.u64.wrap ((x / 4294967296) * (Go.bits .and .u64 y 4294967295))) + ((IntKind.u64.wrap ((Go.bits .and .u64 x 4294967295) * (Go.bits .and .u64 y 4294967295))) / 4294967296))) / 4294967296))) + ((IntKind.u64.wrap ((Go.bits .and .u64 (IntKind.u64.wrap ((IntKind.u64.wrap ((x / 4294967296) * (Go.bits .and .u64 y 4294967295))) + ((IntKind.u64.wrap ((Go.bits .and .u64 x 4294967295) * (Go.bits .and .u64 y 4294967295))) / 4294967296))) 4294967295) + (IntKind.u64.wrap ((Go.bits .and .u64 x 4294967295) * (y / 4294967296))))) / 4294967296))
      = hi64 x y := by
  rw [and32 x hx hx', and32 y hy hy']
  simp only [wrap_u64]
  have h := halves x y
  have b11 := prod_le (a := x / 4294967296) (b := y / 4294967296) (m := 4294967295) (n := 4294967295) (by omega) (by omega) (by omega) (by omega)
  have b10 := prod_le (a := x / 4294967296) (b := y % 4294967296) (m := 4294967295) (n := 4294967295) (by omega) (by omega) (by omega) (by omega)
  have b01 := prod_le (a := x % 4294967296) (b := y / 4294967296) (m := 4294967295) (n := 4294967295) (by omega) (by omega) (by omega) (by omega)
  have b00 := prod_le (a := x % 4294967296) (b := y % 4294967296) (m := 4294967295) (n := 4294967295) (by omega) (by omega) (by omega) (by omega)
  unfold hi64
  generalize (x / 4294967296) * (y / 4294967296) = p11 at *
  generalize (x / 4294967296) * (y % 4294967296) = p10 at *
  generalize (x % 4294967296) * (y / 4294967296) = p01 at *
  generalize (x % 4294967296) * (y % 4294967296) = p00 at *
  rw [and32 _ (by omega) (by omega)]
  rw [h]; omega

/- how great a number is, without its sign -/
def mag (x : Int) : Int := if x < 0 then -x else x
theorem mag_bounds {x : Int} (h : R x) : 0 ≤ mag x ∧ mag x ≤ 9223372036854775808 := by unfold R at h; unfold mag; split <;> omega
theorem mag_mul (a b : Int) : mag a * mag b = if (decide (a < 0) != decide (b < 0)) = true then -(a * b) else a * b := by
  unfold mag
  by_cases ha : a < 0 <;> by_cases hb : b < 0 <;> simp [ha, hb, Int.neg_mul, Int.mul_neg]
theorem mag_sign {a b : Int} (h : (decide (a < 0) != decide (b < 0)) = true) : a * b ≤ 0 := by
  by_cases ha : a < 0 <;> by_cases hb : b < 0 <;> simp [ha, hb] at h
  · have := Int.mul_nonneg (a := -a) (b := b) (by omega) (by omega); rw [Int.neg_mul] at this; omega
  · have := Int.mul_nonneg (a := a) (b := -b) (by omega) (by omega); rw [Int.mul_neg] at this; omega
theorem mul_eq (a b : Int) (ha : R a) (hb : R b) :
    (if ((decide (a < 0)) != (decide (b < 0))) = true then (if hi64 (mag a) (mag b) = 0 then (if lo64 (mag a) (mag b) > 9223372036854775808 then (some ((0 : Int), false)) else (some (wrap64 (a * b), true))) else (some (0, false))) else (if hi64 (mag a) (mag b) = 0 then (if lo64 (mag a) (mag b) > 9223372036854775807 then (some (0, false)) else (some (wrap64 (a * b), true))) else (some (0, false)))) = some (mulS a b) := by
  have hm := mag_mul a b
  have b1 := mag_bounds ha
  have b2 := mag_bounds hb
  have b3 := prod_le b1.1 b2.1 b1.2 b2.2
  unfold hi64 lo64 mulS chk
  by_cases h : (decide (a < 0) != decide (b < 0)) = true
  · have hs := mag_sign h
    rw [if_pos h] at hm; rw [hm] at b3; rw [if_pos h, hm]
    generalize a * b = p at *
    by_cases c : -p / 18446744073709551616 = 0
    · rw [if_pos c]
      by_cases d : -p % 18446744073709551616 > 9223372036854775808
      · rw [if_pos d, if_neg (by unfold R; omega)]
      · have hR : R p := by unfold R; omega
        rw [if_neg d, if_pos hR, wrap_in hR]
    · rw [if_neg c, if_neg (by unfold R; omega)]
  · rw [if_neg h] at hm; rw [hm] at b3; rw [if_neg h, hm]
    generalize a * b = p at *
    by_cases c : p / 18446744073709551616 = 0
    · rw [if_pos c]
      by_cases d : p % 18446744073709551616 > 9223372036854775807
      · rw [if_pos d, if_neg (by unfold R; omega)]
      · have hR : R p := by unfold R; omega
        rw [if_neg d, if_pos hR, wrap_in hR]
    · rw [if_neg c, if_neg (by unfold R; omega)]

/- quotients, downwards -/
def divS (a b : Int) : Int × Int × Bool := if b < 1 then (0, 0, false) else (a / b, a % b, true)
theorem div_eq (a b : Int) (ha : R a) (hb : R b) :
    (if b < 1 then (some ((0 : Int), (0 : Int), false)) else (if b = 0 then (none) else (if (Int.tmod a b) < 0 then (some (wrap64 ((wrap64 (Int.tdiv a b)) - 1), wrap64 ((Int.tmod a b) + b), true)) else (some (wrap64 (Int.tdiv a b), Int.tmod a b, true))))) = some (divS a b) := by
  unfold divS
  by_cases h : b < 1
  · rw [if_pos h, if_pos h]
  · rw [if_neg h, if_neg h, if_neg (by omega)]
    have hb0 : 0 < b := by omega
    have e1 := Int.mul_tdiv_add_tmod a b
    have e2 := Int.mul_ediv_add_emod a b
    have e3 := Int.emod_nonneg a (by omega : b ≠ 0)
    have e4 := Int.emod_lt_of_pos a hb0
    by_cases ha0 : 0 ≤ a
    · rw [Int.tdiv_eq_ediv_of_nonneg ha0, Int.tmod_eq_emod_of_nonneg ha0]
      have q0 : 0 ≤ a / b := Int.ediv_nonneg ha0 (by omega)
      have q1 : a / b ≤ a := Int.ediv_le_self _ ha0
      rw [if_neg (by omega), wrap_in (by unfold R at *; omega)]
    · have hna : 0 ≤ -a := by omega
      have r1 : Int.tmod a b = -((-a) % b) := by
        rw [← Int.tmod_eq_emod_of_nonneg hna, Int.neg_tmod, Int.neg_neg]
      have q1 : Int.tdiv a b = -((-a) / b) := by
        rw [← Int.tdiv_eq_ediv_of_nonneg hna, Int.neg_tdiv, Int.neg_neg]
      have f1 := Int.emod_nonneg (-a) (by omega : b ≠ 0)
      have f2 := Int.emod_lt_of_pos (-a) hb0
      have g0 : 0 ≤ (-a) / b := Int.ediv_nonneg hna (by omega)
      have g1 : (-a) / b ≤ -a := Int.ediv_le_self _ hna
      have f3 := Int.mul_ediv_add_emod (-a) b
      rw [r1, q1]
      generalize hq : (-a) / b = q at *
      generalize hr : (-a) % b = r at *
      unfold R at ha hb
      by_cases hz : r = 0
      · subst hz
        rw [if_neg (by omega), wrap_in (by unfold R; omega)]
        have u : a / b = -q ∧ a % b = 0 := by
          have hu := (Int.ediv_emod_unique hb0 (a := a) (q := -q) (r := 0)).2 ⟨by rw [Int.mul_neg]; omega, by omega, by omega⟩
          exact hu
        rw [u.1, u.2]; simp
      · have hqa : q < -a ∨ b = 1 := by
          by_cases hb1 : b = 1
          · exact Or.inr hb1
          · left
            by_cases hq0 : q = 0
            · omega
            · have : q * 2 ≤ q * b := Int.mul_le_mul_of_nonneg_left (by omega) g0
              rw [Int.mul_comm q b] at this; omega
        have hqa' : q < -a := by
          rcases hqa with h | h
          · exact h
          · subst h; omega
        rw [if_pos (by omega), wrap_in (x := -q) (by unfold R; omega), wrap_in (by unfold R; omega), wrap_in (by unfold R; omega)]
        have u : a / b = -q - 1 ∧ a % b = -r + b := by
          have hu := (Int.ediv_emod_unique hb0 (a := a) (q := -q - 1) (r := -r + b)).2 ⟨by rw [Int.mul_sub, Int.mul_neg]; omega, by omega, by omega⟩
          exact hu
        rw [u.1, u.2]

/- sums of many -/
def sumS : Int → List Int → Int × Bool
  | s, [] => (s, true)
  | s, x :: l => if R (s + x) then sumS (s + x) l else (0, false)
theorem sumS_R (l : List Int) : ∀ s, R s → R (sumS s l).1 := by
  induction l with
  | nil => exact fun s h => h
  | cons x l ih => intro s h; unfold sumS; split
                   · exact ih _ ‹_›
                   · unfold R; simp
theorem sumS_append (l m : List Int) : ∀ s, sumS s (l ++ m) = if (sumS s l).2 = true then sumS (sumS s l).1 m else (0, false) := by
  induction l with
  | nil => intro s; simp [sumS]
  | cons x l ih => intro s; simp only [List.cons_append, sumS]; split
                   · exact ih _
                   · simp
def tot (l : List Int) : Int := l.foldr (· + ·) 0
theorem tot_cons (x : Int) (l : List Int) : tot (x :: l) = x + tot l := rfl
theorem tot_nonneg (l : List Int) (h : ∀ x ∈ l, 0 ≤ x) : 0 ≤ tot l := by
  induction l with
  | nil => simp [tot]
  | cons x l ih => rw [tot_cons]; have := ih (fun y hy => h y (List.mem_cons_of_mem _ hy)); have := h x (List.mem_cons_self ..); omega
theorem tot_neg (l : List Int) (h : ∀ x ∈ l, x ≤ 0) : tot l ≤ 0 := by
  induction l with
  | nil => simp [tot]
  | cons x l ih => rw [tot_cons]; have := ih (fun y hy => h y (List.mem_cons_of_mem _ hy)); have := h x (List.mem_cons_self ..); omega
theorem tot_append (l m : List Int) : tot (l ++ m) = tot l + tot m := by
  induction l with
  | nil => simp [tot]
  | cons x l ih => rw [List.cons_append, tot_cons, tot_cons, ih]; omega
theorem sumS_up (l : List Int) (h : ∀ x ∈ l, 0 ≤ x) : ∀ s, 0 ≤ s → R s → sumS s l = chk (s + tot l) := by
  induction l with
  | nil => intro s _ hs; simp [sumS, tot, chk, hs]
  | cons x l ih =>
    intro s h0 hs
    have hx := h x (List.mem_cons_self ..)
    have hl : ∀ y ∈ l, 0 ≤ y := fun y hy => h y (List.mem_cons_of_mem _ hy)
    have ht := tot_nonneg l hl
    rw [tot_cons]; unfold sumS
    split
    · rw [ih hl (s + x) (by omega) ‹_›, Int.add_assoc]
    · rw [chk_no]; rename_i hn; unfold R at *; omega
theorem sumS_down (l : List Int) (h : ∀ x ∈ l, x ≤ 0) : ∀ s, s ≤ 0 → R s → sumS s l = chk (s + tot l) := by
  induction l with
  | nil => intro s _ hs; simp [sumS, tot, chk, hs]
  | cons x l ih =>
    intro s h0 hs
    have hx := h x (List.mem_cons_self ..)
    have hl : ∀ y ∈ l, y ≤ 0 := fun y hy => h y (List.mem_cons_of_mem _ hy)
    have ht := tot_neg l hl
    rw [tot_cons]; unfold sumS
    split
    · rw [ih hl (s + x) (by omega) ‹_›, Int.add_assoc]
    · rw [chk_no]; rename_i hn; unfold R at *; omega
end Go.Proofs.YtlljcfadfgnmjaaDoor.Plain
