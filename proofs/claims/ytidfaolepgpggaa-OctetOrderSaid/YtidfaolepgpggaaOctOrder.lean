/- OctetOrder returns true: of two numbers of eight bytes, not below 0, the greater one has the greater bytes, and of four bytes, too; no condition. -/
import Derived.Test.YtidfaolepgpggaaOctFails
import Derived.WalkLawsBesides
namespace Go.Proofs.Ytidfaolepgpggaa.Oct
open Go.RowKit Go.Proofs.YtidfaolepgpggaaW.PrintWords Go.Proofs.YtidfaolepgpggaaW.PrintLast Go.Proofs.YtidfaolepgpggaaW.PrintMore

def lexL : List Int → List Int → Bool
  | _, [] => false
  | [], _ :: _ => true
  | a :: x, b :: y => decide (a < b) || (a == b && lexL x y)
theorem u8_lt {a b : Int} (ha : 0 ≤ a ∧ a ≤ 255) (hb : 0 ≤ b ∧ b ≤ 255) : (UInt8.ofNat a.toNat < UInt8.ofNat b.toNat) ↔ a < b := by
  rw [UInt8.lt_iff_toNat_lt, UInt8.toNat_ofNat', UInt8.toNat_ofNat']; omega
theorem u8_eq {a b : Int} (ha : 0 ≤ a ∧ a ≤ 255) (hb : 0 ≤ b ∧ b ≤ 255) : (UInt8.ofNat a.toNat = UInt8.ofNat b.toNat) ↔ a = b := by
  rw [← UInt8.toNat_inj, UInt8.toNat_ofNat', UInt8.toNat_ofNat']; omega
theorem less_lex (xs ys : List Int) (hx : B8 xs) (hy : B8 ys) : Op.bytesLess (xs.map fun n => UInt8.ofNat n.toNat) (ys.map fun n => UInt8.ofNat n.toNat) = lexL xs ys := by
  induction xs generalizing ys with
  | nil => cases ys <;> rfl
  | cons a xs ih =>
    cases ys with
    | nil => rfl
    | cons b ys =>
      have h1 := hx a (List.mem_cons_self ..)
      have h2 := hy b (List.mem_cons_self ..)
      simp only [List.map_cons, Op.bytesLess, lexL]
      rw [ih ys (fun z hz => hx z (List.mem_cons_of_mem _ hz)) (fun z hz => hy z (List.mem_cons_of_mem _ hz))]
      congr 1
      · exact decide_eq_decide.2 (u8_lt h1 h2)
      · congr 1
        rw [Bool.eq_iff_iff, beq_iff_eq, beq_iff_eq]; exact u8_eq h1 h2
theorem lex_bytes (a b : Nat) (m : Nat) : lexL (bytesS (a : Int) m) (bytesS (b : Int) m) = decide (a % 2 ^ (8 * m) < b % 2 ^ (8 * m)) := by
  induction m with
  | zero => simp [bytesS, lexL, Nat.mod_one]
  | succ m ih =>
    unfold bytesS lexL
    rw [ih]
    have e : ∀ n : Nat, ((n : Int) / 2 ^ (8 * m)) % 256 = ((n / 2 ^ (8 * m) % 256 : Nat) : Int) := fun n => by
      rw [Int.natCast_emod, Int.natCast_ediv, Int.natCast_pow]; rfl
    have e2 : ∀ n : Nat, n % 2 ^ (8 * (m + 1)) = n % 2 ^ (8 * m) + 2 ^ (8 * m) * (n / 2 ^ (8 * m) % 256) := fun n => by
      rw [show 8 * (m + 1) = 8 * m + 8 by omega, Nat.pow_add, Nat.mod_mul]
    rw [e, e, e2, e2]
    have hp : 0 < 2 ^ (8 * m) := Nat.two_pow_pos _
    have r1 := Nat.mod_lt a hp
    have r2 := Nat.mod_lt b hp
    generalize 2 ^ (8 * m) = p at *
    generalize a / p % 256 = q1 at *
    generalize b / p % 256 = q2 at *
    generalize a % p = s1 at *
    generalize b % p = s2 at *
    rw [Bool.eq_iff_iff]
    simp only [Bool.or_eq_true, Bool.and_eq_true, decide_eq_true_eq, beq_iff_eq]
    constructor
    · rintro (h | ⟨h, h'⟩)
      · have : p * (q1 + 1) ≤ p * q2 := Nat.mul_le_mul_left p (by omega)
        rw [Nat.mul_add] at this; omega
      · have : q1 = q2 := by omega
        subst this; omega
    · intro h
      by_cases c : q1 < q2
      · left; omega
      · by_cases c2 : q1 = q2
        · right; subst c2; omega
        · exfalso
          have : p * (q2 + 1) ≤ p * q1 := Nat.mul_le_mul_left p (by omega)
          rw [Nat.mul_add] at this; omega
theorem less_bytes {a b : Int} {m : Nat} (ha : 0 ≤ a) (hb : 0 ≤ b) (ha' : a < 2 ^ (8 * m)) (hb' : b < 2 ^ (8 * m)) : Op.bytesLess (strOfNums (bytesS a m)).toList (strOfNums (bytesS b m)).toList = decide (a < b) := by
  rw [ByteArray.toList_eq, ByteArray.toList_eq]
  obtain ⟨x, rfl⟩ := Int.eq_ofNat_of_zero_le ha
  obtain ⟨y, rfl⟩ := Int.eq_ofNat_of_zero_le hb
  have h := less_lex _ _ (bytes_B8 (x : Int) m) (bytes_B8 (y : Int) m)
  rw [lex_bytes] at h
  have hx : x < 2 ^ (8 * m) := by exact_mod_cast ha'
  have hy : y < 2 ^ (8 * m) := by exact_mod_cast hb'
  rw [Nat.mod_eq_of_lt hx, Nat.mod_eq_of_lt hy] at h
  simp only [strOfNums]
  rw [h]
  exact decide_eq_decide.2 (by omega)
set_option maxHeartbeats 4000000 in
set_option maxRecDepth 100000 in
theorem order_walk (a b : Int) (w : World) (ha : -9223372036854775808 ≤ a ∧ a ≤ 9223372036854775807) (hb : -9223372036854775808 ≤ b ∧ b ≤ 9223372036854775807) :
    Calls Try.prog 7 #[.int .i64 a, .int .i64 b] w fun e w' => e = .returned (.bool true) ∧ Below w.heap.size w w' := by
  obtain ⟨ha0, ha1⟩ := ha
  obtain ⟨hb0, hb1⟩ := hb
  by_cases ca : a < 0
  · go_enter Try.func7, Try.ntmps7
    go_wp2_with fail
    refine (small_calls w).mono ?_
    rintro e w1 ⟨rfl, hb1⟩
    have HB1 := Aside0.mk hb1
    clear hb1
    go_wp2
    go_ret
    exact ⟨rfl, HB1.out⟩
  by_cases cb : b < 0
  · go_enter Try.func7, Try.ntmps7
    go_wp2_with fail
    refine (small_calls w).mono ?_
    rintro e w1 ⟨rfl, hb1⟩
    have HB1 := Aside0.mk hb1
    clear hb1
    go_wp2
    go_ret
    exact ⟨rfl, HB1.out⟩
  have P8 : ∀ n, Aside0 (putS [] n 8 = (bytesS n 8, true)) := fun n => ⟨if_pos (by unfold mayS; simp)⟩
  have P4y : ∀ n : Int, 0 ≤ n → n < 2147483648 → putS [] n 4 = (bytesS n 4, true) := fun n h h' => if_pos (by unfold mayS; simp; omega)
  have P4n : ∀ n : Int, 2147483648 ≤ n → putS [] n 4 = ([], false) := fun n h => if_neg (by unfold mayS; simp; omega)
  have Q4y := Aside0.mk P4y
  have Q4n := Aside0.mk P4n
  clear P4y P4n
  by_cases da : a < 2147483648
  · by_cases db : b < 2147483648
    · go_enter Try.func7, Try.ntmps7
      go_wp2_with fail
      refine (small_calls w).mono ?_
      rintro e w1 ⟨rfl, hb1⟩
      have HB1 := Aside0.mk hb1
      clear hb1
      go_wp2_with fail
      refine (put_is ((P8 a).out) (Kd.C_nil _ _) (by simp)).mono ?_
      rintro e W1 ⟨A1, c1, rfl, _, hr1, hb1⟩
      have HR1 := Aside0.mk hr1
      have T1 := Aside0.mk hb1
      clear hr1 hb1
      go_wp2_with fail
      refine (put_is ((P8 b).out) (Kd.C_nil _ _) (by simp)).mono ?_
      rintro e W2 ⟨A2, c2, rfl, _, hr1, hb1⟩
      have HR2 := Aside0.mk hr1
      have T2 := Aside0.mk hb1
      clear hr1 hb1
      go_wp2_with fail
      refine (put_is (Q4y.out a (by omega) da) (Kd.C_nil _ _) (by simp)).mono ?_
      rintro e W3 ⟨A3, c3, rfl, _, hr1, hb1⟩
      have HR3 := Aside0.mk hr1
      have T3 := Aside0.mk hb1
      clear hr1 hb1
      go_wp2_with fail
      refine (put_is (Q4y.out b (by omega) db) (Kd.C_nil _ _) (by simp)).mono ?_
      rintro e W4 ⟨A4, c4, rfl, _, hr1, hb1⟩
      have HR4 := Aside0.mk hr1
      have T4 := Aside0.mk hb1
      clear hr1 hb1
      have S2 : Aside0 (Below W2.heap.size W2 W4) := ⟨below_step T3.out T4.out⟩
      have S1 : Aside0 (Below W1.heap.size W1 W4) := ⟨below_step T2.out S2.out⟩
      have S0 : Aside0 (Below w.heap.size w W4) := ⟨below_step HB1.out (below_step T1.out S1.out)⟩
      have hs1 := str_of (c := c1) (Kd.C_below HR1.out S1.out) rfl
      have hs2 := str_of (c := c2) (Kd.C_below HR2.out S2.out) rfl
      have hs3 := str_of (c := c3) (Kd.C_below HR3.out T4.out) rfl
      have hs4 := str_of (c := c4) HR4.out rfl
      have hl4 : (Op.bytesLess (strOfNums (bytesS a 4)).toList (strOfNums (bytesS b 4)).toList == decide (a < b)) = true := beq_iff_eq.2 (less_bytes (by omega) (by omega) (by simp; omega) (by simp; omega))
      have hl8 : (Op.bytesLess (strOfNums (bytesS a 8)).toList (strOfNums (bytesS b 8)).toList == decide (a < b)) = true := beq_iff_eq.2 (less_bytes (by omega) (by omega) (by simp; omega) (by simp; omega))
      generalize strOfNums (bytesS a 8) = s1 at *
      generalize strOfNums (bytesS b 8) = s2 at *
      generalize strOfNums (bytesS a 4) = s3 at *
      generalize strOfNums (bytesS b 4) = s4 at *
      go_wp2
      go_ret
      exact ⟨rfl, S0.out⟩
    · go_enter Try.func7, Try.ntmps7
      go_wp2_with fail
      refine (small_calls w).mono ?_
      rintro e w1 ⟨rfl, hb1⟩
      have HB1 := Aside0.mk hb1
      clear hb1
      go_wp2_with fail
      refine (put_is ((P8 a).out) (Kd.C_nil _ _) (by simp)).mono ?_
      rintro e W1 ⟨A1, c1, rfl, _, hr1, hb1⟩
      have HR1 := Aside0.mk hr1
      have T1 := Aside0.mk hb1
      clear hr1 hb1
      go_wp2_with fail
      refine (put_is ((P8 b).out) (Kd.C_nil _ _) (by simp)).mono ?_
      rintro e W2 ⟨A2, c2, rfl, _, hr1, hb1⟩
      have HR2 := Aside0.mk hr1
      have T2 := Aside0.mk hb1
      clear hr1 hb1
      go_wp2_with fail
      refine (put_is (Q4y.out a (by omega) da) (Kd.C_nil _ _) (by simp)).mono ?_
      rintro e W3 ⟨A3, c3, rfl, _, hr1, hb1⟩
      have HR3 := Aside0.mk hr1
      have T3 := Aside0.mk hb1
      clear hr1 hb1
      go_wp2_with fail
      refine (put_is (Q4n.out b (by omega)) (Kd.C_nil _ _) (by simp)).mono ?_
      rintro e W4 ⟨A4, c4, rfl, _, hr1, hb1⟩
      have HR4 := Aside0.mk hr1
      have T4 := Aside0.mk hb1
      clear hr1 hb1
      have S2 : Aside0 (Below W2.heap.size W2 W4) := ⟨below_step T3.out T4.out⟩
      have S1 : Aside0 (Below W1.heap.size W1 W4) := ⟨below_step T2.out S2.out⟩
      have S0 : Aside0 (Below w.heap.size w W4) := ⟨below_step HB1.out (below_step T1.out S1.out)⟩
      have hs1 := str_of (c := c1) (Kd.C_below HR1.out S1.out) rfl
      have hs2 := str_of (c := c2) (Kd.C_below HR2.out S2.out) rfl
      have hl8 : (Op.bytesLess (strOfNums (bytesS a 8)).toList (strOfNums (bytesS b 8)).toList == decide (a < b)) = true := beq_iff_eq.2 (less_bytes (by omega) (by omega) (by simp; omega) (by simp; omega))
      generalize strOfNums (bytesS a 8) = s1 at *
      generalize strOfNums (bytesS b 8) = s2 at *
      go_wp2
      go_ret
      exact ⟨rfl, S0.out⟩
  · by_cases db : b < 2147483648
    · go_enter Try.func7, Try.ntmps7
      go_wp2_with fail
      refine (small_calls w).mono ?_
      rintro e w1 ⟨rfl, hb1⟩
      have HB1 := Aside0.mk hb1
      clear hb1
      go_wp2_with fail
      refine (put_is ((P8 a).out) (Kd.C_nil _ _) (by simp)).mono ?_
      rintro e W1 ⟨A1, c1, rfl, _, hr1, hb1⟩
      have HR1 := Aside0.mk hr1
      have T1 := Aside0.mk hb1
      clear hr1 hb1
      go_wp2_with fail
      refine (put_is ((P8 b).out) (Kd.C_nil _ _) (by simp)).mono ?_
      rintro e W2 ⟨A2, c2, rfl, _, hr1, hb1⟩
      have HR2 := Aside0.mk hr1
      have T2 := Aside0.mk hb1
      clear hr1 hb1
      go_wp2_with fail
      refine (put_is (Q4n.out a (by omega)) (Kd.C_nil _ _) (by simp)).mono ?_
      rintro e W3 ⟨A3, c3, rfl, _, hr1, hb1⟩
      have HR3 := Aside0.mk hr1
      have T3 := Aside0.mk hb1
      clear hr1 hb1
      go_wp2_with fail
      refine (put_is (Q4y.out b (by omega) db) (Kd.C_nil _ _) (by simp)).mono ?_
      rintro e W4 ⟨A4, c4, rfl, _, hr1, hb1⟩
      have HR4 := Aside0.mk hr1
      have T4 := Aside0.mk hb1
      clear hr1 hb1
      have S2 : Aside0 (Below W2.heap.size W2 W4) := ⟨below_step T3.out T4.out⟩
      have S1 : Aside0 (Below W1.heap.size W1 W4) := ⟨below_step T2.out S2.out⟩
      have S0 : Aside0 (Below w.heap.size w W4) := ⟨below_step HB1.out (below_step T1.out S1.out)⟩
      have hs1 := str_of (c := c1) (Kd.C_below HR1.out S1.out) rfl
      have hs2 := str_of (c := c2) (Kd.C_below HR2.out S2.out) rfl
      have hl8 : (Op.bytesLess (strOfNums (bytesS a 8)).toList (strOfNums (bytesS b 8)).toList == decide (a < b)) = true := beq_iff_eq.2 (less_bytes (by omega) (by omega) (by simp; omega) (by simp; omega))
      generalize strOfNums (bytesS a 8) = s1 at *
      generalize strOfNums (bytesS b 8) = s2 at *
      go_wp2
      go_ret
      exact ⟨rfl, S0.out⟩
    · go_enter Try.func7, Try.ntmps7
      go_wp2_with fail
      refine (small_calls w).mono ?_
      rintro e w1 ⟨rfl, hb1⟩
      have HB1 := Aside0.mk hb1
      clear hb1
      go_wp2_with fail
      refine (put_is ((P8 a).out) (Kd.C_nil _ _) (by simp)).mono ?_
      rintro e W1 ⟨A1, c1, rfl, _, hr1, hb1⟩
      have HR1 := Aside0.mk hr1
      have T1 := Aside0.mk hb1
      clear hr1 hb1
      go_wp2_with fail
      refine (put_is ((P8 b).out) (Kd.C_nil _ _) (by simp)).mono ?_
      rintro e W2 ⟨A2, c2, rfl, _, hr1, hb1⟩
      have HR2 := Aside0.mk hr1
      have T2 := Aside0.mk hb1
      clear hr1 hb1
      go_wp2_with fail
      refine (put_is (Q4n.out a (by omega)) (Kd.C_nil _ _) (by simp)).mono ?_
      rintro e W3 ⟨A3, c3, rfl, _, hr1, hb1⟩
      have HR3 := Aside0.mk hr1
      have T3 := Aside0.mk hb1
      clear hr1 hb1
      go_wp2_with fail
      refine (put_is (Q4n.out b (by omega)) (Kd.C_nil _ _) (by simp)).mono ?_
      rintro e W4 ⟨A4, c4, rfl, _, hr1, hb1⟩
      have HR4 := Aside0.mk hr1
      have T4 := Aside0.mk hb1
      clear hr1 hb1
      have S2 : Aside0 (Below W2.heap.size W2 W4) := ⟨below_step T3.out T4.out⟩
      have S1 : Aside0 (Below W1.heap.size W1 W4) := ⟨below_step T2.out S2.out⟩
      have S0 : Aside0 (Below w.heap.size w W4) := ⟨below_step HB1.out (below_step T1.out S1.out)⟩
      have hs1 := str_of (c := c1) (Kd.C_below HR1.out S1.out) rfl
      have hs2 := str_of (c := c2) (Kd.C_below HR2.out S2.out) rfl
      have hl8 : (Op.bytesLess (strOfNums (bytesS a 8)).toList (strOfNums (bytesS b 8)).toList == decide (a < b)) = true := beq_iff_eq.2 (less_bytes (by omega) (by omega) (by simp; omega) (by simp; omega))
      generalize strOfNums (bytesS a 8) = s1 at *
      generalize strOfNums (bytesS b 8) = s2 at *
      go_wp2
      go_ret
      exact ⟨rfl, S0.out⟩
end Go.Proofs.Ytidfaolepgpggaa.Oct
