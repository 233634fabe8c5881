/- lines.Number: numbers: the walk; condition: none but the text's size. -/
import Derived.Test.YtlljcfadfgnmjaaDoorLnA
import Derived.Test.YtlljcfadfgnmjaaDoorPMulx1
import Derived.Test.YtlljcfadfgnmjaaDoorPAddx1
import Derived.Test.YtlljcfadfgnmjaaDoorPlain
namespace Go.Proofs.YtlljcfadfgnmjaaDoor.Ln
open Go.RowKit Go.Proofs.YtlljcfadfgnmjaaDoorW.PrintWords Go.Proofs.YtlljcfadfgnmjaaDoorW.PrintLast Go.Proofs.YtlljcfadfgnmjaaDoorW.PrintMore Plain

theorem add_f (a b : Int) (ha : R a) (hb : R b) : PAdd.num_Add.f a b = some (addS a b) := by
  unfold PAdd.num_Add.f addS
  have ha' := ha; have hb' := hb
  unfold R at ha' hb'
  rcases wrap_add_cases (a + b) (by omega) (by omega) with ⟨h, e⟩ | ⟨h, e⟩ | ⟨h, e⟩
  · rw [e, chk_yes h, if_neg (by simp only [bne_iff_ne, ne_eq, decide_eq_decide]; omega)]
  · rw [e, chk_no (by unfold R; omega), if_pos (by simp only [bne_iff_ne, ne_eq, decide_eq_decide]; omega), if_neg (by omega)]
  · rw [e, chk_no (by unfold R; omega), if_pos (by simp only [bne_iff_ne, ne_eq, decide_eq_decide]; omega), if_neg (by omega)]
theorem size_f (a : Int) (ha : R a) : PMul.num_size.f a = some (mag a) := by
  unfold R at ha
  unfold PMul.num_size.f mag
  simp only [wrap_u64]
  split
  · congr 1; omega
  · congr 1; omega
theorem mul64_f (x y : Int) (hx : 0 ≤ x) (hx' : x < 18446744073709551616) (hy : 0 ≤ y) (hy' : y < 18446744073709551616) : PMul.bits_Mul64.f x y = some (hi64 x y, lo64 x y) := by
  unfold PMul.bits_Mul64.f
  rw [mul64_eq x y hx hx' hy hy', wrap_u64]; rfl
theorem mul_f (a b : Int) (ha : R a) (hb : R b) : PMul.num_Mul.f a b = some (mulS a b) := by
  have b1 := mag_bounds ha
  have b2 := mag_bounds hb
  unfold PMul.num_Mul.f
  rw [size_f a ha, size_f b hb]
  simp only [Option.bind_some]
  rw [mul64_f _ _ b1.1 (by omega) b2.1 (by omega)]
  simp only [Option.bind_some]
  exact mul_eq a b ha hb
theorem mul_calls (a b : Int) (ha : R a) (hb : R b) (w : World) : Calls Tryd.prog 22 #[.int .i64 a, .int .i64 b] w fun e w' => e = .returned (.tuple #[.int .i64 (mulS a b).1, .bool (mulS a b).2]) ∧ Drawn0 w w' :=
  PMul.num_Mul.calls a b _ _ w (mul_f a b ha hb)
theorem add_calls (a b : Int) (ha : R a) (hb : R b) (w : World) : Calls Tryd.prog 23 #[.int .i64 a, .int .i64 b] w fun e w' => e = .returned (.tuple #[.int .i64 (addS a b).1, .bool (addS a b).2]) ∧ Drawn0 w w' :=
  PAdd.num_Add.calls a b _ _ w (add_f a b ha hb)
/-- A number's digits, on from n. -/
def numS : List UInt8 → Int → Option Int
  | [], n => some n
  | b :: r, n => match decide (48 ≤ b.toNat ∧ b.toNat ≤ 57) && decide (10 * n + ((b.toNat : Int) - 48) ≤ 9223372036854775807) with
    | true => numS r (10 * n + ((b.toNat : Int) - 48))
    | false => none
def numE (s : ByteArray) : Option Int → Int × Bool
  | some n => (n, decide (0 < s.size))
  | none => (0, false)
def numN (s : ByteArray) : Int × Bool := numE s (numS s.data.toList 0)
theorem get_at {s : ByteArray} {pos : Nat} (h : pos < s.size) : s.data.toList.drop pos = s.get! pos :: s.data.toList.drop (pos + 1) := by
  have h' : pos < s.data.toList.length := by rw [Array.length_toList]; exact h
  rw [List.drop_eq_getElem_cons h']
  congr 1
  have h2 : pos < s.data.size := h
  show _ = s.data[pos]!
  rw [getElem!_pos s.data pos h2, Array.getElem_toList]
theorem getD_at {s : ByteArray} {pos : Nat} (h : pos < s.size) : s.data.toList.getD pos 0 = s.get! pos := by
  have h1 := get_at h
  have h2 := congrArg (fun l => l[0]?) h1
  simp only [List.getElem?_drop, Nat.add_zero, List.getElem?_cons_zero] at h2
  simp [List.getD, h2]
set_option maxHeartbeats 4000000 in
set_option maxRecDepth 100000 in
theorem number_calls (s : ByteArray) (w : World) (hs : s.size ≤ 9223372036854775807) :
    Calls Tryd.prog 11 #[.string s] w fun e w' => e = .returned (.tuple #[.int .i64 (numN s).1, .bool (numN s).2]) ∧ Below w.heap.size w w' := by
  have hcv := Lib.run_convert_string_bytes w 9 34 5 s Tryd.underlying9 Tryd.underlying34 Tryd.underlying5
  have hbw : Below w.heap.size w (Lib.bytesWorld w 5 s) := ⟨rfl, rfl, rfl, by rw [Lib.bytesWorld_size]; omega, fun j hj => Lib.bytesWorld_at_old w _ s j hj⟩
  have hcell := fun j hj => Lib.bytesWorld_cell w 5 s j hj
  generalize Lib.bytesWorld w 5 s = W at *
  obtain ⟨res, hres⟩ : ∃ res, numS s.data.toList 0 = res := ⟨_, rfl⟩
  have hN : numN s = numE s res := congrArg (numE s) hres
  rw [hN]
  have HRES := Aside0.mk hres
  have HBW := Aside0.mk hbw
  have HC := Aside0.mk hcell
  clear hres hN hbw hcell
  go_enter Tryd.func11, Tryd.ntmps11
  go_wp2
  go_loopw [2, 13] (fun n i wr => ∃ (k : Nat) (m : Int) (q : Nat), k ≤ s.size ∧ n = .int .i64 m ∧ i = .int .i64 k ∧ wr = W.drewN q ∧ Aside0 (0 ≤ m ∧ m ≤ 9223372036854775807) ∧ Aside0 (numS (s.data.toList.drop k) m = res)) (fun _ i _ => s.size - (intOf i).toNat)
  case atStart => exact ⟨0, 0, 0, by omega, rfl, rfl, rfl, ⟨by omega⟩, ⟨by simpa using HRES.out⟩⟩
  case round =>
    obtain ⟨k, m, q, hk, rfl, rfl, rfl, HM, HS⟩ := hrel
    by_cases hlt : k < s.size
    · have hx : (W.drewN q).cell? ⟨w.heap.size, k, none⟩ = some (.int .u8 (s.get! k).toNat) := by rw [← getD_at hlt]; exact HC.out k hlt
      have HD := HS.out
      rw [get_at hlt] at HD
      have hb8 : (s.get! k).toNat < 256 := UInt8.toNat_lt _
      generalize s.get! k = b at *
      unfold numS at HD
      have hmr : R m := by have := HM.out; unfold R; omega
      have h10 : R 10 := by unfold R; omega
      have HMU := Aside0.mk (fun W => mul_calls m 10 hmr h10 W)
      have hmul : mulS m 10 = chk (m * 10) := rfl
      by_cases hfit : R (m * 10)
      · rw [hmul, chk_yes hfit] at HMU
        have hdr : R ((b.toNat : Int) - 48) := by unfold R; omega
        have HAD := Aside0.mk (fun W => add_calls (m * 10) ((b.toNat : Int) - 48) hfit hdr W)
        have hadd : addS (m * 10) ((b.toNat : Int) - 48) = chk (m * 10 + ((b.toNat : Int) - 48)) := rfl
        have hb1 : wrap64 ((b.toNat : Int) - 48) = (b.toNat : Int) - 48 := wrap_in hdr
        by_cases hd1 : (b.toNat : Int) < 48
        · have HNO : Aside0 (res = none) := ⟨by rw [← HD, decide_eq_false (by omega)]; rfl⟩
          clear HD HS HRES
          go_wp2_with fail
          refine (HMU.out _).mono ?_
          rintro e w1 ⟨rfl, hd⟩
          obtain ⟨q1, rfl⟩ := hd.out
          go_wp2_with fail
          refine (HAD.out _).mono ?_
          rintro e w2 ⟨rfl, hd⟩
          obtain ⟨q2, rfl⟩ := hd.out
          go_wp2
          have HNO' := HNO.out
          subst HNO'
          go_ret2
          exact ⟨rfl, pw_below_drewN HBW.out _⟩
        · by_cases hd2 : (b.toNat : Int) > 57
          · have HNO : Aside0 (res = none) := ⟨by rw [← HD, decide_eq_false (by omega)]; rfl⟩
            clear HD HS HRES
            go_wp2_with fail
            refine (HMU.out _).mono ?_
            rintro e w1 ⟨rfl, hd⟩
            obtain ⟨q1, rfl⟩ := hd.out
            go_wp2_with fail
            refine (HAD.out _).mono ?_
            rintro e w2 ⟨rfl, hd⟩
            obtain ⟨q2, rfl⟩ := hd.out
            go_wp2
            have HNO' := HNO.out
            subst HNO'
            go_ret2
            exact ⟨rfl, pw_below_drewN HBW.out _⟩
          · by_cases hsum : R (m * 10 + ((b.toNat : Int) - 48))
            · rw [hadd, chk_yes hsum] at HAD
              have hs2 := hsum
              unfold R at hs2
              have HS2 : Aside0 (numS (s.data.toList.drop (k + 1)) (m * 10 + ((b.toNat : Int) - 48)) = res) := ⟨by rw [← HD, decide_eq_true (by omega), decide_eq_true (by omega)]; show _ = numS _ _; congr 1; omega⟩
              have HM2 : Aside0 (0 ≤ m * 10 + ((b.toNat : Int) - 48) ∧ m * 10 + ((b.toNat : Int) - 48) ≤ 9223372036854775807) := ⟨by have := HM.out; omega⟩
              clear HD HS HRES hadd hmul hs2
              go_wp2_with fail
              refine (HMU.out _).mono ?_
              rintro e w1 ⟨rfl, hd⟩
              obtain ⟨q1, rfl⟩ := hd.out
              go_wp2_with fail
              refine (HAD.out _).mono ?_
              rintro e w2 ⟨rfl, hd⟩
              obtain ⟨q2, rfl⟩ := hd.out
              go_wp2
              exact ⟨⟨k + 1, _, q + q1 + q2, by omega, rfl, by go_num, rfl, HM2, HS2⟩, by simp [intOf]; omega⟩
            · rw [hadd, chk_no hsum] at HAD
              have hs2 := hsum
              unfold R at hs2
              have HNO : Aside0 (res = none) := ⟨by rw [← HD, decide_eq_true (by omega), decide_eq_false (by have := HM.out; omega)]; rfl⟩
              clear HD HS HRES hadd hmul hs2
              go_wp2_with fail
              refine (HMU.out _).mono ?_
              rintro e w1 ⟨rfl, hd⟩
              obtain ⟨q1, rfl⟩ := hd.out
              go_wp2_with fail
              refine (HAD.out _).mono ?_
              rintro e w2 ⟨rfl, hd⟩
              obtain ⟨q2, rfl⟩ := hd.out
              go_wp2
              have HNO' := HNO.out
              subst HNO'
              go_ret2
              exact ⟨rfl, pw_below_drewN HBW.out _⟩
      · rw [hmul, chk_no hfit] at HMU
        have hdr : R ((b.toNat : Int) - 48) := by unfold R; omega
        have h0r : R 0 := by unfold R; omega
        have HAD := Aside0.mk (fun W => add_calls 0 ((b.toNat : Int) - 48) h0r hdr W)
        have hadd : addS 0 ((b.toNat : Int) - 48) = ((b.toNat : Int) - 48, true) := (chk_yes (by rw [Int.zero_add]; exact hdr)).trans (by rw [Int.zero_add])
        rw [hadd] at HAD
        have hb1 : wrap64 ((b.toNat : Int) - 48) = (b.toNat : Int) - 48 := wrap_in hdr
        have HNO : Aside0 (res = none) := ⟨by
          rw [← HD]
          by_cases hdg : 48 ≤ b.toNat ∧ b.toNat ≤ 57
          · rw [decide_eq_true hdg, decide_eq_false (by unfold R at hfit; have := HM.out; omega)]; rfl
          · rw [decide_eq_false hdg]; rfl⟩
        clear HD HS HRES hadd hmul
        have HNO' := HNO.out
        subst HNO'
        go_wp2_with fail
        refine (HMU.out _).mono ?_
        rintro e w1 ⟨rfl, hd⟩
        obtain ⟨q1, rfl⟩ := hd.out
        go_wp2_with fail
        refine (HAD.out _).mono ?_
        rintro e w2 ⟨rfl, hd⟩
        obtain ⟨q2, rfl⟩ := hd.out
        go_wp2
        all_goals
          go_ret2
          exact ⟨rfl, pw_below_drewN HBW.out _⟩
    · have hke : k = s.size := by omega
      have HE : Aside0 (res = some m) := ⟨by rw [← HS.out, List.drop_of_length_le (by rw [Array.length_toList]; have : s.data.size = s.size := rfl; omega)]; rfl⟩
      have HE' := HE.out
      subst HE'
      clear HE HS HRES
      go_wp2
      go_ret2
      refine ⟨?_, pw_below_drewN HBW.out q⟩
      have : decide ((s.size : Int) > 0) = decide (0 < s.size) := decide_eq_decide.mpr (by omega)
      first | rfl | (simp [numE]; done) | (simp only [numE]; rw [← this]; rfl)
end Go.Proofs.YtlljcfadfgnmjaaDoor.Ln
