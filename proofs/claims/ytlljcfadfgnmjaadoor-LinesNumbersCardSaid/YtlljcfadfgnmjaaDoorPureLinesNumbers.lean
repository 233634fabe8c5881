/- LinesNumbers: numbers from 0 on are read of their decimals, with noughts ahead, too, and no text with another byte is one: the plain law; no condition. -/
import Derived.Test.YtlljcfadfgnmjaaDoorPLinesNumbersx2
import Derived.Test.YtlljcfadfgnmjaaDoorLnP
namespace Go.Proofs.YtlljcfadfgnmjaaDoor.Pure
open Go.RowKit Go.Proofs.YtlljcfadfgnmjaaDoor.PLinesNumbers Go.Proofs.YtlljcfadfgnmjaaDoorW.PrintWords Go.Proofs.YtlljcfadfgnmjaaDoorW.PrintLast Ln

def numV : List UInt8 → Int → Int
  | [], n => n
  | b :: r, n => numV r (10 * n + ((b.toNat : Int) - 48))
def Digits (l : List UInt8) : Prop := ∀ b ∈ l, 48 ≤ b.toNat ∧ b.toNat ≤ 57
theorem numV_ge : ∀ (l : List UInt8) (n : Int), Digits l → 0 ≤ n → n ≤ numV l n
  | [], n, _, _ => Int.le_refl n
  | b :: l, n, h, hn => by
    have hb := h b (by simp)
    have := numV_ge l (10 * n + ((b.toNat : Int) - 48)) (fun x hx => h x (by simp [hx])) (by omega)
    show n ≤ numV l _
    omega
theorem numS_ok {b : UInt8} {r : List UInt8} {n : Int} (h1 : 48 ≤ b.toNat ∧ b.toNat ≤ 57) (h2 : 10 * n + ((b.toNat : Int) - 48) ≤ 9223372036854775807) : numS (b :: r) n = numS r (10 * n + ((b.toNat : Int) - 48)) := by
  rw [numS, decide_eq_true h1, decide_eq_true h2]; rfl
theorem numS_no {b : UInt8} {r : List UInt8} {n : Int} (h : ¬((48 ≤ b.toNat ∧ b.toNat ≤ 57) ∧ 10 * n + ((b.toNat : Int) - 48) ≤ 9223372036854775807)) : numS (b :: r) n = none := by
  rw [numS, ← Bool.decide_and, decide_eq_false h]
theorem numS_all : ∀ (l : List UInt8) (n : Int), Digits l → 0 ≤ n → numV l n ≤ 9223372036854775807 → numS l n = some (numV l n)
  | [], n, _, _, _ => rfl
  | b :: l, n, h, hn, hm => by
    have hb := h b (by simp)
    have hl : Digits l := fun x hx => h x (by simp [hx])
    have hge := numV_ge l (10 * n + ((b.toNat : Int) - 48)) hl (by omega)
    have hm' : numV l (10 * n + ((b.toNat : Int) - 48)) ≤ 9223372036854775807 := hm
    rw [numS_ok hb (by omega), numS_all l _ hl (by omega) hm']
    rfl
theorem numS_bad {c : UInt8} (hc : ¬(48 ≤ c.toNat ∧ c.toNat ≤ 57)) (r : List UInt8) : ∀ (l : List UInt8) (n : Int), numS (l ++ c :: r) n = none
  | [], n => numS_no (fun h => hc h.1)
  | b :: l, n => by
    rw [List.cons_append]
    by_cases h : (48 ≤ b.toNat ∧ b.toNat ≤ 57) ∧ 10 * n + ((b.toNat : Int) - 48) ≤ 9223372036854775807
    · rw [numS_ok h.1 h.2]; exact numS_bad hc r l _
    · exact numS_no h
theorem one_byte (x : Int) : (strOfNums [x]).data.toList = [UInt8.ofNat x.toNat] := rfl
theorem one_nat {x : Int} (h : 0 ≤ x ∧ x < 256) : ((UInt8.ofNat x.toNat).toNat : Int) = x := by
  rw [UInt8.toNat_ofNat']
  omega
theorem small_digit (m : Nat) : 0 ≤ 48 + (m : Int) % 10 ∧ 48 + (m : Int) % 10 < 256 := by omega
theorem small_mod (m : Nat) : (48 + (m : Int) % 10) % 256 = 48 + (m : Int) % 10 := by omega
theorem digit_is (m : Nat) : 48 ≤ 48 + (m : Int) % 10 ∧ 48 + (m : Int) % 10 ≤ 57 := by omega
theorem digit_byte (m : Nat) : 48 ≤ (UInt8.ofNat (48 + (m : Int) % 10).toNat).toNat ∧ (UInt8.ofNat (48 + (m : Int) % 10).toNat).toNat ≤ 57 := by
  have h1 := one_nat (small_digit m)
  have h2 := digit_is m
  omega
theorem back_ten (m : Nat) : 10 * ((m / 10 : Nat) : Int) + (48 + (m : Int) % 10 - 48) = m := by omega
theorem tenth {m : Nat} (h : (m : Int) ≤ 9223372036854775807) : wrap64 ((m : Int) / 10) = ((m / 10 : Nat) : Int) := by rw [w64 (by omega)]; omega
theorem cat_data (s t : ByteArray) : (s ++ t).data.toList = s.data.toList ++ t.data.toList := by rw [ByteArray.data_append, Array.toList_append]
/-- The decimals and the noughts are read: what is asked then. -/
theorem num_end {n : Nat} {a1 a2 a3 : Int} (h3 : 0 ≤ a3 ∧ a3 < 256) (hn : (n : Int) ≤ 9223372036854775807) (h1 : 0 ≤ a1 ∧ a1 ≤ 50) : ∀ (d j : Nat) (s : ByteArray), (j : Int) + d = a1 → Digits s.data.toList → numV s.data.toList 0 = n → 1 ≤ s.size → s.size + d ≤ 100 →
    Evn (fun k => epactlaw05_LinesNumbers.l1 k n a1 a2 a3 true s (j : Int)) true
  | 0, j, s, hj, hd, hv, hs1, hs2 => by
    have hnum : numN s = ((n : Int), true) := by
      unfold numN
      rw [numS_all _ _ hd (Int.le_refl 0) (by omega), hv]
      show ((n : Int), decide (0 < s.size)) = _
      rw [decide_eq_true (by omega)]
    have hbad (hc : ¬(48 ≤ a3 ∧ a3 ≤ 57)) (h0 : 0 ≤ a2) (hz : a2 ≤ (s.size : Int)) : lines_Number.f (((s.extract 0 (a2 : Int).toNat) ++ (strOfNums [a3])) ++ (s.extract (a2 : Int).toNat s.size)) = some (0, false) := by
      unfold lines_Number.f
      have e1 : (strOfNums [a3]).size = 1 := strOfNums_size _
      rw [numF_some (by rw [ByteArray.size_append, ByteArray.size_append, ByteArray.size_extract, ByteArray.size_extract]; omega)]
      unfold numN
      rw [cat_data, cat_data, one_byte, List.append_assoc, List.singleton_append, numS_bad]
      · rfl
      · have := one_nat h3
        omega
    have hb1 (h0 : 0 ≤ a2) (hz : a2 ≤ (s.size : Int)) : (s.extract 0 (a2 : Int).toNat).size + (strOfNums [a3]).size ≤ 9223372036854775807 := by
      rw [strOfNums_size, ByteArray.size_extract, List.length_singleton]; omega
    have hb2 (h0 : 0 ≤ a2) (hz : a2 ≤ (s.size : Int)) : ((s.extract 0 (a2 : Int).toNat) ++ (strOfNums [a3])).size + (s.extract (a2 : Int).toNat s.size).size ≤ 9223372036854775807 := by
      rw [ByteArray.size_append, strOfNums_size, ByteArray.size_extract, ByteArray.size_extract, List.length_singleton]; omega
    refine Evn.now fun k => ?_
    rw [epactlaw05_LinesNumbers.l1, if_neg (by omega)]
    have hf : lines_Number.f s = some ((n : Int), true) := by unfold lines_Number.f; rw [numF_some (by omega), hnum]
    rw [hf]
    simp only [Option.bind_some, if_true]
    by_cases c1 : a2 < 0
    · rw [if_pos c1]
    by_cases c2 : a2 > (s.size : Int)
    · rw [if_neg c1, if_pos c2]
    rw [if_neg c1, if_neg c2]
    by_cases c3 : a3 ≥ 48
    · by_cases c4 : a3 ≤ 57
      · rw [if_pos c3, if_pos c4]
      · rw [if_pos c3, if_neg c4, if_pos (by omega), if_pos (by omega), if_pos (hb1 (by omega) (by omega)), if_pos (hb2 (by omega) (by omega)), hbad (by omega) (by omega) (by omega)]
        rfl
    · rw [if_neg c3, if_pos (by omega), if_pos (by omega), if_pos (hb1 (by omega) (by omega)), if_pos (hb2 (by omega) (by omega)), hbad (by omega) (by omega) (by omega)]
      rfl
  | d + 1, j, s, hj, hd, hv, hs1, hs2 => by
    have e1 : (⟨#[48]⟩ : ByteArray).size = 1 := rfl
    refine Evn.step (num_end (a2 := a2) h3 hn h1 d (j + 1) (⟨#[48]⟩ ++ s) (by omega) ?_ ?_ ?_ ?_) fun k => ?_
    · rw [cat_data]
      intro b hb
      rcases List.mem_append.1 hb with hb | hb
      · rw [List.mem_singleton.1 hb]; decide
      · exact hd b hb
    · rw [cat_data]; exact hv
    · rw [ByteArray.size_append]; omega
    · rw [ByteArray.size_append]; omega
    · rw [epactlaw05_LinesNumbers.l1, if_pos (by omega), if_pos (by omega), next_i (by omega)]
theorem num_digits {n : Nat} {a1 a2 a3 : Int} (h3 : 0 ≤ a3 ∧ a3 < 256) (hn : (n : Int) ≤ 9223372036854775807) (h1 : 0 ≤ a1 ∧ a1 ≤ 50) : ∀ (d m : Nat) (s : ByteArray), m < 10 ^ d → (m : Int) ≤ 9223372036854775807 → Digits s.data.toList → numV s.data.toList m = n → s.size + d ≤ 20 → (1 ≤ s.size ∨ 1 ≤ d) →
    Evn (fun k => epactlaw05_LinesNumbers.l0 k n a1 a2 a3 true s (m : Int)) true := by
  have step : ∀ (m : Nat) (s : ByteArray), (m : Int) ≤ 9223372036854775807 → s.size ≤ 20 → Digits s.data.toList → numV s.data.toList m = n → 
      ∃ t : ByteArray, t = strOfNums [(wrap64 (48 + (Int.tmod (m : Int) 10))) % 256] ++ s ∧ t.size = s.size + 1 ∧ Digits t.data.toList ∧ numV t.data.toList ((m / 10 : Nat) : Int) = n ∧ wrap64 (Int.tdiv (m : Int) 10) = ((m / 10 : Nat) : Int) ∧ (strOfNums [(wrap64 (48 + (Int.tmod (m : Int) 10))) % 256]).size + s.size ≤ 100 := by
    intro m s hm hs hd hv
    have e1 : Int.tmod (m : Int) 10 = (m : Int) % 10 := Int.tmod_eq_emod_of_nonneg (by omega)
    have e2 : Int.tdiv (m : Int) 10 = (m : Int) / 10 := Int.tdiv_eq_ediv_of_nonneg (by omega)
    have e3 : wrap64 (48 + (m : Int) % 10) % 256 = 48 + (m : Int) % 10 := by rw [w64 (by have := small_digit m; omega)]; exact small_mod m
    have e4 := one_nat (small_digit m)
    rw [e1, e2, e3]
    refine ⟨_, rfl, ?_, ?_, ?_, ?_, ?_⟩
    · rw [ByteArray.size_append, strOfNums_size, List.length_singleton]; omega
    · rw [cat_data, one_byte]
      intro b hb
      rcases List.mem_append.1 hb with hb | hb
      · rw [List.mem_singleton.1 hb]; exact digit_byte m
      · exact hd b hb
    · rw [cat_data, one_byte, List.singleton_append]
      show numV _ (10 * ((m / 10 : Nat) : Int) + _) = _
      rw [e4, ← hv, back_ten]
    · exact tenth hm
    · rw [strOfNums_size, List.length_singleton]; omega
  have last : ∀ s : ByteArray, Digits s.data.toList → numV s.data.toList (0 : Nat) = n → s.size ≤ 20 → 1 ≤ s.size → Evn (fun k => epactlaw05_LinesNumbers.l0 k n a1 a2 a3 true s ((0 : Nat) : Int)) true := by
    intro s hd hv hs h1s
    refine Evn.step (num_end (a2 := a2) h3 hn h1 a1.toNat 0 s (by omega) hd hv h1s (by omega)) fun k => ?_
    rw [epactlaw05_LinesNumbers.l0, if_neg (by omega), if_neg]
    · rfl
    · intro e
      have h5 : s.size = 0 := by rw [Lib.size_eq, ← ByteArray.toList_eq, e]; rfl
      omega
  intro d
  induction d with
  | zero =>
    intro m s hm hmm hd hv hs h1s
    obtain rfl : m = 0 := by simpa using hm
    exact last s hd hv (by omega) (by omega)
  | succ d ih =>
    intro m s hm hmm hd hv hs h1s
    rw [Nat.pow_succ] at hm
    generalize hP : 10 ^ d = P at *
    by_cases h0 : 0 < m
    · obtain ⟨t, rfl, ht1, ht2, ht3, ht4, ht5⟩ := step m s hmm (by omega) hd hv
      refine Evn.step (ih (m / 10) _ (by omega) (by omega) ht2 ht3 (by omega) (.inl (by omega))) fun k => ?_
      rw [epactlaw05_LinesNumbers.l0, if_pos (by omega)]
      simp only [Option.bind_some]
      rw [if_pos (Nat.le_trans ht5 (by decide)), ht4]
    · obtain rfl : m = 0 := by omega
      by_cases hsz : 1 ≤ s.size
      · exact last s hd hv (by omega) hsz
      · have hnil : s.toList = [] := by
          rw [ByteArray.toList_eq]
          exact List.eq_nil_of_length_eq_zero (by rw [← Lib.size_eq]; omega)
        obtain ⟨t, rfl, ht1, ht2, ht3, ht4, ht5⟩ := step 0 s (by omega) (by omega) hd hv
        refine Evn.step (last _ ht2 ht3 (by omega) (by omega)) fun k => ?_
        rw [epactlaw05_LinesNumbers.l0, if_neg (by omega), if_pos hnil]
        simp only [Option.bind_some]
        rw [if_pos (Nat.le_trans ht5 (by decide)), ht4]
theorem numbers_pure (a0 a1 a2 a3 : Int) (h0 : a0 ≤ 9223372036854775807) (h3 : 0 ≤ a3 ∧ a3 < 256) : ∃ k, epactlaw05_LinesNumbers.f k a0 a1 a2 a3 = some true := by
  unfold epactlaw05_LinesNumbers.f epactlaw05_small.f
  simp only [Option.bind_some]
  by_cases c0 : a0 < 0
  · exact ⟨1, by rw [if_pos c0, epactlaw05_LinesNumbers.j0, if_pos rfl]⟩
  by_cases c1 : a1 < 0
  · exact ⟨1, by rw [if_neg c0, if_pos c1, epactlaw05_LinesNumbers.j0, if_pos rfl]⟩
  by_cases c2 : a1 > 50
  · exact ⟨1, by rw [if_neg c0, if_neg c1, decide_eq_true c2, epactlaw05_LinesNumbers.j0, if_pos rfl]⟩
  obtain ⟨n, rfl⟩ : ∃ n : Nat, a0 = n := ⟨a0.toNat, by omega⟩
  obtain ⟨k, hk⟩ := (num_digits (n := n) (a1 := a1) (a2 := a2) (a3 := a3) h3 (by omega) (by omega) 19 n ⟨#[]⟩ (by omega) (by omega) (fun b hb => by simp at hb) rfl (by show (0 : Nat) + 19 ≤ 20; omega) (.inr (by omega))).get
  refine ⟨k + 1, ?_⟩
  rw [if_neg c0, if_neg c1, decide_eq_false c2, epactlaw05_LinesNumbers.j0, if_neg Bool.false_ne_true]
  exact hk
theorem numbers_walk (a0 a1 a2 a3 : Int) (w : World) (hmax : MaxIs w) (w0 : (Lit.int .i64 a0).wf = true) (_ : (Lit.int .i64 a1).wf = true) (_ : (Lit.int .i64 a2).wf = true) (w3 : (Lit.int .u8 a3).wf = true) :
    Calls Tryd.prog 6 #[.int .i64 a0, .int .i64 a1, .int .i64 a2, .int .u8 a3] w fun e w' => e = .returned (.bool true) ∧ Below w.heap.size w w' := by
  have h0 : a0 ≤ 9223372036854775807 := by
    simp [Lit.wf, IntKind.min, IntKind.max, IntKind.signed, IntKind.bits] at w0
    omega
  have h3 : 0 ≤ a3 ∧ a3 < 256 := by
    simp [Lit.wf, IntKind.min, IntKind.max, IntKind.signed, IntKind.bits] at w3
    omega
  obtain ⟨k, hk⟩ := numbers_pure a0 a1 a2 a3 h0 h3
  exact epactlaw05_LinesNumbers.calls k a0 a1 a2 a3 true w hmax hk
end Go.Proofs.YtlljcfadfgnmjaaDoor.Pure
