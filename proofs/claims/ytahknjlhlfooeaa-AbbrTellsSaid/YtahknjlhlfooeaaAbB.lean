/- abbr.At: what stands at a place: the walk (strings.Cut at a byte 0, At); condition: none. -/
import Derived.Test.YtahknjlhlfooeaaAbA
namespace Go.Proofs.Ytahknjlhlfooeaa.Ab
open Go.RowKit Go.Proofs.YtahknjlhlfooeaaW.PrintWords Go.Proofs.YtahknjlhlfooeaaW.PrintLast Go.Proofs.YtahknjlhlfooeaaW.PrintMore

theorem index_cases : ∀ l : List UInt8, (Lib.indexByte l 0 = -1 ∧ ∀ j : Nat, l[j]? ≠ some 0) ∨ ∃ i : Nat, Lib.indexByte l 0 = (i : Int) ∧ i < l.length ∧ l[i]? = some 0 ∧ ∀ j < i, l[j]? ≠ some 0
  | [] => .inl ⟨rfl, fun j => by simp⟩
  | b :: l => by
    by_cases hb : b = 0
    · subst hb
      exact .inr ⟨0, by simp [Lib.indexByte], by simp, by simp, fun j hj => by omega⟩
    · have hb' : (b == 0) = false := beq_eq_false_iff_ne.mpr hb
      rcases index_cases l with ⟨h, hn⟩ | ⟨i, h, hi, h0, hn⟩
      · refine .inl ⟨by simp [Lib.indexByte, hb', h], fun j => ?_⟩
        cases j with
        | zero => simpa using hb
        | succ j => simpa using hn j
      · refine .inr ⟨i + 1, ?_, by rw [List.length_cons]; omega, by simpa using h0, fun j hj => ?_⟩
        · have : ¬ ((i : Int) == -1) = true := by rw [beq_iff_eq]; omega
          simp only [Lib.indexByte, hb', h]
          rw [if_neg Bool.false_ne_true, if_neg this]
          simp
        · cases j with
          | zero => simpa using hb
          | succ j => simpa using hn j (by omega)
set_option maxHeartbeats 1000000 in
theorem lcut_hit (s : ByteArray) (i : Nat) (h : Lib.indexByte s.data.toList 0 = (i : Int)) (hi : i < s.size) (hs : s.size ≤ 9223372036854775807) (w : World) :
    Calls Try.prog 19 #[.string s, .string ⟨#[0]⟩] w fun e w' => e = .returned (.tuple #[.string (s.extract 0 i), .string (s.extract (i + 1) s.size), .bool true]) ∧ ∃ n, w' = w.drewN n := by
  have HI := Try.stringslite_Index_one s 0 w
  rw [h] at HI
  have c1 : (0 : Int) ≤ (i : Int) := by omega
  have c2 : (i : Int) ≤ (s.size : Int) := by omega
  have c3 : (0 : Int) ≤ (i : Int) + 1 := by omega
  have c4 : (i : Int) + 1 ≤ (s.size : Int) := by omega
  clear h
  go_enter Try.func19, Try.ntmps19
  go_wp2_with fail
  refine HI.mono ?_
  rintro e w' ⟨rfl, rfl⟩
  go_wp2
  go_quiet (fail)
  go_wp2
  go_ret3
  exact ⟨rfl, nq, rfl⟩
theorem lcut_miss (s : ByteArray) (h : Lib.indexByte s.data.toList 0 = -1) (w : World) :
    Calls Try.prog 19 #[.string s, .string ⟨#[0]⟩] w fun e w' => e = .returned (.tuple #[.string s, .string ⟨#[]⟩, .bool false]) ∧ ∃ n, w' = w.drewN n := by
  have HI := Try.stringslite_Index_one s 0 w
  rw [h] at HI
  clear h
  go_enter Try.func19, Try.ntmps19
  go_wp2_with fail
  refine HI.mono ?_
  rintro e w' ⟨rfl, rfl⟩
  go_wp2
  go_ret3
  exact ⟨rfl, 0, rfl⟩
theorem cut_of {s t u : ByteArray} {b : Bool} {w : World} (h : Calls Try.prog 19 #[.string s, .string ⟨#[0]⟩] w fun e w' => e = .returned (.tuple #[.string t, .string u, .bool b]) ∧ ∃ n, w' = w.drewN n) :
    Calls Try.prog 15 #[.string s, .string ⟨#[0]⟩] w fun e w' => e = .returned (.tuple #[.string t, .string u, .bool b]) ∧ ∃ n, w' = w.drewN n := by
  go_enter Try.func15, Try.ntmps15
  go_wp2_with fail
  refine h.mono ?_
  rintro e w' ⟨rfl, n, rfl⟩
  go_wp2
  go_ret3
  exact ⟨rfl, n, rfl⟩
def atT (t : ByteArray) : Int → ByteArray × Bool
  | .ofNat i => match rightN (t.extract 0 i) with
    | true => (t.extract 0 i, true)
    | false => (⟨#[]⟩, false)
  | .negSucc _ => (⟨#[]⟩, false)
/-- What stands at a place. -/
def atN (pool : ByteArray) (at_ : Int) : ByteArray × Bool := match decide (0 ≤ at_ ∧ at_ < pool.size) with
  | true => atT (pool.extract at_.toNat pool.size) (Lib.indexByte (pool.extract at_.toNat pool.size).data.toList 0)
  | false => (⟨#[]⟩, false)
set_option maxHeartbeats 2000000 in
theorem at_calls (pool : ByteArray) (at_ : Int) (r1 : ByteArray) (r2 : Bool) (w : World) (hs : pool.size ≤ 9223372036854775807) (h : atN pool at_ = (r1, r2)) :
    Calls Try.prog 10 #[.string pool, .int .i64 at_] w fun e w' => e = .returned (.tuple #[.string r1, .bool r2]) ∧ Below w.heap.size w w' := by
  unfold atN at h
  by_cases h0 : 0 ≤ at_
  · by_cases h1 : at_ < pool.size
    · rw [decide_eq_true ⟨h0, h1⟩] at h
      have h1' : at_ ≤ pool.size := by omega
      generalize ht : pool.extract at_.toNat pool.size = t at *
      have hts : t.size ≤ 9223372036854775807 := by rw [← ht, ByteArray.size_extract]; omega
      rcases index_cases t.data.toList with ⟨hi, _⟩ | ⟨i, hi, hil, _, _⟩
      · rw [hi] at h
        injection h with e1 e2
        subst e1 e2
        have HC := fun W => cut_of (lcut_miss t hi W)
        go_enter Try.func10, Try.ntmps10
        go_wp2_with fail
        refine (HC _).mono ?_
        rintro e w' ⟨rfl, n, rfl⟩
        go_wp2
        go_ret2
        exact ⟨rfl, pw_below_drewN (Below.refl _ _) n⟩
      · rw [hi] at h
        have hil' : i < t.size := by rw [Array.length_toList] at hil; exact hil
        have HC := fun W => cut_of (lcut_hit t i hi hil' hts W)
        have HRT := fun W => right_calls (t.extract 0 i) W (by rw [ByteArray.size_extract]; omega)
        have h' : (match rightN (t.extract 0 i) with | true => (t.extract 0 i, true) | false => ((⟨#[]⟩ : ByteArray), false)) = (r1, r2) := h
        clear h hi
        cases hq : rightN (t.extract 0 i) with
        | true =>
          rw [hq] at h' HRT
          injection h' with e1 e2
          subst e1 e2
          clear hq
          go_enter Try.func10, Try.ntmps10
          go_wp2_with fail
          refine (HC _).mono ?_
          rintro e w' ⟨rfl, n, rfl⟩
          go_wp2_with fail
          refine (HRT _).mono ?_
          rintro e w2 ⟨rfl, hb⟩
          go_wp2
          go_ret2
          exact ⟨rfl, (pw_below_drewN (Below.refl _ _) n).trans hb⟩
        | false =>
          rw [hq] at h' HRT
          injection h' with e1 e2
          subst e1 e2
          clear hq
          go_enter Try.func10, Try.ntmps10
          go_wp2_with fail
          refine (HC _).mono ?_
          rintro e w' ⟨rfl, n, rfl⟩
          go_wp2_with fail
          refine (HRT _).mono ?_
          rintro e w2 ⟨rfl, hb⟩
          go_wp2
          go_ret2
          exact ⟨rfl, (pw_below_drewN (Below.refl _ _) n).trans hb⟩
    · rw [decide_eq_false (by omega)] at h
      injection h with e1 e2
      subst e1 e2
      have h1' : at_ ≥ pool.size := by omega
      go_enter Try.func10, Try.ntmps10
      go_wp2
      go_ret2
      exact ⟨rfl, Below.refl _ _⟩
  · rw [decide_eq_false (by omega)] at h
    injection h with e1 e2
    subst e1 e2
    have h0' : at_ < 0 := by omega
    go_enter Try.func10, Try.ntmps10
    go_wp2
    go_ret2
    exact ⟨rfl, Below.refl _ _⟩
end Go.Proofs.Ytahknjlhlfooeaa.Ab
