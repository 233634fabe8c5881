/- abbr: which names are right: good, its denial, Right; condition: none. -/
import Derived.Test.YtahknjlhlfooeaaShelf
import Derived.Test.YtahknjlhlfooeaaPgoodx1
namespace Go.Proofs.Ytahknjlhlfooeaa.Ab
open Go.RowKit Go.Proofs.YtahknjlhlfooeaaW.PrintWords Go.Proofs.YtahknjlhlfooeaaW.PrintLast Go.Proofs.YtahknjlhlfooeaaW.PrintMore

def goodB (c : Int) : Bool := decide ((97 ≤ c ∧ c ≤ 122) ∨ (65 ≤ c ∧ c ≤ 90) ∨ (48 ≤ c ∧ c ≤ 57) ∨ c = 43 ∨ c = 45)
set_option maxHeartbeats 2000000 in
theorem good_f (c : Int) : Pgood.abbr_good.f c = some (goodB c) := by
  unfold Pgood.abbr_good.f
  have h45 : (c == 45) = decide (c = 45) := rfl
  rw [h45]
  (repeat' split) <;> (congr 1; unfold goodB; rw [eq_comm]; first | (rw [decide_eq_true_eq]; omega) | (rw [decide_eq_decide]; omega))
theorem good_calls (c : Int) (w : World) : Calls Try.prog 17 #[.int .i32 c] w fun e w' => e = .returned (.bool (goodB c)) ∧ Drawn0 w w' :=
  Pgood.abbr_good.calls c _ w (good_f c)
theorem bad_calls (c : Int) (w : World) : Calls Try.prog 16 #[.int .i32 c] w fun e w' => e = .returned (.bool (!goodB c)) ∧ ∃ q, w' = w.drewN q := by
  go_enter Try.func16, Try.ntmps16
  go_wp2_with fail
  refine (good_calls c _).mono ?_
  rintro e w' ⟨rfl, hd⟩
  obtain ⟨q, rfl⟩ := hd.out
  go_wp2
  go_ret
  exact ⟨rfl, q, rfl⟩
theorem bad_pred (w : World) : PredAt Try.prog 16 #[] encR (fun n => !goodB (n : Int)) w := fun W x _ => bad_calls (x : Int) W
theorem contains_calls (s : ByteArray) (w : World) :
    Calls Try.prog 18 #[.string s, .func (.func 16) #[] #[]] w fun e w' => e = .returned (.bool (decide (0 ≤ Lib.idxFunc (fun n => !goodB (n : Int)) true s))) ∧ Below w.heap.size w w' :=
  Try.strings_ContainsFunc 16 #[] (fun args w => enters_ Try.func16 (by kernel_rfl) (by kernel_rfl) args w) _ s w (bad_pred w)
/-- Which names are right. -/
def rightN (s : ByteArray) : Bool := decide (3 ≤ s.size ∧ s.size ≤ 16) && s.data.toList.all (fun b => goodB (b.toNat : Int))
theorem good_low {n : Nat} (h : goodB (n : Int) = true) : n < 128 := by
  have := of_decide_eq_true h
  omega
theorem decode_high {s : ByteArray} {pos : Nat} (h : 128 ≤ (s.get! pos).toNat) : 128 ≤ (Utf8.decode s pos).1 := by
  rw [Lib.decode_at]
  generalize (s.get! pos).toNat = b0 at *
  unfold Lib.decodeN
  (repeat' split) <;> (try simp only) <;> omega
theorem decode_low {s : ByteArray} {pos : Nat} (h : (s.get! pos).toNat < 128) : Utf8.decode s pos = ((s.get! pos).toNat, 1) := by
  rw [Lib.decode_at]
  unfold Lib.decodeN
  rw [if_pos h]
theorem get_at {s : ByteArray} {pos : Nat} (h : pos < s.size) : s.data.toList.drop pos = s.get! pos :: s.data.toList.drop (pos + 1) := by
  have h' : pos < s.data.toList.length := by rw [Array.length_toList]; exact h
  rw [List.drop_eq_getElem_cons h']
  congr 1
  have h2 : pos < s.data.size := h
  show _ = s.data[pos]!
  rw [getElem!_pos s.data pos h2, Array.getElem_toList]
theorem idx_from (s : ByteArray) : ∀ f pos : Nat, s.size ≤ pos + f → decide (0 ≤ Lib.idxFuncFrom (fun n => !goodB (n : Int)) true s f pos) = (s.data.toList.drop pos).any (fun b => !goodB (b.toNat : Int))
  | 0, pos, h => by
    rw [List.drop_of_length_le (by rw [Array.length_toList]; exact h)]
    rfl
  | f + 1, pos, h => by
    by_cases hp : pos < s.size
    · rw [get_at hp, List.any_cons]
      unfold Lib.idxFuncFrom
      rw [if_pos hp]
      by_cases hg : goodB ((s.get! pos).toNat : Int) = true
      · have hlow := good_low hg
        rw [decode_low hlow, hg, if_neg (by simp), idx_from s f (pos + 1) (by omega)]
        rfl
      · rw [Bool.eq_false_iff.mpr hg]
        have hb : goodB ((Utf8.decode s pos).1 : Int) = false := by
          by_cases hl : (s.get! pos).toNat < 128
          · rw [decode_low hl]; exact Bool.eq_false_iff.mpr hg
          · refine Bool.eq_false_iff.mpr fun hc => ?_
            have h1 := good_low hc
            have h2 := decode_high (s := s) (pos := pos) (by omega)
            omega
        rw [hb, if_pos (show (!false) = true from rfl)]
        simp
    · rw [List.drop_of_length_le (by rw [Array.length_toList]; have : s.data.size = s.size := rfl; omega), Lib.idxFuncFrom_end _ _ _ _ _ hp]
      rfl
theorem idx_any (s : ByteArray) : decide (0 ≤ Lib.idxFunc (fun n => !goodB (n : Int)) true s) = s.data.toList.any (fun b => !goodB (b.toNat : Int)) := by
  unfold Lib.idxFunc
  rw [idx_from s s.size 0 (by omega), List.drop_zero]
theorem rightN_eq (s : ByteArray) : rightN s = (decide (3 ≤ s.size ∧ s.size ≤ 16) && !s.data.toList.any (fun b => !goodB (b.toNat : Int))) := by
  unfold rightN
  rw [List.not_any_eq_all_not]
  simp
set_option maxHeartbeats 1000000 in
theorem right_calls (s : ByteArray) (w : World) (hs : s.size ≤ 9223372036854775807) :
    Calls Try.prog 13 #[.string s] w fun e w' => e = .returned (.bool (rightN s)) ∧ Below w.heap.size w w' := by
  have hc := contains_calls s
  rw [idx_any] at hc
  have HQ := rightN_eq s
  generalize rightN s = r at *
  generalize (s.data.toList.any (fun b => !goodB (b.toNat : Int))) = q at *
  by_cases h3 : 3 ≤ s.size
  · by_cases h16 : s.size ≤ 16
    · rw [decide_eq_true ⟨h3, h16⟩, Bool.true_and] at HQ
      subst HQ
      go_enter Try.func13, Try.ntmps13
      go_wp2_with fail
      refine (hc _).mono ?_
      rintro e w' ⟨rfl, hb⟩
      go_wp2
      go_ret
      exact ⟨rfl, hb⟩
    · rw [decide_eq_false (by omega), Bool.false_and] at HQ
      subst HQ
      clear hc
      go_enter Try.func13, Try.ntmps13
      go_wp2
      go_ret
      exact ⟨rfl, Below.refl _ _⟩
  · rw [decide_eq_false (by omega), Bool.false_and] at HQ
    subst HQ
    clear hc
    go_enter Try.func13, Try.ntmps13
    go_wp2
    go_ret
    exact ⟨rfl, Below.refl _ _⟩
end Go.Proofs.Ytahknjlhlfooeaa.Ab
