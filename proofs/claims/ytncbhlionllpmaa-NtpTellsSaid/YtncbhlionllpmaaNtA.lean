/- ntp.Word: a word of digits: the walk; no condition. -/
import Derived.Test.YtncbhlionllpmaaLnA
import Derived.Test.YtncbhlionllpmaaPdigitx1
namespace Go.Proofs.Ytncbhlionllpmaa.Nt
open Go.RowKit Go.Proofs.YtncbhlionllpmaaW.PrintWords Go.Proofs.YtncbhlionllpmaaW.PrintLast Go.Proofs.YtncbhlionllpmaaW.PrintMore

/-- A sign's digit. -/
def digN (r : Nat) : Option Nat :=
  if 48 ≤ r ∧ r ≤ 57 then some (r - 48) else if 97 ≤ r ∧ r ≤ 102 then some (r - 87) else if 65 ≤ r ∧ r ≤ 70 then some (r - 55) else none
def digE : Option Nat → Int × Bool
  | some d => (d, true)
  | none => (0, false)
theorem digN_lt {r d : Nat} (h : digN r = some d) : d < 16 := by
  unfold digN at h
  split at h
  · injection h; omega
  · split at h
    · injection h; omega
    · split at h
      · injection h; omega
      · cases h
theorem w32_in {x : Int} (h : 0 ≤ x ∧ x < 2147483648) : wrap32 x = x := by unfold wrap32; omega
theorem digit_calls (r : Nat) (w : World) (hr : r < 2147483648) :
    Calls Try.prog 24 #[.int .i32 (r : Int)] w fun e w' => e = .returned (.tuple #[.int .u32 (digE (digN r)).1, .bool (digE (digN r)).2]) ∧ Drawn0 w w' := by
  refine Pdigit.ntp_digit.calls 3 (r : Int) _ _ w ?_
  unfold Pdigit.ntp_digit.f digN
  by_cases h1 : 48 ≤ r ∧ r ≤ 57
  · rw [if_pos h1, if_pos (by omega), decide_eq_true (by omega), Pdigit.ntp_digit.j0, if_pos rfl, w32_in (by omega)]
    show some _ = some (((r - 48 : Nat) : Int), true)
    congr 2
    omega
  · rw [if_neg h1]
    have e : (if (r : Int) ≥ 48 then Pdigit.ntp_digit.j0 3 (r : Int) (decide ((r : Int) ≤ 57)) else Pdigit.ntp_digit.j0 3 (r : Int) false) = Pdigit.ntp_digit.j0 3 (r : Int) false := by
      by_cases h : (r : Int) ≥ 48
      · rw [if_pos h, decide_eq_false (by omega)]
      · rw [if_neg h]
    rw [e, Pdigit.ntp_digit.j0, if_neg Bool.false_ne_true]
    by_cases h2 : 97 ≤ r ∧ r ≤ 102
    · rw [if_pos h2, if_pos (by omega), decide_eq_true (by omega), Pdigit.ntp_digit.j1, if_pos rfl, w32_in (by omega)]
      show some _ = some (((r - 87 : Nat) : Int), true)
      congr 2
      omega
    · rw [if_neg h2]
      have e2 : (if (r : Int) ≥ 97 then Pdigit.ntp_digit.j1 2 (r : Int) (decide ((r : Int) ≤ 102)) else Pdigit.ntp_digit.j1 2 (r : Int) false) = Pdigit.ntp_digit.j1 2 (r : Int) false := by
        by_cases h : (r : Int) ≥ 97
        · rw [if_pos h, decide_eq_false (by omega)]
        · rw [if_neg h]
      rw [e2, Pdigit.ntp_digit.j1, if_neg Bool.false_ne_true]
      by_cases h3 : 65 ≤ r ∧ r ≤ 70
      · rw [if_pos h3, if_pos (by omega), if_pos (by omega), w32_in (by omega)]
        show some _ = some (((r - 55 : Nat) : Int), true)
        congr 2
        omega
      · rw [if_neg h3]
        by_cases h4 : (r : Int) ≥ 65
        · rw [if_pos h4, if_neg (by omega)]; rfl
        · rw [if_neg h4]; rfl
/-- Word, rune by rune. -/
def wordG (s : ByteArray) : Nat → Nat → Nat → Option Nat
  | 0, _, n => some n
  | f + 1, pos, n => if pos < s.size then (match digN (Utf8.decode s pos).1 with
      | some d => wordG s f (pos + (Utf8.decode s pos).2) (n * 16 + d)
      | none => none) else some n
def wordN (s : ByteArray) : Int × Bool := if s.size = 0 ∨ 8 < s.size then (0, false) else digE (wordG s s.size 0 0)
theorem pow_room {n d pos : Nat} (hp : pos < 8) (hn : n < 16 ^ pos) (hd : d < 16) : n * 16 < 4294967296 ∧ n * 16 + d < 4294967296 ∧ n * 16 + d < 16 ^ (pos + 1) := by
  have h1 : 16 ^ (pos + 1) ≤ 16 ^ 8 := Nat.pow_le_pow_right (by decide) (by omega)
  rw [Nat.pow_succ] at h1
  rw [Nat.pow_succ]
  generalize 16 ^ pos = p at *
  omega
theorem rune_lt (t : ByteArray) (pos : Nat) : (Utf8.decode t pos).1 < 2147483648 := by
  have hd := Lib.decode_at t pos
  have h0 : (t.get! pos).toNat < 256 := UInt8.toNat_lt _
  have h1 : (t.get! (pos + 1)).toNat < 256 := UInt8.toNat_lt _
  have h2 : (t.get! (pos + 2)).toNat < 256 := UInt8.toNat_lt _
  have h3 : (t.get! (pos + 3)).toNat < 256 := UInt8.toNat_lt _
  have hcases := Lib.decodeN_shape (t.size - pos) (t.get! pos).toNat (t.get! (pos + 1)).toNat (t.get! (pos + 2)).toNat (t.get! (pos + 3)).toNat
  rw [← hd] at hcases
  rcases hcases with ⟨_, he⟩ | ⟨_, _, _, _, he⟩ | ⟨_, _, _, _, _, _, he⟩ | ⟨_, _, _, _, _, _, _, he⟩ | he <;> rw [he] <;> simp only <;> omega
set_option maxHeartbeats 4000000 in
set_option maxRecDepth 100000 in
theorem word_calls (s : ByteArray) (w : World) :
    Calls Try.prog 13 #[.string s] w fun e w' => e = .returned (.tuple #[.int .u32 (wordN s).1, .bool (wordN s).2]) ∧ Below w.heap.size w w' := by
  by_cases h0 : s.size = 0
  · have hs : s.toList = [] := by
      rw [ByteArray.toList_eq]
      exact List.eq_nil_of_length_eq_zero (by rw [← Lib.size_eq]; exact h0)
    have hN : wordN s = (0, false) := by unfold wordN; rw [if_pos (.inl h0)]
    rw [hN]
    go_enter Try.func13, Try.ntmps13
    go_wp2
    go_ret2
    exact ⟨rfl, Below.refl _ _⟩
  have hs : (s.toList = ([] : List UInt8)) = False := eq_false (fun e => h0 (by rw [Lib.size_eq, ← ByteArray.toList_eq, e]; rfl))
  have hsb : (s.toList == ([] : List UInt8)) = false := beq_eq_false_iff_ne.mpr (of_eq_false hs)
  by_cases h8 : 8 < s.size
  · have hN : wordN s = (0, false) := by unfold wordN; rw [if_pos (.inr h8)]
    rw [hN]
    go_enter Try.func13, Try.ntmps13
    go_wp2
    go_ret2
    exact ⟨rfl, Below.refl _ _⟩
  obtain ⟨res, hres⟩ : ∃ res, wordG s s.size 0 0 = res := ⟨_, rfl⟩
  have hN : wordN s = digE res := by unfold wordN; rw [if_neg (by omega), hres]
  rw [hN]
  have HRES := Aside0.mk hres
  have HS8 : Aside0 (s.size ≤ 8) := ⟨by omega⟩
  go_enter Try.func13, Try.ntmps13
  go_wp2
  go_loopg [2] s.size (fun gf q wx => ∃ (pos n : Nat), q = .int .u32 (n : Int) ∧ Aside0 (wx.heap[w.heap.size]? = some (.stringIter s pos)) ∧ Aside0 (Below w.heap.size w wx) ∧ Aside0 (wordG s gf pos n = res) ∧ Aside0 (s.size ≤ pos + gf) ∧ Aside0 (n < 16 ^ pos))
  case atStart => exact ⟨0, 0, rfl, ⟨World.iter_heap w _ 0⟩, ⟨(Below.refl _ w).alloc (Nat.le_refl _) _⟩, HRES, ⟨by omega⟩, ⟨by decide⟩⟩
  case round =>
    obtain ⟨pos, n, rfl, HI, HB, HW, HF, HN⟩ := hrel
    by_cases hps : pos < s.size
    · obtain ⟨g', rfl⟩ : ∃ g', gk = g' + 1 := ⟨gk - 1, by have := HF.out; omega⟩
      have hnx : ∀ ty, (Instr.next (.pointer (some ⟨w.heap.size, 0, none⟩)) true ty).run Try.prog wr = _ := fun ty => Lib.run_next_any_at wr w.heap.size s pos ty HI.out hps
      have hwd := Lib.width_pos s pos
      have hrl := rune_lt s pos
      have hW := HW.out
      obtain ⟨R, hR⟩ : ∃ R, (Utf8.decode s pos).1 = R := ⟨_, rfl⟩
      obtain ⟨K, hK⟩ : ∃ K, (Utf8.decode s pos).2 = K := ⟨_, rfl⟩
      unfold wordG at hW
      rw [if_pos hps, hR, hK] at hW
      rw [hR, hK] at hnx
      rw [hK] at hwd
      rw [hR] at hrl
      have HI2 := Aside0.mk (Lib.iterAt_heap wr w.heap.size s pos (pos + K) HI.out)
      have HB2 := Aside0.mk (Lib.below_iterAt HB.out (k := w.heap.size) (Nat.le_refl _) s (pos + K))
      generalize wr.iterAt w.heap.size s (pos + K) = W at *
      have HDG := Aside0.mk (fun W => digit_calls R W hrl)
      clear HI HB HW hR hK HRES
      cases hd : digN R with
      | none =>
        rw [hd] at hW HDG
        have HNO : Aside0 (res = none) := ⟨hW.symm⟩
        clear hW hd hrl
        go_wp2_with fail
        refine (HDG.out _).mono ?_
        rintro e w1 ⟨rfl, hd⟩
        obtain ⟨q1, rfl⟩ := hd
        go_wp2
        have HNO' := HNO.out
        subst HNO'
        go_ret2
        exact ⟨rfl, pw_below_drewN HB2.out _⟩
      | some d =>
        rw [hd] at hW HDG
        obtain ⟨hr1, hr2, hr3⟩ := pow_room (pos := pos) (by have := HS8.out; omega) HN.out (digN_lt hd)
        have HW2 : Aside0 (wordG s g' (pos + K) (n * 16 + d) = res) := ⟨hW⟩
        have HN2 : Aside0 (n * 16 + d < 16 ^ (pos + K)) := ⟨Nat.lt_of_lt_of_le hr3 (Nat.pow_le_pow_right (by decide) (by omega))⟩
        have e2 : ((n : Int) * 16 + (digE (some d)).1) % 4294967296 = ((n * 16 + d : Nat) : Int) := by show ((n : Int) * 16 + (d : Int)) % 4294967296 = _; omega
        clear hW hd hrl hr1 hr2 hr3
        go_wp2_with fail
        refine (HDG.out _).mono ?_
        rintro e w1 ⟨rfl, hd⟩
        obtain ⟨q1, rfl⟩ := hd
        go_wp2
        go_roundg g'
        case measure => omega
        case rel => exact ⟨pos + K, n * 16 + d, congrArg (Value.int .u32) e2, ⟨HI2.out⟩, ⟨pw_below_drewN HB2.out _⟩, HW2, ⟨by have := HF.out; omega⟩, HN2⟩
    · have hnx : ∀ ty, (Instr.next (.pointer (some ⟨w.heap.size, 0, none⟩)) true ty).run Try.prog wr = _ := fun ty => Lib.run_next_end_at wr w.heap.size s pos ty HI.out hps
      have HE : Aside0 (res = some n) := ⟨by rw [← HW.out]; cases gk with | zero => rfl | succ g => (unfold wordG; rw [if_neg hps])⟩
      go_wp2
      have HE' := HE.out
      subst HE'
      go_ret2
      exact ⟨rfl, HB.out⟩
end Go.Proofs.Ytncbhlionllpmaa.Nt
