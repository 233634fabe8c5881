/- Put of the program and of the document: what it lays; condition: the bytes have room. -/
import Derived.Test.YthgghbmckpflcaaOctD
namespace Go.Proofs.Ythgghbmckpflcaa.Oct
open Go.RowKit Go.Proofs.YthgghbmckpflcaaW.PrintWords Go.Proofs.YthgghbmckpflcaaW.PrintLast Go.Proofs.YthgghbmckpflcaaW.PrintMore

def bytesS (n : Int) : Nat → List Int
  | 0 => []
  | m + 1 => (n / 2 ^ (8 * m)) % 256 :: bytesS n m
theorem bytesS_length (n : Int) (m : Nat) : (bytesS n m).length = m := by
  induction m with
  | zero => rfl
  | succ m ih => simp [bytesS, ih]
def mayS (n size : Int) : Bool := decide ((size = 1 ∧ n % 256 = n) ∨ (size = 4 ∧ -2147483648 ≤ n ∧ n ≤ 2147483647) ∨ size = 8)
def putS (l : List Int) (n size : Int) : List Int × Bool := if mayS n size = true then (l ++ bytesS n size.toNat, true) else (l, false)
set_option maxHeartbeats 400000 in
theorem may_calls (W : World) (n size : Int) :
    Calls Try.prog 30 #[.int .i64 n, .int .i64 size] W fun e w' => e = .returned (.bool (mayS n size)) ∧ w' = W := by
  by_cases h1 : size = 1
  · subst h1
    have e1 : mayS n 1 = (n == n % 256) := by unfold mayS; rw [Bool.eq_iff_iff]; simp; omega
    rw [e1]
    clear e1
    go_enter Try.func30, Try.ntmps30
    go_wp2
    go_ret
    exact ⟨rfl, rfl⟩
  by_cases h4 : size = 4
  · subst h4
    by_cases hn : -2147483648 ≤ n ∧ n ≤ 2147483647
    · have e1 : mayS n 4 = true := by unfold mayS; simp; omega
      have e2 : wrap32 n = n := by unfold wrap32; omega
      rw [e1]
      clear e1
      go_enter Try.func30, Try.ntmps30
      go_wp2
      go_ret
      exact ⟨rfl, rfl⟩
    · have e1 : mayS n 4 = false := by unfold mayS; simp; omega
      have e3 : (n != wrap64 (wrap32 n)) = true := by rw [bne_iff_ne]; unfold wrap64 wrap32; omega
      rw [e1]
      clear e1
      go_enter Try.func30, Try.ntmps30
      go_wp2
      go_ret
      exact ⟨rfl, rfl⟩
  by_cases h8 : size = 8
  · subst h8
    have e1 : mayS n 8 = true := by unfold mayS; simp
    rw [e1]
    clear e1
    go_enter Try.func30, Try.ntmps30
    go_wp2
    go_ret
    exact ⟨rfl, rfl⟩
  have hs : mayS n size = false := decide_eq_false (by omega)
  rw [hs]
  have b1 : (size == 1) = false := beq_eq_false_iff_ne.2 h1
  have b4 : (size == 4) = false := beq_eq_false_iff_ne.2 h4
  have b8 : (size == 8) = false := beq_eq_false_iff_ne.2 h8
  clear hs h1 h4 h8
  go_enter Try.func30, Try.ntmps30
  go_wp2
  go_ret
  exact ⟨rfl, rfl⟩
theorem mayS_size {n size : Int} (h : mayS n size = true) : 1 ≤ size ∧ size ≤ 8 := by
  unfold mayS at h; rw [decide_eq_true_eq] at h; omega
set_option maxHeartbeats 2000000 in
theorem put_yes (A : Option Addr) (c : Nat) (l : List Int) (n size : Int) (w : World) (hr : Kd.C (Kd.int .u8) w A l.length l) (hl : l.length ≤ 140737488355320) (hm : mayS n size = true) :
    Calls Try.prog 17 #[.slice A l.length c, .int .i64 n, .int .i64 size] w fun e w' => ∃ v, e = .returned (.tuple #[v, .bool true]) ∧ Kd.R (Kd.int .u8) 5 w' w.heap.size (fun _ => True) v (l ++ bytesS n size.toNat) ∧ Below w.heap.size w w' := by
  obtain ⟨hs1, hs8⟩ := mayS_size hm
  obtain ⟨z, rfl⟩ := Int.eq_ofNat_of_zero_le (by omega : 0 ≤ size)
  rw [Int.toNat_natCast]
  have HR := Aside0.mk hr
  have HL := Aside0.mk hl
  have HM := Aside0.mk hm
  clear hr hl hm
  go_enter Try.func17, Try.ntmps17
  go_wp2_with fail
  refine (clone_calls A c l w HR.out (by have := HL.out; omega)).mono ?_
  rintro e w1 ⟨v, rfl, hv, hbl⟩
  have HV := Aside0.mk hv
  have HB := Aside0.mk hbl
  clear hv hbl
  go_wp2_with fail
  refine (may_calls w1 n z).mono ?_
  rintro e w2 ⟨rfl, rfl⟩
  rw [HM.out]
  go_wp2
  go_loopw [8, 9] (fun v k wr => ∃ (j : Nat) (pre : List Int), j ≤ z ∧ k = .int .i64 j ∧ Aside0 (pre ++ bytesS n j = l ++ bytesS n z) ∧ Aside0 (Kd.R (Kd.int .u8) 5 wr w.heap.size (fun _ => True) v pre) ∧ Aside0 (Below w.heap.size w wr)) (fun _ k _ => (intOf k).toNat)
  case atStart => exact ⟨z, l, Nat.le_refl _, rfl, ⟨rfl⟩, HV, HB⟩
  case round =>
    obtain ⟨j, pre, hj, rfl, HE, HO, HB2⟩ := hrel
    clear HV HB
    have HLP : Aside0 (pre.length ≤ 140737488355328) := ⟨by
      have h1 := congrArg List.length HE.out
      rw [List.length_append, List.length_append, bytesS_length, bytesS_length] at h1
      have := HL.out; omega⟩
    cases j with
    | zero =>
      have HF : Aside0 (pre = l ++ bytesS n z) := ⟨by have h1 := HE.out; simpa [bytesS] using h1⟩
      go_wp2
      go_ret2
      exact ⟨_, rfl, by rw [← HF.out]; exact HO.out, HB2.out⟩
    | succ m =>
      have HLQ : Aside0 (pre.length + 1 ≤ 140737488355328) := ⟨by
        have h1 := congrArg List.length HE.out
        rw [List.length_append, List.length_append, bytesS_length, bytesS_length] at h1
        have := HL.out; omega⟩
      have hm8 : m < 8 := by omega
      go_wp2_with (first
        | ((with_reducible refine gate_builtin (b := .append) (xs := #[.tmp 22, .tmp 29]) rfl ?_); at_builtin; refine Kd.R_append (Kd.int .u8) (w0 := w) w.heap.size rfl (.tmp 22) (.tmp 29) 24 5 (.int .u8 0) 1 rfl Try.underlying24 info5 rfl (by decide) (by omega) u8 pre _ [.int .u8 _] (fun _ => True) (fun _ => False) rfl rfl rfl (fun _ hk => hk.elim) (fun _ _ => trivial) HO.out HB2.out (below_size HB2.out) (by have := HLQ.out; omega) ?_; intro v2 w2 ho hb hg hat; have HO2 := Aside0.mk ho; have HB3 := Aside0.mk hb; clear ho hb hg hat))
      exact ⟨⟨m, _, by omega, rfl, ⟨by rw [← HE.out]; simp [bytesS]⟩, HO2, HB3⟩, by simp [intOf]⟩
set_option maxHeartbeats 1000000 in
theorem put_no (A : Option Addr) (c : Nat) (l : List Int) (n size : Int) (w : World) (hr : Kd.C (Kd.int .u8) w A l.length l) (hl : l.length ≤ 140737488355320) (hm : mayS n size = false) :
    Calls Try.prog 17 #[.slice A l.length c, .int .i64 n, .int .i64 size] w fun e w' => ∃ v, e = .returned (.tuple #[v, .bool false]) ∧ Kd.R (Kd.int .u8) 5 w' w.heap.size (fun _ => True) v l ∧ Below w.heap.size w w' := by
  have HR := Aside0.mk hr
  have HL := Aside0.mk hl
  have HM := Aside0.mk hm
  clear hr hl hm
  go_enter Try.func17, Try.ntmps17
  go_wp2_with fail
  refine (clone_calls A c l w HR.out (by have := HL.out; omega)).mono ?_
  rintro e w1 ⟨v, rfl, hv, hbl⟩
  have HV := Aside0.mk hv
  have HB := Aside0.mk hbl
  clear hv hbl
  go_wp2_with fail
  refine (may_calls w1 n size).mono ?_
  rintro e w2 ⟨rfl, rfl⟩
  rw [HM.out]
  go_wp2
  go_ret2
  exact ⟨_, rfl, HV.out, HB.out⟩
theorem put_calls (A : Option Addr) (c : Nat) (l : List Int) (n size : Int) (w : World) (hr : Kd.C (Kd.int .u8) w A l.length l) (hl : l.length ≤ 140737488355320) :
    Calls Try.prog 17 #[.slice A l.length c, .int .i64 n, .int .i64 size] w fun e w' => ∃ v, e = .returned (.tuple #[v, .bool (putS l n size).2]) ∧ Kd.R (Kd.int .u8) 5 w' w.heap.size (fun _ => True) v (putS l n size).1 ∧ Below w.heap.size w w' := by
  unfold putS
  by_cases hm : mayS n size = true
  · rw [if_pos hm]; exact put_yes A c l n size w hr hl hm
  · rw [if_neg hm]; exact put_no A c l n size w hr hl (Bool.eq_false_iff.mpr hm)
end Go.Proofs.Ythgghbmckpflcaa.Oct
