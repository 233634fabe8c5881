/- Put of the document; condition: the bytes have room. -/
import Derived.Test.YthgghbmckpflcaaOctH
namespace Go.Proofs.Ythgghbmckpflcaa.Oct.Ref
open Go.RowKit Go.Proofs.YthgghbmckpflcaaW.PrintWords Go.Proofs.YthgghbmckpflcaaW.PrintLast Go.Proofs.YthgghbmckpflcaaW.PrintMore Go.Proofs.Ythgghbmckpflcaa.Oct

set_option maxHeartbeats 1000000 in
theorem fits_calls (W : World) (n size : Int) :
    Calls Try.prog 31 #[.int .i64 n, .int .i64 size] W fun e w' => e = .returned (.bool (mayS n size)) ∧ w' = W := by
  by_cases h1 : size = 1
  · subst h1
    by_cases hn0 : 0 ≤ n
    · by_cases hn : n ≤ 255
      · have e1 : mayS n 1 = true := by unfold mayS; simp; omega
        rw [e1]
        clear e1
        go_enter Try.func31, Try.ntmps31
        go_wp2
        go_ret
        exact ⟨rfl, rfl⟩
      · have e1 : mayS n 1 = false := by unfold mayS; simp; omega
        rw [e1]
        clear e1
        go_enter Try.func31, Try.ntmps31
        go_wp2
        go_ret
        exact ⟨rfl, rfl⟩
    · have e1 : mayS n 1 = false := by unfold mayS; simp; omega
      rw [e1]
      clear e1
      go_enter Try.func31, Try.ntmps31
      go_wp2
      go_ret
      exact ⟨rfl, rfl⟩
  by_cases h4 : size = 4
  · subst h4
    by_cases hn0 : -2147483648 ≤ n
    · by_cases hn : n < 2147483648
      · have e1 : mayS n 4 = true := by unfold mayS; simp; omega
        rw [e1]
        clear e1
        go_enter Try.func31, Try.ntmps31
        go_wp2
        go_ret
        exact ⟨rfl, rfl⟩
      · have e1 : mayS n 4 = false := by unfold mayS; simp; omega
        rw [e1]
        clear e1
        go_enter Try.func31, Try.ntmps31
        go_wp2
        go_ret
        exact ⟨rfl, rfl⟩
    · have e1 : mayS n 4 = false := by unfold mayS; simp; omega
      rw [e1]
      clear e1
      go_enter Try.func31, Try.ntmps31
      go_wp2
      go_ret
      exact ⟨rfl, rfl⟩
  by_cases h8 : size = 8
  · subst h8
    have e1 : mayS n 8 = true := by unfold mayS; simp
    rw [e1]
    clear e1
    go_enter Try.func31, Try.ntmps31
    go_wp2
    go_ret
    exact ⟨rfl, rfl⟩
  have hs : mayS n size = false := decide_eq_false (by omega)
  rw [hs]
  have b1 : (size == 1) = false := beq_eq_false_iff_ne.2 h1
  have b4 : (size == 4) = false := beq_eq_false_iff_ne.2 h4
  have b8 : (size == 8) = false := beq_eq_false_iff_ne.2 h8
  clear hs h1 h4 h8
  go_enter Try.func31, Try.ntmps31
  go_wp2
  go_ret
  exact ⟨rfl, rfl⟩
set_option maxHeartbeats 2000000 in
theorem put_yes (A : Option Addr) (c : Nat) (l : List Int) (n size : Int) (w : World) (hr : Kd.C (Kd.int .u8) w A l.length l) (hl : l.length ≤ 140737488355320) (hm : mayS n size = true) :
    Calls Try.prog 18 #[.slice A l.length c, .int .i64 n, .int .i64 size] w fun e w' => ∃ v, e = .returned (.tuple #[v, .bool true]) ∧ Kd.R (Kd.int .u8) 5 w' w.heap.size (fun _ => True) v (l ++ bytesS n size.toNat) ∧ Below w.heap.size w w' := by
  obtain ⟨hs1, hs8⟩ := mayS_size hm
  obtain ⟨z, rfl⟩ := Int.eq_ofNat_of_zero_le (by omega : 0 ≤ size)
  rw [Int.toNat_natCast]
  have HR := Aside0.mk hr
  have HL := Aside0.mk hl
  have HM := Aside0.mk hm
  clear hr hl hm
  go_enter Try.func18, Try.ntmps18
  go_wp2_with (first
    | ((with_reducible refine gate_dst (N := 10) rfl ?_); refine Kd.R_lit (Kd.int .u8) _ 5 ?hg (N := 10) ?hd (xs := ([] : List Int)) (inner := []) (ok := fun _ => True) (okp := fun _ => True) ?hr ?hp (fun _ hk => hk) trivial (Below.refl _ _) (Nat.le_refl _) (by simp) ?_; (case hd => rfl); (case hg => rfl); (case hr => first | (go_simp; done) | (go_simp; rfl)); (case hp => exact (Reps.none _ _)); intro v1 w1 ho hbl hg_ hnew_; clear hg_ hnew_; have HO1 := Aside0.mk ho; have HB1 := Aside0.mk hbl; clear ho hbl)
    | ((with_reducible refine gate_builtin (b := .append) (xs := #[.tmp 10, .tmp 11]) rfl ?_); at_builtin; refine Kd.R_append_rows (Kd.int .u8) (w0 := w) w.heap.size rfl (.tmp 10) (.tmp 11) 24 5 (.int .u8 0) 1 rfl Try.underlying24 info5 rfl (by decide) (by omega) v1 [] l _ _ _ (fun _ => True) (fun _ => False) rfl rfl HO1.out ?aR (fun _ _ h => h) (fun _ h => h.elim) (fun _ _ => trivial) HB1.out (below_size HB1.out) ?aL ?_; (case aR => exact Kd.C_below HR.out HB1.out); (case aL => have := HL.out; simp; omega); intro v w1 ho2 hb2 hg2 hat2; have HV := Aside0.mk ho2; have HB := Aside0.mk hb2; clear ho2 hb2 hg2 hat2))
  refine (fits_calls w1 n z).mono ?_
  rintro e w2 ⟨rfl, rfl⟩
  rw [HM.out]
  go_wp2
  go_loopw [8, 9] (fun v k wr => ∃ (j : Nat) (pre : List Int), j ≤ z ∧ k = .int .i64 ((j : Int) - 1) ∧ Aside0 (pre ++ bytesS n j = l ++ bytesS n z) ∧ Aside0 (Kd.R (Kd.int .u8) 5 wr w.heap.size (fun _ => True) v pre) ∧ Aside0 (Below w.heap.size w wr)) (fun _ k _ => (intOf k + 1).toNat)
  case atStart => exact ⟨z, l, Nat.le_refl _, rfl, ⟨rfl⟩, HV, HB⟩
  case round =>
    obtain ⟨j, pre, hj, rfl, HE, HO, HB2⟩ := hrel
    clear HV HB
    have HLP : Aside0 (pre.length ≤ 140737488355328) := ⟨by
      have h1 := congrArg List.length HE.out
      rw [List.length_append, List.length_append, bytesS_length, bytesS_length] at h1
      have := HL.out; omega⟩
    cases j with
    | zero =>
      have HF : Aside0 (pre = l ++ bytesS n z) := ⟨by have h1 := HE.out; simpa [bytesS] using h1⟩
      go_wp2
      go_ret2
      exact ⟨_, rfl, by rw [← HF.out]; exact HO.out, HB2.out⟩
    | succ m =>
      have HLQ : Aside0 (pre.length + 1 ≤ 140737488355328) := ⟨by
        have h1 := congrArg List.length HE.out
        rw [List.length_append, List.length_append, bytesS_length, bytesS_length] at h1
        have := HL.out; omega⟩
      have hm8 : m < 8 := by omega
      go_wp2_with (first
        | ((with_reducible refine gate_builtin (b := .append) (xs := #[.tmp 24, .tmp 30]) rfl ?_); at_builtin; refine Kd.R_append (Kd.int .u8) (w0 := w) w.heap.size rfl (.tmp 24) (.tmp 30) 24 5 (.int .u8 0) 1 rfl Try.underlying24 info5 rfl (by decide) (by omega) u8 pre _ [.int .u8 _] (fun _ => True) (fun _ => False) rfl rfl rfl (fun _ hk => hk.elim) (fun _ _ => trivial) HO.out HB2.out (below_size HB2.out) (by have := HLQ.out; omega) ?_; intro v2 w2 ho hb hg hat; have HO2 := Aside0.mk ho; have HB3 := Aside0.mk hb; clear ho hb hg hat))
      exact ⟨⟨m, _, by omega, rfl, ⟨by rw [← HE.out]; simp [bytesS]⟩, HO2, HB3⟩, by simp [intOf]⟩
set_option maxHeartbeats 1000000 in
theorem put_no (A : Option Addr) (c : Nat) (l : List Int) (n size : Int) (w : World) (hr : Kd.C (Kd.int .u8) w A l.length l) (hl : l.length ≤ 140737488355320) (hm : mayS n size = false) :
    Calls Try.prog 18 #[.slice A l.length c, .int .i64 n, .int .i64 size] w fun e w' => ∃ v, e = .returned (.tuple #[v, .bool false]) ∧ Kd.R (Kd.int .u8) 5 w' w.heap.size (fun _ => True) v l ∧ Below w.heap.size w w' := by
  have HR := Aside0.mk hr
  have HL := Aside0.mk hl
  have HM := Aside0.mk hm
  clear hr hl hm
  go_enter Try.func18, Try.ntmps18
  go_wp2_with (first
    | ((with_reducible refine gate_dst (N := 10) rfl ?_); refine Kd.R_lit (Kd.int .u8) _ 5 ?hg (N := 10) ?hd (xs := ([] : List Int)) (inner := []) (ok := fun _ => True) (okp := fun _ => True) ?hr ?hp (fun _ hk => hk) trivial (Below.refl _ _) (Nat.le_refl _) (by simp) ?_; (case hd => rfl); (case hg => rfl); (case hr => first | (go_simp; done) | (go_simp; rfl)); (case hp => exact (Reps.none _ _)); intro v1 w1 ho hbl hg_ hnew_; clear hg_ hnew_; have HO1 := Aside0.mk ho; have HB1 := Aside0.mk hbl; clear ho hbl)
    | ((with_reducible refine gate_builtin (b := .append) (xs := #[.tmp 10, .tmp 11]) rfl ?_); at_builtin; refine Kd.R_append_rows (Kd.int .u8) (w0 := w) w.heap.size rfl (.tmp 10) (.tmp 11) 24 5 (.int .u8 0) 1 rfl Try.underlying24 info5 rfl (by decide) (by omega) v1 [] l _ _ _ (fun _ => True) (fun _ => False) rfl rfl HO1.out ?aR (fun _ _ h => h) (fun _ h => h.elim) (fun _ _ => trivial) HB1.out (below_size HB1.out) ?aL ?_; (case aR => exact Kd.C_below HR.out HB1.out); (case aL => have := HL.out; simp; omega); intro v w1 ho2 hb2 hg2 hat2; have HV := Aside0.mk ho2; have HB := Aside0.mk hb2; clear ho2 hb2 hg2 hat2))
  refine (fits_calls w1 n size).mono ?_
  rintro e w2 ⟨rfl, rfl⟩
  rw [HM.out]
  go_wp2
  go_ret2
  exact ⟨_, rfl, HV.out, HB.out⟩
theorem put_calls (A : Option Addr) (c : Nat) (l : List Int) (n size : Int) (w : World) (hr : Kd.C (Kd.int .u8) w A l.length l) (hl : l.length ≤ 140737488355320) :
    Calls Try.prog 18 #[.slice A l.length c, .int .i64 n, .int .i64 size] w fun e w' => ∃ v, e = .returned (.tuple #[v, .bool (putS l n size).2]) ∧ Kd.R (Kd.int .u8) 5 w' w.heap.size (fun _ => True) v (putS l n size).1 ∧ Below w.heap.size w w' := by
  unfold putS
  by_cases hm : mayS n size = true
  · rw [if_pos hm]; exact put_yes A c l n size w hr hl hm
  · rw [if_neg hm]; exact put_no A c l n size w hr hl (Bool.eq_false_iff.mpr hm)
end Go.Proofs.Ythgghbmckpflcaa.Oct.Ref
