/- head.Encode: which bytes it lays; condition: none. -/
import Derived.Test.YthgghbmckpflcaaOctH
import Derived.Test.YthgghbmckpflcaaOctE
import Derived.Test.YthgghbmckpflcaaPRightx1
import Derived.Lib.BufferWrite
namespace Go.Proofs.Ythgghbmckpflcaa.Oct
open Go.RowKit Go.Proofs.YthgghbmckpflcaaW.PrintWords Go.Proofs.YthgghbmckpflcaaW.PrintLast Go.Proofs.YthgghbmckpflcaaW.PrintMore

/-- Which heads are right. -/
def rightS (v u s l t ty c : Int) : Bool := decide ((1 ≤ v ∧ v ≤ 4) ∧ (0 ≤ l ∧ l ≤ 201) ∧ (0 ≤ t ∧ t ≤ 2000) ∧ (1 ≤ ty ∧ ty ≤ 64) ∧ (1 ≤ c ∧ c ≤ 256) ∧ (u = 0 ∨ u = ty) ∧ (s = 0 ∨ s = ty))
theorem within_f (a b c : Int) : PRight.head_within.f a b c = some (decide (b ≤ a ∧ a ≤ c)) := by
  unfold PRight.head_within.f
  by_cases h : a ≥ b
  · rw [if_pos h]; congr 1; simp; omega
  · rw [if_neg h]; congr 1; simp; omega
theorem right_f (v u s l t ty c : Int) : PRight.head_Right.f v u s l t ty c = some (rightS v u s l t ty c) := by
  unfold PRight.head_Right.f rightS
  simp only [within_f, Option.bind_some, decide_eq_true_eq]
  repeat' split
  all_goals (congr 1; first | (simp only [decide_eq_decide]; omega) | (symm; simp only [decide_eq_false_iff_not]; omega))
theorem right_calls (v u s l t ty c : Int) (w : World) :
    Calls Try.prog 13 #[.agg #[.int .i64 v, .int .i64 u, .int .i64 s, .int .i64 l, .int .i64 t, .int .i64 ty, .int .i64 c]] w fun e w' => e = .returned (.bool (rightS v u s l t ty c)) ∧ Below w.heap.size w w' :=
  PRight.head_Right.calls v u s l t ty c _ w (right_f v u s l t ty c)

/-- What stands ahead of the counts, and all of it. -/
def preS (v : Int) : List Int := [84, 90, 105, 102, if v > 1 then 48 + v else 0] ++ List.replicate 15 0
def restS : List Int → List Int
  | [] => []
  | n :: r => bytesS n 4 ++ restS r
def encS (v u s l t ty c : Int) : List Int := preS v ++ restS [u, s, l, t, ty, c]

theorem mk_run : ∀ W : World, (Instr.makeSlice 24 (.int .i64 20) (.int .i64 44)).run Try.prog W = .ok (.slice (some ⟨W.heap.size, 0, none⟩) 20 44) (W.alloc (.cells (madeCells #[.int .u8 0] 44) 5)) := fun _ => by kernel_rfl

theorem cp_run (B : Nat) (ty : TypeId) (W w1 : World) (g : Nat) (hB : B ≤ w1.heap.size) (hg : g = w1.heap.size) (hW : W = w1.alloc (.cells (madeCells #[.int .u8 0] 44) 5)) : ∃ w3, (Builtin.copy_ #[24, 9] ty #[.slice (some ⟨g, 0, none⟩) 20 44, .string ⟨#[84, 90, 105, 102]⟩]).run Try.prog W = .ok (goInt 4) w3 ∧ Kd.R (Kd.int .u8) 5 w3 B (fun _ => True) (.slice (some ⟨g, 0, none⟩) 20 44) ([84, 90, 105, 102, 0] ++ List.replicate 15 0) ∧ Below w1.heap.size w1 w3 ∧ ∃ x, w3.cell? ⟨w1.heap.size, 4, none⟩ = some x ∧ w3.frozen? ⟨w1.heap.size, 4, none⟩ = false := by
  subst hg hW
  have hg : (w1.alloc (.cells (madeCells #[.int .u8 0] 44) 5)).heap[w1.heap.size]? = some (.cells (madeCells #[.int .u8 0] 44) 5 (0, 0)) := heap_alloc_new w1 _
  have hr := Lib.run_copy_row_string (P := Try.prog) (w1.alloc (.cells (madeCells #[.int .u8 0] 44) 5)) 24 9 ty 5 w1.heap.size 0 20 44 ⟨#[84, 90, 105, 102]⟩ _ _ Try.underlying24 (by kernel_rfl) hg (by decide) (by rw [size_madeCells]; decide)
  refine ⟨_, hr, ?_, ?_, ?_⟩
  · refine Kd.R_of_own (h1 := fun _ => rfl) ⟨rfl, .inr ⟨w1.heap.size, 44, _, rfl, hB, setRow_heap _ _ _ _ _ _ hg, by decide, by decide, by kernel_rfl, by kernel_rfl⟩⟩ (fun _ _ => trivial)
  · exact (Below.refl _ _).alloc (Nat.le_refl _) _ |>.trans ⟨rfl, rfl, rfl, by simp, fun k hk => setRow_other _ _ _ _ (by omega)⟩
  · have hb := setRow_heap _ _ _ ((madeCells #[Value.int .u8 0] 44).toList.take 0 ++ Lib.byteCells [84, 90, 105, 102] ++ (madeCells #[Value.int .u8 0] 44).toList.drop 4).toArray _ _ hg
    exact ⟨_, (blk_cell hb 4).trans (by kernel_rfl : _ = some (Value.int .u8 0)), blk_frozen hb 4⟩

theorem restS_length : ∀ l : List Int, (restS l).length = 4 * l.length
  | [] => rfl
  | n :: r => by rw [restS, List.length_append, bytesS_length, restS_length r, List.length_cons]; omega
theorem encS_length (v u s l t ty c : Int) : (encS v u s l t ty c).length = 44 := by
  unfold encS preS; rw [List.length_append, restS_length]; simp
theorem idx_run (v u s l t ty c : Int) (hr : rightS v u s l t ty c = true) (k : Nat) (hk : k < 6) :
    ∃ n, [u, s, l, t, ty, c].drop k = n :: [u, s, l, t, ty, c].drop (k + 1) ∧ mayS n 4 = true ∧ ∀ W : World, (Instr.index 36 (.agg #[.int .i64 u, .int .i64 s, .int .i64 l, .int .i64 t, .int .i64 ty, .int .i64 c]) (.int .i64 k)).run Try.prog W = .ok (.int .i64 n) W := by
  have h := of_decide_eq_true hr
  have hm : ∀ n : Int, 0 ≤ n → n ≤ 2000 → mayS n 4 = true := fun n h0 h1 => decide_eq_true (by omega)
  obtain rfl | rfl | rfl | rfl | rfl | rfl : k = 0 ∨ k = 1 ∨ k = 2 ∨ k = 3 ∨ k = 4 ∨ k = 5 := by omega
  · exact ⟨u, rfl, hm _ (by omega) (by omega), fun _ => by kernel_rfl⟩
  · exact ⟨s, rfl, hm _ (by omega) (by omega), fun _ => by kernel_rfl⟩
  · exact ⟨l, rfl, hm _ (by omega) (by omega), fun _ => by kernel_rfl⟩
  · exact ⟨t, rfl, hm _ (by omega) (by omega), fun _ => by kernel_rfl⟩
  · exact ⟨ty, rfl, hm _ (by omega) (by omega), fun _ => by kernel_rfl⟩
  · exact ⟨c, rfl, hm _ (by omega) (by omega), fun _ => by kernel_rfl⟩

set_option maxHeartbeats 2000000 in
theorem encode_no (v u s l t ty c : Int) (w : World) (hr : rightS v u s l t ty c = false) :
    Calls Try.prog 9 #[.agg #[.int .i64 v, .int .i64 u, .int .i64 s, .int .i64 l, .int .i64 t, .int .i64 ty, .int .i64 c]] w fun e w' => e = .returned (.tuple #[.slice none 0 0, .bool false]) ∧ Below w.heap.size w w' := by
  have HR := Aside0.mk hr
  clear hr
  go_enter Try.func9, Try.ntmps9
  go_wp2_with fail
  refine (right_calls v u s l t ty c _).mono ?_
  rintro e w1 ⟨rfl, hb⟩
  rw [HR.out]
  have HB := Aside0.mk hb
  clear hb
  go_wp2
  go_ret2
  exact ⟨rfl, below_then (below_alloc (Below.refl _ _) _) (by simp) HB.out⟩

set_option maxHeartbeats 2000000 in
theorem encode_yes (v u s l t ty c : Int) (w : World) (hr : rightS v u s l t ty c = true) :
    Calls Try.prog 9 #[.agg #[.int .i64 v, .int .i64 u, .int .i64 s, .int .i64 l, .int .i64 t, .int .i64 ty, .int .i64 c]] w fun e w' => ∃ q, e = .returned (.tuple #[q, .bool true]) ∧ Kd.R (Kd.int .u8) 5 w' w.heap.size (fun _ => True) q (encS v u s l t ty c) ∧ Below w.heap.size w w' := by
  have HR := Aside0.mk hr
  clear hr
  have hmk := mk_run
  go_enter Try.func9, Try.ntmps9
  go_wp2_with fail
  refine (right_calls v u s l t ty c _).mono ?_
  rintro e w1 ⟨rfl, hb⟩
  rw [HR.out]
  have HB := Aside0.mk hb
  clear hb
  have hlt : w.heap.size < w1.heap.size := by have h1 := HB.out.size; simp at h1; omega
  obtain ⟨w3, hcp, hR3, hB3, x4, hx4, hf4⟩ := cp_run w.heap.size 3 _ w1 _ (Nat.le_of_lt hlt) rfl rfl
  have hbp : w3.heap[w.heap.size]? = some (.cells #[.int .i64 v, .int .i64 u, .int .i64 s, .int .i64 l, .int .i64 t, .int .i64 ty, .int .i64 c] 23 (0, 0)) := ((hB3.block _ hlt).trans (HB.out.block _ (by simp))).trans (heap_alloc_new w _)
  have hc0 : w3.cell? ⟨w.heap.size, 0, none⟩ = some (.int .i64 v) := (blk_cell hbp 0).trans rfl
  have hc1 : w3.cell? ⟨w.heap.size, 1, none⟩ = some (.int .i64 u) := (blk_cell hbp 1).trans rfl
  have hc2 : w3.cell? ⟨w.heap.size, 2, none⟩ = some (.int .i64 s) := (blk_cell hbp 2).trans rfl
  have hc3 : w3.cell? ⟨w.heap.size, 3, none⟩ = some (.int .i64 l) := (blk_cell hbp 3).trans rfl
  have hc4 : w3.cell? ⟨w.heap.size, 4, none⟩ = some (.int .i64 t) := (blk_cell hbp 4).trans rfl
  have hc5 : w3.cell? ⟨w.heap.size, 5, none⟩ = some (.int .i64 ty) := (blk_cell hbp 5).trans rfl
  have hc6 : w3.cell? ⟨w.heap.size, 6, none⟩ = some (.int .i64 c) := (blk_cell hbp 6).trans rfl
  have HR3 := Aside0.mk hR3
  have HB3 := Aside0.mk hB3
  have HBP := Aside0.mk hbp
  have HB03 : Aside0 (Below w.heap.size w w3) := ⟨below_then (below_then (below_alloc (Below.refl _ _) _) (by simp) HB.out) (Nat.le_of_lt hlt) HB3.out⟩
  clear hR3 hB3 hbp
  obtain ⟨hv, _⟩ := of_decide_eq_true HR.out
  have hv4 : v = 1 ∨ v = 2 ∨ v = 3 ∨ v = 4 := by omega
  clear hv
  rcases hv4 with rfl | rfl | rfl | rfl
  · go_wp2
    go_loopw [4, 35] (fun q i wr => ∃ (k : Nat) (pre : List Int), k ≤ 6 ∧ i = .int .i64 k ∧ Aside0 (pre ++ restS ([u, s, l, t, ty, c].drop k) = encS 1 u s l t ty c) ∧ Aside0 (Kd.R (Kd.int .u8) 5 wr w.heap.size (fun _ => True) q pre) ∧ Aside0 (Below w.heap.size w wr)) (fun _ i _ => 6 - (intOf i).toNat)
    case atStart => exact ⟨0, preS 1, by omega, rfl, ⟨rfl⟩, ⟨HR3.out⟩, ⟨HB03.out⟩⟩
    case round =>
      obtain ⟨k, pre, hk, rfl, HE, HO, HBr⟩ := hrel
      clear HR3 HB3 HBP HB HB03 hcp hmk hx4 hf4 hc0 hc1 hc2 hc3 hc4 hc5 hc6
      have HLP : Aside0 (pre.length ≤ 44) := ⟨by have h1 := congrArg List.length HE.out; rw [encS_length, List.length_append] at h1; omega⟩
      by_cases hk6 : k < 6
      · obtain ⟨n, hn, hm, hix⟩ := idx_run _ u s l t ty c HR.out k hk6
        have HN := Aside0.mk hn
        have HM := Aside0.mk hm
        obtain ⟨A1, c1, rfl, hcc, hr1⟩ := Kd.R_reads HO.out
        have HR1 := Aside0.mk hr1
        clear hn hm hr1 hcc
        go_wp2_with fail
        refine (put_yes A1 c1 pre n 4 _ HR1.out (by have := HLP.out; omega) HM.out).mono ?_
        rintro e w4 ⟨q, rfl, hq, hb4⟩
        have HQ := Aside0.mk hq
        have HB4 := Aside0.mk hb4
        clear hq hb4 hix
        go_wp2
        exact ⟨⟨k + 1, pre ++ bytesS n (4 : Int).toNat, by omega, by go_num, ⟨by rw [← HE.out, HN.out]; simp [restS]⟩, ⟨Kd.R_lower HQ.out HBr.out.size⟩, ⟨below_then HBr.out HBr.out.size HB4.out⟩⟩, by simp [intOf]; omega⟩
      · have hke : k = 6 := by omega
        subst hke
        have HF : Aside0 (pre = encS 1 u s l t ty c) := ⟨by have h1 := HE.out; simpa [restS] using h1⟩
        go_wp2
        go_ret2
        exact ⟨_, rfl, by rw [← HF.out]; exact HO.out, HBr.out⟩
  · go_wp2
    go_loopw [4, 35] (fun q i wr => ∃ (k : Nat) (pre : List Int), k ≤ 6 ∧ i = .int .i64 k ∧ Aside0 (pre ++ restS ([u, s, l, t, ty, c].drop k) = encS 2 u s l t ty c) ∧ Aside0 (Kd.R (Kd.int .u8) 5 wr w.heap.size (fun _ => True) q pre) ∧ Aside0 (Below w.heap.size w wr)) (fun _ i _ => 6 - (intOf i).toNat)
    case atStart => exact ⟨0, preS 2, by omega, rfl, ⟨rfl⟩, ⟨Kd.R_putn HR3.out (4 : Int) 50⟩, ⟨below_set HB03.out (Nat.le_of_lt hlt)⟩⟩
    case round =>
      obtain ⟨k, pre, hk, rfl, HE, HO, HBr⟩ := hrel
      clear HR3 HB3 HBP HB HB03 hcp hmk hx4 hf4 hc0 hc1 hc2 hc3 hc4 hc5 hc6
      have HLP : Aside0 (pre.length ≤ 44) := ⟨by have h1 := congrArg List.length HE.out; rw [encS_length, List.length_append] at h1; omega⟩
      by_cases hk6 : k < 6
      · obtain ⟨n, hn, hm, hix⟩ := idx_run _ u s l t ty c HR.out k hk6
        have HN := Aside0.mk hn
        have HM := Aside0.mk hm
        obtain ⟨A1, c1, rfl, hcc, hr1⟩ := Kd.R_reads HO.out
        have HR1 := Aside0.mk hr1
        clear hn hm hr1 hcc
        go_wp2_with fail
        refine (put_yes A1 c1 pre n 4 _ HR1.out (by have := HLP.out; omega) HM.out).mono ?_
        rintro e w4 ⟨q, rfl, hq, hb4⟩
        have HQ := Aside0.mk hq
        have HB4 := Aside0.mk hb4
        clear hq hb4 hix
        go_wp2
        exact ⟨⟨k + 1, pre ++ bytesS n (4 : Int).toNat, by omega, by go_num, ⟨by rw [← HE.out, HN.out]; simp [restS]⟩, ⟨Kd.R_lower HQ.out HBr.out.size⟩, ⟨below_then HBr.out HBr.out.size HB4.out⟩⟩, by simp [intOf]; omega⟩
      · have hke : k = 6 := by omega
        subst hke
        have HF : Aside0 (pre = encS 2 u s l t ty c) := ⟨by have h1 := HE.out; simpa [restS] using h1⟩
        go_wp2
        go_ret2
        exact ⟨_, rfl, by rw [← HF.out]; exact HO.out, HBr.out⟩
  · go_wp2
    go_loopw [4, 35] (fun q i wr => ∃ (k : Nat) (pre : List Int), k ≤ 6 ∧ i = .int .i64 k ∧ Aside0 (pre ++ restS ([u, s, l, t, ty, c].drop k) = encS 3 u s l t ty c) ∧ Aside0 (Kd.R (Kd.int .u8) 5 wr w.heap.size (fun _ => True) q pre) ∧ Aside0 (Below w.heap.size w wr)) (fun _ i _ => 6 - (intOf i).toNat)
    case atStart => exact ⟨0, preS 3, by omega, rfl, ⟨rfl⟩, ⟨Kd.R_putn HR3.out (4 : Int) 51⟩, ⟨below_set HB03.out (Nat.le_of_lt hlt)⟩⟩
    case round =>
      obtain ⟨k, pre, hk, rfl, HE, HO, HBr⟩ := hrel
      clear HR3 HB3 HBP HB HB03 hcp hmk hx4 hf4 hc0 hc1 hc2 hc3 hc4 hc5 hc6
      have HLP : Aside0 (pre.length ≤ 44) := ⟨by have h1 := congrArg List.length HE.out; rw [encS_length, List.length_append] at h1; omega⟩
      by_cases hk6 : k < 6
      · obtain ⟨n, hn, hm, hix⟩ := idx_run _ u s l t ty c HR.out k hk6
        have HN := Aside0.mk hn
        have HM := Aside0.mk hm
        obtain ⟨A1, c1, rfl, hcc, hr1⟩ := Kd.R_reads HO.out
        have HR1 := Aside0.mk hr1
        clear hn hm hr1 hcc
        go_wp2_with fail
        refine (put_yes A1 c1 pre n 4 _ HR1.out (by have := HLP.out; omega) HM.out).mono ?_
        rintro e w4 ⟨q, rfl, hq, hb4⟩
        have HQ := Aside0.mk hq
        have HB4 := Aside0.mk hb4
        clear hq hb4 hix
        go_wp2
        exact ⟨⟨k + 1, pre ++ bytesS n (4 : Int).toNat, by omega, by go_num, ⟨by rw [← HE.out, HN.out]; simp [restS]⟩, ⟨Kd.R_lower HQ.out HBr.out.size⟩, ⟨below_then HBr.out HBr.out.size HB4.out⟩⟩, by simp [intOf]; omega⟩
      · have hke : k = 6 := by omega
        subst hke
        have HF : Aside0 (pre = encS 3 u s l t ty c) := ⟨by have h1 := HE.out; simpa [restS] using h1⟩
        go_wp2
        go_ret2
        exact ⟨_, rfl, by rw [← HF.out]; exact HO.out, HBr.out⟩
  · go_wp2
    go_loopw [4, 35] (fun q i wr => ∃ (k : Nat) (pre : List Int), k ≤ 6 ∧ i = .int .i64 k ∧ Aside0 (pre ++ restS ([u, s, l, t, ty, c].drop k) = encS 4 u s l t ty c) ∧ Aside0 (Kd.R (Kd.int .u8) 5 wr w.heap.size (fun _ => True) q pre) ∧ Aside0 (Below w.heap.size w wr)) (fun _ i _ => 6 - (intOf i).toNat)
    case atStart => exact ⟨0, preS 4, by omega, rfl, ⟨rfl⟩, ⟨Kd.R_putn HR3.out (4 : Int) 52⟩, ⟨below_set HB03.out (Nat.le_of_lt hlt)⟩⟩
    case round =>
      obtain ⟨k, pre, hk, rfl, HE, HO, HBr⟩ := hrel
      clear HR3 HB3 HBP HB HB03 hcp hmk hx4 hf4 hc0 hc1 hc2 hc3 hc4 hc5 hc6
      have HLP : Aside0 (pre.length ≤ 44) := ⟨by have h1 := congrArg List.length HE.out; rw [encS_length, List.length_append] at h1; omega⟩
      by_cases hk6 : k < 6
      · obtain ⟨n, hn, hm, hix⟩ := idx_run _ u s l t ty c HR.out k hk6
        have HN := Aside0.mk hn
        have HM := Aside0.mk hm
        obtain ⟨A1, c1, rfl, hcc, hr1⟩ := Kd.R_reads HO.out
        have HR1 := Aside0.mk hr1
        clear hn hm hr1 hcc
        go_wp2_with fail
        refine (put_yes A1 c1 pre n 4 _ HR1.out (by have := HLP.out; omega) HM.out).mono ?_
        rintro e w4 ⟨q, rfl, hq, hb4⟩
        have HQ := Aside0.mk hq
        have HB4 := Aside0.mk hb4
        clear hq hb4 hix
        go_wp2
        exact ⟨⟨k + 1, pre ++ bytesS n (4 : Int).toNat, by omega, by go_num, ⟨by rw [← HE.out, HN.out]; simp [restS]⟩, ⟨Kd.R_lower HQ.out HBr.out.size⟩, ⟨below_then HBr.out HBr.out.size HB4.out⟩⟩, by simp [intOf]; omega⟩
      · have hke : k = 6 := by omega
        subst hke
        have HF : Aside0 (pre = encS 4 u s l t ty c) := ⟨by have h1 := HE.out; simpa [restS] using h1⟩
        go_wp2
        go_ret2
        exact ⟨_, rfl, by rw [← HF.out]; exact HO.out, HBr.out⟩
end Go.Proofs.Ythgghbmckpflcaa.Oct
