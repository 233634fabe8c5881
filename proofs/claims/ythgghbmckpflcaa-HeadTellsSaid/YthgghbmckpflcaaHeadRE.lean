/- The document's Encode: which bytes it lays; condition: none. -/
import Derived.Test.YthgghbmckpflcaaOctJ
import Derived.Test.YthgghbmckpflcaaHeadS
import Derived.Test.YthgghbmckpflcaaPSizex1
import Derived.Lib.SlBytesConst
namespace Go.Proofs.Ythgghbmckpflcaa.Oct
open Go.RowKit Go.Proofs.YthgghbmckpflcaaW.PrintWords Go.Proofs.YthgghbmckpflcaaW.PrintLast Go.Proofs.YthgghbmckpflcaaW.PrintMore

theorem rright_f (v u s l t ty c : Int) : PSize.epactref15_Right.f v u s l t ty c = some (rightS v u s l t ty c) := by
  unfold PSize.epactref15_Right.f rightS
  by_cases h0 : v < 1
  · rw [if_pos h0]; congr 1; symm; rw [decide_eq_false_iff_not]; omega
  rw [if_neg h0]
  by_cases h1 : v > 4
  · rw [if_pos h1]; congr 1; symm; rw [decide_eq_false_iff_not]; omega
  rw [if_neg h1]
  by_cases h2 : ty < 1
  · rw [if_pos h2]; congr 1; symm; rw [decide_eq_false_iff_not]; omega
  rw [if_neg h2]
  by_cases h3 : ty > 64
  · rw [if_pos h3]; congr 1; symm; rw [decide_eq_false_iff_not]; omega
  rw [if_neg h3]
  by_cases h4 : c < 1
  · rw [if_pos h4]; congr 1; symm; rw [decide_eq_false_iff_not]; omega
  rw [if_neg h4]
  by_cases h5 : c > 256
  · rw [if_pos h5]; congr 1; symm; rw [decide_eq_false_iff_not]; omega
  rw [if_neg h5]
  by_cases h6 : l < 0
  · rw [if_pos h6]; congr 1; symm; rw [decide_eq_false_iff_not]; omega
  rw [if_neg h6]
  by_cases h7 : l > 201
  · rw [if_pos h7]; congr 1; symm; rw [decide_eq_false_iff_not]; omega
  rw [if_neg h7]
  by_cases h8 : t < 0
  · rw [if_pos h8]; congr 1; symm; rw [decide_eq_false_iff_not]; omega
  rw [if_neg h8]
  by_cases h9 : t > 2000
  · rw [if_pos h9]; congr 1; symm; rw [decide_eq_false_iff_not]; omega
  rw [if_neg h9]
  by_cases hu : u = 0
  · rw [if_pos hu]
    by_cases hs : s = 0
    · rw [if_pos hs]; congr 1; symm; rw [decide_eq_true_iff]; omega
    · rw [if_neg hs]; congr 1; rw [Bool.eq_iff_iff, decide_eq_true_iff, beq_iff_eq]; omega
  · rw [if_neg hu]
    by_cases hut : u = ty
    · rw [if_pos hut]
      by_cases hs : s = 0
      · rw [if_pos hs]; congr 1; symm; rw [decide_eq_true_iff]; omega
      · rw [if_neg hs]; congr 1; rw [Bool.eq_iff_iff, decide_eq_true_iff, beq_iff_eq]; omega
    · rw [if_neg hut]; congr 1; symm; rw [decide_eq_false_iff_not]; omega
theorem rright_calls (v u s l t ty c : Int) (w : World) :
    Calls Try.prog 14 #[.agg #[.int .i64 v, .int .i64 u, .int .i64 s, .int .i64 l, .int .i64 t, .int .i64 ty, .int .i64 c]] w fun e w' => e = .returned (.bool (rightS v u s l t ty c)) ∧ Below w.heap.size w w' :=
  PSize.epactref15_Right.calls v u s l t ty c _ w (rright_f v u s l t ty c)

/-- One byte behind the four of a constant. -/
theorem app_const (ty : TypeId) (W : World) (base : Nat) (x : Int) (g : Nat) (hg : g = W.heap.size) (hb : base ≤ W.heap.size) :
    ∃ v1 w1, (Builtin.append_ #[24, 24] ty #[.slice (some ⟨g, 0, none⟩) 4 4, .slice (some ⟨g + 1, 0, none⟩) 1 1]).run Try.prog ((W.alloc (.cells #[.int .u8 84, .int .u8 90, .int .u8 105, .int .u8 102] 5 (4, 5))).alloc (.cells #[.int .u8 x] 5)) = .ok v1 w1 ∧ Kd.R (Kd.int .u8) 5 w1 base (fun _ => True) v1 [84, 90, 105, 102, x] ∧ Below W.heap.size W w1 := by
  subst hg
  obtain ⟨i5, hi5, hz5, hsz5, hby5⟩ := info_parts info5
  have hsz : (W.alloc (.cells #[.int .u8 84, .int .u8 90, .int .u8 105, .int .u8 102] 5 (4, 5))).heap.size = W.heap.size + 1 := by simp
  have hbx : ((W.alloc (.cells #[.int .u8 84, .int .u8 90, .int .u8 105, .int .u8 102] 5 (4, 5))).alloc (.cells #[.int .u8 x] 5)).heap[W.heap.size + 1]? = some (.cells #[.int .u8 x] 5 (0, 0)) := by rw [← hsz]; exact heap_alloc_new _ _
  have hg' : ((W.alloc (.cells #[.int .u8 84, .int .u8 90, .int .u8 105, .int .u8 102] 5 (4, 5))).alloc (.cells #[.int .u8 x] 5)).heap[W.heap.size]? = some (.cells #[.int .u8 84, .int .u8 90, .int .u8 105, .int .u8 102] 5 (4, 5)) := (Below.heap_alloc _ _ _ (by simp)).trans (heap_alloc_new W _)
  obtain ⟨v', w', hrun, hown', hgr⟩ := run_append_arg_grows (P := Try.prog) _ 24 ty 5 i5 (.int .u8 0) 1 1 Try.underlying24 hi5 hz5 hsz5 hby5 rfl (by omega) ⟨W.heap.size, 0, none⟩ 4 4 [.int .u8 84, .int .u8 90, .int .u8 105, .int .u8 102] rfl (World.news_of_block hg') ⟨W.heap.size + 1, 0, none⟩ 1 1 [.int .u8 x] rfl (World.news_of_block hbx) (by omega) (by simp [maxLen]) (by omega)
  refine ⟨v', w', hrun, ?_, ?_⟩
  · have hR := Kd.R_of_own (enc := Value.int .u8) (h1 := fun _ => rfl) (ok := fun _ => True) (v := v') (xs := [84, 90, 105, 102, x]) (by simpa [encs] using hown') (fun _ _ => trivial)
    exact Kd.R_lower hR (by have := hsz; simp only [World.alloc] at this ⊢; simp at this ⊢; omega)
  · exact (below_alloc (below_alloc (Below.refl _ _) _) _).grown hgr (by simp; omega) (fun k e => by cases e)
theorem cnt_at {v u s l t ty c : Int} {W : World} {g : Nat} (hb : W.heap[g]? = some (.cells #[.int .i64 u, .int .i64 s, .int .i64 l, .int .i64 t, .int .i64 ty, .int .i64 c] 3 (0, 0))) (hr : rightS v u s l t ty c = true) (k : Nat) (hk : k < 6) :
    ∃ n, [u, s, l, t, ty, c].drop k = n :: [u, s, l, t, ty, c].drop (k + 1) ∧ mayS n 4 = true ∧ W.cell? ⟨g, k, none⟩ = some (.int .i64 n) := by
  obtain ⟨n, hn, hm, _⟩ := idx_run v u s l t ty c hr k hk
  refine ⟨n, hn, hm, (blk_cell hb k).trans ?_⟩
  obtain rfl | rfl | rfl | rfl | rfl | rfl : k = 0 ∨ k = 1 ∨ k = 2 ∨ k = 3 ∨ k = 4 ∨ k = 5 := by omega
  all_goals (injection hn with h1 _; subst h1; rfl)
set_option maxHeartbeats 2000000 in
theorem rencode_no (v u s l t ty c : Int) (w : World) (hr : rightS v u s l t ty c = false) :
    Calls Try.prog 10 #[.agg #[.int .i64 v, .int .i64 u, .int .i64 s, .int .i64 l, .int .i64 t, .int .i64 ty, .int .i64 c]] w fun e w' => e = .returned (.tuple #[.slice none 0 0, .bool false]) ∧ Below w.heap.size w w' := by
  have HR := Aside0.mk hr
  clear hr
  go_enter Try.func10, Try.ntmps10
  go_wp2_with fail
  refine (rright_calls v u s l t ty c _).mono ?_
  rintro e w1 ⟨rfl, hb⟩
  rw [HR.out]
  have HB := Aside0.mk hb
  clear hb
  go_wp2
  go_ret2
  exact ⟨rfl, below_then (below_alloc (Below.refl _ _) _) (by simp) HB.out⟩

set_option maxHeartbeats 2000000 in
theorem rencode_yes (v u s l t ty c : Int) (w : World) (hr : rightS v u s l t ty c = true) :
    Calls Try.prog 10 #[.agg #[.int .i64 v, .int .i64 u, .int .i64 s, .int .i64 l, .int .i64 t, .int .i64 ty, .int .i64 c]] w fun e w' => ∃ q, e = .returned (.tuple #[q, .bool true]) ∧ Kd.R (Kd.int .u8) 5 w' w.heap.size (fun _ => True) q (encS v u s l t ty c) ∧ Below w.heap.size w w' := by
  have HR := Aside0.mk hr
  clear hr
  have kc := fun (w : World) (C : Array Value) (n c : Nat) => Lib.run_convert_bytes_const (P := Try.prog) w 24 5 C n c Try.underlying24 Try.underlying5
  go_enter Try.func10, Try.ntmps10
  go_wp2_with fail
  refine (rright_calls v u s l t ty c _).mono ?_
  rintro e w1 ⟨rfl, hb⟩
  rw [HR.out]
  have HB := Aside0.mk hb
  clear hb
  have hlt : w.heap.size < w1.heap.size := by have h1 := HB.out.size; simp at h1; omega
  have hbp : w1.heap[w.heap.size]? = some (.cells #[.int .i64 v, .int .i64 u, .int .i64 s, .int .i64 l, .int .i64 t, .int .i64 ty, .int .i64 c] 23 (0, 0)) := (HB.out.block _ (by simp)).trans (heap_alloc_new w _)
  have HH1 := Aside0.mk hbp
  have HB1 : Aside0 (Below w.heap.size w w1) := ⟨below_then (below_alloc (Below.refl _ _) _) (by simp) HB.out⟩
  clear hbp HB
  obtain ⟨a0, a1, a2, a3, a4, a5, a6⟩ := cells7 (blk_keep HH1.out (below_alloc (Below.refl w1.heap.size w1) (.cells #[.int .u8 84, .int .u8 90, .int .u8 105, .int .u8 102] 5 (4, 5))))
  obtain ⟨hv, _⟩ := of_decide_eq_true HR.out
  have hv4 : v = 1 ∨ v = 2 ∨ v = 3 ∨ v = 4 := by omega
  clear hv
  rcases hv4 with rfl | rfl | rfl | rfl
  · obtain ⟨v2, w2, happ, hR2, hB2⟩ := app_const 24 w1 w.heap.size 0 _ rfl (Nat.le_of_lt hlt)
    have HR2 := Aside0.mk hR2
    have HB2 := Aside0.mk (below_then HB1.out (Nat.le_of_lt hlt) hB2)
    have HH2 := Aside0.mk (blk_keep HH1.out hB2)
    clear hR2 hB2
    go_wp2_with (first | ((with_reducible refine gate_builtin (b := .append) (xs := #[.tmp 21, .tmp 23]) rfl ?_); at_builtin; refine app_step rfl (.tmp 21) (.tmp 23) 24 rfl rfl rfl happ ?_))
    clear happ kc a1 a2 a3 a4 a5 a6
    go_loopw [4, 6] (fun q i wr => ∃ (k : Nat) (pre : List Int), k ≤ 15 ∧ i = .int .i64 k ∧ Aside0 (pre ++ List.replicate (15 - k) 0 = preS 1) ∧ Aside0 (Kd.R (Kd.int .u8) 5 wr w.heap.size (fun _ => True) q pre) ∧ Aside0 (wr.heap[w.heap.size]? = some (.cells #[.int .i64 1, .int .i64 u, .int .i64 s, .int .i64 l, .int .i64 t, .int .i64 ty, .int .i64 c] 23 (0, 0))) ∧ Aside0 (Below w.heap.size w wr)) (fun _ i _ => 15 - (intOf i).toNat)
    case atStart => exact ⟨0, [84, 90, 105, 102, 0], by omega, rfl, ⟨rfl⟩, HR2, HH2, HB2⟩
    case round =>
      obtain ⟨k, pre, hk, rfl, HE, HO, HHr, HBr⟩ := hrel
      clear HR2 HB2 HH2 HB1 HH1
      have HLP : Aside0 (pre.length ≤ 20) := ⟨by have h1 := congrArg List.length HE.out; simp [preS] at h1; omega⟩
      have hgr : ∃ A0 c0, u4 = .slice A0 pre.length c0 := by obtain ⟨A0, c0, h, _⟩ := Kd.R_reads HO.out; exact ⟨A0, c0, h⟩
      by_cases hk15 : k < 15
      · have HN : Aside0 (List.replicate (15 - k) (0 : Int) = 0 :: List.replicate (15 - (k + 1)) 0) := ⟨by rw [show 15 - k = (15 - (k + 1)) + 1 by omega]; rfl⟩
        have HQW : Aside0 (∀ b, u4.ownBlock = some b → b ≠ w.heap.size) := ⟨fun b hb he => Kd.R_ne HO.out HHr.out (by decide) (by rw [hb, he])⟩
        go_wp2_with (first
          | ((with_reducible refine gate_builtin (b := .append) (xs := #[.tmp 29, .tmp 30]) rfl ?_); at_builtin; refine Kd.R_append (Kd.int .u8) (w0 := w) w.heap.size rfl (.tmp 29) (.tmp 30) 24 5 (.int .u8 0) 1 rfl Try.underlying24 info5 rfl (by decide) (by omega) u4 pre 0 [.int .u8 0] (fun _ => True) (fun _ => False) rfl rfl rfl (fun _ hk => hk.elim) (fun _ _ => trivial) HO.out HBr.out (below_size HBr.out) (by have := HLP.out; omega) ?_; intro v3 w3 ho hb hg hat; have HO2 := Aside0.mk ho; have HB3 := Aside0.mk hb; have HH3 := Aside0.mk (grown_blk HHr.out hg (fun e => HQW.out _ e rfl)); clear ho hb hg hat))
        exact ⟨⟨k + 1, pre ++ [0], by omega, by go_num, ⟨by rw [← HE.out, HN.out]; simp⟩, HO2, HH3, HB3⟩, by simp [intOf]; omega⟩
      · have hke : k = 15 := by omega
        subst hke
        rw [show ((15 : Nat) : Int) = 15 from rfl]
        have HF : Aside0 (pre = preS 1) := ⟨by have h1 := HE.out; simpa using h1⟩
        obtain ⟨b0, b1, b2, b3, b4, b5, b6⟩ := cells7 HHr.out
        clear HE hgr
        go_wp2
        have HI5 : Aside0 ((wr.alloc (.cells #[.int .i64 u, .int .i64 s, .int .i64 l, .int .i64 t, .int .i64 ty, .int .i64 c] 3 (0, 0))).heap[wr.heap.size]? = some (.cells #[.int .i64 u, .int .i64 s, .int .i64 l, .int .i64 t, .int .i64 ty, .int .i64 c] 3 (0, 0))) := ⟨heap_alloc_new wr _⟩
        have HO5 := Aside0.mk (Kd.R_grown2 HO.out rfl (World.grownBy_alloc wr (.cells #[.int .i64 u, .int .i64 s, .int .i64 l, .int .i64 t, .int .i64 ty, .int .i64 c] 3 (0, 0)) none) (fun _ h => by cases h))
        have HB5 := Aside0.mk (below_alloc HBr.out (.cells #[.int .i64 u, .int .i64 s, .int .i64 l, .int .i64 t, .int .i64 ty, .int .i64 c] 3 (0, 0)))
        clear HO HBr HHr b0 b1 b2 b3 b4 b5 b6 HLP
        show Code.wp _ _ _ _ (wr.alloc (.cells #[.int .i64 u, .int .i64 s, .int .i64 l, .int .i64 t, .int .i64 ty, .int .i64 c] 3 (0, 0)))
        generalize wr.alloc (.cells #[.int .i64 u, .int .i64 s, .int .i64 l, .int .i64 t, .int .i64 ty, .int .i64 c] 3 (0, 0)) = w5 at *
        generalize wr.heap.size = gl at *
        go_loopw [4, 8] (fun q i wq => ∃ (k : Nat) (pre : List Int), k ≤ 6 ∧ i = .int .i64 k ∧ Aside0 (pre ++ restS ([u, s, l, t, ty, c].drop k) = encS 1 u s l t ty c) ∧ Aside0 (Kd.R (Kd.int .u8) 5 wq w.heap.size (fun _ => True) q pre) ∧ Aside0 (wq.heap[gl]? = some (.cells #[.int .i64 u, .int .i64 s, .int .i64 l, .int .i64 t, .int .i64 ty, .int .i64 c] 3 (0, 0))) ∧ Aside0 (Below w.heap.size w wq)) (fun _ i _ => 6 - (intOf i).toNat)
        case atStart => exact ⟨0, pre, by omega, rfl, ⟨by rw [HF.out]; rfl⟩, HO5, HI5, HB5⟩
        case round =>
          obtain ⟨k, pre2, hk2, rfl, HE, HO, HI, HBr⟩ := hrel
          clear HO5 HI5 HB5 HF
          have HLP : Aside0 (pre2.length ≤ 44) := ⟨by have h1 := congrArg List.length HE.out; rw [encS_length, List.length_append] at h1; omega⟩
          by_cases hk6 : k < 6
          · obtain ⟨n, hn, hm, hcell⟩ := cnt_at HI.out HR.out k hk6
            have HN := Aside0.mk hn
            have HM := Aside0.mk hm
            obtain ⟨A1, c1, rfl, hcc, hr1⟩ := Kd.R_reads HO.out
            have HR1 := Aside0.mk hr1
            clear hn hm hr1 hcc
            go_wp2_with fail
            refine (Ref.put_yes A1 c1 pre2 n 4 _ HR1.out (by have := HLP.out; omega) HM.out).mono ?_
            rintro e w6 ⟨q, rfl, hq, hb6⟩
            have HQ := Aside0.mk hq
            have HB6 := Aside0.mk hb6
            clear hq hb6 hcell
            go_wp2
            exact ⟨⟨k + 1, pre2 ++ bytesS n (4 : Int).toNat, by omega, by go_num, ⟨by rw [← HE.out, HN.out]; simp [restS]⟩, ⟨Kd.R_lower HQ.out HBr.out.size⟩, ⟨blk_keep HI.out HB6.out⟩, ⟨below_then HBr.out HBr.out.size HB6.out⟩⟩, by simp [intOf]; omega⟩
          · have hke : k = 6 := by omega
            subst hke
            have HF : Aside0 (pre2 = encS 1 u s l t ty c) := ⟨by have h1 := HE.out; simpa [restS] using h1⟩
            go_wp2
            go_ret2
            exact ⟨_, rfl, by rw [← HF.out]; exact HO.out, HBr.out⟩
  · obtain ⟨v2, w2, happ, hR2, hB2⟩ := app_const 24 w1 w.heap.size 50 _ rfl (Nat.le_of_lt hlt)
    have HR2 := Aside0.mk hR2
    have HB2 := Aside0.mk (below_then HB1.out (Nat.le_of_lt hlt) hB2)
    have HH2 := Aside0.mk (blk_keep HH1.out hB2)
    clear hR2 hB2
    go_wp2_with (first | ((with_reducible refine gate_builtin (b := .append) (xs := #[.tmp 21, .tmp 23]) rfl ?_); at_builtin; refine app_step rfl (.tmp 21) (.tmp 23) 24 rfl rfl rfl happ ?_))
    clear happ kc a1 a2 a3 a4 a5 a6
    go_loopw [4, 6] (fun q i wr => ∃ (k : Nat) (pre : List Int), k ≤ 15 ∧ i = .int .i64 k ∧ Aside0 (pre ++ List.replicate (15 - k) 0 = preS 2) ∧ Aside0 (Kd.R (Kd.int .u8) 5 wr w.heap.size (fun _ => True) q pre) ∧ Aside0 (wr.heap[w.heap.size]? = some (.cells #[.int .i64 2, .int .i64 u, .int .i64 s, .int .i64 l, .int .i64 t, .int .i64 ty, .int .i64 c] 23 (0, 0))) ∧ Aside0 (Below w.heap.size w wr)) (fun _ i _ => 15 - (intOf i).toNat)
    case atStart => exact ⟨0, [84, 90, 105, 102, 50], by omega, rfl, ⟨rfl⟩, HR2, HH2, HB2⟩
    case round =>
      obtain ⟨k, pre, hk, rfl, HE, HO, HHr, HBr⟩ := hrel
      clear HR2 HB2 HH2 HB1 HH1
      have HLP : Aside0 (pre.length ≤ 20) := ⟨by have h1 := congrArg List.length HE.out; simp [preS] at h1; omega⟩
      have hgr : ∃ A0 c0, u4 = .slice A0 pre.length c0 := by obtain ⟨A0, c0, h, _⟩ := Kd.R_reads HO.out; exact ⟨A0, c0, h⟩
      by_cases hk15 : k < 15
      · have HN : Aside0 (List.replicate (15 - k) (0 : Int) = 0 :: List.replicate (15 - (k + 1)) 0) := ⟨by rw [show 15 - k = (15 - (k + 1)) + 1 by omega]; rfl⟩
        have HQW : Aside0 (∀ b, u4.ownBlock = some b → b ≠ w.heap.size) := ⟨fun b hb he => Kd.R_ne HO.out HHr.out (by decide) (by rw [hb, he])⟩
        go_wp2_with (first
          | ((with_reducible refine gate_builtin (b := .append) (xs := #[.tmp 29, .tmp 30]) rfl ?_); at_builtin; refine Kd.R_append (Kd.int .u8) (w0 := w) w.heap.size rfl (.tmp 29) (.tmp 30) 24 5 (.int .u8 0) 1 rfl Try.underlying24 info5 rfl (by decide) (by omega) u4 pre 0 [.int .u8 0] (fun _ => True) (fun _ => False) rfl rfl rfl (fun _ hk => hk.elim) (fun _ _ => trivial) HO.out HBr.out (below_size HBr.out) (by have := HLP.out; omega) ?_; intro v3 w3 ho hb hg hat; have HO2 := Aside0.mk ho; have HB3 := Aside0.mk hb; have HH3 := Aside0.mk (grown_blk HHr.out hg (fun e => HQW.out _ e rfl)); clear ho hb hg hat))
        exact ⟨⟨k + 1, pre ++ [0], by omega, by go_num, ⟨by rw [← HE.out, HN.out]; simp⟩, HO2, HH3, HB3⟩, by simp [intOf]; omega⟩
      · have hke : k = 15 := by omega
        subst hke
        rw [show ((15 : Nat) : Int) = 15 from rfl]
        have HF : Aside0 (pre = preS 2) := ⟨by have h1 := HE.out; simpa using h1⟩
        obtain ⟨b0, b1, b2, b3, b4, b5, b6⟩ := cells7 HHr.out
        clear HE hgr
        go_wp2
        have HI5 : Aside0 ((wr.alloc (.cells #[.int .i64 u, .int .i64 s, .int .i64 l, .int .i64 t, .int .i64 ty, .int .i64 c] 3 (0, 0))).heap[wr.heap.size]? = some (.cells #[.int .i64 u, .int .i64 s, .int .i64 l, .int .i64 t, .int .i64 ty, .int .i64 c] 3 (0, 0))) := ⟨heap_alloc_new wr _⟩
        have HO5 := Aside0.mk (Kd.R_grown2 HO.out rfl (World.grownBy_alloc wr (.cells #[.int .i64 u, .int .i64 s, .int .i64 l, .int .i64 t, .int .i64 ty, .int .i64 c] 3 (0, 0)) none) (fun _ h => by cases h))
        have HB5 := Aside0.mk (below_alloc HBr.out (.cells #[.int .i64 u, .int .i64 s, .int .i64 l, .int .i64 t, .int .i64 ty, .int .i64 c] 3 (0, 0)))
        clear HO HBr HHr b0 b1 b2 b3 b4 b5 b6 HLP
        show Code.wp _ _ _ _ (wr.alloc (.cells #[.int .i64 u, .int .i64 s, .int .i64 l, .int .i64 t, .int .i64 ty, .int .i64 c] 3 (0, 0)))
        generalize wr.alloc (.cells #[.int .i64 u, .int .i64 s, .int .i64 l, .int .i64 t, .int .i64 ty, .int .i64 c] 3 (0, 0)) = w5 at *
        generalize wr.heap.size = gl at *
        go_loopw [4, 8] (fun q i wq => ∃ (k : Nat) (pre : List Int), k ≤ 6 ∧ i = .int .i64 k ∧ Aside0 (pre ++ restS ([u, s, l, t, ty, c].drop k) = encS 2 u s l t ty c) ∧ Aside0 (Kd.R (Kd.int .u8) 5 wq w.heap.size (fun _ => True) q pre) ∧ Aside0 (wq.heap[gl]? = some (.cells #[.int .i64 u, .int .i64 s, .int .i64 l, .int .i64 t, .int .i64 ty, .int .i64 c] 3 (0, 0))) ∧ Aside0 (Below w.heap.size w wq)) (fun _ i _ => 6 - (intOf i).toNat)
        case atStart => exact ⟨0, pre, by omega, rfl, ⟨by rw [HF.out]; rfl⟩, HO5, HI5, HB5⟩
        case round =>
          obtain ⟨k, pre2, hk2, rfl, HE, HO, HI, HBr⟩ := hrel
          clear HO5 HI5 HB5 HF
          have HLP : Aside0 (pre2.length ≤ 44) := ⟨by have h1 := congrArg List.length HE.out; rw [encS_length, List.length_append] at h1; omega⟩
          by_cases hk6 : k < 6
          · obtain ⟨n, hn, hm, hcell⟩ := cnt_at HI.out HR.out k hk6
            have HN := Aside0.mk hn
            have HM := Aside0.mk hm
            obtain ⟨A1, c1, rfl, hcc, hr1⟩ := Kd.R_reads HO.out
            have HR1 := Aside0.mk hr1
            clear hn hm hr1 hcc
            go_wp2_with fail
            refine (Ref.put_yes A1 c1 pre2 n 4 _ HR1.out (by have := HLP.out; omega) HM.out).mono ?_
            rintro e w6 ⟨q, rfl, hq, hb6⟩
            have HQ := Aside0.mk hq
            have HB6 := Aside0.mk hb6
            clear hq hb6 hcell
            go_wp2
            exact ⟨⟨k + 1, pre2 ++ bytesS n (4 : Int).toNat, by omega, by go_num, ⟨by rw [← HE.out, HN.out]; simp [restS]⟩, ⟨Kd.R_lower HQ.out HBr.out.size⟩, ⟨blk_keep HI.out HB6.out⟩, ⟨below_then HBr.out HBr.out.size HB6.out⟩⟩, by simp [intOf]; omega⟩
          · have hke : k = 6 := by omega
            subst hke
            have HF : Aside0 (pre2 = encS 2 u s l t ty c) := ⟨by have h1 := HE.out; simpa [restS] using h1⟩
            go_wp2
            go_ret2
            exact ⟨_, rfl, by rw [← HF.out]; exact HO.out, HBr.out⟩
  · obtain ⟨v2, w2, happ, hR2, hB2⟩ := app_const 24 w1 w.heap.size 51 _ rfl (Nat.le_of_lt hlt)
    have HR2 := Aside0.mk hR2
    have HB2 := Aside0.mk (below_then HB1.out (Nat.le_of_lt hlt) hB2)
    have HH2 := Aside0.mk (blk_keep HH1.out hB2)
    clear hR2 hB2
    go_wp2_with (first | ((with_reducible refine gate_builtin (b := .append) (xs := #[.tmp 21, .tmp 23]) rfl ?_); at_builtin; refine app_step rfl (.tmp 21) (.tmp 23) 24 rfl rfl rfl happ ?_))
    clear happ kc a1 a2 a3 a4 a5 a6
    go_loopw [4, 6] (fun q i wr => ∃ (k : Nat) (pre : List Int), k ≤ 15 ∧ i = .int .i64 k ∧ Aside0 (pre ++ List.replicate (15 - k) 0 = preS 3) ∧ Aside0 (Kd.R (Kd.int .u8) 5 wr w.heap.size (fun _ => True) q pre) ∧ Aside0 (wr.heap[w.heap.size]? = some (.cells #[.int .i64 3, .int .i64 u, .int .i64 s, .int .i64 l, .int .i64 t, .int .i64 ty, .int .i64 c] 23 (0, 0))) ∧ Aside0 (Below w.heap.size w wr)) (fun _ i _ => 15 - (intOf i).toNat)
    case atStart => exact ⟨0, [84, 90, 105, 102, 51], by omega, rfl, ⟨rfl⟩, HR2, HH2, HB2⟩
    case round =>
      obtain ⟨k, pre, hk, rfl, HE, HO, HHr, HBr⟩ := hrel
      clear HR2 HB2 HH2 HB1 HH1
      have HLP : Aside0 (pre.length ≤ 20) := ⟨by have h1 := congrArg List.length HE.out; simp [preS] at h1; omega⟩
      have hgr : ∃ A0 c0, u4 = .slice A0 pre.length c0 := by obtain ⟨A0, c0, h, _⟩ := Kd.R_reads HO.out; exact ⟨A0, c0, h⟩
      by_cases hk15 : k < 15
      · have HN : Aside0 (List.replicate (15 - k) (0 : Int) = 0 :: List.replicate (15 - (k + 1)) 0) := ⟨by rw [show 15 - k = (15 - (k + 1)) + 1 by omega]; rfl⟩
        have HQW : Aside0 (∀ b, u4.ownBlock = some b → b ≠ w.heap.size) := ⟨fun b hb he => Kd.R_ne HO.out HHr.out (by decide) (by rw [hb, he])⟩
        go_wp2_with (first
          | ((with_reducible refine gate_builtin (b := .append) (xs := #[.tmp 29, .tmp 30]) rfl ?_); at_builtin; refine Kd.R_append (Kd.int .u8) (w0 := w) w.heap.size rfl (.tmp 29) (.tmp 30) 24 5 (.int .u8 0) 1 rfl Try.underlying24 info5 rfl (by decide) (by omega) u4 pre 0 [.int .u8 0] (fun _ => True) (fun _ => False) rfl rfl rfl (fun _ hk => hk.elim) (fun _ _ => trivial) HO.out HBr.out (below_size HBr.out) (by have := HLP.out; omega) ?_; intro v3 w3 ho hb hg hat; have HO2 := Aside0.mk ho; have HB3 := Aside0.mk hb; have HH3 := Aside0.mk (grown_blk HHr.out hg (fun e => HQW.out _ e rfl)); clear ho hb hg hat))
        exact ⟨⟨k + 1, pre ++ [0], by omega, by go_num, ⟨by rw [← HE.out, HN.out]; simp⟩, HO2, HH3, HB3⟩, by simp [intOf]; omega⟩
      · have hke : k = 15 := by omega
        subst hke
        rw [show ((15 : Nat) : Int) = 15 from rfl]
        have HF : Aside0 (pre = preS 3) := ⟨by have h1 := HE.out; simpa using h1⟩
        obtain ⟨b0, b1, b2, b3, b4, b5, b6⟩ := cells7 HHr.out
        clear HE hgr
        go_wp2
        have HI5 : Aside0 ((wr.alloc (.cells #[.int .i64 u, .int .i64 s, .int .i64 l, .int .i64 t, .int .i64 ty, .int .i64 c] 3 (0, 0))).heap[wr.heap.size]? = some (.cells #[.int .i64 u, .int .i64 s, .int .i64 l, .int .i64 t, .int .i64 ty, .int .i64 c] 3 (0, 0))) := ⟨heap_alloc_new wr _⟩
        have HO5 := Aside0.mk (Kd.R_grown2 HO.out rfl (World.grownBy_alloc wr (.cells #[.int .i64 u, .int .i64 s, .int .i64 l, .int .i64 t, .int .i64 ty, .int .i64 c] 3 (0, 0)) none) (fun _ h => by cases h))
        have HB5 := Aside0.mk (below_alloc HBr.out (.cells #[.int .i64 u, .int .i64 s, .int .i64 l, .int .i64 t, .int .i64 ty, .int .i64 c] 3 (0, 0)))
        clear HO HBr HHr b0 b1 b2 b3 b4 b5 b6 HLP
        show Code.wp _ _ _ _ (wr.alloc (.cells #[.int .i64 u, .int .i64 s, .int .i64 l, .int .i64 t, .int .i64 ty, .int .i64 c] 3 (0, 0)))
        generalize wr.alloc (.cells #[.int .i64 u, .int .i64 s, .int .i64 l, .int .i64 t, .int .i64 ty, .int .i64 c] 3 (0, 0)) = w5 at *
        generalize wr.heap.size = gl at *
        go_loopw [4, 8] (fun q i wq => ∃ (k : Nat) (pre : List Int), k ≤ 6 ∧ i = .int .i64 k ∧ Aside0 (pre ++ restS ([u, s, l, t, ty, c].drop k) = encS 3 u s l t ty c) ∧ Aside0 (Kd.R (Kd.int .u8) 5 wq w.heap.size (fun _ => True) q pre) ∧ Aside0 (wq.heap[gl]? = some (.cells #[.int .i64 u, .int .i64 s, .int .i64 l, .int .i64 t, .int .i64 ty, .int .i64 c] 3 (0, 0))) ∧ Aside0 (Below w.heap.size w wq)) (fun _ i _ => 6 - (intOf i).toNat)
        case atStart => exact ⟨0, pre, by omega, rfl, ⟨by rw [HF.out]; rfl⟩, HO5, HI5, HB5⟩
        case round =>
          obtain ⟨k, pre2, hk2, rfl, HE, HO, HI, HBr⟩ := hrel
          clear HO5 HI5 HB5 HF
          have HLP : Aside0 (pre2.length ≤ 44) := ⟨by have h1 := congrArg List.length HE.out; rw [encS_length, List.length_append] at h1; omega⟩
          by_cases hk6 : k < 6
          · obtain ⟨n, hn, hm, hcell⟩ := cnt_at HI.out HR.out k hk6
            have HN := Aside0.mk hn
            have HM := Aside0.mk hm
            obtain ⟨A1, c1, rfl, hcc, hr1⟩ := Kd.R_reads HO.out
            have HR1 := Aside0.mk hr1
            clear hn hm hr1 hcc
            go_wp2_with fail
            refine (Ref.put_yes A1 c1 pre2 n 4 _ HR1.out (by have := HLP.out; omega) HM.out).mono ?_
            rintro e w6 ⟨q, rfl, hq, hb6⟩
            have HQ := Aside0.mk hq
            have HB6 := Aside0.mk hb6
            clear hq hb6 hcell
            go_wp2
            exact ⟨⟨k + 1, pre2 ++ bytesS n (4 : Int).toNat, by omega, by go_num, ⟨by rw [← HE.out, HN.out]; simp [restS]⟩, ⟨Kd.R_lower HQ.out HBr.out.size⟩, ⟨blk_keep HI.out HB6.out⟩, ⟨below_then HBr.out HBr.out.size HB6.out⟩⟩, by simp [intOf]; omega⟩
          · have hke : k = 6 := by omega
            subst hke
            have HF : Aside0 (pre2 = encS 3 u s l t ty c) := ⟨by have h1 := HE.out; simpa [restS] using h1⟩
            go_wp2
            go_ret2
            exact ⟨_, rfl, by rw [← HF.out]; exact HO.out, HBr.out⟩
  · obtain ⟨v2, w2, happ, hR2, hB2⟩ := app_const 24 w1 w.heap.size 52 _ rfl (Nat.le_of_lt hlt)
    have HR2 := Aside0.mk hR2
    have HB2 := Aside0.mk (below_then HB1.out (Nat.le_of_lt hlt) hB2)
    have HH2 := Aside0.mk (blk_keep HH1.out hB2)
    clear hR2 hB2
    go_wp2_with (first | ((with_reducible refine gate_builtin (b := .append) (xs := #[.tmp 21, .tmp 23]) rfl ?_); at_builtin; refine app_step rfl (.tmp 21) (.tmp 23) 24 rfl rfl rfl happ ?_))
    clear happ kc a1 a2 a3 a4 a5 a6
    go_loopw [4, 6] (fun q i wr => ∃ (k : Nat) (pre : List Int), k ≤ 15 ∧ i = .int .i64 k ∧ Aside0 (pre ++ List.replicate (15 - k) 0 = preS 4) ∧ Aside0 (Kd.R (Kd.int .u8) 5 wr w.heap.size (fun _ => True) q pre) ∧ Aside0 (wr.heap[w.heap.size]? = some (.cells #[.int .i64 4, .int .i64 u, .int .i64 s, .int .i64 l, .int .i64 t, .int .i64 ty, .int .i64 c] 23 (0, 0))) ∧ Aside0 (Below w.heap.size w wr)) (fun _ i _ => 15 - (intOf i).toNat)
    case atStart => exact ⟨0, [84, 90, 105, 102, 52], by omega, rfl, ⟨rfl⟩, HR2, HH2, HB2⟩
    case round =>
      obtain ⟨k, pre, hk, rfl, HE, HO, HHr, HBr⟩ := hrel
      clear HR2 HB2 HH2 HB1 HH1
      have HLP : Aside0 (pre.length ≤ 20) := ⟨by have h1 := congrArg List.length HE.out; simp [preS] at h1; omega⟩
      have hgr : ∃ A0 c0, u4 = .slice A0 pre.length c0 := by obtain ⟨A0, c0, h, _⟩ := Kd.R_reads HO.out; exact ⟨A0, c0, h⟩
      by_cases hk15 : k < 15
      · have HN : Aside0 (List.replicate (15 - k) (0 : Int) = 0 :: List.replicate (15 - (k + 1)) 0) := ⟨by rw [show 15 - k = (15 - (k + 1)) + 1 by omega]; rfl⟩
        have HQW : Aside0 (∀ b, u4.ownBlock = some b → b ≠ w.heap.size) := ⟨fun b hb he => Kd.R_ne HO.out HHr.out (by decide) (by rw [hb, he])⟩
        go_wp2_with (first
          | ((with_reducible refine gate_builtin (b := .append) (xs := #[.tmp 29, .tmp 30]) rfl ?_); at_builtin; refine Kd.R_append (Kd.int .u8) (w0 := w) w.heap.size rfl (.tmp 29) (.tmp 30) 24 5 (.int .u8 0) 1 rfl Try.underlying24 info5 rfl (by decide) (by omega) u4 pre 0 [.int .u8 0] (fun _ => True) (fun _ => False) rfl rfl rfl (fun _ hk => hk.elim) (fun _ _ => trivial) HO.out HBr.out (below_size HBr.out) (by have := HLP.out; omega) ?_; intro v3 w3 ho hb hg hat; have HO2 := Aside0.mk ho; have HB3 := Aside0.mk hb; have HH3 := Aside0.mk (grown_blk HHr.out hg (fun e => HQW.out _ e rfl)); clear ho hb hg hat))
        exact ⟨⟨k + 1, pre ++ [0], by omega, by go_num, ⟨by rw [← HE.out, HN.out]; simp⟩, HO2, HH3, HB3⟩, by simp [intOf]; omega⟩
      · have hke : k = 15 := by omega
        subst hke
        rw [show ((15 : Nat) : Int) = 15 from rfl]
        have HF : Aside0 (pre = preS 4) := ⟨by have h1 := HE.out; simpa using h1⟩
        obtain ⟨b0, b1, b2, b3, b4, b5, b6⟩ := cells7 HHr.out
        clear HE hgr
        go_wp2
        have HI5 : Aside0 ((wr.alloc (.cells #[.int .i64 u, .int .i64 s, .int .i64 l, .int .i64 t, .int .i64 ty, .int .i64 c] 3 (0, 0))).heap[wr.heap.size]? = some (.cells #[.int .i64 u, .int .i64 s, .int .i64 l, .int .i64 t, .int .i64 ty, .int .i64 c] 3 (0, 0))) := ⟨heap_alloc_new wr _⟩
        have HO5 := Aside0.mk (Kd.R_grown2 HO.out rfl (World.grownBy_alloc wr (.cells #[.int .i64 u, .int .i64 s, .int .i64 l, .int .i64 t, .int .i64 ty, .int .i64 c] 3 (0, 0)) none) (fun _ h => by cases h))
        have HB5 := Aside0.mk (below_alloc HBr.out (.cells #[.int .i64 u, .int .i64 s, .int .i64 l, .int .i64 t, .int .i64 ty, .int .i64 c] 3 (0, 0)))
        clear HO HBr HHr b0 b1 b2 b3 b4 b5 b6 HLP
        show Code.wp _ _ _ _ (wr.alloc (.cells #[.int .i64 u, .int .i64 s, .int .i64 l, .int .i64 t, .int .i64 ty, .int .i64 c] 3 (0, 0)))
        generalize wr.alloc (.cells #[.int .i64 u, .int .i64 s, .int .i64 l, .int .i64 t, .int .i64 ty, .int .i64 c] 3 (0, 0)) = w5 at *
        generalize wr.heap.size = gl at *
        go_loopw [4, 8] (fun q i wq => ∃ (k : Nat) (pre : List Int), k ≤ 6 ∧ i = .int .i64 k ∧ Aside0 (pre ++ restS ([u, s, l, t, ty, c].drop k) = encS 4 u s l t ty c) ∧ Aside0 (Kd.R (Kd.int .u8) 5 wq w.heap.size (fun _ => True) q pre) ∧ Aside0 (wq.heap[gl]? = some (.cells #[.int .i64 u, .int .i64 s, .int .i64 l, .int .i64 t, .int .i64 ty, .int .i64 c] 3 (0, 0))) ∧ Aside0 (Below w.heap.size w wq)) (fun _ i _ => 6 - (intOf i).toNat)
        case atStart => exact ⟨0, pre, by omega, rfl, ⟨by rw [HF.out]; rfl⟩, HO5, HI5, HB5⟩
        case round =>
          obtain ⟨k, pre2, hk2, rfl, HE, HO, HI, HBr⟩ := hrel
          clear HO5 HI5 HB5 HF
          have HLP : Aside0 (pre2.length ≤ 44) := ⟨by have h1 := congrArg List.length HE.out; rw [encS_length, List.length_append] at h1; omega⟩
          by_cases hk6 : k < 6
          · obtain ⟨n, hn, hm, hcell⟩ := cnt_at HI.out HR.out k hk6
            have HN := Aside0.mk hn
            have HM := Aside0.mk hm
            obtain ⟨A1, c1, rfl, hcc, hr1⟩ := Kd.R_reads HO.out
            have HR1 := Aside0.mk hr1
            clear hn hm hr1 hcc
            go_wp2_with fail
            refine (Ref.put_yes A1 c1 pre2 n 4 _ HR1.out (by have := HLP.out; omega) HM.out).mono ?_
            rintro e w6 ⟨q, rfl, hq, hb6⟩
            have HQ := Aside0.mk hq
            have HB6 := Aside0.mk hb6
            clear hq hb6 hcell
            go_wp2
            exact ⟨⟨k + 1, pre2 ++ bytesS n (4 : Int).toNat, by omega, by go_num, ⟨by rw [← HE.out, HN.out]; simp [restS]⟩, ⟨Kd.R_lower HQ.out HBr.out.size⟩, ⟨blk_keep HI.out HB6.out⟩, ⟨below_then HBr.out HBr.out.size HB6.out⟩⟩, by simp [intOf]; omega⟩
          · have hke : k = 6 := by omega
            subst hke
            have HF : Aside0 (pre2 = encS 4 u s l t ty c) := ⟨by have h1 := HE.out; simpa [restS] using h1⟩
            go_wp2
            go_ret2
            exact ⟨_, rfl, by rw [← HF.out]; exact HO.out, HBr.out⟩
end Go.Proofs.Ythgghbmckpflcaa.Oct
