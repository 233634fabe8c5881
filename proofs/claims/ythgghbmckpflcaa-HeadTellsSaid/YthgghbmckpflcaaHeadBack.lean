/- HeadBack: heads and their bytes are each other's: the walk; condition: bytes that are read, each of them a byte. -/
import Derived.Test.YthgghbmckpflcaaHeadBackP
import Derived.StillTailTactics
namespace Go.Proofs.Ythgghbmckpflcaa.Oct
open Go.RowKit Go.Proofs.YthgghbmckpflcaaW.PrintWords Go.Proofs.YthgghbmckpflcaaW.PrintLast Go.Proofs.YthgghbmckpflcaaW.PrintMore

theorem decF_of {b : List Int} {v u s l t ty c : Int} {ok : Bool} (hl : b.length ≤ 1000) (h : decT b = ([v, u, s, l, t, ty, c], ok)) : decF b = some (v, u, s, l, t, ty, c, ok) := by
  unfold decF; rw [if_pos hl, h]; rfl
theorem decT_false {b ys : List Int} (h : decT b = (ys, false)) : ys = [0, 0, 0, 0, 0, 0, 0] := by
  unfold decT at h
  injection h with h1 h2
  rw [h2] at h1
  exact h1.symm
set_option maxHeartbeats 1000000 in
theorem back_big (v u s l t ty ch : Int) (A : Option Addr) (c : Nat) (b : List Int) (w : World) (hm : b.length ≤ 9223372036854775807) (hbig : 500 < b.length) :
    Calls Try.prog 4 #[.agg #[.int .i64 v, .int .i64 u, .int .i64 s, .int .i64 l, .int .i64 t, .int .i64 ty, .int .i64 ch], .slice A b.length c] w fun e w' => e = .returned (.bool true) ∧ Below w.heap.size w w' := by
  go_enter Try.func4, Try.ntmps4
  go_wp2_with fail
  refine (small_calls true _ rfl).mono ?_
  rintro e w1 ⟨rfl, hb1⟩
  have HB1 : Aside0 (Below w.heap.size w w1) := ⟨below_then (below_alloc (Below.refl _ _) _) (by simp) hb1⟩
  clear hb1
  go_wp2
  go_ret
  exact ⟨rfl, HB1.out⟩
set_option maxHeartbeats 4000000 in
set_option maxRecDepth 100000 in
theorem back_no (v u s l t ty ch : Int) (A : Option Addr) (c : Nat) (b : List Int) (w : World) (hr : Kd.C (Kd.int .u8) w A b.length b) (hcap : b.length ≤ c) (hB : B8 b) (hl : b.length ≤ 500) (hq : rightS v u s l t ty ch = false) :
    Calls Try.prog 4 #[.agg #[.int .i64 v, .int .i64 u, .int .i64 s, .int .i64 l, .int .i64 t, .int .i64 ty, .int .i64 ch], .slice A b.length c] w fun e w' => e = .returned (.bool true) ∧ Below w.heap.size w w' := by
  have HQ := Aside0.mk hq
  have HR := Aside0.mk hr
  have HBB := Aside0.mk hB
  clear hq hr hB
  go_enter Try.func4, Try.ntmps4
  go_wp2_with fail
  refine (small_calls true _ rfl).mono ?_
  rintro e w1 ⟨rfl, hb1⟩
  have HH1 : Aside0 (w1.heap[w.heap.size]? = some (hdB v u s l t ty ch)) := ⟨blk_keep (heap_alloc_new w _) hb1⟩
  have HB1 : Aside0 (Below w.heap.size w w1) := ⟨below_then (below_alloc (Below.refl _ _) _) (by simp) hb1⟩
  obtain ⟨a0, a1, a2, a3, a4, a5, a6⟩ := cells7 HH1.out
  clear hb1
  go_wp2_with fail
  refine (encode_no v u s l t ty ch _ HQ.out).mono ?_
  rintro e w2 ⟨rfl, hb2⟩
  have HH2 := Aside0.mk (blk_keep HH1.out hb2)
  have HB2 : Aside0 (Below w.heap.size w w2) := ⟨below_then HB1.out HB1.out.size hb2⟩
  clear a0 a1 a2 a3 a4 a5 a6 hb2 HH1 HB1
  obtain ⟨a0, a1, a2, a3, a4, a5, a6⟩ := cells7 HH2.out
  go_wp2_with fail
  refine (right_calls v u s l t ty ch _).mono ?_
  rintro e w3 ⟨rfl, hb3⟩
  rw [HQ.out]
  have HH3 := Aside0.mk (blk_keep HH2.out hb3)
  have HB3 : Aside0 (Below w.heap.size w w3) := ⟨below_then HB2.out HB2.out.size hb3⟩
  clear a0 a1 a2 a3 a4 a5 a6 hb3 HH2 HB2
  obtain ⟨ys, ok, hT⟩ : ∃ ys ok, decT b = (ys, ok) := ⟨_, _, rfl⟩
  cases ok with
  | false =>
    obtain rfl := decT_false hT
    have HT := Aside0.mk (decF_of (by omega) hT)
    clear hT
    go_wp2_with fail
    refine (decode_is A c b 0 0 0 0 0 0 0 false _ (Kd.C_below HR.out HB3.out) HT.out).mono ?_
    rintro e w7 ⟨rfl, hb7⟩
    have HB7 : Aside0 (Below w.heap.size w w7) := ⟨below_then HB3.out HB3.out.size hb7⟩
    clear hb7 HB3
    go_wp2
    go_ret
    exact ⟨rfl, below_alloc HB7.out _⟩
  | true =>
    obtain ⟨yv, yu, ys', yl, yt, yty, yc, rfl, hyr, hye, hlen⟩ := decT_back HBB.out hT
    have HT := Aside0.mk (decF_of (by omega) hT)
    have HYR := Aside0.mk hyr
    have HYE := Aside0.mk hye
    clear hT hyr hye
    go_wp2_with fail
    refine (decode_is A c b yv yu ys' yl yt yty yc true _ (Kd.C_below HR.out HB3.out) HT.out).mono ?_
    rintro e w7 ⟨rfl, hb7⟩
    have HB7 : Aside0 (Below w.heap.size w w7) := ⟨below_then HB3.out HB3.out.size hb7⟩
    clear hb7 HB3
    go_wp2_with fail
    refine (enc44 yv yu ys' yl yt yty yc (encS yv yu ys' yl yt yty yc) (encS_length _ _ _ _ _ _ _) _ (by unfold encF; rw [HYR.out])).mono ?_
    rintro e w8 ⟨g8, c8, rfl, hc8, _, hr8, hb8⟩
    have HK8 : Aside0 (w8.heap[w7.heap.size]? = some (hdB yv yu ys' yl yt yty yc)) := ⟨blk_keep (heap_alloc_new w7 _) hb8⟩
    have HB8 : Aside0 (Below w.heap.size w w8) := ⟨below_then (below_alloc HB7.out _) (by have := HB7.out.size; simp; omega) hb8⟩
    have HC8 := Aside0.mk hr8
    clear hb8 HB7 hr8
    obtain ⟨x0, x1, x2, x3, x4, x5, x6⟩ := cells7 HK8.out
    obtain ⟨i5, hi5, _, hsz5, _⟩ := info_parts info5
    obtain ⟨hcut, hTk, _⟩ := print_take_of (P := Try.prog) (Value.int .u8) 0 24 5 .i64 Try.underlying24 hi5 hsz5 A c b 44 (by omega) (by omega) hcap
    have hl44 : (b.take (Int.toNat 44)).length = 44 := by rw [List.length_take]; simp; omega
    have hs1 := str_of (c := c) (Kd.C_drew (Kd.C_of_reads (h1 := fun _ => rfl) (hTk w8 (Kd.reads_of_C (Kd.C_below HR.out HB8.out))) : Kd.C (Kd.int .u8) w8 A (b.take (Int.toNat 44)).length (b.take (Int.toNat 44)))) rfl
    have hs2 : (convert 24 9 (.slice (some ⟨g8, 0, none⟩) 44 c8)).run Try.prog w8.drew = .ok (.string (strOfNums (b.take (Int.toNat 44)))) w8.drew := by
      have h9 := str_of (c := c8) (l := encS yv yu ys' yl yt yty yc) (W := w8.drew) (A := some ⟨g8, 0, none⟩) (by rw [encS_length]; exact Kd.C_drew HC8.out) (congrArg strOfNums HYE.out)
      rw [encS_length] at h9
      exact h9
    rw [hl44] at hcut hs1
    clear hTk hi5 hsz5
    have hlen1 : (44 : Int) ≤ (b.length : Int) := by omega
    have hlen2 : decide ((44 : Int) ≤ (b.length : Int)) = true := decide_eq_true hlen1
    go_wp2
    go_still_tail 18, (by kernel_rfl)
    change wpList _ _ _ _ _ w8.drew
    have y0 : w8.drew.cell? _ = _ := x0
    have y1 : w8.drew.cell? _ = _ := x1
    have y2 : w8.drew.cell? _ = _ := x2
    have y3 : w8.drew.cell? _ = _ := x3
    have y4 : w8.drew.cell? _ = _ := x4
    have y5 : w8.drew.cell? _ = _ := x5
    have y6 : w8.drew.cell? _ = _ := x6
    have HB9 := Aside0.mk (below_drew HB8.out)
    generalize w8.drew = w9 at *
    go_wp2_with fail
    refine (right_calls yv yu ys' yl yt yty yc w9).mono ?_
    rintro e wa ⟨rfl, hba⟩
    rw [HYR.out]
    go_wp2
    go_ret
    exact ⟨rfl, below_then HB9.out HB9.out.size hba⟩
set_option maxHeartbeats 4000000 in
set_option maxRecDepth 100000 in
theorem back_yes (v u s l t ty ch : Int) (A : Option Addr) (c : Nat) (b : List Int) (w : World) (hr : Kd.C (Kd.int .u8) w A b.length b) (hcap : b.length ≤ c) (hB : B8 b) (hl : b.length ≤ 500) (hq : rightS v u s l t ty ch = true) :
    Calls Try.prog 4 #[.agg #[.int .i64 v, .int .i64 u, .int .i64 s, .int .i64 l, .int .i64 t, .int .i64 ty, .int .i64 ch], .slice A b.length c] w fun e w' => e = .returned (.bool true) ∧ Below w.heap.size w w' := by
  have HQ := Aside0.mk hq
  have HR := Aside0.mk hr
  have HBB := Aside0.mk hB
  clear hq hr hB
  go_enter Try.func4, Try.ntmps4
  go_wp2_with fail
  refine (small_calls true _ rfl).mono ?_
  rintro e w1 ⟨rfl, hb1⟩
  have HH1 : Aside0 (w1.heap[w.heap.size]? = some (hdB v u s l t ty ch)) := ⟨blk_keep (heap_alloc_new w _) hb1⟩
  have HB1 : Aside0 (Below w.heap.size w w1) := ⟨below_then (below_alloc (Below.refl _ _) _) (by simp) hb1⟩
  obtain ⟨a0, a1, a2, a3, a4, a5, a6⟩ := cells7 HH1.out
  clear hb1
  go_wp2_with fail
  refine (enc44 v u s l t ty ch (encS v u s l t ty ch) (encS_length _ _ _ _ _ _ _) _ (by unfold encF; rw [HQ.out])).mono ?_
  rintro e w2 ⟨g2, c2, rfl, hc2, hR2, hr2, hb2⟩
  have HH2 := Aside0.mk (blk_keep HH1.out hb2)
  have HB2 : Aside0 (Below w.heap.size w w2) := ⟨below_then HB1.out HB1.out.size hb2⟩
  have HG2 : Aside0 (w.heap.size < g2) := ⟨by have h1 := Kd.R_base hR2 g2 (by simp [Value.ownBlock]); have h2 := blk_lt HH1.out; omega⟩
  have HO2 := Aside0.mk (Kd.R_lower hR2 HB1.out.size)
  clear a0 a1 a2 a3 a4 a5 a6 hb2 HH1 HB1 hR2 hr2
  obtain ⟨a0, a1, a2, a3, a4, a5, a6⟩ := cells7 HH2.out
  go_wp2_with fail
  refine (right_calls v u s l t ty ch _).mono ?_
  rintro e w3 ⟨rfl, hb3⟩
  rw [HQ.out]
  have HH3 := Aside0.mk (blk_keep HH2.out hb3)
  have HB3 : Aside0 (Below w.heap.size w w3) := ⟨below_then HB2.out HB2.out.size hb3⟩
  have HO3 := Aside0.mk (Kd.R_grown2 HO2.out rfl (grown_of_below hb3 none) (fun _ h => by cases h))
  have HLE : Aside0 ((encS v u s l t ty ch).length = 44) := ⟨encS_length _ _ _ _ _ _ _⟩
  clear a0 a1 a2 a3 a4 a5 a6 hb3 HH2 HB2 HO2
  go_wp2_with (first
    | ((with_reducible refine gate_builtin (b := .append) (xs := #[.tmp 39, .tmp 40]) rfl ?_); at_builtin; refine Kd.R_append_rows (Kd.int .u8) (w0 := w) w.heap.size rfl (.tmp 39) (.tmp 40) 24 5 (.int .u8 0) 1 rfl Try.underlying24 info5 rfl (by decide) (by omega) (.slice (some ⟨g2, 0, none⟩) 44 c2) (encS v u s l t ty ch) b _ _ _ (fun _ => True) (fun _ => False) rfl rfl HO3.out ?aR (fun _ _ h => h) (fun _ h => h.elim) (fun _ _ => trivial) HB3.out (below_size HB3.out) ?aL ?_; (case aR => exact Kd.C_below HR.out HB3.out); (case aL => have := HLE.out; omega); intro v4 w4 ho4 hb4 hg4 hat4; have HO4 := Aside0.mk ho4; have HB4 := Aside0.mk hb4; have HH4 := Aside0.mk (grown_blk HH3.out hg4 (by have := HG2.out; simp [Value.ownBlock]; omega)); clear ho4 hb4 hg4 hat4))
  obtain ⟨A4, c4, rfl, _, hr4⟩ := Kd.R_reads HO4.out
  refine (decode_is A4 c4 (encS v u s l t ty ch ++ b) v u s l t ty ch true _ hr4 (decF_of (by rw [List.length_append, HLE.out]; omega) (decT_enc b HQ.out))).mono ?_
  rintro e w5 ⟨rfl, hb5⟩
  have HH5 := Aside0.mk (blk_keep HH4.out hb5)
  have HB5 : Aside0 (Below w.heap.size w w5) := ⟨below_then HB4.out HB4.out.size hb5⟩
  clear hb5 HH4 HB4 hr4 HO4 HO3 HH3 HB3
  obtain ⟨a0, a1, a2, a3, a4, a5, a6⟩ := cells7 (blk_keep HH5.out (below_alloc (Below.refl w5.heap.size w5) (.cells #[.int .i64 v, .int .i64 u, .int .i64 s, .int .i64 l, .int .i64 t, .int .i64 ty, .int .i64 ch] 23 (0, 0))))
  obtain ⟨ys, ok, hT⟩ : ∃ ys ok, decT b = (ys, ok) := ⟨_, _, rfl⟩
  cases ok with
  | false =>
    obtain rfl := decT_false hT
    have HT := Aside0.mk (decF_of (by omega) hT)
    clear hT
    go_wp2_with fail
    refine (decode_is A c b 0 0 0 0 0 0 0 false _ (Kd.C_below HR.out (below_alloc HB5.out (hdB v u s l t ty ch))) HT.out).mono ?_
    rintro e w7 ⟨rfl, hb7⟩
    have HB7 : Aside0 (Below w.heap.size w w7) := ⟨below_then (below_alloc HB5.out (hdB v u s l t ty ch)) (below_alloc HB5.out (hdB v u s l t ty ch)).size hb7⟩
    clear hb7 HB5 a0 a1 a2 a3 a4 a5 a6 HH5
    go_wp2
    go_ret
    exact ⟨rfl, below_alloc HB7.out _⟩
  | true =>
    obtain ⟨yv, yu, ys', yl, yt, yty, yc, rfl, hyr, hye, hlen⟩ := decT_back HBB.out hT
    have HT := Aside0.mk (decF_of (by omega) hT)
    have HYR := Aside0.mk hyr
    have HYE := Aside0.mk hye
    clear hT hyr hye
    go_wp2_with fail
    refine (decode_is A c b yv yu ys' yl yt yty yc true _ (Kd.C_below HR.out (below_alloc HB5.out (hdB v u s l t ty ch))) HT.out).mono ?_
    rintro e w7 ⟨rfl, hb7⟩
    have HB7 : Aside0 (Below w.heap.size w w7) := ⟨below_then (below_alloc HB5.out (hdB v u s l t ty ch)) (below_alloc HB5.out (hdB v u s l t ty ch)).size hb7⟩
    clear hb7 HB5 a0 a1 a2 a3 a4 a5 a6 HH5
    go_wp2_with fail
    refine (enc44 yv yu ys' yl yt yty yc (encS yv yu ys' yl yt yty yc) (encS_length _ _ _ _ _ _ _) _ (by unfold encF; rw [HYR.out])).mono ?_
    rintro e w8 ⟨g8, c8, rfl, hc8, _, hr8, hb8⟩
    have HK8 : Aside0 (w8.heap[w7.heap.size]? = some (hdB yv yu ys' yl yt yty yc)) := ⟨blk_keep (heap_alloc_new w7 _) hb8⟩
    have HB8 : Aside0 (Below w.heap.size w w8) := ⟨below_then (below_alloc HB7.out _) (by have := HB7.out.size; simp; omega) hb8⟩
    have HC8 := Aside0.mk hr8
    clear hb8 HB7 hr8
    obtain ⟨x0, x1, x2, x3, x4, x5, x6⟩ := cells7 HK8.out
    obtain ⟨i5, hi5, _, hsz5, _⟩ := info_parts info5
    obtain ⟨hcut, hTk, _⟩ := print_take_of (P := Try.prog) (Value.int .u8) 0 24 5 .i64 Try.underlying24 hi5 hsz5 A c b 44 (by omega) (by omega) hcap
    have hl44 : (b.take (Int.toNat 44)).length = 44 := by rw [List.length_take]; simp; omega
    have hs1 := str_of (c := c) (Kd.C_drew (Kd.C_of_reads (h1 := fun _ => rfl) (hTk w8 (Kd.reads_of_C (Kd.C_below HR.out HB8.out))) : Kd.C (Kd.int .u8) w8 A (b.take (Int.toNat 44)).length (b.take (Int.toNat 44)))) rfl
    have hs2 : (convert 24 9 (.slice (some ⟨g8, 0, none⟩) 44 c8)).run Try.prog w8.drew = .ok (.string (strOfNums (b.take (Int.toNat 44)))) w8.drew := by
      have h9 := str_of (c := c8) (l := encS yv yu ys' yl yt yty yc) (W := w8.drew) (A := some ⟨g8, 0, none⟩) (by rw [encS_length]; exact Kd.C_drew HC8.out) (congrArg strOfNums HYE.out)
      rw [encS_length] at h9
      exact h9
    rw [hl44] at hcut hs1
    clear hTk hi5 hsz5
    have hlen1 : (44 : Int) ≤ (b.length : Int) := by omega
    have hlen2 : decide ((44 : Int) ≤ (b.length : Int)) = true := decide_eq_true hlen1
    go_wp2
    go_still_tail 18, (by kernel_rfl)
    change wpList _ _ _ _ _ w8.drew
    have y0 : w8.drew.cell? _ = _ := x0
    have y1 : w8.drew.cell? _ = _ := x1
    have y2 : w8.drew.cell? _ = _ := x2
    have y3 : w8.drew.cell? _ = _ := x3
    have y4 : w8.drew.cell? _ = _ := x4
    have y5 : w8.drew.cell? _ = _ := x5
    have y6 : w8.drew.cell? _ = _ := x6
    have HB9 := Aside0.mk (below_drew HB8.out)
    generalize w8.drew = w9 at *
    go_wp2_with fail
    refine (right_calls yv yu ys' yl yt yty yc w9).mono ?_
    rintro e wa ⟨rfl, hba⟩
    rw [HYR.out]
    go_wp2
    go_ret
    exact ⟨rfl, below_then HB9.out HB9.out.size hba⟩
theorem back_walk (v u s l t ty ch : Int) (A : Option Addr) (c : Nat) (b : List Int) (w : World) (hr : Kd.C (Kd.int .u8) w A b.length b) (hcap : b.length ≤ c) (hB : B8 b) :
    Calls Try.prog 4 #[.agg #[.int .i64 v, .int .i64 u, .int .i64 s, .int .i64 l, .int .i64 t, .int .i64 ty, .int .i64 ch], .slice A b.length c] w fun e w' => e = .returned (.bool true) ∧ Below w.heap.size w w' := by
  by_cases hl : b.length ≤ 500
  · cases hq : rightS v u s l t ty ch with
    | true => exact back_yes v u s l t ty ch A c b w hr hcap hB hl hq
    | false => exact back_no v u s l t ty ch A c b w hr hcap hB hl hq
  · exact back_big v u s l t ty ch A c b w (Kd.C_max hr) (by omega)
end Go.Proofs.Ythgghbmckpflcaa.Oct
