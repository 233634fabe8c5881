/- The document's Decode: what it reads; condition: the bytes are bytes, and have room. -/
import Derived.Test.YthgghbmckpflcaaHeadRE
import Derived.Test.YthgghbmckpflcaaHeadBackP
namespace Go.Proofs.Ythgghbmckpflcaa.Oct
open Go.RowKit Go.Proofs.YthgghbmckpflcaaW.PrintWords Go.Proofs.YthgghbmckpflcaaW.PrintLast Go.Proofs.YthgghbmckpflcaaW.PrintMore

theorem rnum_app {q r : List Int} (hb : B8 q) (hl : q.length = 4) : Ref.numS (q ++ r) false 4 = (numL 4 true 0 q, r, false) := by
  unfold Ref.numS
  rw [show sizeS 4 = 4 by decide, takeS_app (by omega)]
  show (Ref.finU 4 (Ref.numU 0 q), r, false) = _
  rw [ref_num (size := 4) hb (.inr ⟨by decide, hl⟩)]
theorem rnum_is {B N : Nat} {W : World} {g : Nat} {q r : List Int} {m : Int} (hn : numL 4 true 0 q = m) (hb : B8 q) (hq : q.length = 4) (h : Rd 58 B N W g (q ++ r) false) (hl : (q ++ r).length ≤ 140737488355328) :
    Calls Try.prog 27 #[.pointer (some ⟨g, 0, none⟩), .int .i64 4] W fun e w' => e = .returned (.int .i64 m) ∧ Rd 58 B N w' g r false ∧ W.grownBy w' (some g) :=
  (Ref.num_calls B N W g (q ++ r) false 4 h hl).mono fun e w' ⟨he, hr, hg⟩ => by
    rw [rnum_app hb hq] at he hr
    subst hn
    exact ⟨he, hr, hg⟩
theorem ropen_is {A : Option Addr} {c n : Nat} {l : List Int} {w : World} (hn : l.length = n) (hr : Kd.C (Kd.int .u8) w A n l) (hl : n ≤ 140737488355328) :
    Calls Try.prog 26 #[.slice A n c] w fun e w' => ∃ g, e = .returned (.pointer (some ⟨g, 0, none⟩)) ∧ Rd 58 w.heap.size w'.heap.size w' g l false ∧ Below w.heap.size w w' := by
  subst hn
  exact Ref.open_calls A c l w hr hl
set_option maxHeartbeats 2000000 in
theorem rdecode_short (A : Option Addr) (c : Nat) (b : List Int) (w : World) (hl : b.length < 44) :
    Calls Try.prog 12 #[.slice A b.length c] w fun e w' => e = .returned (.tuple #[.agg #[.int .i64 0, .int .i64 0, .int .i64 0, .int .i64 0, .int .i64 0, .int .i64 0, .int .i64 0], .bool false]) ∧ Below w.heap.size w w' := by
  go_enter Try.func12, Try.ntmps12
  go_wp2
  have hb7 := heap_alloc_new w (hdB 0 0 0 0 0 0 0)
  obtain ⟨k0, k1, k2, k3, k4, k5, k6⟩ := cells7 hb7
  exact bodyPost_ret (v := .tuple #[.agg #[.int .i64 0, .int .i64 0, .int .i64 0, .int .i64 0, .int .i64 0, .int .i64 0, .int .i64 0], .bool false]) (by simp [results, Try.results12, go_sem]) rfl ⟨rfl, below_alloc (Below.refl _ _) _⟩
def hvS (x : Int) : Int := if x > 48 then x - 48 else 1
def rdecS (v u s l t ty c : Int) (b : List Int) : List Int × Bool := match rightS v u s l t ty c with
  | false => ([0, 0, 0, 0, 0, 0, 0], false)
  | true => match (strOfNums (encS v u s l t ty c)).toList == (strOfNums (b.take 44)).toList with
    | true => ([v, u, s, l, t, ty, c], true)
    | false => ([0, 0, 0, 0, 0, 0, 0], false)
set_option maxHeartbeats 16000000 in
theorem rdecode_long (A : Option Addr) (c : Nat) (b q1 q2 q3 q4 q5 q6 : List Int) (x4 n1 n2 n3 n4 n5 n6 : Int) (w : World) (hr : Kd.C (Kd.int .u8) w A b.length b) (hc : b.length ≤ c) (h44 : 44 ≤ b.length) (hl : b.length ≤ 1000)
    (hmid : (b.take 44).drop 20 = q1 ++ (q2 ++ (q3 ++ (q4 ++ (q5 ++ (q6 ++ [])))))) (hx : rd b 4 = x4) (hx8 : 0 ≤ x4 ∧ x4 ≤ 255) (hq : (q1.length = 4 ∧ q2.length = 4 ∧ q3.length = 4 ∧ q4.length = 4 ∧ q5.length = 4 ∧ q6.length = 4) ∧ (B8 q1 ∧ B8 q2 ∧ B8 q3 ∧ B8 q4 ∧ B8 q5 ∧ B8 q6)) (hn : numL 4 true 0 q1 = n1 ∧ numL 4 true 0 q2 = n2 ∧ numL 4 true 0 q3 = n3 ∧ numL 4 true 0 q4 = n4 ∧ numL 4 true 0 q5 = n5 ∧ numL 4 true 0 q6 = n6) :
    Calls Try.prog 12 #[.slice A b.length c] w fun e w' => ∃ ys ok, e = .returned (.tuple #[.agg (ys.map (Value.int .i64)).toArray, .bool ok]) ∧ (ys, ok) = rdecS (hvS x4) n1 n2 n3 n4 n5 n6 b ∧ Below w.heap.size w w' := by
  obtain ⟨i5, hi5, _, hsz5, _⟩ := info_parts info5
  obtain ⟨A', hcut, hT, hcl⟩ := print_mid_of (P := Try.prog) (Value.int .u8) 0 24 5 .i64 .i64 Try.underlying24 hi5 hsz5 A c b 20 44 (by omega) (by omega) (by omega) hc
  have hlen : ((b.take (Int.toNat 44)).drop (Int.toNat 20)).length = 24 := by simp; omega
  rw [hlen] at hcut
  obtain ⟨hcut44, hTk, _⟩ := print_take_of (P := Try.prog) (Value.int .u8) 0 24 5 .i64 Try.underlying24 hi5 hsz5 A c b 44 (by omega) (by omega) hc
  have hl44 : (b.take (Int.toNat 44)).length = 44 := by rw [List.length_take]; simp; omega
  rw [hl44] at hcut44
  have HTK := Aside0.mk hTk
  have HL44 : Aside0 ((b.take 44).length = 44) := ⟨hl44⟩
  clear hTk hl44
  obtain ⟨ad, rfl, hx4⟩ := Kd.at_int hr 4 (by omega) (by omega)
  rw [hx] at hx4
  have HR := Aside0.mk hr
  have HT := Aside0.mk hT
  have HQ := Aside0.mk hq
  have HNN := Aside0.mk hn
  have HM := Aside0.mk hmid
  have hx4' : w.cell? ⟨ad.block, ad.off + 4, none⟩ = some (.int .u8 x4) := hx4
  have HX := Aside0.mk hx4'
  clear hi5 hsz5 hT hr hx4 hx4' hmid hq hcl hx hn
  go_enter Try.func12, Try.ntmps12
  go_wp2_with fail
  refine (ropen_is (l := (b.take (Int.toNat 44)).drop (Int.toNat 20)) hlen (by have h9 := Kd.C_of_reads (h1 := fun _ => rfl) (HT.out _ (Kd.reads_of_C (Kd.C_below HR.out (below_alloc (Below.refl _ _) (hdB 0 0 0 0 0 0 0))))); rw [hlen] at h9; exact h9) (by omega)).mono ?_
  rintro e w0 ⟨g, rfl, hrd, hb⟩
  have HH0 : Aside0 (w0.heap[w.heap.size]? = some (hdB 0 0 0 0 0 0 0)) := ⟨(hb.block _ (by simp)).trans (heap_alloc_new w _)⟩
  have HB0 : Aside0 (Below w.heap.size w w0) := ⟨below_then (below_alloc (Below.refl _ _) _) (by simp) hb⟩
  rw [show (b.take (Int.toNat 44)).drop (Int.toNat 20) = _ from HM.out] at hrd
  obtain ⟨B0, N0, hB0, hrd0⟩ : ∃ B0 N0, w.heap.size < B0 ∧ Rd 58 B0 N0 w0 g (q1 ++ (q2 ++ (q3 ++ (q4 ++ (q5 ++ (q6 ++ [])))))) false := ⟨_, _, by simp, hrd⟩
  have HRD0 := Aside0.mk hrd0
  have HG : Aside0 (w.heap.size < g) := ⟨by have := hrd0.size; omega⟩
  have HLQ : Aside0 ((q1 ++ (q2 ++ (q3 ++ (q4 ++ (q5 ++ (q6 ++ [])))))).length = 24) := ⟨by have := HQ.out.1; simp; omega⟩
  clear hb hrd hrd0 hcut hlen HT
  go_wp2_with fail
  refine (rnum_is HNN.out.1 HQ.out.2.1 HQ.out.1.1 HRD0.out (by have := HLQ.out; simp at this ⊢; omega)).mono ?_
  rintro e w1 ⟨rfl, hrd, hg⟩
  have HRD1 := Aside0.mk hrd
  have HH1 : Aside0 (w1.heap[w.heap.size]? = some (hdB 0 0 0 0 0 0 0)) := ⟨grown_blk HH0.out hg (by have := HG.out; simp; omega)⟩
  have HB1 : Aside0 (Below w.heap.size w w1) := ⟨pw_below_grown HB0.out _ HB0.out.size hg (fun k e => by injection e with e; have := HG.out; omega)⟩
  clear hrd hg HRD0 HH0 HB0
  go_wp2_with fail
  refine (rnum_is HNN.out.2.1 HQ.out.2.2.1 HQ.out.1.2.1 HRD1.out (by have := HLQ.out; simp at this ⊢; omega)).mono ?_
  rintro e w2 ⟨rfl, hrd, hg⟩
  have HRD2 := Aside0.mk hrd
  have HH2 : Aside0 (w2.heap[w.heap.size]? = some (hdB 0 0 0 0 0 0 0)) := ⟨grown_blk HH1.out hg (by have := HG.out; simp; omega)⟩
  have HB2 : Aside0 (Below w.heap.size w w2) := ⟨pw_below_grown HB1.out _ HB1.out.size hg (fun k e => by injection e with e; have := HG.out; omega)⟩
  clear hrd hg HRD1 HH1 HB1
  go_wp2_with fail
  refine (rnum_is HNN.out.2.2.1 HQ.out.2.2.2.1 HQ.out.1.2.2.1 HRD2.out (by have := HLQ.out; simp at this ⊢; omega)).mono ?_
  rintro e w3 ⟨rfl, hrd, hg⟩
  have HRD3 := Aside0.mk hrd
  have HH3 : Aside0 (w3.heap[w.heap.size]? = some (hdB 0 0 0 0 0 0 0)) := ⟨grown_blk HH2.out hg (by have := HG.out; simp; omega)⟩
  have HB3 : Aside0 (Below w.heap.size w w3) := ⟨pw_below_grown HB2.out _ HB2.out.size hg (fun k e => by injection e with e; have := HG.out; omega)⟩
  clear hrd hg HRD2 HH2 HB2
  go_wp2_with fail
  refine (rnum_is HNN.out.2.2.2.1 HQ.out.2.2.2.2.1 HQ.out.1.2.2.2.1 HRD3.out (by have := HLQ.out; simp at this ⊢; omega)).mono ?_
  rintro e w4 ⟨rfl, hrd, hg⟩
  have HRD4 := Aside0.mk hrd
  have HH4 : Aside0 (w4.heap[w.heap.size]? = some (hdB 0 0 0 0 0 0 0)) := ⟨grown_blk HH3.out hg (by have := HG.out; simp; omega)⟩
  have HB4 : Aside0 (Below w.heap.size w w4) := ⟨pw_below_grown HB3.out _ HB3.out.size hg (fun k e => by injection e with e; have := HG.out; omega)⟩
  clear hrd hg HRD3 HH3 HB3
  go_wp2_with fail
  refine (rnum_is HNN.out.2.2.2.2.1 HQ.out.2.2.2.2.2.1 HQ.out.1.2.2.2.2.1 HRD4.out (by have := HLQ.out; simp at this ⊢; omega)).mono ?_
  rintro e w5 ⟨rfl, hrd, hg⟩
  have HRD5 := Aside0.mk hrd
  have HH5 : Aside0 (w5.heap[w.heap.size]? = some (hdB 0 0 0 0 0 0 0)) := ⟨grown_blk HH4.out hg (by have := HG.out; simp; omega)⟩
  have HB5 : Aside0 (Below w.heap.size w w5) := ⟨pw_below_grown HB4.out _ HB4.out.size hg (fun k e => by injection e with e; have := HG.out; omega)⟩
  clear hrd hg HRD4 HH4 HB4
  go_wp2_with fail
  refine (rnum_is HNN.out.2.2.2.2.2 HQ.out.2.2.2.2.2.2 HQ.out.1.2.2.2.2.2 HRD5.out (by have := HLQ.out; simp at this ⊢; omega)).mono ?_
  rintro e w6 ⟨rfl, hrd, hg⟩
  have HRD6 := Aside0.mk hrd
  have HH6 : Aside0 (w6.heap[w.heap.size]? = some (hdB 0 0 0 0 0 0 0)) := ⟨grown_blk HH5.out hg (by have := HG.out; simp; omega)⟩
  have HB6 : Aside0 (Below w.heap.size w w6) := ⟨pw_below_grown HB5.out _ HB5.out.size hg (fun k e => by injection e with e; have := HG.out; omega)⟩
  clear hrd hg HRD5 HH5 HB5
  clear HRD6 HLQ
  have hx4 := pw_cell_below HB6.out HX.out
  have hx4' := pw_cell_below (below_alloc HB6.out (.cells #[.int .i64 1, .int .i64 n1, .int .i64 n2, .int .i64 n3, .int .i64 n4, .int .i64 n5, .int .i64 n6] 23 (0, 0))) HX.out
  by_cases hv : x4 > 48
  · go_wp2_with fail
    have HVV : Aside0 (hvS x4 = x4 - 48) := ⟨if_pos hv⟩
    clear hv hx4 hx4' HX HM HQ HNN
    cases hrt : rightS (x4 - 48) n1 n2 n3 n4 n5 n6 with
    | false =>
      have HOK : Aside0 (([0, 0, 0, 0, 0, 0, 0], false) = rdecS (hvS x4) n1 n2 n3 n4 n5 n6 b) := ⟨by rw [HVV.out]; unfold rdecS; rw [hrt]⟩
      refine (rencode_no (x4 - 48) n1 n2 n3 n4 n5 n6 _ hrt).mono ?_
      rintro e w8 ⟨rfl, hb8⟩
      have HH8 := Aside0.mk (blk_keep2 HH6.out hb8)
      have HB8 := Aside0.mk (below_then (below_alloc HB6.out (.cells #[.int .i64 (x4 - 48), .int .i64 n1, .int .i64 n2, .int .i64 n3, .int .i64 n4, .int .i64 n5, .int .i64 n6] 23 (0, 0))) (by have := HB6.out.size; simp; omega) hb8)
      clear hb8 hrt HH6 HB6
      obtain ⟨z0, z1, z2, z3, z4, z5, z6⟩ := cells7 HH8.out
      have f0 := blk_frozen HH8.out 0
      have f1 := blk_frozen HH8.out 1
      have f2 := blk_frozen HH8.out 2
      have f3 := blk_frozen HH8.out 3
      have f4 := blk_frozen HH8.out 4
      have f5 := blk_frozen HH8.out 5
      have f6 := blk_frozen HH8.out 6
      go_wp2
      go_quiet (fail)
      have HH9 : Aside0 ((w8.drewN nq).heap[w.heap.size]? = some (hdB 0 0 0 0 0 0 0)) := HH8
      have HB9 := Aside0.mk (pw_below_drewN HB8.out nq)
      generalize w8.drewN nq = w9 at *
      obtain ⟨y0, z1, z2, z3, z4, z5, z6⟩ := cells7 HH9.out
      have g0 := blk_frozen HH9.out 0
      have g1 := blk_frozen HH9.out 1
      have g2 := blk_frozen HH9.out 2
      have g3 := blk_frozen HH9.out 3
      have g4 := blk_frozen HH9.out 4
      have g5 := blk_frozen HH9.out 5
      have g6 := blk_frozen HH9.out 6
      go_wp2
      have hb7 := set7 (.int .i64 0) (.int .i64 0) (.int .i64 0) (.int .i64 0) (.int .i64 0) (.int .i64 0) (.int .i64 0) HH9.out
      have hB7 := set7_below (.int .i64 0) (.int .i64 0) (.int .i64 0) (.int .i64 0) (.int .i64 0) (.int .i64 0) (.int .i64 0) HB9.out
      have k0 := (blk_cell hb7 0).trans rfl
      have k1 := (blk_cell hb7 1).trans rfl
      have k2 := (blk_cell hb7 2).trans rfl
      have k3 := (blk_cell hb7 3).trans rfl
      have k4 := (blk_cell hb7 4).trans rfl
      have k5 := (blk_cell hb7 5).trans rfl
      have k6 := (blk_cell hb7 6).trans rfl
      exact bodyPost_ret (v := .tuple #[.agg #[.int .i64 0, .int .i64 0, .int .i64 0, .int .i64 0, .int .i64 0, .int .i64 0, .int .i64 0], .bool false]) (by simp [results, Try.results12, k0, k1, k2, k3, k4, k5, k6, go_sem]) rfl ⟨[0, 0, 0, 0, 0, 0, 0], false, rfl, HOK.out, hB7⟩
    | true =>
      refine (rencode_yes (x4 - 48) n1 n2 n3 n4 n5 n6 _ hrt).mono ?_
      rintro e w8 ⟨q8, rfl, hq8, hb8⟩
      obtain ⟨A8, c8, rfl, hc8, hr8⟩ := Kd.R_reads hq8
      have HH8 := Aside0.mk (blk_keep2 HH6.out hb8)
      have HK8 : Aside0 (w8.heap[w6.heap.size]? = some (.cells #[.int .i64 (x4 - 48), .int .i64 n1, .int .i64 n2, .int .i64 n3, .int .i64 n4, .int .i64 n5, .int .i64 n6] 23 (0, 0))) := ⟨(hb8.block _ (by simp)).trans (heap_alloc_new w6 _)⟩
      have HB8 := Aside0.mk (below_then (below_alloc HB6.out (.cells #[.int .i64 (x4 - 48), .int .i64 n1, .int .i64 n2, .int .i64 n3, .int .i64 n4, .int .i64 n5, .int .i64 n6] 23 (0, 0))) (by have := HB6.out.size; simp; omega) hb8)
      have hs1 := str_q (c := c8) hr8 rfl
      have hs2 := str_q (c := c) (Kd.C_of_reads (h1 := fun _ => rfl) (HTK.out w8 (Kd.reads_of_C (Kd.C_below HR.out HB8.out))) : Kd.C (Kd.int .u8) w8 (some ad) (b.take 44).length (b.take 44)) rfl
      rw [HL44.out] at hs2
      have HNE : Aside0 (w.heap.size ≠ w6.heap.size) := ⟨by have := blk_lt HH6.out; omega⟩
      have HRT := Aside0.mk hrt
      clear hb8 hq8 hc8 hr8 hrt HH6 HB6
      generalize w6.heap.size = hb at *
      cases heq : ((strOfNums (encS (x4 - 48) n1 n2 n3 n4 n5 n6)).toList == (strOfNums (b.take 44)).toList) with
      | true =>
        have heqp := beq_iff_eq.mp heq
        have HOK : Aside0 (([x4 - 48, n1, n2, n3, n4, n5, n6], true) = rdecS (hvS x4) n1 n2 n3 n4 n5 n6 b) := ⟨by rw [HVV.out]; unfold rdecS; rw [HRT.out]; simp only [heq]⟩
        go_wp2
        go_quiet (fail)
        have HH9 : Aside0 ((w8.drewN nq).heap[w.heap.size]? = some (hdB 0 0 0 0 0 0 0)) := HH8
        have HK9 : Aside0 ((w8.drewN nq).heap[hb]? = some (.cells #[.int .i64 (x4 - 48), .int .i64 n1, .int .i64 n2, .int .i64 n3, .int .i64 n4, .int .i64 n5, .int .i64 n6] 23 (0, 0))) := HK8
        have HB9 := Aside0.mk (pw_below_drewN HB8.out nq)
        clear hs1 hs2 HH8 HK8 HB8
        generalize w8.drewN nq = w9 at *
        obtain ⟨z0, z1, z2, z3, z4, z5, z6⟩ := cells7 HH9.out
        have f0 := blk_frozen HH9.out 0
        have f1 := blk_frozen HH9.out 1
        have f2 := blk_frozen HH9.out 2
        have f3 := blk_frozen HH9.out 3
        have f4 := blk_frozen HH9.out 4
        have f5 := blk_frozen HH9.out 5
        have f6 := blk_frozen HH9.out 6
        obtain ⟨y0, y1, y2, y3, y4, y5, y6⟩ := cells7 HK9.out
        go_wp2
        have hb7 := set7 (.int .i64 (x4 - 48)) (.int .i64 n1) (.int .i64 n2) (.int .i64 n3) (.int .i64 n4) (.int .i64 n5) (.int .i64 n6) HH9.out
        have hB7 := set7_below (.int .i64 (x4 - 48)) (.int .i64 n1) (.int .i64 n2) (.int .i64 n3) (.int .i64 n4) (.int .i64 n5) (.int .i64 n6) HB9.out
        have k0 := (blk_cell hb7 0).trans rfl
        have k1 := (blk_cell hb7 1).trans rfl
        have k2 := (blk_cell hb7 2).trans rfl
        have k3 := (blk_cell hb7 3).trans rfl
        have k4 := (blk_cell hb7 4).trans rfl
        have k5 := (blk_cell hb7 5).trans rfl
        have k6 := (blk_cell hb7 6).trans rfl
        exact bodyPost_ret (v := .tuple #[.agg #[.int .i64 (x4 - 48), .int .i64 n1, .int .i64 n2, .int .i64 n3, .int .i64 n4, .int .i64 n5, .int .i64 n6], .bool true]) (by simp [results, Try.results12, k0, k1, k2, k3, k4, k5, k6, go_sem]) rfl ⟨[x4 - 48, n1, n2, n3, n4, n5, n6], true, rfl, HOK.out, hB7⟩
      | false =>
        have heqp := beq_eq_false_iff_ne.mp heq
        have HOK : Aside0 (([0, 0, 0, 0, 0, 0, 0], false) = rdecS (hvS x4) n1 n2 n3 n4 n5 n6 b) := ⟨by rw [HVV.out]; unfold rdecS; rw [HRT.out]; simp only [heq]⟩
        go_wp2
        go_quiet (fail)
        have HH9 : Aside0 ((w8.drewN nq).heap[w.heap.size]? = some (hdB 0 0 0 0 0 0 0)) := HH8
        have HK9 : Aside0 ((w8.drewN nq).heap[hb]? = some (.cells #[.int .i64 (x4 - 48), .int .i64 n1, .int .i64 n2, .int .i64 n3, .int .i64 n4, .int .i64 n5, .int .i64 n6] 23 (0, 0))) := HK8
        have HB9 := Aside0.mk (pw_below_drewN HB8.out nq)
        clear hs1 hs2 HH8 HK8 HB8
        generalize w8.drewN nq = w9 at *
        obtain ⟨z0, z1, z2, z3, z4, z5, z6⟩ := cells7 HH9.out
        have f0 := blk_frozen HH9.out 0
        have f1 := blk_frozen HH9.out 1
        have f2 := blk_frozen HH9.out 2
        have f3 := blk_frozen HH9.out 3
        have f4 := blk_frozen HH9.out 4
        have f5 := blk_frozen HH9.out 5
        have f6 := blk_frozen HH9.out 6
        obtain ⟨y0, y1, y2, y3, y4, y5, y6⟩ := cells7 HK9.out
        go_wp2
        have hb7 := set7 (.int .i64 0) (.int .i64 0) (.int .i64 0) (.int .i64 0) (.int .i64 0) (.int .i64 0) (.int .i64 0) HH9.out
        have hB7 := set7_below (.int .i64 0) (.int .i64 0) (.int .i64 0) (.int .i64 0) (.int .i64 0) (.int .i64 0) (.int .i64 0) HB9.out
        have k0 := (blk_cell hb7 0).trans rfl
        have k1 := (blk_cell hb7 1).trans rfl
        have k2 := (blk_cell hb7 2).trans rfl
        have k3 := (blk_cell hb7 3).trans rfl
        have k4 := (blk_cell hb7 4).trans rfl
        have k5 := (blk_cell hb7 5).trans rfl
        have k6 := (blk_cell hb7 6).trans rfl
        exact bodyPost_ret (v := .tuple #[.agg #[.int .i64 0, .int .i64 0, .int .i64 0, .int .i64 0, .int .i64 0, .int .i64 0, .int .i64 0], .bool false]) (by simp [results, Try.results12, k0, k1, k2, k3, k4, k5, k6, go_sem]) rfl ⟨[0, 0, 0, 0, 0, 0, 0], false, rfl, HOK.out, hB7⟩
  · go_wp2_with fail
    have HVV : Aside0 (hvS x4 = 1) := ⟨if_neg (by omega)⟩
    clear hv hx4 hx4' HX HM HQ HNN
    cases hrt : rightS 1 n1 n2 n3 n4 n5 n6 with
    | false =>
      have HOK : Aside0 (([0, 0, 0, 0, 0, 0, 0], false) = rdecS (hvS x4) n1 n2 n3 n4 n5 n6 b) := ⟨by rw [HVV.out]; unfold rdecS; rw [hrt]⟩
      refine (rencode_no 1 n1 n2 n3 n4 n5 n6 _ hrt).mono ?_
      rintro e w8 ⟨rfl, hb8⟩
      have HH8 := Aside0.mk (blk_keep2 HH6.out hb8)
      have HB8 := Aside0.mk (below_then (below_alloc HB6.out (.cells #[.int .i64 1, .int .i64 n1, .int .i64 n2, .int .i64 n3, .int .i64 n4, .int .i64 n5, .int .i64 n6] 23 (0, 0))) (by have := HB6.out.size; simp; omega) hb8)
      clear hb8 hrt HH6 HB6
      obtain ⟨z0, z1, z2, z3, z4, z5, z6⟩ := cells7 HH8.out
      have f0 := blk_frozen HH8.out 0
      have f1 := blk_frozen HH8.out 1
      have f2 := blk_frozen HH8.out 2
      have f3 := blk_frozen HH8.out 3
      have f4 := blk_frozen HH8.out 4
      have f5 := blk_frozen HH8.out 5
      have f6 := blk_frozen HH8.out 6
      go_wp2
      go_quiet (fail)
      have HH9 : Aside0 ((w8.drewN nq).heap[w.heap.size]? = some (hdB 0 0 0 0 0 0 0)) := HH8
      have HB9 := Aside0.mk (pw_below_drewN HB8.out nq)
      generalize w8.drewN nq = w9 at *
      obtain ⟨y0, z1, z2, z3, z4, z5, z6⟩ := cells7 HH9.out
      have g0 := blk_frozen HH9.out 0
      have g1 := blk_frozen HH9.out 1
      have g2 := blk_frozen HH9.out 2
      have g3 := blk_frozen HH9.out 3
      have g4 := blk_frozen HH9.out 4
      have g5 := blk_frozen HH9.out 5
      have g6 := blk_frozen HH9.out 6
      go_wp2
      have hb7 := set7 (.int .i64 0) (.int .i64 0) (.int .i64 0) (.int .i64 0) (.int .i64 0) (.int .i64 0) (.int .i64 0) HH9.out
      have hB7 := set7_below (.int .i64 0) (.int .i64 0) (.int .i64 0) (.int .i64 0) (.int .i64 0) (.int .i64 0) (.int .i64 0) HB9.out
      have k0 := (blk_cell hb7 0).trans rfl
      have k1 := (blk_cell hb7 1).trans rfl
      have k2 := (blk_cell hb7 2).trans rfl
      have k3 := (blk_cell hb7 3).trans rfl
      have k4 := (blk_cell hb7 4).trans rfl
      have k5 := (blk_cell hb7 5).trans rfl
      have k6 := (blk_cell hb7 6).trans rfl
      exact bodyPost_ret (v := .tuple #[.agg #[.int .i64 0, .int .i64 0, .int .i64 0, .int .i64 0, .int .i64 0, .int .i64 0, .int .i64 0], .bool false]) (by simp [results, Try.results12, k0, k1, k2, k3, k4, k5, k6, go_sem]) rfl ⟨[0, 0, 0, 0, 0, 0, 0], false, rfl, HOK.out, hB7⟩
    | true =>
      refine (rencode_yes 1 n1 n2 n3 n4 n5 n6 _ hrt).mono ?_
      rintro e w8 ⟨q8, rfl, hq8, hb8⟩
      obtain ⟨A8, c8, rfl, hc8, hr8⟩ := Kd.R_reads hq8
      have HH8 := Aside0.mk (blk_keep2 HH6.out hb8)
      have HK8 : Aside0 (w8.heap[w6.heap.size]? = some (.cells #[.int .i64 1, .int .i64 n1, .int .i64 n2, .int .i64 n3, .int .i64 n4, .int .i64 n5, .int .i64 n6] 23 (0, 0))) := ⟨(hb8.block _ (by simp)).trans (heap_alloc_new w6 _)⟩
      have HB8 := Aside0.mk (below_then (below_alloc HB6.out (.cells #[.int .i64 1, .int .i64 n1, .int .i64 n2, .int .i64 n3, .int .i64 n4, .int .i64 n5, .int .i64 n6] 23 (0, 0))) (by have := HB6.out.size; simp; omega) hb8)
      have hs1 := str_q (c := c8) hr8 rfl
      have hs2 := str_q (c := c) (Kd.C_of_reads (h1 := fun _ => rfl) (HTK.out w8 (Kd.reads_of_C (Kd.C_below HR.out HB8.out))) : Kd.C (Kd.int .u8) w8 (some ad) (b.take 44).length (b.take 44)) rfl
      rw [HL44.out] at hs2
      have HNE : Aside0 (w.heap.size ≠ w6.heap.size) := ⟨by have := blk_lt HH6.out; omega⟩
      have HRT := Aside0.mk hrt
      clear hb8 hq8 hc8 hr8 hrt HH6 HB6
      generalize w6.heap.size = hb at *
      cases heq : ((strOfNums (encS 1 n1 n2 n3 n4 n5 n6)).toList == (strOfNums (b.take 44)).toList) with
      | true =>
        have heqp := beq_iff_eq.mp heq
        have HOK : Aside0 (([1, n1, n2, n3, n4, n5, n6], true) = rdecS (hvS x4) n1 n2 n3 n4 n5 n6 b) := ⟨by rw [HVV.out]; unfold rdecS; rw [HRT.out]; simp only [heq]⟩
        go_wp2
        go_quiet (fail)
        have HH9 : Aside0 ((w8.drewN nq).heap[w.heap.size]? = some (hdB 0 0 0 0 0 0 0)) := HH8
        have HK9 : Aside0 ((w8.drewN nq).heap[hb]? = some (.cells #[.int .i64 1, .int .i64 n1, .int .i64 n2, .int .i64 n3, .int .i64 n4, .int .i64 n5, .int .i64 n6] 23 (0, 0))) := HK8
        have HB9 := Aside0.mk (pw_below_drewN HB8.out nq)
        clear hs1 hs2 HH8 HK8 HB8
        generalize w8.drewN nq = w9 at *
        obtain ⟨z0, z1, z2, z3, z4, z5, z6⟩ := cells7 HH9.out
        have f0 := blk_frozen HH9.out 0
        have f1 := blk_frozen HH9.out 1
        have f2 := blk_frozen HH9.out 2
        have f3 := blk_frozen HH9.out 3
        have f4 := blk_frozen HH9.out 4
        have f5 := blk_frozen HH9.out 5
        have f6 := blk_frozen HH9.out 6
        obtain ⟨y0, y1, y2, y3, y4, y5, y6⟩ := cells7 HK9.out
        go_wp2
        have hb7 := set7 (.int .i64 1) (.int .i64 n1) (.int .i64 n2) (.int .i64 n3) (.int .i64 n4) (.int .i64 n5) (.int .i64 n6) HH9.out
        have hB7 := set7_below (.int .i64 1) (.int .i64 n1) (.int .i64 n2) (.int .i64 n3) (.int .i64 n4) (.int .i64 n5) (.int .i64 n6) HB9.out
        have k0 := (blk_cell hb7 0).trans rfl
        have k1 := (blk_cell hb7 1).trans rfl
        have k2 := (blk_cell hb7 2).trans rfl
        have k3 := (blk_cell hb7 3).trans rfl
        have k4 := (blk_cell hb7 4).trans rfl
        have k5 := (blk_cell hb7 5).trans rfl
        have k6 := (blk_cell hb7 6).trans rfl
        exact bodyPost_ret (v := .tuple #[.agg #[.int .i64 1, .int .i64 n1, .int .i64 n2, .int .i64 n3, .int .i64 n4, .int .i64 n5, .int .i64 n6], .bool true]) (by simp [results, Try.results12, k0, k1, k2, k3, k4, k5, k6, go_sem]) rfl ⟨[1, n1, n2, n3, n4, n5, n6], true, rfl, HOK.out, hB7⟩
      | false =>
        have heqp := beq_eq_false_iff_ne.mp heq
        have HOK : Aside0 (([0, 0, 0, 0, 0, 0, 0], false) = rdecS (hvS x4) n1 n2 n3 n4 n5 n6 b) := ⟨by rw [HVV.out]; unfold rdecS; rw [HRT.out]; simp only [heq]⟩
        go_wp2
        go_quiet (fail)
        have HH9 : Aside0 ((w8.drewN nq).heap[w.heap.size]? = some (hdB 0 0 0 0 0 0 0)) := HH8
        have HK9 : Aside0 ((w8.drewN nq).heap[hb]? = some (.cells #[.int .i64 1, .int .i64 n1, .int .i64 n2, .int .i64 n3, .int .i64 n4, .int .i64 n5, .int .i64 n6] 23 (0, 0))) := HK8
        have HB9 := Aside0.mk (pw_below_drewN HB8.out nq)
        clear hs1 hs2 HH8 HK8 HB8
        generalize w8.drewN nq = w9 at *
        obtain ⟨z0, z1, z2, z3, z4, z5, z6⟩ := cells7 HH9.out
        have f0 := blk_frozen HH9.out 0
        have f1 := blk_frozen HH9.out 1
        have f2 := blk_frozen HH9.out 2
        have f3 := blk_frozen HH9.out 3
        have f4 := blk_frozen HH9.out 4
        have f5 := blk_frozen HH9.out 5
        have f6 := blk_frozen HH9.out 6
        obtain ⟨y0, y1, y2, y3, y4, y5, y6⟩ := cells7 HK9.out
        go_wp2
        have hb7 := set7 (.int .i64 0) (.int .i64 0) (.int .i64 0) (.int .i64 0) (.int .i64 0) (.int .i64 0) (.int .i64 0) HH9.out
        have hB7 := set7_below (.int .i64 0) (.int .i64 0) (.int .i64 0) (.int .i64 0) (.int .i64 0) (.int .i64 0) (.int .i64 0) HB9.out
        have k0 := (blk_cell hb7 0).trans rfl
        have k1 := (blk_cell hb7 1).trans rfl
        have k2 := (blk_cell hb7 2).trans rfl
        have k3 := (blk_cell hb7 3).trans rfl
        have k4 := (blk_cell hb7 4).trans rfl
        have k5 := (blk_cell hb7 5).trans rfl
        have k6 := (blk_cell hb7 6).trans rfl
        exact bodyPost_ret (v := .tuple #[.agg #[.int .i64 0, .int .i64 0, .int .i64 0, .int .i64 0, .int .i64 0, .int .i64 0, .int .i64 0], .bool false]) (by simp [results, Try.results12, k0, k1, k2, k3, k4, k5, k6, go_sem]) rfl ⟨[0, 0, 0, 0, 0, 0, 0], false, rfl, HOK.out, hB7⟩
end Go.Proofs.Ythgghbmckpflcaa.Oct
