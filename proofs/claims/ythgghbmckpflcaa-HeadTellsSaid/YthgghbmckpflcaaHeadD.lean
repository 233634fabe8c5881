/- head.Decode: what it reads; condition: the bytes have room. -/
import Derived.Test.YthgghbmckpflcaaOctE
import Derived.Test.YthgghbmckpflcaaHeadV
import Derived.Test.YthgghbmckpflcaaHeadE
namespace Go.Proofs.Ythgghbmckpflcaa.Oct
open Go.RowKit Go.Proofs.YthgghbmckpflcaaW.PrintWords Go.Proofs.YthgghbmckpflcaaW.PrintLast Go.Proofs.YthgghbmckpflcaaW.PrintMore

theorem str_of {W : World} {A : Option Addr} {c : Nat} {l : List Int} {s : ByteArray} (h : Kd.C (Kd.int .u8) W A l.length l) (hs : strOfNums l = s) : (convert 24 9 (.slice A l.length c)).run Try.prog W = .ok (.string s) W := by
  rw [← hs]; exact Kd.C_string Try.underlying24 Try.underlying5 Try.underlying9 h
theorem num_is {B N : Nat} {W : World} {g : Nat} {l : List Int} {bad : Bool} {size m : Int} {l2 : List Int} {b2 : Bool} (hn : numS l bad size = (m, l2, b2)) (h : Rd 53 B N W g l bad) (hl : l.length ≤ 140737488355328) :
    Calls Try.prog 22 #[.pointer (some ⟨g, 0, none⟩), .int .i64 size] W fun e w' => e = .returned (.int .i64 m) ∧ Rd 53 B N w' g l2 b2 ∧ W.grownBy w' (some g) :=
  (num_calls B N W g l bad size h hl).mono fun e w' ⟨he, hr, hg⟩ => by
    rw [hn] at he hr
    exact ⟨he, hr, hg⟩
theorem take_is {B N : Nat} {W : World} {g : Nat} {l : List Int} {bad : Bool} {n : Int} {r l2 : List Int} {b2 : Bool} (hn : takeS l bad n = (r, l2, b2)) (h : Rd 53 B N W g l bad) (hl : l.length ≤ 140737488355328) :
    Calls Try.prog 20 #[.pointer (some ⟨g, 0, none⟩), .int .i64 n] W fun e w' => ∃ A1 c1, e = .returned (.slice A1 r.length c1) ∧ Kd.C (Kd.int .u8) w' A1 r.length r ∧ Kd.R (Kd.int .u8) 5 w' W.heap.size (fun _ => True) (.slice A1 r.length c1) r ∧ Rd 53 B N w' g l2 b2 ∧ W.grownBy w' (some g) :=
  (take_calls B N W g l bad n h hl).mono fun e w' ⟨v, he, hv, hr, hg⟩ => by
    rw [hn] at hv hr
    obtain ⟨A1, c1, rfl, hc, hr1⟩ := Kd.R_reads hv
    exact ⟨A1, c1, he, hr1, hv, hr, hg⟩
/-- The six numbers, one behind the other. -/
def fillS : Nat → List Int → List Int → Bool → List Int × List Int × Bool
  | 0, xs, lr, bad => (xs, lr, bad)
  | n + 1, xs, lr, bad => fillS n (xs.set (5 - n) (numS lr bad 4).1) (numS lr bad 4).2.1 (numS lr bad 4).2.2
theorem takeS_len (l : List Int) (bad : Bool) (n : Int) : (takeS l bad n).2.1.length ≤ l.length := by
  unfold takeS; split
  · simp
  · simp
theorem numS_len (l : List Int) (bad : Bool) (n : Int) : (numS l bad n).2.1.length ≤ l.length := takeS_len l bad _
def okS (s : ByteArray) (z : List Int) (bad : Bool) (v : Int) : List Int → Bool
  | [u, s', l, t, ty, c] => !bad && (s.toList == [84, 90, 105, 102]) && !(z.any (fun c => c != 0)) && rightS v u s' l t ty c
  | _ => false
def hdS : Bool → Int → List Int → List Int
  | true, v, xs => v :: xs
  | false, _, _ => [0, 0, 0, 0, 0, 0, 0]
def hdV (v : Int) (xs : List Int) : Obj := .cells ((v :: xs).map (Value.int .i64)).toArray 23
theorem grown_blk {W W1 : World} {row : Option Nat} {k : Nat} {o : Obj} (h : W.heap[k]? = some o) (hg : W.grownBy W1 row) (hr : row ≠ some k) : W1.heap[k]? = some o :=
  (hg.block k (blk_lt h) (fun e => hr e.symm)).trans h

def ptrV (h : Nat) : Obj := .cells #[.pointer (some ⟨h, 1, none⟩), .pointer (some ⟨h, 2, none⟩), .pointer (some ⟨h, 3, none⟩), .pointer (some ⟨h, 4, none⟩), .pointer (some ⟨h, 5, none⟩), .pointer (some ⟨h, 6, none⟩)] 43
theorem ptr_at {W : World} {h g : Nat} (hb : W.heap[g]? = some (ptrV h)) (k : Nat) (hk : k < 6) : W.cell? ⟨g, k, none⟩ = some (.pointer (some ⟨h, k + 1, none⟩)) := by
  refine (blk_cell hb k).trans ?_
  obtain rfl | rfl | rfl | rfl | rfl | rfl : k = 0 ∨ k = 1 ∨ k = 2 ∨ k = 3 ∨ k = 4 ∨ k = 5 := by omega
  all_goals rfl
theorem hd_at {W : World} {h : Nat} {v : Int} {ys : List Int} (hb : W.heap[h]? = some (hdV v ys)) (k : Nat) (hk : k < ys.length) : W.cell? ⟨h, k + 1, none⟩ = some (.int .i64 ys[k]) := by
  refine (blk_cell hb (k + 1)).trans ?_
  simp [hk]
theorem hd_set {W : World} {h : Nat} {v : Int} {ys : List Int} (hb : W.heap[h]? = some (hdV v ys)) (k : Nat) (m : Int) : (W.setCell ⟨h, k + 1, none⟩ (.int .i64 m)).heap[h]? = some (hdV v (ys.set k m)) := by
  refine (blk_set hb (k + 1) (.int .i64 m)).trans ?_
  unfold hdV
  simp

theorem set7 {W : World} {h : Nat} {a0 a1 a2 a3 a4 a5 a6 : Value} (b0 b1 b2 b3 b4 b5 b6 : Value) {T : Nat} (hb : W.heap[h]? = some (.cells #[a0, a1, a2, a3, a4, a5, a6] T (0, 0))) :
    (((((((W.setCell ⟨h, 0, none⟩ b0).setCell ⟨h, 1, none⟩ b1).setCell ⟨h, 2, none⟩ b2).setCell ⟨h, 3, none⟩ b3).setCell ⟨h, 4, none⟩ b4).setCell ⟨h, 5, none⟩ b5).setCell ⟨h, 6, none⟩ b6).heap[h]? = some (.cells #[b0, b1, b2, b3, b4, b5, b6] T (0, 0)) :=
  (blk_set (blk_set (blk_set (blk_set (blk_set (blk_set (blk_set hb 0 b0) 1 b1) 2 b2) 3 b3) 4 b4) 5 b5) 6 b6).trans (by simp)
theorem set7_below {w W : World} (b0 b1 b2 b3 b4 b5 b6 : Value) (hb : Below w.heap.size w W) :
    Below w.heap.size w (((((((W.setCell ⟨w.heap.size, 0, none⟩ b0).setCell ⟨w.heap.size, 1, none⟩ b1).setCell ⟨w.heap.size, 2, none⟩ b2).setCell ⟨w.heap.size, 3, none⟩ b3).setCell ⟨w.heap.size, 4, none⟩ b4).setCell ⟨w.heap.size, 5, none⟩ b5).setCell ⟨w.heap.size, 6, none⟩ b6) :=
  below_set (below_set (below_set (below_set (below_set (below_set (below_set hb (Nat.le_refl _)) (Nat.le_refl _)) (Nat.le_refl _)) (Nat.le_refl _)) (Nat.le_refl _)) (Nat.le_refl _)) (Nat.le_refl _)

set_option maxHeartbeats 4000000 in
theorem decode_calls (A : Option Addr) (c : Nat) (b : List Int) (w : World) (hr : Kd.C (Kd.int .u8) w A b.length b) (hl : b.length ≤ 1000)
    (nm l1 z l2 l3 xs l4 : List Int) (vc : Int) (b1 b2 b3 b4 : Bool) (s : ByteArray) (h1 : takeS b false 4 = (nm, l1, b1)) (hs : strOfNums nm = s) (h2 : numS l1 b1 1 = (vc, l2, b2)) (h3 : takeS l2 b2 15 = (z, l3, b3)) (h4 : fillS 6 [0, 0, 0, 0, 0, 0] l3 b3 = (xs, l4, b4)) :
    Calls Try.prog 11 #[.slice A b.length c] w fun e w' => ∃ ys : List Int, e = .returned (.tuple #[.agg (ys.map (Value.int .i64)).toArray, .bool (okS s z b4 (verS vc) xs)]) ∧ ys = hdS (okS s z b4 (verS vc) xs) (verS vc) xs ∧ Below w.heap.size w w' := by
  have hn1 : l1.length ≤ 1000 := by have := takeS_len b false 4; rw [h1] at this; exact Nat.le_trans this hl
  have hn2 : l2.length ≤ 1000 := by have := numS_len l1 b1 1; rw [h2] at this; exact Nat.le_trans this hn1
  have hn3 : l3.length ≤ 1000 := by have := takeS_len l2 b2 15; rw [h3] at this; exact Nat.le_trans this hn2
  have HR := Aside0.mk hr
  have H1 := Aside0.mk h1
  have H2 := Aside0.mk h2
  have H3 := Aside0.mk h3
  have H4 := Aside0.mk h4
  have HS := Aside0.mk hs
  clear hr h1 h2 h3 h4 hs
  go_enter Try.func11, Try.ntmps11
  go_wp2_with fail
  refine (open_calls A c b _ (Kd.C_below HR.out (below_alloc (Below.refl _ _) _)) (by omega)).mono ?_
  rintro e w1 ⟨g, rfl, hrd1, hb1⟩
  have HH1 : Aside0 (w1.heap[w.heap.size]? = some (hdV 0 [0, 0, 0, 0, 0, 0])) := ⟨(hb1.block _ (by simp)).trans (heap_alloc_new w _)⟩
  have HB1 : Aside0 (Below w.heap.size w w1) := ⟨below_then (below_alloc (Below.refl _ _) _) (by simp) hb1⟩
  clear hb1
  obtain ⟨B0, N0, hB0, hrd1⟩ : ∃ B0 N0, w.heap.size < B0 ∧ Rd 53 B0 N0 w1 g b false := ⟨_, _, by simp, hrd1⟩
  have HRD1 := Aside0.mk hrd1
  have HG : Aside0 (w.heap.size < g) := ⟨by have := hrd1.size; omega⟩
  clear hrd1
  go_wp2_with fail
  refine (take_is H1.out HRD1.out (by omega)).mono ?_
  rintro e w2 ⟨A1, c1, rfl, hc1, hR1, hrd2, hg2⟩
  have hcs := str_of (c := c1) hc1 HS.out
  have HRD2 := Aside0.mk hrd2
  have HH2 : Aside0 (w2.heap[w.heap.size]? = some (hdV 0 [0, 0, 0, 0, 0, 0])) := ⟨grown_blk HH1.out hg2 (by have := HG.out; simp; omega)⟩
  have HB2 : Aside0 (Below w.heap.size w w2) := ⟨pw_below_grown HB1.out _ HB1.out.size hg2 (fun k e => by injection e with e; have := HG.out; omega)⟩
  clear hc1 hR1 hrd2 hg2 HH1 HB1 HRD1
  go_wp2_with fail
  refine (num_is H2.out HRD2.out (by omega)).mono ?_
  rintro e w3 ⟨rfl, hrd3, hg3⟩
  have HRD3 := Aside0.mk hrd3
  have HH3 : Aside0 (w3.heap[w.heap.size]? = some (hdV 0 [0, 0, 0, 0, 0, 0])) := ⟨grown_blk HH2.out hg3 (by have := HG.out; simp; omega)⟩
  have HB3 : Aside0 (Below w.heap.size w w3) := ⟨pw_below_grown HB2.out _ HB2.out.size hg3 (fun k e => by injection e with e; have := HG.out; omega)⟩
  clear hrd3 hg3 HH2 HB2 HRD2 hcs
  go_wp2_with fail
  refine (version_calls vc _).mono ?_
  rintro e w3' ⟨rfl, rfl⟩
  have hc0 : w3'.cell? ⟨w.heap.size, 0, none⟩ = some (.int .i64 0) := (blk_cell HH3.out 0).trans rfl
  have hf0 := blk_frozen HH3.out 0
  go_wp2_with fail
  refine (take_is H3.out (HRD3.out.grown (grown_set w3' ⟨w.heap.size, 0, none⟩ (.int .i64 (verS vc))) (fun k e => by injection e with e; left; simp at e; omega)) (by omega)).mono ?_
  rintro e w4 ⟨A2, c2, rfl, hc2, hR2, hrd4, hg4⟩
  have HRD4 := Aside0.mk hrd4
  have HR2 : Aside0 (Kd.R (Kd.int .u8) 5 w4 (g + 1) (fun _ => True) (.slice A2 z.length c2) z) := ⟨Kd.R_lower hR2 (by have := HRD3.out.size; simp [World.setCell]; omega)⟩
  have HH4 : Aside0 (w4.heap[w.heap.size]? = some (hdV (verS vc) [0, 0, 0, 0, 0, 0])) := ⟨grown_blk (blk_set HH3.out 0 (.int .i64 (verS vc))) hg4 (by have := HG.out; simp; omega)⟩
  have HB4 : Aside0 (Below w.heap.size w w4) := ⟨pw_below_grown (below_set HB3.out (Nat.le_refl _)) _ (below_set HB3.out (Nat.le_refl _)).size hg4 (fun k e => by injection e with e; have := HG.out; omega)⟩
  clear hc2 hR2 hrd4 hg4 HH3 HB3 HRD3 hc0 hf0
  go_wp2
  have hgp : g < w4.heap.size := by have := HRD4.out.size; omega
  have HP : Aside0 ((w4.alloc (ptrV w.heap.size)).heap[w4.heap.size]? = some (ptrV w.heap.size)) := ⟨heap_alloc_new w4 _⟩
  have HRD5 := Aside0.mk (HRD4.out.below (below_alloc (Below.refl _ _) (ptrV w.heap.size)))
  have HR5 := Aside0.mk (Kd.R_grown2 HR2.out rfl (World.grownBy_alloc w4 (ptrV w.heap.size) none) (fun _ h => by cases h))
  have HH5 := Aside0.mk (grown_blk HH4.out (World.grownBy_alloc w4 (ptrV w.heap.size) none) (by simp))
  have HB5 := Aside0.mk (below_alloc HB4.out (ptrV w.heap.size))
  clear HRD4 HR2 HH4 HB4
  show Code.wp _ _ _ _ (w4.alloc (ptrV w.heap.size))
  generalize w4.alloc (ptrV w.heap.size) = w5 at *
  generalize w4.heap.size = gp at *
  go_loopw [29] (fun i wr => ∃ (k : Nat) (lr ys : List Int) (bad : Bool), k ≤ 6 ∧ i = .int .i64 k ∧ lr.length ≤ 1000 ∧ ys.length = 6 ∧ Aside0 (fillS (6 - k) ys lr bad = (xs, l4, b4)) ∧ Aside0 (Rd 53 B0 N0 wr g lr bad) ∧ Aside0 (wr.heap[w.heap.size]? = some (hdV (verS vc) ys)) ∧ Aside0 (wr.heap[gp]? = some (ptrV w.heap.size)) ∧ Aside0 (Kd.R (Kd.int .u8) 5 wr (g + 1) (fun _ => True) (.slice A2 z.length c2) z) ∧ Aside0 (Below w.heap.size w wr)) (fun i _ => 6 - (intOf i).toNat)
  case atStart => exact ⟨0, l3, [0, 0, 0, 0, 0, 0], b3, by omega, rfl, hn3, rfl, H4, HRD5, HH5, HP, HR5, HB5⟩
  case round =>
    obtain ⟨k, lr, ys, bad, hk, rfl, hlr, hys, HF, HD, HHr, HPr, HRr, HBr⟩ := hrel
    clear HRD5 HH5 HP HR5 HB5 H1 H2 H3 H4 HS
    by_cases hk6 : k < 6
    · obtain ⟨m, lr2, bad2, hm⟩ : ∃ m lr2 bad2, numS lr bad 4 = (m, lr2, bad2) := ⟨_, _, _, rfl⟩
      have hlr2 : lr2.length ≤ 1000 := by have := numS_len lr bad 4; rw [hm] at this; exact Nat.le_trans this hlr
      have HM := Aside0.mk hm
      clear hm
      have hp := ptr_at HPr.out k hk6
      go_wp2_with fail
      refine (num_is HM.out HD.out (by omega)).mono ?_
      rintro e w6 ⟨rfl, hrd6, hg6⟩
      have HRD6 := Aside0.mk hrd6
      have HH6 : Aside0 (w6.heap[w.heap.size]? = some (hdV (verS vc) ys)) := ⟨grown_blk HHr.out hg6 (by have := HG.out; simp; omega)⟩
      have HP6 : Aside0 (w6.heap[gp]? = some (ptrV w.heap.size)) := ⟨grown_blk HPr.out hg6 (by simp; omega)⟩
      have HR6 := Aside0.mk (Kd.R_grown2 HRr.out rfl hg6 (fun q e h => by injection e with e; have := Kd.R_base HRr.out q h.symm; omega))
      have HB6 : Aside0 (Below w.heap.size w w6) := ⟨pw_below_grown HBr.out _ HBr.out.size hg6 (fun k e => by injection e with e; have := HG.out; omega)⟩
      clear hrd6 hg6 HD HHr HPr HRr HBr
      have hc := hd_at HH6.out k (by omega)
      have hf := blk_frozen HH6.out (k + 1)
      go_wp2
      refine ⟨⟨k + 1, lr2, ys.set k m, bad2, by omega, by go_num, hlr2, by simpa using hys, ⟨?_⟩, ⟨?_⟩, ⟨hd_set HH6.out k m⟩, ⟨blk_far HP6.out (by have := HG.out; simp; omega) _⟩, ⟨R_elder HR6.out (by have := HG.out; simp; omega) _⟩, ⟨below_set HB6.out (Nat.le_refl _)⟩⟩, by simp [intOf]; omega⟩
      · have h9 := HF.out
        rw [show 6 - k = (6 - (k + 1)) + 1 by omega, fillS, HM.out, show 5 - (6 - (k + 1)) = k by omega] at h9
        exact h9
      · exact HRD6.out.grown (grown_set w6 ⟨w.heap.size, k + 1, none⟩ (.int .i64 m)) (fun k e => by injection e with e; left; simp at e; omega)
    · have hke : k = 6 := by omega
      subst hke
      have he : (ys, lr, bad) = (xs, l4, b4) := HF.out
      injection he with he1 he
      injection he with he2 he3
      subst he1 he2 he3
      clear HF HPr
      obtain ⟨u, st, l, t, ty, ch, rfl⟩ : ∃ u st l t ty ch, ys = [u, st, l, t, ty, ch] := by
        rcases ys with _ | ⟨u, _ | ⟨st, _ | ⟨l, _ | ⟨t, _ | ⟨ty, _ | ⟨ch, _ | _⟩⟩⟩⟩⟩⟩ <;> simp at hys
        exact ⟨_, _, _, _, _, _, rfl⟩
      have h0 : wr.cell? ⟨w.heap.size, 0, none⟩ = some (.int .i64 (verS vc)) := (blk_cell HHr.out 0).trans rfl
      have h1 : wr.cell? ⟨w.heap.size, 1, none⟩ = some (.int .i64 u) := (blk_cell HHr.out 1).trans rfl
      have h2 : wr.cell? ⟨w.heap.size, 2, none⟩ = some (.int .i64 st) := (blk_cell HHr.out 2).trans rfl
      have h3 : wr.cell? ⟨w.heap.size, 3, none⟩ = some (.int .i64 l) := (blk_cell HHr.out 3).trans rfl
      have h4 : wr.cell? ⟨w.heap.size, 4, none⟩ = some (.int .i64 t) := (blk_cell HHr.out 4).trans rfl
      have h5 : wr.cell? ⟨w.heap.size, 5, none⟩ = some (.int .i64 ty) := (blk_cell HHr.out 5).trans rfl
      have h6 : wr.cell? ⟨w.heap.size, 6, none⟩ = some (.int .i64 ch) := (blk_cell HHr.out 6).trans rfl
      have f0 := blk_frozen HHr.out 0
      have f1 := blk_frozen HHr.out 1
      have f2 := blk_frozen HHr.out 2
      have f3 := blk_frozen HHr.out 3
      have f4 := blk_frozen HHr.out 4
      have f5 := blk_frozen HHr.out 5
      have f6 := blk_frozen HHr.out 6
      cases bad with
      | true =>
        have hok : okS s z true (verS vc) [u, st, l, t, ty, ch] = false := by simp [okS]
        have HOK := Aside0.mk hok
        clear hok
        go_wp2_with fail
        refine (ok_calls B0 N0 wr g lr true HD.out).mono ?_
        rintro e w7 ⟨rfl, rfl⟩
        go_wp2
        have hb7 := set7 (.int .i64 0) (.int .i64 0) (.int .i64 0) (.int .i64 0) (.int .i64 0) (.int .i64 0) (.int .i64 0) HHr.out
        have hB7 := set7_below (.int .i64 0) (.int .i64 0) (.int .i64 0) (.int .i64 0) (.int .i64 0) (.int .i64 0) (.int .i64 0) HBr.out
        have k0 := (blk_cell hb7 0).trans rfl
        have k1 := (blk_cell hb7 1).trans rfl
        have k2 := (blk_cell hb7 2).trans rfl
        have k3 := (blk_cell hb7 3).trans rfl
        have k4 := (blk_cell hb7 4).trans rfl
        have k5 := (blk_cell hb7 5).trans rfl
        have k6 := (blk_cell hb7 6).trans rfl
        exact bodyPost_ret (v := .tuple #[.agg #[.int .i64 0, .int .i64 0, .int .i64 0, .int .i64 0, .int .i64 0, .int .i64 0, .int .i64 0], .bool false]) (by simp [results, Try.results11, k0, k1, k2, k3, k4, k5, k6, go_sem]) rfl ⟨[0, 0, 0, 0, 0, 0, 0], by first | rfl | (rw [HOK.out]; rfl), by first | rfl | (rw [HOK.out]; rfl), hB7⟩
      | false =>
        by_cases hst : (s.toList == [84, 90, 105, 102]) = true
        · by_cases hz : (z.any (fun c => c != 0)) = true
          · have HZ := Aside0.mk hz
            have hok : okS s z false (verS vc) [u, st, l, t, ty, ch] = false := by simp only [okS, hz]; simp
            have HOK := Aside0.mk hok
            clear hok
            clear hz
            go_wp2_with fail
            refine (ok_calls B0 N0 wr g lr false HD.out).mono ?_
            rintro e w7 ⟨rfl, rfl⟩
            go_wp2_with fail
            refine (contains_calls A2 c2 z _ (Kd.R_reads' HRr.out).2.2).mono ?_
            rintro e w8 ⟨rfl, rfl⟩
            rw [HZ.out]
            go_wp2
            have hb7 := set7 (.int .i64 0) (.int .i64 0) (.int .i64 0) (.int .i64 0) (.int .i64 0) (.int .i64 0) (.int .i64 0) HHr.out
            have hB7 := set7_below (.int .i64 0) (.int .i64 0) (.int .i64 0) (.int .i64 0) (.int .i64 0) (.int .i64 0) (.int .i64 0) HBr.out
            have k0 := (blk_cell hb7 0).trans rfl
            have k1 := (blk_cell hb7 1).trans rfl
            have k2 := (blk_cell hb7 2).trans rfl
            have k3 := (blk_cell hb7 3).trans rfl
            have k4 := (blk_cell hb7 4).trans rfl
            have k5 := (blk_cell hb7 5).trans rfl
            have k6 := (blk_cell hb7 6).trans rfl
            exact bodyPost_ret (v := .tuple #[.agg #[.int .i64 0, .int .i64 0, .int .i64 0, .int .i64 0, .int .i64 0, .int .i64 0, .int .i64 0], .bool false]) (by simp [results, Try.results11, k0, k1, k2, k3, k4, k5, k6, go_sem]) rfl ⟨[0, 0, 0, 0, 0, 0, 0], by first | rfl | (rw [HOK.out]; rfl), by first | rfl | (rw [HOK.out]; rfl), hB7⟩
          · have hz' : (z.any (fun c => c != 0)) = false := Bool.eq_false_iff.mpr hz
            have HZ := Aside0.mk hz'
            cases hrt : rightS (verS vc) u st l t ty ch with
            | false =>
              have HRT := Aside0.mk hrt
              have hok : okS s z false (verS vc) [u, st, l, t, ty, ch] = false := by simp only [okS, hz', hrt, hst]; decide
              have HOK := Aside0.mk hok
              clear hok hz hz' hrt
              go_wp2_with fail
              refine (ok_calls B0 N0 wr g lr false HD.out).mono ?_
              rintro e w7 ⟨rfl, rfl⟩
              go_wp2_with fail
              refine (contains_calls A2 c2 z _ (Kd.R_reads' HRr.out).2.2).mono ?_
              rintro e w8 ⟨rfl, rfl⟩
              rw [HZ.out]
              go_wp2_with fail
              refine (right_calls (verS vc) u st l t ty ch _).mono ?_
              rintro e w9 ⟨rfl, hb9⟩
              rw [HRT.out]
              have g0 := pw_cell_below hb9 h0
              have g1 := pw_cell_below hb9 h1
              have g2 := pw_cell_below hb9 h2
              have g3 := pw_cell_below hb9 h3
              have g4 := pw_cell_below hb9 h4
              have g5 := pw_cell_below hb9 h5
              have g6 := pw_cell_below hb9 h6
              have HH9 := Aside0.mk ((hb9.block _ (blk_lt HHr.out)).trans HHr.out)
              have e0 := blk_frozen HH9.out 0
              have e1 := blk_frozen HH9.out 1
              have e2 := blk_frozen HH9.out 2
              have e3 := blk_frozen HH9.out 3
              have e4 := blk_frozen HH9.out 4
              have e5 := blk_frozen HH9.out 5
              have e6 := blk_frozen HH9.out 6
              have HB9 : Aside0 (Below w.heap.size w w9) := ⟨below_then HBr.out HBr.out.size hb9⟩
              clear h0 f0 h1 f1 h2 f2 h3 f3 h4 f4 h5 f5 h6 f6
              go_wp2
              have hb7 := set7 (.int .i64 0) (.int .i64 0) (.int .i64 0) (.int .i64 0) (.int .i64 0) (.int .i64 0) (.int .i64 0) HH9.out
              have hB7 := set7_below (.int .i64 0) (.int .i64 0) (.int .i64 0) (.int .i64 0) (.int .i64 0) (.int .i64 0) (.int .i64 0) HB9.out
              have k0 := (blk_cell hb7 0).trans rfl
              have k1 := (blk_cell hb7 1).trans rfl
              have k2 := (blk_cell hb7 2).trans rfl
              have k3 := (blk_cell hb7 3).trans rfl
              have k4 := (blk_cell hb7 4).trans rfl
              have k5 := (blk_cell hb7 5).trans rfl
              have k6 := (blk_cell hb7 6).trans rfl
              exact bodyPost_ret (v := .tuple #[.agg #[.int .i64 0, .int .i64 0, .int .i64 0, .int .i64 0, .int .i64 0, .int .i64 0, .int .i64 0], .bool false]) (by simp [results, Try.results11, k0, k1, k2, k3, k4, k5, k6, go_sem]) rfl ⟨[0, 0, 0, 0, 0, 0, 0], by first | rfl | (rw [HOK.out]; rfl), by first | rfl | (rw [HOK.out]; rfl), hB7⟩
            | true =>
              have HRT := Aside0.mk hrt
              have hok : okS s z false (verS vc) [u, st, l, t, ty, ch] = true := by simp only [okS, hz', hrt, hst]; decide
              have HOK := Aside0.mk hok
              clear hok hz hz' hrt
              go_wp2_with fail
              refine (ok_calls B0 N0 wr g lr false HD.out).mono ?_
              rintro e w7 ⟨rfl, rfl⟩
              go_wp2_with fail
              refine (contains_calls A2 c2 z _ (Kd.R_reads' HRr.out).2.2).mono ?_
              rintro e w8 ⟨rfl, rfl⟩
              rw [HZ.out]
              go_wp2_with fail
              refine (right_calls (verS vc) u st l t ty ch _).mono ?_
              rintro e w9 ⟨rfl, hb9⟩
              rw [HRT.out]
              have g0 := pw_cell_below hb9 h0
              have g1 := pw_cell_below hb9 h1
              have g2 := pw_cell_below hb9 h2
              have g3 := pw_cell_below hb9 h3
              have g4 := pw_cell_below hb9 h4
              have g5 := pw_cell_below hb9 h5
              have g6 := pw_cell_below hb9 h6
              have HH9 := Aside0.mk ((hb9.block _ (blk_lt HHr.out)).trans HHr.out)
              have e0 := blk_frozen HH9.out 0
              have e1 := blk_frozen HH9.out 1
              have e2 := blk_frozen HH9.out 2
              have e3 := blk_frozen HH9.out 3
              have e4 := blk_frozen HH9.out 4
              have e5 := blk_frozen HH9.out 5
              have e6 := blk_frozen HH9.out 6
              have HB9 : Aside0 (Below w.heap.size w w9) := ⟨below_then HBr.out HBr.out.size hb9⟩
              clear h0 f0 h1 f1 h2 f2 h3 f3 h4 f4 h5 f5 h6 f6
              go_wp2
              have hb7 := set7 (.int .i64 (verS vc)) (.int .i64 u) (.int .i64 st) (.int .i64 l) (.int .i64 t) (.int .i64 ty) (.int .i64 ch) HH9.out
              have hB7 := set7_below (.int .i64 (verS vc)) (.int .i64 u) (.int .i64 st) (.int .i64 l) (.int .i64 t) (.int .i64 ty) (.int .i64 ch) HB9.out
              have k0 := (blk_cell hb7 0).trans rfl
              have k1 := (blk_cell hb7 1).trans rfl
              have k2 := (blk_cell hb7 2).trans rfl
              have k3 := (blk_cell hb7 3).trans rfl
              have k4 := (blk_cell hb7 4).trans rfl
              have k5 := (blk_cell hb7 5).trans rfl
              have k6 := (blk_cell hb7 6).trans rfl
              exact bodyPost_ret (v := .tuple #[.agg #[.int .i64 (verS vc), .int .i64 u, .int .i64 st, .int .i64 l, .int .i64 t, .int .i64 ty, .int .i64 ch], .bool true]) (by simp [results, Try.results11, k0, k1, k2, k3, k4, k5, k6, go_sem]) rfl ⟨[verS vc, u, st, l, t, ty, ch], by first | rfl | (rw [HOK.out]; rfl), by first | rfl | (rw [HOK.out]; rfl), hB7⟩
        · have hs1 : (s.toList == [84, 90, 105, 102]) = false := Bool.eq_false_iff.mpr hst
          have hok : okS s z false (verS vc) [u, st, l, t, ty, ch] = false := by simp [okS, hs1]
          have HOK := Aside0.mk hok
          clear hok
          go_wp2_with fail
          refine (ok_calls B0 N0 wr g lr false HD.out).mono ?_
          rintro e w7 ⟨rfl, rfl⟩
          go_wp2
          have hb7 := set7 (.int .i64 0) (.int .i64 0) (.int .i64 0) (.int .i64 0) (.int .i64 0) (.int .i64 0) (.int .i64 0) HHr.out
          have hB7 := set7_below (.int .i64 0) (.int .i64 0) (.int .i64 0) (.int .i64 0) (.int .i64 0) (.int .i64 0) (.int .i64 0) HBr.out
          have k0 := (blk_cell hb7 0).trans rfl
          have k1 := (blk_cell hb7 1).trans rfl
          have k2 := (blk_cell hb7 2).trans rfl
          have k3 := (blk_cell hb7 3).trans rfl
          have k4 := (blk_cell hb7 4).trans rfl
          have k5 := (blk_cell hb7 5).trans rfl
          have k6 := (blk_cell hb7 6).trans rfl
          exact bodyPost_ret (v := .tuple #[.agg #[.int .i64 0, .int .i64 0, .int .i64 0, .int .i64 0, .int .i64 0, .int .i64 0, .int .i64 0], .bool false]) (by simp [results, Try.results11, k0, k1, k2, k3, k4, k5, k6, go_sem]) rfl ⟨[0, 0, 0, 0, 0, 0, 0], by first | rfl | (rw [HOK.out]; rfl), by first | rfl | (rw [HOK.out]; rfl), hB7⟩
end Go.Proofs.Ythgghbmckpflcaa.Oct
