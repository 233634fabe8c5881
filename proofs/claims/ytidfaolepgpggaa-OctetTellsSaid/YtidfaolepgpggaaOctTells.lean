/- OctetTells returns true: numbers that are laid, and what is read, call by call, are the document's; no condition but that the arguments lie in memory. -/
import Derived.Test.YtidfaolepgpggaaOctTellsP
import Derived.StillTailTactics
import Derived.Deep.RegionWith
namespace Go.Proofs.Ytidfaolepgpggaa.Oct
open Go.RowKit Go.Proofs.YtidfaolepgpggaaW.PrintWords Go.Proofs.YtidfaolepgpggaaW.PrintLast Go.Proofs.YtidfaolepgpggaaW.PrintMore

theorem rput_at {A : Option Addr} {c : Nat} {l : List Int} {n size : Int} {w : World} {r : List Int} {b : Bool} (hp : putS l n size = (r, b)) (hr : Kd.C (Kd.int .u8) w A l.length l) (hl : l.length ≤ 140737488355320) :
    Calls Try.prog 11 #[.slice A l.length c, .int .i64 n, .int .i64 size] w fun e w' => ∃ A1 c1, e = .returned (.tuple #[.slice A1 r.length c1, .bool b]) ∧ Kd.R (Kd.int .u8) 5 w' w.heap.size (fun _ => True) (.slice A1 r.length c1) r ∧ Below w.heap.size w w' :=
  (Ref.put_calls A c l n size w hr hl).mono fun e w' ⟨v, he, hv, hb⟩ => by
    rw [hp] at he hv
    obtain ⟨A1, c1, rfl, hc, hr⟩ := Kd.R_reads hv
    exact ⟨A1, c1, he, hv, hb⟩
theorem below_up {w w1 w2 : World} {B : Nat} (h : Below w.heap.size w w1) (k : Below B w1 w2) (hB : w.heap.size ≤ B) : Below w.heap.size w w2 :=
  ⟨k.os.trans h.os, k.tape.trans h.tape, k.output.trans h.output, Nat.le_trans h.size k.size, fun i hi => (k.block i (by omega)).trans (h.block i hi)⟩
theorem rnum_is {B N : Nat} {W : World} {g : Nat} {l : List Int} {bad : Bool} {size m : Int} {l2 : List Int} {b2 : Bool} (hn : Ref.numS l bad size = (m, l2, b2)) (h : Rd 45 B N W g l bad) (hl : l.length ≤ 140737488355328) :
    Calls Try.prog 15 #[.pointer (some ⟨g, 0, none⟩), .int .i64 size] W fun e w' => e = .returned (.int .i64 m) ∧ Rd 45 B N w' g l2 b2 ∧ W.grownBy w' (some g) :=
  (Ref.num_calls B N W g l bad size h hl).mono fun e w' ⟨he, hr, hg⟩ => by
    rw [hn] at he hr
    exact ⟨he, hr, hg⟩
theorem take_own {B N : Nat} {W : World} {g : Nat} {l : List Int} {bad : Bool} {n : Int} {r l2 : List Int} {b2 : Bool} (hn : takeS l bad n = (r, l2, b2)) (h : Rd 43 B N W g l bad) (hl : l.length ≤ 140737488355328) :
    Calls Try.prog 16 #[.pointer (some ⟨g, 0, none⟩), .int .i64 n] W fun e w' => ∃ A1 c1, e = .returned (.slice A1 r.length c1) ∧ Kd.R (Kd.int .u8) 5 w' W.heap.size (fun _ => True) (.slice A1 r.length c1) r ∧ Rd 43 B N w' g l2 b2 ∧ W.grownBy w' (some g) :=
  (take_calls B N W g l bad n h hl).mono fun e w' ⟨v, he, hv, hr, hg⟩ => by
    rw [hn] at hv hr
    obtain ⟨A1, c1, rfl, hc, hr1⟩ := Kd.R_reads hv
    exact ⟨A1, c1, he, hv, hr, hg⟩
theorem rtake_is {B N : Nat} {W : World} {g : Nat} {l : List Int} {bad : Bool} {n : Int} {r l2 : List Int} {b2 : Bool} (hn : takeS l bad n = (r, l2, b2)) (h : Rd 45 B N W g l bad) (hl : l.length ≤ 140737488355328) :
    Calls Try.prog 17 #[.pointer (some ⟨g, 0, none⟩), .int .i64 n] W fun e w' => ∃ A1 c1, e = .returned (.slice A1 r.length c1) ∧ Kd.C (Kd.int .u8) w' A1 r.length r ∧ Rd 45 B N w' g l2 b2 ∧ W.grownBy w' (some g) :=
  (Ref.take_calls B N W g l bad n h hl).mono fun e w' ⟨v, he, hv, hr, hg⟩ => by
    rw [hn] at hv hr
    obtain ⟨A1, c1, rfl, hc, hr1⟩ := Kd.R_reads hv
    exact ⟨A1, c1, he, hr1, hr, hg⟩
set_option maxHeartbeats 4000000 in
set_option maxRecDepth 100000 in
theorem tells_head (A : Option Addr) (c : Nat) (b : List Int) (n size : Int) (A3 : Option Addr) (c3 : Nat) (l : List (Int × Int)) (w : World) (hm : b.length ≤ 9223372036854775807) (hm3 : l.length ≤ 9223372036854775807) (h : b.length > 500 ∨ l.length > 100) :
    Calls Try.prog 3 #[.slice A b.length c, .int .i64 n, .int .i64 size, .slice A3 l.length c3] w fun e w' => e = .returned (.bool true) ∧ Below w.heap.size w w' := by
  by_cases h1 : b.length > 500
  · clear h
    go_enter Try.func3, Try.ntmps3
    go_wp2_with fail
    refine (small_calls w).mono ?_
    rintro e w1 ⟨rfl, hb1⟩
    have HB1 := Aside0.mk hb1
    clear hb1
    go_wp2
    go_ret
    exact ⟨rfl, HB1.out⟩
  · have h2 : l.length > 100 := by omega
    clear h
    go_enter Try.func3, Try.ntmps3
    go_wp2_with fail
    refine (small_calls w).mono ?_
    rintro e w1 ⟨rfl, hb1⟩
    have HB1 := Aside0.mk hb1
    clear hb1
    go_wp2
    go_ret
    exact ⟨rfl, HB1.out⟩
set_option maxHeartbeats 8000000 in
set_option maxRecDepth 100000 in
theorem tells_walk (A : Option Addr) (c : Nat) (b : List Int) (n size : Int) (A3 : Option Addr) (c3 : Nat) (l : List (Int × Int)) (w : World) (hr : Kd.C (Kd.int .u8) w A b.length b) (hb : B8 b) (hr3 : kAct.C w A3 l.length l) :
    Calls Try.prog 3 #[.slice A b.length c, .int .i64 n, .int .i64 size, .slice A3 l.length c3] w fun e w' => e = .returned (.bool true) ∧ Below w.heap.size w w' := by
  by_cases hh : b.length > 500 ∨ l.length > 100
  · exact tells_head A c b n size A3 c3 l w (Kd.C_max hr) (Kd.C_max hr3) hh
  have hb5 : b.length ≤ 500 := by omega
  have hl1 : l.length ≤ 100 := by omega
  have HR := Aside0.mk hr
  have HY := Aside0.mk hb
  have HR3 := Aside0.mk hr3
  clear hh hr hb hr3
  obtain ⟨x, ok, hp⟩ : ∃ x ok, Aside0 (putS b n size = (x, ok)) := ⟨_, _, ⟨rfl⟩⟩
  go_enter Try.func3, Try.ntmps3
  go_wp2_with fail
  refine (small_calls w).mono ?_
  rintro e w1 ⟨rfl, hb1⟩
  have HB1 := Aside0.mk hb1
  have HR1 := Aside0.mk (Kd.C_below HR.out hb1)
  have HW01 := Aside0.mk hb1.size
  clear hb1
  go_wp2_with (first
    | ((with_reducible refine gate_dst (N := 30) rfl ?_); refine Kd.R_lit (Kd.int .u8) _ 5 ?hg (N := 30) ?hd (xs := ([] : List Int)) (inner := []) (ok := fun _ => True) (okp := fun _ => True) ?hr ?hp (fun _ hk => hk) trivial (Below.refl _ _) (Nat.le_refl _) (by simp) ?_; (case hd => rfl); (case hg => rfl); (case hr => first | (go_simp; done) | (go_simp; rfl)); (case hp => exact (Reps.none _ _)); intro v1 wl ho hbl hg_ hnew_; clear hg_ hnew_; have HOL := Aside0.mk ho; have HBL := Aside0.mk hbl; clear ho hbl)
    | ((with_reducible refine gate_builtin (b := .append) (xs := #[.tmp 30, .tmp 31]) rfl ?_); at_builtin; refine Kd.R_append_rows (Kd.int .u8) (w0 := w1) w1.heap.size rfl (.tmp 30) (.tmp 31) 22 5 (.int .u8 0) 1 rfl Try.underlying22 info5 rfl (by decide) (by omega) v1 [] b _ _ _ (fun _ => True) (fun _ => False) rfl rfl HOL.out ?aR (fun _ _ h => h) (fun _ h => h.elim) (fun _ _ => trivial) HBL.out (below_size HBL.out) (by simp; omega) ?_; (case aR => exact Kd.C_below HR1.out HBL.out); intro v2 w2 ho2 hb2 hg2 hat2; obtain ⟨Ai, ci, rfl, hci, hri⟩ := Kd.R_reads ho2; have HI2 := Aside0.mk ho2; have HB2 := Aside0.mk hb2; have HRI := Aside0.mk hri; clear ho2 hb2 hg2 hat2 hci hri)
    | fail)
  refine (put_at hp.out HRI.out (by omega)).mono ?_
  rintro e w3 ⟨Ax, cx, rfl, hx, hb3⟩
  have HX := Aside0.mk (Kd.R_reads' hx).2.2
  have HB3 := Aside0.mk hb3
  have HI3 := Aside0.mk (Kd.R_below HI2.out hb3)
  clear hx hb3
  go_wp2_with fail
  refine (rput_at hp.out (Kd.C_below HR1.out (below_step HB2.out HB3.out)) (by omega)).mono ?_
  rintro e w4 ⟨Ay, cy, rfl, hy, hb4⟩
  have HYY := Aside0.mk (Kd.R_reads' hy).2.2
  have HB4 := Aside0.mk hb4
  have HI4 := Aside0.mk (Kd.R_below HI3.out hb4)
  clear hy hb4
  go_wp2_with fail
  refine (open_calls _ _ b w4 (Kd.R_reads' HI4.out).2.2 (by omega)).mono ?_
  rintro e w5 ⟨g, rfl, hrd, hb5'⟩
  have HD5 := Aside0.mk hrd
  have HB5 := Aside0.mk hb5'
  have HI5 := Aside0.mk (Kd.R_below HI4.out hb5')
  clear hrd hb5'
  go_wp2_with fail
  refine (Ref.open_calls A c b w5 (Kd.C_below HR1.out (below_step HB2.out (below_step HB3.out (below_step HB4.out HB5.out)))) (by omega)).mono ?_
  rintro e w6 ⟨g', rfl, hrd, hb6⟩
  have HE6 := Aside0.mk hrd
  have HD6 := Aside0.mk (HD5.out.below hb6)
  have HB6 := Aside0.mk hb6
  have HI6 := Aside0.mk (Kd.R_below HI5.out hb6)
  have HG : Aside0 (w4.heap.size ≤ g ∧ g < w5.heap.size ∧ w5.heap.size ≤ g' ∧ g' < w6.heap.size ∧ w2.heap.size ≤ w4.heap.size) := ⟨HD5.out.size.1, HD5.out.size.2.1, hrd.size.1, hrd.size.2.1, Nat.le_trans HB3.out.size HB4.out.size⟩
  have T4 : Aside0 (Below w4.heap.size w4 w6) := ⟨below_step HB5.out HB6.out⟩
  have hs1 := str_of (c := cx) (Kd.C_below HX.out (below_step HB4.out T4.out)) rfl
  have hs2 := str_of (c := cy) (Kd.C_below HYY.out T4.out) rfl
  have HB : Aside0 (Below w.heap.size w w6) := ⟨below_step HB1.out (below_step HB2.out (below_step HB3.out (below_step HB4.out T4.out)))⟩
  have HW12 := Aside0.mk HB2.out.size
  have HI2s : Aside0 (∀ k, (Value.slice Ai b.length ci).ownBlock = some k → k < w2.heap.size) := ⟨fun k hk => ((Kd.R_bound HI2.out).1 k hk).2.2.1⟩
  clear hrd hb6 HI2 HI3 HI4 HI5 HX HYY HRI HD5 HB2 HB3 HB4 HB5 HB6 HB1 HR1 T4 HOL HBL
  go_wp2
  obtain ⟨wo, rfl⟩ : ∃ wo : World, wo = w6 := ⟨_, rfl⟩
  have HN : Aside0 (∃ xs : List Int, (Kd.int .u8).R 5 wo w1.heap.size (fun _ => True) (.slice Ai b.length ci) xs) := ⟨⟨_, HI6.out⟩⟩
  clear HI6 hs1 hs2
  go_loopw [17] (fun i wr => ∃ k : Nat, k ≤ b.length ∧ i = .int .i64 k ∧ Aside0 (∃ xs : List Int, (Kd.int .u8).R 5 wr w1.heap.size (fun _ => True) (.slice Ai b.length ci) xs) ∧ Aside0 (Rd 43 w4.heap.size w5.heap.size wr g b false) ∧ Aside0 (Rd 45 w5.heap.size wo.heap.size wr g' b false) ∧ Aside0 (Below w.heap.size w wr)) (fun i _ => b.length - (intOf i).toNat)
  case atStart => exact ⟨0, Nat.zero_le _, rfl, HN, HD6, HE6, HB⟩
  case round =>
    obtain ⟨k, hk, rfl, HNr, HDr, HEr, HBr⟩ := hrel
    clear HN HD6 HE6 HB
    by_cases hlt : k < b.length
    · obtain ⟨xs, hxs⟩ := HNr.out
      obtain ⟨g0, cur, rfl, hg0b, hg0s, hblk, hcs⟩ := own_blk hxs (by omega)
      obtain ⟨u0, hcell⟩ : ∃ u, wr.cell? ⟨g0, k, none⟩ = some u := ⟨_, by rw [blk_cell hblk k]; exact Array.getElem?_eq_getElem (by omega)⟩
      have hfr := blk_frozen hblk k
      have HP := Aside0.mk (Kd.R_putn hxs (k : Int) 7)
      have HG0 : Aside0 (g0 < w2.heap.size ∧ w1.heap.size ≤ g0) := ⟨HI2s.out g0 rfl, hg0b⟩
      clear hxs hblk hcs hg0b hg0s
      go_wp2
      refine ⟨⟨k + 1, by omega, by go_num, ⟨⟨_, HP.out⟩⟩, ⟨?_⟩, ⟨?_⟩, ⟨?_⟩⟩, by simp [intOf]; omega⟩
      · exact HDr.out.grown (grown_set _ _ _) (fun q e => by injection e with e; have h1 := HG0.out; have h2 := HG.out; simp at e; omega)
      · exact HEr.out.grown (grown_set _ _ _) (fun q e => by injection e with e; have h1 := HG0.out; have h2 := HG.out; simp at e; omega)
      · exact below_set HBr.out (by have h1 := HG0.out; have h2 := HW01.out; omega)
    · clear HNr HI2s
      go_wp2
      go_loopw [18] (fun i wq => ∃ (j : Nat) (lr : List Int) (bad : Bool), j ≤ l.length ∧ i = .int .i64 j ∧ Aside0 (B8 lr ∧ lr.length ≤ 500) ∧ Aside0 (Rd 43 w4.heap.size w5.heap.size wq g lr bad) ∧ Aside0 (Rd 45 w5.heap.size wo.heap.size wq g' lr bad) ∧ Aside0 (Below w.heap.size w wq)) (fun i _ => l.length - (intOf i).toNat)
      case atStart => exact ⟨0, b, false, Nat.zero_le _, rfl, ⟨HY.out, hb5⟩, HDr, HEr, HBr⟩
      case round =>
        obtain ⟨j, lr, bad, hj, rfl, HL, HD, HE, HB⟩ := hrel
        clear HDr HEr HBr
        by_cases hlj : j < l.length
        · obtain ⟨ad, rfl, ho0, ho1⟩ := act_at HR3.out j hlj
          generalize l[j] = x at *
          obtain ⟨xd, xn⟩ := x
          simp only at ho0 ho1
          have hc0 := cell_next ho0 HB.out
          have hc1 := cell_next ho1 HB.out
          have HO1 : Aside0 ((ad.add (j * 2)).block < w4.heap.size) := ⟨by
            have h1 := World.block_lt_of_cell? _ _ ho0
            have h2 := HG.out; have h3 := HW01.out; have h4 := HW12.out
            omega⟩
          have hl5 : lr.length ≤ 140737488355328 := by have := HL.out.2; omega
          clear ho0 ho1
          by_cases hd : xd = 0
          · subst hd
            obtain ⟨m, l2, b2, hn, hn', hL⟩ : ∃ m l2 b2, numS lr bad xn = (m, l2, b2) ∧ Ref.numS lr bad xn = (m, l2, b2) ∧ B8 l2 ∧ l2.length ≤ 500 :=
              ⟨_, _, _, rfl, same_num HL.out.1, (takeS_bytes HL.out.1).2, Nat.le_trans (takeS_length _ _ _).2 HL.out.2⟩
            have HN1 := Aside0.mk hn
            have HN2 := Aside0.mk hn'
            have HLn := Aside0.mk hL
            clear hn hn' hL
            go_wp2
            go_region_held3 (fun w' => w'.cell? ⟨(ad.add (j * 2)).block, (ad.add (j * 2)).off + 1, none⟩ = some (.int .i64 xn))
              (first | go_keep | exact hg3.cell hc1 (by have := HO1.out; have := HG.out; simp; omega) | exact hg4.cell (hg3.cell hc1 (by have := HO1.out; have := HG.out; simp; omega)) (by have := HO1.out; have := HG.out; simp; omega))
              ((first
                | (go_at_call 14; refine (num_is HN1.out (HD.out.below (below_drew (Below.refl _ _))) hl5).mono ?_; rintro e w7 ⟨rfl, hrd, hg3⟩)
                | (go_at_call 15; refine (rnum_is HN2.out ((HE.out.below (below_drew (Below.refl _ _))).grown hg3 (fun k e => by injection e with e; have := HG.out; omega)) hl5).mono ?_; rintro e w8 ⟨rfl, hrd2, hg4⟩)))
            have HDz := Aside0.mk (hrd.grown hg4 (fun k e => by injection e with e; have := HG.out; omega))
            have HEz := Aside0.mk hrd2
            have HBz := Aside0.mk (pw_below_grown (pw_below_grown (below_drew HB.out) (some g) (below_size (below_drew HB.out)) hg3 (fun k e => by injection e with e; have := HG.out; have := HW01.out; have := HW12.out; omega)) (some g') (below_size (pw_below_grown (below_drew HB.out) (some g) (below_size (below_drew HB.out)) hg3 (fun k e => by injection e with e; have := HG.out; have := HW01.out; have := HW12.out; omega))) hg4 (fun k e => by injection e with e; have := HG.out; have := HW01.out; have := HW12.out; omega))
            clear hrd hg3 hrd2 hg4 HD HE hc0 hc1 HN1 HN2 HB
            go_wp2_with (first | (go_at_call 18; refine (left_calls _ _ _ _ _ _ HDz.out).mono ?_; rintro e w' ⟨rfl, rfl⟩) | (go_at_call 19; refine (Ref.left_calls _ _ _ _ _ _ HEz.out).mono ?_; rintro e w' ⟨rfl, rfl⟩) | (go_at_call 20; refine (ok_calls _ _ _ _ _ _ HDz.out).mono ?_; rintro e w' ⟨rfl, rfl⟩) | (go_at_call 21; refine (Ref.ok_calls _ _ _ _ _ _ HEz.out).mono ?_; rintro e w' ⟨rfl, rfl⟩))
            exact ⟨⟨j + 1, l2, b2, by omega, by go_num, HLn, HDz, HEz, HBz⟩, by simp [intOf]; omega⟩
          · have hd' : (xd == 0) = false := beq_eq_false_iff_ne.2 hd
            clear hd
            obtain ⟨r, l2, b2, ht, hL, hrl⟩ : ∃ r l2 b2, takeS lr bad xn = (r, l2, b2) ∧ (B8 l2 ∧ l2.length ≤ 500) ∧ r.length ≤ 500 :=
              ⟨_, _, _, rfl, ⟨(takeS_bytes HL.out.1).2, Nat.le_trans (takeS_length _ _ _).2 HL.out.2⟩, Nat.le_trans (takeS_length _ _ _).1 HL.out.2⟩
            have HT := Aside0.mk ht
            have HLn := Aside0.mk hL
            clear ht hL
            go_wp2_with fail
            refine (take_own HT.out HD.out hl5).mono ?_
            rintro e w7 ⟨Ap, cp, rfl, hv, hrd, hg3⟩
            have HD7 := Aside0.mk hrd
            have HE7 := Aside0.mk (HE.out.grown hg3 (fun k e => by injection e with e; have := HG.out; omega))
            have HB7 := Aside0.mk (pw_below_grown HB.out (some g) (below_size HB.out) hg3 (fun k e => by injection e with e; have := HG.out; have := HW01.out; have := HW12.out; omega))
            have hc7 := hg3.cell hc1 (by have := HO1.out; have := HG.out; simp; omega)
            have HV7 := Aside0.mk hv
            have HZ7 : Aside0 (wo.heap.size ≤ wr.heap.size ∧ wr.heap.size ≤ w7.heap.size) := ⟨HE.out.size.2.2, hg3.size⟩
            have HS7 := Aside0.mk (str_of (c := cp) (Kd.C_drew (Kd.R_reads' hv).2.2) rfl)
            clear hrd hg3 hc0 hc1 hv HD HE HB
            go_wp2
            have hs7 := HS7.out
            go_region_with ((go_at_call 17; refine (rtake_is HT.out (HE7.out.below (below_drew (Below.refl _ _))) hl5).mono ?_; rintro e w8 ⟨A2, c2, rfl, hr2, hrd2, hg4⟩; have hs2 := str_of (c := c2) hr2 rfl; have hs8 := str_of (c := cp) (Kd.R_reads' (R_state (Kd.R_drew HV7.out) (HE7.out.below (below_drew (Below.refl _ _))) (by simp [Kd.int, Kd.scalar]) hg4)).2.2 rfl))
            all_goals
              have HV8 := Aside0.mk (R_state (Kd.R_drew HV7.out) (HE7.out.below (below_drew (Below.refl _ _))) (by simp [Kd.int, Kd.scalar]) hg4)
              have HD8 := Aside0.mk ((HD7.out.below (below_drew (Below.refl _ _))).grown hg4 (fun k e => by injection e with e; have := HG.out; omega))
              have HE8 := Aside0.mk hrd2
              have HB8 := Aside0.mk (pw_below_grown (below_drew HB7.out) (some g') (below_size (below_drew HB7.out)) hg4 (fun k e => by injection e with e; have := HG.out; have := HW01.out; have := HW12.out; omega))
              have HZ8 : Aside0 (wr.heap.size ≤ w8.heap.size ∧ r.length + 1 ≤ 501) := ⟨Nat.le_trans HZ7.out.2 hg4.size, by omega⟩
              clear hr2 hrd2 hg4 hs2 hs8 hs7 HS7 HE7 HD7 HB7 hc7 HV7
              go_wp2_with (first
                | ((with_reducible refine gate_builtin (b := .append) (xs := #[.tmp 119, .tmp 120]) rfl ?_); at_builtin; refine Kd.R_append (Kd.int .u8) (w0 := w8) wr.heap.size rfl (.tmp 119) (.tmp 120) 22 5 (.int .u8 0) 1 rfl Try.underlying22 info5 rfl (by decide) (by omega) (.slice Ap r.length cp) r 9 [.int .u8 9] (fun _ => True) (fun _ => False) rfl rfl rfl (fun _ hk => hk.elim) (fun _ _ => trivial) HV8.out (Below.refl _ _) HZ8.out.1 (by have := HZ8.out.2; omega) ?_; intro v9 w9 ho9 hb9 hg9 hat9; have HDz := Aside0.mk (HD8.out.of_same hb9.size (fun k _ hk => hb9.block k (by have := HZ7.out; have := HG.out; omega))); have HEz := Aside0.mk (HE8.out.of_same hb9.size (fun k _ hk => hb9.block k (by have := HZ7.out; omega))); have HBz := Aside0.mk (below_up HB8.out hb9 (by have := HZ7.out; have := HG.out; have := HW01.out; have := HW12.out; omega)); clear ho9 hb9 hg9 hat9)
                | (go_at_call 18; refine (left_calls _ _ _ _ _ _ HDz.out).mono ?_; rintro e w' ⟨rfl, rfl⟩) | (go_at_call 19; refine (Ref.left_calls _ _ _ _ _ _ HEz.out).mono ?_; rintro e w' ⟨rfl, rfl⟩) | (go_at_call 20; refine (ok_calls _ _ _ _ _ _ HDz.out).mono ?_; rintro e w' ⟨rfl, rfl⟩) | (go_at_call 21; refine (Ref.ok_calls _ _ _ _ _ _ HEz.out).mono ?_; rintro e w' ⟨rfl, rfl⟩))
              exact ⟨⟨j + 1, l2, b2, by omega, by go_num, HLn, HDz, HEz, HBz⟩, by simp [intOf]; omega⟩
        · go_wp2
          go_ret
          exact ⟨rfl, HB.out⟩
end Go.Proofs.Ytidfaolepgpggaa.Oct
