/- OctetBack returns true: numbers that were laid, one behind the other, are read as they were, and no more of them; no condition but that the calls lie in memory. -/
import Derived.Test.YtidfaolepgpggaaOctAct
import Derived.Test.YtidfaolepgpggaaOctBackP
import Derived.StillTailTactics
namespace Go.Proofs.Ytidfaolepgpggaa.Oct
open Go.RowKit Go.Proofs.YtidfaolepgpggaaW.PrintWords Go.Proofs.YtidfaolepgpggaaW.PrintLast Go.Proofs.YtidfaolepgpggaaW.PrintMore

set_option maxHeartbeats 4000000 in
set_option maxRecDepth 100000 in
theorem back_walk (A : Option Addr) (c : Nat) (l : List (Int × Int)) (w : World) (hr : kAct.C w A l.length l) (hc : l.length ≤ c) (hw : ∀ a ∈ l, -9223372036854775808 ≤ a.2 ∧ a.2 ≤ 9223372036854775807) :
    Calls Try.prog 4 #[.slice A l.length c] w fun e w' => e = .returned (.bool true) ∧ Below w.heap.size w w' := by
  have HR := Aside0.mk hr
  have HC := Aside0.mk hc
  have HW := Aside0.mk hw
  have hmx : l.length ≤ 9223372036854775807 := Kd.C_max hr
  clear hr hc hw
  by_cases hlen : l.length > 100
  · go_enter Try.func4, Try.ntmps4
    go_wp2_with fail
    refine (small_calls w).mono ?_
    rintro e w1 ⟨rfl, hb1⟩
    have HB1 := Aside0.mk hb1
    clear hb1
    go_wp2
    go_ret
    exact ⟨rfl, HB1.out⟩
  · go_enter Try.func4, Try.ntmps4
    go_wp2_with fail
    refine (small_calls w).mono ?_
    rintro e w1 ⟨rfl, hb1⟩
    have HB1 := Aside0.mk hb1
    clear hb1
    go_wp2
    go_loopw [4, 5, 6] (fun vb vs i wr => ∃ k : Nat, k ≤ l.length ∧ i = .int .i64 k ∧ Aside0 (Kd.R (Kd.int .u8) 5 wr w.heap.size (fun _ => True) vb (flat (kept (l.take k)))) ∧ Aside0 (kAct.R 32 wr w.heap.size (fun _ => True) vs (kept (l.take k))) ∧ Aside0 (Below w.heap.size w wr)) (fun _ _ i _ => l.length - (intOf i).toNat)
    case atStart => exact ⟨0, Nat.zero_le _, rfl, ⟨Kd.R_nil _ _ _ _ _⟩, ⟨Kd.R_nil _ _ _ _ _⟩, HB1⟩
    case round =>
      obtain ⟨k, hk, rfl, HRb, HRs, HB⟩ := hrel
      clear HB1
      by_cases hlt : k < l.length
      · obtain ⟨ad, rfl, hc0, hc1⟩ := act_at (Kd.C_below HR.out HB.out) k hlt
        have HD : Aside0 (l.take (k + 1) = l.take k ++ [l[k]]) := ⟨List.take_succ_eq_append_getElem hlt⟩
        have HWk : Aside0 (-9223372036854775808 ≤ (l[k]).2 ∧ (l[k]).2 ≤ 9223372036854775807) := ⟨HW.out _ (List.getElem_mem hlt)⟩
        have HF : Aside0 ((flat (kept (l.take k))).length ≤ 800) := ⟨by
          have h1 := flat_length (kept (l.take k)) (fun a ha => (kept_may ha).1)
          have h2 := kept_length (l.take k)
          have h3 := List.length_take_le' k l
          omega⟩
        generalize l[k] = x at *
        obtain ⟨xd, xn⟩ := x
        obtain ⟨Ab, cb, rfl, hcb, hrb⟩ := Kd.R_reads HRb.out
        have HRB := Aside0.mk hrb
        clear hcb hrb
        simp only at hc0 hc1
        go_wp2
        have HF2 : Aside0 ((flat (kept (l.take k))).length ≤ 140737488355320) := ⟨by have := HF.out; omega⟩
        have HKS := kept_snoc (l.take k) (xd, xn)
        have HFS := flat_snoc (kept (l.take k)) (xd, xn)
        rw [← HD.out] at HKS
        simp only at HKS HFS
        by_cases hm : mayS xn xd = true
        · rw [if_pos hm] at HKS
          rw [← HKS] at HFS
          have HP : Aside0 (putS (flat (kept (l.take k))) xn xd = (flat (kept (l.take k)) ++ bytesS xn xd.toNat, true)) := ⟨if_pos hm⟩
          rw [← HFS] at HP
          have HK := Aside0.mk HKS
          have HG := Aside0.mk HFS
          have HM := Aside0.mk hm
          clear HKS HFS hm
          generalize flat (kept (l.take k)) = fb at *
          generalize hgen : flat (kept (l.take (k + 1))) = fb2 at *
          have HGEN := Aside0.mk hgen
          clear hgen
          go_region_held3 (fun w' => w'.cell? (ad.add (k * 2)) = some (.int .i64 xd) ∧ w'.cell? ⟨(ad.add (k * 2)).block, (ad.add (k * 2)).off + 1, none⟩ = some (.int .i64 xn) ∧ Hold wr w' Ab fb)
            (first | exact ⟨hc0, hc1, Hold.start HRB.out⟩ | exact ⟨cell_next hc0 (below_step (below_drew (Below.refl _ _)) hb2), cell_next hc1 (below_step (below_drew (Below.refl _ _)) hb2), (Hold.start HRB.out).next hb2⟩)
            ((go_at_call 10; refine (put_at HP.out (Kd.C_drew HRB.out) HF2.out).mono ?_; rintro e w2 ⟨A1, c1, rfl, hv2, hb2⟩))
          have HB2 := Aside0.mk (below_step (below_drew (Below.refl _ _)) hb2)
          have hd0 := cell_next hc0 HB2.out
          have hd1 := cell_next hc1 HB2.out
          have HBn := Aside0.mk (below_step HB.out HB2.out)
          have HV2 := Aside0.mk (Kd.R_lower hv2 HB.out.size)
          have HRs2 := Aside0.mk (Kd.R_below HRs.out HB2.out)
          have hx1 : 1 ≤ xd := by have := may_size HM.out; omega
          have hx8 : xd ≤ 8 := by have := may_size HM.out; omega
          have hf8 : fb.length ≤ 800 := HF.out
          have hq : ((fb2.length : Int) != (fb.length : Int) + xd) = false := by
            rw [HG.out, List.length_append, bytesS_length, bne_eq_false_iff_eq]; omega
          clear hb2 hv2 hc0 hc1 HRb HRs
          have HKL : Aside0 (((kept (l.take k)).length + 1) * 16 ≤ 140737488355328) := ⟨by
            have h2 := kept_length (l.take k)
            have h3 := List.length_take_le' k l
            omega⟩
          go_wp2_with (first
            | ((with_reducible refine gate_builtin (b := .append) (xs := #[.tmp 56, .tmp 61]) rfl ?_); at_builtin; refine Kd.R_append kAct (w0 := w) w.heap.size rfl (.tmp 56) (.tmp 61) 23 32 (.agg #[.int .i64 0, .int .i64 0]) 16 rfl Try.underlying23 info32 rfl (by decide) (by omega) u5 (kept (l.take k)) (xd, xn) [.int .i64 xd, .int .i64 xn] (fun _ => True) (fun _ => False) rfl rfl ?aP (fun _ hk => hk.elim) (fun _ _ => trivial) HRs2.out HBn.out (below_size HBn.out) HKL.out ?_; (case aP => exact ⟨[_], [_], rfl, rfl, rfl⟩); intro v3 w3 ho3 hb3 hg3 hat3; have HV3 := Aside0.mk (R_other HV2.out HRs2.out (by simp [Kd.int, Kd.scalar]) hg3); have HRs3 := Aside0.mk ho3; have HB3 := Aside0.mk hb3; clear ho3 hb3 hg3 hat3))
          refine ⟨⟨k + 1, by omega, by go_num, ?_, ?_, HB3⟩, by simp [intOf]; omega⟩
          · rw [HGEN.out]; exact HV3
          · rw [HK.out]; exact HRs3
        · rw [if_neg hm] at HKS
          have HP : Aside0 (putS (flat (kept (l.take k))) xn xd = (flat (kept (l.take k)), false)) := ⟨if_neg hm⟩
          have HK := Aside0.mk HKS
          clear HKS HFS hm
          generalize hgen : flat (kept (l.take k)) = fb at *
          have HGEN := Aside0.mk hgen
          clear hgen
          go_region_held3 (fun w' => w'.cell? (ad.add (k * 2)) = some (.int .i64 xd) ∧ w'.cell? ⟨(ad.add (k * 2)).block, (ad.add (k * 2)).off + 1, none⟩ = some (.int .i64 xn) ∧ Hold wr w' Ab fb)
            (first | exact ⟨hc0, hc1, Hold.start HRB.out⟩ | exact ⟨cell_next hc0 (below_step (below_drew (Below.refl _ _)) hb2), cell_next hc1 (below_step (below_drew (Below.refl _ _)) hb2), (Hold.start HRB.out).next hb2⟩)
            ((go_at_call 10; refine (put_at HP.out (Kd.C_drew HRB.out) HF2.out).mono ?_; rintro e w2 ⟨A1, c1, rfl, hv2, hb2⟩))
          have HB2 := Aside0.mk (below_step (below_drew (Below.refl _ _)) hb2)
          have HBn := Aside0.mk (below_step HB.out HB2.out)
          have HRb2 := Aside0.mk (Kd.R_below HRb.out HB2.out)
          have HRs2 := Aside0.mk (Kd.R_below HRs.out HB2.out)
          have hs1 := str_of (Kd.C_below HRB.out HB2.out) (c := cb) rfl
          have hs2 := str_of (Kd.R_reads' hv2).2.2 (c := c1) rfl
          clear hb2 hv2 hc0 hc1 HRb HRs
          go_wp2
          refine ⟨⟨k + 1, by omega, by go_num, ?_, ?_, HBn⟩, by simp [intOf]; omega⟩
          · rw [HK.out, HGEN.out]; exact HRb2
          · rw [HK.out]; exact HRs2
      · have hke : k = l.length := by omega
        subst hke
        rw [List.take_length] at HRb HRs
        have HF : Aside0 ((flat (kept l)).length ≤ 800) := ⟨by
          have h1 := flat_length (kept l) (fun a ha => (kept_may ha).1)
          have h2 := kept_length l
          omega⟩
        have HKW : Aside0 (∀ a ∈ kept l, mayS a.2 a.1 = true ∧ -9223372036854775808 ≤ a.2 ∧ a.2 ≤ 9223372036854775807) := ⟨fun a ha => ⟨(kept_may ha).1, HW.out a (kept_may ha).2⟩⟩
        have HKN : Aside0 ((kept l).length ≤ 100) := ⟨by have := kept_length l; omega⟩
        generalize kept l = s at *
        obtain ⟨Ab, cb, rfl, hcb, hrb⟩ := Kd.R_reads HRb.out
        obtain ⟨As, cs, rfl, hcs, hrs⟩ := Kd.R_reads HRs.out
        have HRB := Aside0.mk hrb
        have HRS := Aside0.mk hrs
        clear hcb hrb hcs hrs
        go_wp2_with fail
        refine (open_calls Ab cb (flat s) wr HRB.out (by have := HF.out; omega)).mono ?_
        rintro e w2 ⟨g, rfl, hrd, hb2⟩
        have HD2 := Aside0.mk hrd
        have HB2 := Aside0.mk hb2
        have HG := Aside0.mk (hrd.size)
        clear hrd hb2
        obtain ⟨wo, rfl⟩ : ∃ wo : World, wo = wr := ⟨_, rfl⟩
        go_wp2
        go_loopw [10] (fun i wq => ∃ j : Nat, j ≤ s.length ∧ i = .int .i64 j ∧ Aside0 (Rd 43 wo.heap.size w2.heap.size wq g (flat (s.drop j)) false) ∧ Aside0 (Below wo.heap.size wo wq)) (fun i _ => s.length - (intOf i).toNat)
        case atStart => exact ⟨0, Nat.zero_le _, rfl, ⟨by rw [List.drop_zero]; exact HD2.out⟩, HB2⟩
        case round =>
          obtain ⟨j, hj, rfl, HD, HBq⟩ := hrel
          clear HB2 HD2
          have hsx : s.length ≤ 100 := HKN.out
          by_cases hlj : j < s.length
          · obtain ⟨ad, rfl, ho0, ho1⟩ := act_at HRS.out j hlj
            have hm := HKW.out _ (List.getElem_mem hlj)
            have hdr : s.drop j = s[j] :: s.drop (j + 1) := List.drop_eq_getElem_cons hlj
            rw [hdr, flat_cons] at HD
            have hfl : Aside0 ((flat (s.drop (j + 1))).length ≤ 800) := ⟨by
              have h1 := flat_length (s.drop (j + 1)) (fun a ha => (HKW.out a (List.mem_of_mem_drop ha)).1)
              have h2 : (s.drop (j + 1)).length ≤ s.length := by rw [List.length_drop]; omega
              omega⟩
            clear hdr
            generalize s[j] = x at *
            generalize hrest : flat (s.drop (j + 1)) = rest at *
            have HREST := Aside0.mk hrest
            clear hrest
            obtain ⟨xd, xn⟩ := x
            simp only at ho0 ho1 hm HD
            have HN := Aside0.mk (read_one (a := (xd, xn)) (r := rest) hm.1 hm.2)
            have HBL : Aside0 ((bytesS xn xd.toNat ++ rest).length ≤ 140737488355328) := ⟨by
              have := may_size hm.1
              have := hfl.out
              rw [List.length_append, bytesS_length]; omega⟩
            have hc0 := cell_next ho0 HBq.out
            have hc1 := cell_next ho1 HBq.out
            have HO0 := Aside0.mk (World.block_lt_of_cell? _ _ ho0)
            have HO1 := Aside0.mk (World.block_lt_of_cell? _ _ ho1)
            clear ho0 ho1 hm
            go_wp2
            go_region_held3 (fun w' => w'.cell? (ad.add (j * 2)) = some (.int .i64 xd) ∧ w'.cell? ⟨(ad.add (j * 2)).block, (ad.add (j * 2)).off + 1, none⟩ = some (.int .i64 xn))
              (first | go_keep | exact ⟨hg3.cell hc0 (by have := HO0.out; have := HG.out.1; simp; omega), hg3.cell hc1 (by have := HO1.out; have := HG.out.1; simp; omega)⟩)
              ((first
                | (go_at_call 14; refine (num_is HN.out (HD.out.below (below_drew (Below.refl _ _))) HBL.out).mono ?_; rintro e w3 ⟨rfl, hrd, hg3⟩)
                | (go_at_call 20; refine (ok_calls _ _ _ _ _ _ hrd).mono ?_; rintro e w4 ⟨rfl, rfl⟩)))
            have HDn := Aside0.mk hrd
            have HBn := Aside0.mk (pw_below_grown (below_drew HBq.out) (some g) HBq.out.size hg3 (fun k e => by injection e with e; rw [← e]; exact HG.out.1))
            clear hrd hg3 hc0 hc1 HD HN
            go_wp2
            exact ⟨⟨j + 1, by omega, by go_num, by rw [HREST.out]; exact HDn, HBn⟩, by simp [intOf]; omega⟩
          · have hje : j = s.length := by omega
            subst hje
            rw [List.drop_length] at HD
            have HBn := Aside0.mk (below_step HB.out HBq.out)
            go_wp2_with (first | (go_at_call 18; refine (left_calls _ _ _ _ _ _ HD.out).mono ?_; rintro e w' ⟨rfl, rfl⟩) | (go_at_call 20; refine (ok_calls _ _ _ _ _ _ HD.out).mono ?_; rintro e w' ⟨rfl, rfl⟩))
            go_ret
            exact ⟨rfl, HBn.out⟩
end Go.Proofs.Ytidfaolepgpggaa.Oct
