/- Texts of chapter 16 laid together (wip/block/merge16.py): BackHand, LawBlockBack. -/
import Derived.Test.YtpgjcnjojfehjaaM3
import Derived.Outline
import Derived.Test.YtpgjcnjojfehjaaRows
import Derived.WalkKit
import Derived.ProofKit
import Derived.OpenShut
import Derived.ShutString
import Derived.ChangeOld
import Derived.Below
import Derived.SizedLaws
import Derived.ChangeSlices
import Derived.Test.YtpgjcnjojfehjaaWSized
/- BlockBack: the walk of the good case, by hand; condition: the zone is small and may be laid. -/
namespace Go.Proofs.Ytpgjcnjojfehjaa.Bk
open Go.RowKit Go.Proofs.YtpgjcnjojfehjaaW.PrintWords Go.Proofs.YtpgjcnjojfehjaaW.PrintLast Go.Proofs.YtpgjcnjojfehjaaW.PrintMore Oct Kx Ab PBlBack

set_option maxHeartbeats 4000000 in
set_option maxRecDepth 100000 in
theorem back_few (A0 : Option Addr) (c0 : Nat) (ty : List S46) (A1 : Option Addr) (c1 : Nat) (tr : List S48) (A2 : Option Addr) (c2 : Nat) (lp : List S50) (foot : ByteArray) (ver size : Int) (w : World)
    (i0 : ty.length ≤ c0) (i1 : tr.length ≤ c1) (i2 : lp.length ≤ c2) (j0 : Kd.C k46 w A0 ty.length ty) (j1 : Kd.C k48 w A1 tr.length tr) (j2 : Kd.C k50 w A2 lp.length lp)
    (hb : fewB ty tr lp foot = false) :
    Calls Try.prog 4 #[.agg #[.slice A0 ty.length c0, .slice A1 tr.length c1, .slice A2 lp.length c2, .string foot, .int .i64 ver], .int .i64 size] w fun e w' => e = .returned (.bool true) ∧ Below w.heap.size w w' := by
  obtain ⟨k1, h1⟩ := few_ev ty tr lp foot ver
  have HSM := Aside0.mk (fun W => small_is true W rfl)
  have HFEW := Aside0.mk (fun W j0 j1 j2 => epactlaw16_Few.calls k1 A0 c0 ty A1 c1 tr A2 c2 lp foot ver false W j0 i0 j1 i1 j2 i2 ((h1 k1 (Nat.le_refl _)).trans (by rw [hb])))
  have HR0 := Aside0.mk j0
  have HR1 := Aside0.mk j1
  have HR2 := Aside0.mk j2
  clear j0 j1 j2 i0 i1 i2 h1 hb
  go_enter Try.func4, Try.ntmps4
  go_wp2_with (first
    | ((with_reducible refine gate_dst (N := 2) rfl ?_); refine box_event ?hg (N := 2) ?hd (cs := #[.slice A0 ty.length c0, .slice A1 tr.length c1, .slice A2 lp.length c2, .string foot, .int .i64 ver]) (t := 26) ?hr ?_; (case hd => rfl); (case hg => rfl); (case hr => first | (go_simp; done) | (go_simp; rfl)); intro z hgW w1 hbox hb1; have HB1 := Aside0.mk hb1; have HZ1 := Aside0.mk hbox; have HZE : Aside0 (w.heap.size ≤ z) := ⟨by omega⟩; clear hb1 hbox hgW))
  refine (HSM.out _).mono ?_
  rintro e w2 ⟨rfl, hb2⟩
  have HB2 := Aside0.mk (below_step HB1.out hb2)
  have HZ2 := Aside0.mk (blk_below HZ1.out hb2)
  clear hb2 HB1 HZ1 HSM
  obtain ⟨hz0, hz1, hz2, hz3, hz4⟩ := zone_cells HZ2.out
  go_wp2_with fail
  refine (HFEW.out _ (Kd.C_below HR0.out HB2.out) (Kd.C_below HR1.out HB2.out) (Kd.C_below HR2.out HB2.out)).mono ?_
  rintro e w3 ⟨rfl, hb3⟩
  have HB3 := Aside0.mk (below_step HB2.out hb3)
  have HZ3 := Aside0.mk (blk_below HZ2.out hb3)
  clear hb3 HB2 HZ2 HFEW hz0 hz1 hz2 hz3 hz4
  obtain ⟨hz0, hz1, hz2, hz3, hz4⟩ := zone_cells HZ3.out
  go_wp2_with fail
  go_ret
  all_goals exact ⟨rfl, HB3.out⟩
set_option maxHeartbeats 4000000 in
set_option maxRecDepth 100000 in
theorem back_no (A0 : Option Addr) (c0 : Nat) (ty : List S46) (A1 : Option Addr) (c1 : Nat) (tr : List S48) (A2 : Option Addr) (c2 : Nat) (lp : List S50) (foot : ByteArray) (ver size : Int) (w : World)
    (i0 : ty.length ≤ c0) (i1 : tr.length ≤ c1) (i2 : lp.length ≤ c2) (j0 : Kd.C k46 w A0 ty.length ty) (j1 : Kd.C k48 w A1 tr.length tr) (j2 : Kd.C k50 w A2 lp.length lp)
    (hb : fewB ty tr lp foot = true) (hg : encG ty tr lp ver size = false) :
    Calls Try.prog 4 #[.agg #[.slice A0 ty.length c0, .slice A1 tr.length c1, .slice A2 lp.length c2, .string foot, .int .i64 ver], .int .i64 size] w fun e w' => e = .returned (.bool true) ∧ Below w.heap.size w w' := by
  obtain ⟨k1, h1⟩ := few_ev ty tr lp foot ver
  have hok := few_ok hb
  have HSM := Aside0.mk (fun W => small_is true W rfl)
  have HFEW := Aside0.mk (fun W j0 j1 j2 => epactlaw16_Few.calls k1 A0 c0 ty A1 c1 tr A2 c2 lp foot ver true W j0 i0 j1 i1 j2 i2 ((h1 k1 (Nat.le_refl _)).trans (by rw [hb])))
  have HENC := Aside0.mk (fun W j0 j1 j2 => encode_is A0 c0 ty A1 c1 tr A2 c2 lp foot ver size [] false W j0 i0 j1 i1 j2 i2 (by unfold encF encN; rw [hok, hg]))
  have HR0 := Aside0.mk j0
  have HR1 := Aside0.mk j1
  have HR2 := Aside0.mk j2
  clear j0 j1 j2 i0 i1 i2 h1 hb hg hok
  go_enter Try.func4, Try.ntmps4
  go_wp2_with (first
    | ((with_reducible refine gate_dst (N := 2) rfl ?_); refine box_event ?hg (N := 2) ?hd (cs := #[.slice A0 ty.length c0, .slice A1 tr.length c1, .slice A2 lp.length c2, .string foot, .int .i64 ver]) (t := 26) ?hr ?_; (case hd => rfl); (case hg => rfl); (case hr => first | (go_simp; done) | (go_simp; rfl)); intro z hgW w1 hbox hb1; have HB1 := Aside0.mk hb1; have HZ1 := Aside0.mk hbox; have HZE : Aside0 (w.heap.size ≤ z) := ⟨by omega⟩; clear hb1 hbox hgW))
  refine (HSM.out _).mono ?_
  rintro e w2 ⟨rfl, hb2⟩
  have HB2 := Aside0.mk (below_step HB1.out hb2)
  have HZ2 := Aside0.mk (blk_below HZ1.out hb2)
  clear hb2 HB1 HZ1 HSM
  obtain ⟨hz0, hz1, hz2, hz3, hz4⟩ := zone_cells HZ2.out
  go_wp2_with fail
  refine (HFEW.out _ (Kd.C_below HR0.out HB2.out) (Kd.C_below HR1.out HB2.out) (Kd.C_below HR2.out HB2.out)).mono ?_
  rintro e w3 ⟨rfl, hb3⟩
  have HB3 := Aside0.mk (below_step HB2.out hb3)
  have HZ3 := Aside0.mk (blk_below HZ2.out hb3)
  clear hb3 HB2 HZ2 HFEW hz0 hz1 hz2 hz3 hz4
  obtain ⟨hz0, hz1, hz2, hz3, hz4⟩ := zone_cells HZ3.out
  go_wp2_with fail
  refine (HENC.out _ (Kd.C_below HR0.out HB3.out) (Kd.C_below HR1.out HB3.out) (Kd.C_below HR2.out HB3.out)).mono ?_
  rintro e w4 ⟨v0, rfl, hv, hb4⟩
  obtain ⟨Ab, cb, rfl⟩ := Kd.R_slice hv
  have HB4 := Aside0.mk (below_step HB3.out hb4)
  clear hb4 HB3 HZ3 HENC hv hz0 hz1 hz2 hz3 hz4
  go_wp2_with fail
  go_ret
  all_goals exact ⟨rfl, HB4.out⟩
set_option maxHeartbeats 4000000 in
set_option maxRecDepth 100000 in
theorem back_true (A0 : Option Addr) (c0 : Nat) (ty : List S46) (A1 : Option Addr) (c1 : Nat) (tr : List S48) (A2 : Option Addr) (c2 : Nat) (lp : List S50) (foot : ByteArray) (ver size : Int) (w : World)
    (i0 : ty.length ≤ c0) (i1 : tr.length ≤ c1) (i2 : lp.length ≤ c2) (j0 : Kd.C k46 w A0 ty.length ty) (j1 : Kd.C k48 w A1 tr.length tr) (j2 : Kd.C k50 w A2 lp.length lp) (hz : RZ ty tr lp)
    (hb : fewB ty tr lp foot = true) (hg : encG ty tr lp ver size = true) :
    Calls Try.prog 4 #[.agg #[.slice A0 ty.length c0, .slice A1 tr.length c1, .slice A2 lp.length c2, .string foot, .int .i64 ver], .int .i64 size] w fun e w' => e = .returned (.bool true) ∧ Below w.heap.size w w' := by
  obtain ⟨k1, h1⟩ := few_ev ty tr lp foot ver
  obtain ⟨b0, b1, b2, b3, -⟩ := few_parts hb
  obtain ⟨k2, h2⟩ := same_ev ty tr lp foot ver (by omega) (by omega) (by omega)
  have hok := few_ok hb
  have HSM := Aside0.mk (fun W => small_is true W rfl)
  have HFEW := Aside0.mk (fun W j0 j1 j2 => epactlaw16_Few.calls k1 A0 c0 ty A1 c1 tr A2 c2 lp foot ver true W j0 i0 j1 i1 j2 i2 ((h1 k1 (Nat.le_refl _)).trans (by rw [hb])))
  have HSAME := Aside0.mk (fun A0' c0' A1' c1' A2' c2' W j0 e0 j1 e1 j2 e2 g0 g1 g2 => epactref16_Same.calls k2 A0' c0' ty A1' c1' tr A2' c2' lp foot ver A0 c0 ty A1 c1 tr A2 c2 lp foot ver true W j0 e0 j1 e1 j2 e2 g0 i0 g1 i1 g2 i2 (h2 k2 (Nat.le_refl _)))
  have HENC := Aside0.mk (fun W j0 j1 j2 => encode_is A0 c0 ty A1 c1 tr A2 c2 lp foot ver size (bodyN ty tr lp size) true W j0 i0 j1 i1 j2 i2 (by unfold encF encN; rw [hok, hg]))
  have HCT := Aside0.mk (fun W j0 j1 j2 => count_is A0 c0 ty A1 c1 tr A2 c2 lp foot ver _ _ _ _ _ _ _ _ W j0 i0 j1 i1 j2 i2 (count_back (foot := foot) hok hg))
  have HDEC := Aside0.mk (fun A c W h hc => decode_is ver 0 0 lp.length tr.length ty.length (poolT (namesL ty)).1.size A c (bodyN ty tr lp size) size ty tr lp ⟨#[]⟩ ver true W h hc (dec_back hb hz hg))
  have HSZ := Aside0.mk (fun W => size_calls ver 0 0 lp.length tr.length ty.length (poolT (namesL ty)).1.size size W)
  have HRT := Aside0.mk (fun W => right_calls ver 0 0 lp.length tr.length ty.length (poolT (namesL ty)).1.size W)
  rw [← body_len hg] at HSZ
  rw [(enc_parts hg).2.1] at HRT
  have HR0 := Aside0.mk j0
  have HR1 := Aside0.mk j1
  have HR2 := Aside0.mk j2
  have HI := Aside0.mk (And.intro i0 (And.intro i1 i2))
  clear j0 j1 j2 i0 i1 i2 h1 h2 b0 b1 b2 b3 hok hz hb
  generalize bodyN ty tr lp size = b at *
  generalize ((poolT (namesL ty)).1.size : Int) = pn at *
  clear hg
  go_enter Try.func4, Try.ntmps4
  go_wp2_with (first
    | ((with_reducible refine gate_dst (N := 2) rfl ?_); refine box_event ?hg (N := 2) ?hd (cs := #[.slice A0 ty.length c0, .slice A1 tr.length c1, .slice A2 lp.length c2, .string foot, .int .i64 ver]) (t := 26) ?hr ?_; (case hd => rfl); (case hg => rfl); (case hr => first | (go_simp; done) | (go_simp; rfl)); intro z hgW w1 hbox hb1; have HB1 := Aside0.mk hb1; have HZ1 := Aside0.mk hbox; have HZE : Aside0 (w.heap.size ≤ z) := ⟨by omega⟩; clear hb1 hbox hgW))
  refine (HSM.out _).mono ?_
  rintro e w2 ⟨rfl, hb2⟩
  have HB2 := Aside0.mk (below_step HB1.out hb2)
  have HZ2 := Aside0.mk (blk_below HZ1.out hb2)
  clear hb2 HB1 HZ1 HSM
  obtain ⟨hz0, hz1, hz2, hz3, hz4⟩ := zone_cells HZ2.out
  go_wp2_with fail
  refine (HFEW.out _ (Kd.C_below HR0.out HB2.out) (Kd.C_below HR1.out HB2.out) (Kd.C_below HR2.out HB2.out)).mono ?_
  rintro e w3 ⟨rfl, hb3⟩
  have HB3 := Aside0.mk (below_step HB2.out hb3)
  have HZ3 := Aside0.mk (blk_below HZ2.out hb3)
  clear hb3 HB2 HZ2 HFEW hz0 hz1 hz2 hz3 hz4
  obtain ⟨hz0, hz1, hz2, hz3, hz4⟩ := zone_cells HZ3.out
  go_wp2_with fail
  refine (HENC.out _ (Kd.C_below HR0.out HB3.out) (Kd.C_below HR1.out HB3.out) (Kd.C_below HR2.out HB3.out)).mono ?_
  rintro e w4 ⟨v0, rfl, hv, hb4⟩
  obtain ⟨Ab, cb, rfl⟩ := Kd.R_slice hv
  have HB4 := Aside0.mk (below_step HB3.out hb4)
  have HZ4 := Aside0.mk (blk_below HZ3.out hb4)
  have HV4 := Aside0.mk (Kd.R_reads' hv)
  clear hb4 HB3 HZ3 HENC hv hz0 hz1 hz2 hz3 hz4
  obtain ⟨hz0, hz1, hz2, hz3, hz4⟩ := zone_cells HZ4.out
  go_wp2_with fail
  refine (HCT.out _ (Kd.C_below HR0.out HB4.out) (Kd.C_below HR1.out HB4.out) (Kd.C_below HR2.out HB4.out)).mono ?_
  rintro e w5 ⟨rfl, hb5⟩
  have HB5 := Aside0.mk (below_step HB4.out hb5)
  have HZ5 := Aside0.mk (blk_below HZ4.out hb5)
  have HV5 := Aside0.mk (Kd.C_below HV4.out.2.2 hb5)
  clear hb5 HB4 HZ4 HCT hz0 hz1 hz2 hz3 hz4
  go_wp2_with (first
    | ((with_reducible refine gate_dst (N := 9) rfl ?_); refine box_event ?hg (N := 9) ?hd (cs := #[.int .i64 0, .int .i64 0, .int .i64 0, .int .i64 0, .int .i64 0, .int .i64 0, .int .i64 0]) (t := 28) ?hr ?_; (case hd => rfl); (case hg => rfl); (case hr => first | (go_simp; done) | (go_simp; rfl)); intro h9 hgW w6 hbox hb6; have HH6 := Aside0.mk hbox; have HB6 := Aside0.mk hb6; have HE9 : Aside0 (w5.heap.size ≤ h9) := ⟨by omega⟩; obtain ⟨hx0, hx1, hx2, hx3, hx4, hx5, hx6⟩ := cells7 hbox; have f0 := blk_frozen hbox 0; have f1 := blk_frozen hbox 1; have f2 := blk_frozen hbox 2; have f3 := blk_frozen hbox 3; have f4 := blk_frozen hbox 4; have f5 := blk_frozen hbox 5; have f6 := blk_frozen hbox 6; clear hbox hb6 hgW))
  have HX := Aside0.mk (set7_below HB6.out HE9.out (.int .i64 ver) (.int .i64 0) (.int .i64 0) (.int .i64 lp.length) (.int .i64 tr.length) (.int .i64 ty.length) (.int .i64 pn))
  have HH7 := Aside0.mk (set7_blk HH6.out (.int .i64 ver) (.int .i64 0) (.int .i64 0) (.int .i64 lp.length) (.int .i64 tr.length) (.int .i64 ty.length) (.int .i64 pn))
  unfold set7 at HX HH7
  clear hx0 hx1 hx2 hx3 hx4 hx5 hx6 f0 f1 f2 f3 f4 f5 f6 HH6 HB6 HE9
  generalize (((((((w6.setCell ⟨h9, 0, none⟩ (.int .i64 ver)).setCell ⟨h9, 1, none⟩ (.int .i64 0)).setCell ⟨h9, 2, none⟩ (.int .i64 0)).setCell ⟨h9, 3, none⟩ (.int .i64 lp.length)).setCell ⟨h9, 4, none⟩ (.int .i64 tr.length)).setCell ⟨h9, 5, none⟩ (.int .i64 ty.length)).setCell ⟨h9, 6, none⟩ (.int .i64 pn)) = w7 at *
  have HB7 := Aside0.mk (below_step HB5.out HX.out)
  have HZ7 := Aside0.mk (blk_below HZ5.out HX.out)
  have HV7 := Aside0.mk (Kd.C_below HV5.out HX.out)
  clear HX HB5 HZ5 HV5
  refine (HDEC.out Ab cb _ HV7.out HV4.out.2.1).mono ?_
  rintro e w8 ⟨v0, v1, v2, rfl, hr0, hr1, hr2, hb8⟩
  obtain ⟨D0, e0, rfl⟩ := Kd.R_slice hr0
  obtain ⟨D1, e1, rfl⟩ := Kd.R_slice hr1
  obtain ⟨D2, e2, rfl⟩ := Kd.R_slice hr2
  have HD0 := Aside0.mk (Kd.R_reads' hr0)
  have HD1 := Aside0.mk (Kd.R_reads' hr1)
  have HD2 := Aside0.mk (Kd.R_reads' hr2)
  have HB8 := Aside0.mk (below_step HB7.out hb8)
  have HZ8 := Aside0.mk (blk_below HZ7.out hb8)
  have HH8 := Aside0.mk (blk_below HH7.out hb8)
  clear hr0 hr1 hr2 hb8 HB7 HZ7 HH7 HV7 HDEC
  go_upto_region 10 with (first
    | ((with_reducible refine gate_dst (N := 11) rfl ?_); refine box_event ?hg (N := 11) ?hd (cs := zoneC (.slice none 0 0) (.slice none 0 0) (.slice none 0 0) 0) (t := 26) ?hr ?_; (case hd => rfl); (case hg => rfl); (case hr => first | (go_simp; done) | (go_simp; rfl)); intro y hgW w9 hbox hb9; have HY9 := Aside0.mk hbox; have HB9 := Aside0.mk hb9; have HE11 : Aside0 (w8.heap.size ≤ y) := ⟨by omega⟩; obtain ⟨hx0, hx1, hx2, hx3, hx4⟩ := zone_cells hbox; have f0 := blk_frozen hbox 0; have f1 := blk_frozen hbox 1; have f2 := blk_frozen hbox 2; have f3 := blk_frozen hbox 3; have f4 := blk_frozen hbox 4; clear hbox hb9 hgW))
  have HX := Aside0.mk (set5_below HB9.out HE11.out (.slice D0 ty.length e0) (.slice D1 tr.length e1) (.slice D2 lp.length e2) (.string ⟨#[]⟩) (.int .i64 ver))
  have HY10 := Aside0.mk (set5_blk HY9.out (.slice D0 ty.length e0) (.slice D1 tr.length e1) (.slice D2 lp.length e2) (.string ⟨#[]⟩) (.int .i64 ver))
  have HNE := Aside0.mk (blk_lt HZ8.out)
  unfold set5 at HX HY10
  clear hx0 hx1 hx2 hx3 hx4 f0 f1 f2 f3 f4 HY9 HB9
  generalize (((((w9.setCell ⟨y, 0, none⟩ (.slice D0 ty.length e0)).setCell ⟨y, 1, none⟩ (.slice D1 tr.length e1)).setCell ⟨y, 2, none⟩ (.slice D2 lp.length e2)).setCell ⟨y, 3, none⟩ (.string ⟨#[]⟩)).setCell ⟨y, 4, none⟩ (.int .i64 ver)) = w10 at *
  have hz3 : w10.cell? ⟨z, 3, none⟩ = some (.string foot) := (blk_cell (blk_below HZ8.out HX.out) 3).trans rfl
  have hy3 : w10.cell? ⟨y, 3, none⟩ = some (.string ⟨#[]⟩) := (blk_cell HY10.out 3).trans rfl
  have f3 := blk_frozen HY10.out 3
  go_upto_region 11 with fail
  clear hz3 hy3 f3
  have HX2 := Aside0.mk (Below.setCell (p := ⟨y, 3, none⟩) HX.out HE11.out (.string foot))
  have HY11 : Aside0 ((w10.setCell ⟨y, 3, none⟩ (.string foot)).heap[y]? = some (.cells #[.slice D0 ty.length e0, .slice D1 tr.length e1, .slice D2 lp.length e2, .string foot, .int .i64 ver] 26 (0, 0))) := ⟨blk_set HY10.out 3 (.string foot)⟩
  generalize (w10.setCell ⟨y, 3, none⟩ (.string foot)) = w11 at *
  have HB11 := Aside0.mk (below_step HB8.out HX2.out)
  have HZ11 := Aside0.mk (blk_below HZ8.out HX2.out)
  have HH11 := Aside0.mk (blk_below HH8.out HX2.out)
  have HE0 := Aside0.mk (Kd.C_below HD0.out.2.2 HX2.out)
  have HE1 := Aside0.mk (Kd.C_below HD1.out.2.2 HX2.out)
  have HE2 := Aside0.mk (Kd.C_below HD2.out.2.2 HX2.out)
  clear HX HX2 HY10 HB8 HZ8 HH8 HE11 HNE
  obtain ⟨hz0, hz1, hz2, hz3, hz4⟩ := zone_cells HZ11.out
  obtain ⟨hy0, hy1, hy2, hy3, hy4⟩ := zone_cells HY11.out
  go_wp2_with fail
  refine (HSAME.out D0 e0 D1 e1 D2 e2 _ HE0.out HD0.out.2.1 HE1.out HD1.out.2.1 HE2.out HD2.out.2.1 (Kd.C_below HR0.out HB11.out) (Kd.C_below HR1.out HB11.out) (Kd.C_below HR2.out HB11.out)).mono ?_
  rintro e w12 ⟨rfl, hb12⟩
  have HB12 := Aside0.mk (below_step HB11.out hb12)
  have HH12 := Aside0.mk (blk_below HH11.out hb12)
  clear hb12 HB11 HZ11 HH11 HY11 HSAME HE0 HE1 HE2 HD0 HD1 HD2 hz0 hz1 hz2 hz3 hz4 hy0 hy1 hy2 hy3 hy4
  obtain ⟨hx0, hx1, hx2, hx3, hx4, hx5, hx6⟩ := cells7 HH12.out
  go_wp2_with fail
  refine (HSZ.out _).mono ?_
  rintro e w13 ⟨rfl, hb13⟩
  have HB13 := Aside0.mk (below_step HB12.out hb13)
  have HH13 := Aside0.mk (blk_below HH12.out hb13)
  clear hb13 HB12 HH12 HSZ hx0 hx1 hx2 hx3 hx4 hx5 hx6
  obtain ⟨hx0, hx1, hx2, hx3, hx4, hx5, hx6⟩ := cells7 HH13.out
  go_wp2_with fail
  refine (HRT.out _).mono ?_
  rintro e w14 ⟨rfl, hb14⟩
  have HB14 := Aside0.mk (below_step HB13.out hb14)
  clear hb14 HB13 HH13 HRT hx0 hx1 hx2 hx3 hx4 hx5 hx6
  go_wp2_with fail
  go_ret
  all_goals exact ⟨rfl, HB14.out⟩
theorem back_walk (A0 : Option Addr) (c0 : Nat) (ty : List S46) (A1 : Option Addr) (c1 : Nat) (tr : List S48) (A2 : Option Addr) (c2 : Nat) (lp : List S50) (foot : ByteArray) (ver size : Int) (w : World)
    (i0 : ty.length ≤ c0) (i1 : tr.length ≤ c1) (i2 : lp.length ≤ c2) (j0 : Kd.C k46 w A0 ty.length ty) (j1 : Kd.C k48 w A1 tr.length tr) (j2 : Kd.C k50 w A2 lp.length lp) (hz : RZ ty tr lp) :
    Calls Try.prog 4 #[.agg #[.slice A0 ty.length c0, .slice A1 tr.length c1, .slice A2 lp.length c2, .string foot, .int .i64 ver], .int .i64 size] w fun e w' => e = .returned (.bool true) ∧ Below w.heap.size w w' := by
  cases hb : fewB ty tr lp foot with
  | false => exact back_few A0 c0 ty A1 c1 tr A2 c2 lp foot ver size w i0 i1 i2 j0 j1 j2 hb
  | true =>
    cases hg : encG ty tr lp ver size with
    | false => exact back_no A0 c0 ty A1 c1 tr A2 c2 lp foot ver size w i0 i1 i2 j0 j1 j2 hb hg
    | true => exact back_true A0 c0 ty A1 c1 tr A2 c2 lp foot ver size w i0 i1 i2 j0 j1 j2 hz hb hg
end Go.Proofs.Ytpgjcnjojfehjaa.Bk
/- BlockBack: what was laid is read as it was; no condition. -/
namespace Go.Proofs.Ytpgjcnjojfehjaa.blockBack
open Go.ChangeShapes Go.WideShapes Go.ChangeAt Go.RowKit
open Go.ChangeMaps (open_string shut_string)
theorem own : ownKnob Try.prog.godebug = none := by kernel_rfl
theorem laidOut : laidOutB Try.prog = true := by kernel_rfl
set_option maxHeartbeats 1000000 in
set_option maxRecDepth 100000 in
theorem lifted (os : Os) (started : os.Started) (H : Type) (enc : TypeId × Value → H) :
    ReturnsInHanded {} Try.checked os 4 .any (Rows.blockBackSpec.pre6 enc Try.prog Try.f4 Rows.blockBackRow.domain false) (Rows.blockBackSpec.post enc Try.prog Try.f4 false true false false) := by
  refine returnsInHanded_of_change_sized (C := Try.checked) own started (by kernel_rfl) Try.func4
    (ChangeSpec.witness6 (enc := enc) (C := Try.checked) false ⟨#[], #[.agg #[.slice none 0 0, .slice none 0 0, .slice none 0 0, .string ByteArray.empty, .int .i64 0], .int .i64 0], []⟩ 8 (by kernel_rfl) (by kernel_rfl) (by kernel_rfl) (by kernel_rfl)) ?_
  intro W base args ds gs before hval0 hW hcnd hsz0 _
  have hsz : (DataW.weightsEach Try.prog (Try.f4.params.toList ++ Rows.blockBackSpec.plain.varTypes Try.prog) (ds ++ gs)).all (· ≤ reachBytes) = true := hsz0
  have hval : ∀ (j : Nat) t v, Try.f4.params[j]? = some t → args[j]? = some v → Value.okWide Try.prog W .any base t v := hval0
  have hW' := hW
  obtain ⟨p, q, hA0, hV, rfl, hfz, hnd⟩ := hW
  have hA : DataW.TrodAll enc Try.prog W 0 (fun _ => true) true Try.f4.params.toList args.toList ds p := hA0
  rw [Try.params4] at hA hval hsz
  obtain ⟨v0, vs0, d0, ds0, p0, q0, hargs, rfl, rfl, h0, r0⟩ := trodAll_cons hA
  obtain ⟨v1, vs1, d1, ds1, p1, q1, rfl, rfl, rfl, h1, r1⟩ := trodAll_cons r0
  obtain ⟨rfl, rfl, rfl⟩ := trodAll_nil r1
  obtain rfl : args = #[v0, v1] := by cases args; simp_all
  obtain ⟨rfl, rfl⟩ := trodVars_none hV
  have k0 := h0
  have lt0 : ∀ x ∈ p0, x.block < W.heap.size := by obtain ⟨m, hm⟩ := k0; exact DataW.trod_lt m _ _ _ hm
  obtain ⟨A0_0, c0_0, l0_0, A0_1, c0_1, l0_1, A0_2, c0_2, l0_2, foot0, ver0, rfl, i0_0, i0_1, i0_2, j0_0, j0_1, j0_2, rz0⟩ := Bk.open_zone (hval 0 26 v0 rfl rfl) h0
  obtain ⟨a1, rfl, rfl, rfl, w1⟩ := open_int Try.underlying3 (hval 1 3 v1 rfl rfl) h1
  clear hA0 hval0 hsz0 hsz
  refine (Bk.back_walk A0_0 c0_0 l0_0 A0_1 c0_1 l0_1 A0_2 c0_2 l0_2 foot0 ver0 a1 W i0_0 i0_1 i0_2 j0_0 j0_1 j0_2 rz0).mono fun e W' ⟨he, bel⟩ => ?_
  subst he
  exact ⟨_, rfl, _, _, _, [], _, [], hW', trodAll_mk1 (shut_bool Try.underlying4 _), (trodAll_cons_mk (Below.trod laidOut (by kernel_rfl) (of_decide_eq_true (by kernel_rfl)) k0 bel lt0) (trodAll_cons_mk (shut_int Try.underlying3 w1) trodAll_mk0)), rfl, bel.frame _, fun h => by cases h⟩
theorem over : Rows.blockBackRow.holds Try.pinned (OpenSpec.ofChange Rows.blockBackSpec) :=
  OpenClaim.holds_of_wide 4 Try.f4 rfl rfl rfl rfl rfl rfl rfl ⟨rfl, rfl, rfl, rfl, rfl⟩ rfl rfl rfl rfl rfl (by kernel_rfl) Try.func4 (by kernel_rfl)
    (of_decide_eq_true (by kernel_rfl)) (by unfold Func.isWrapper; first | (rw [if_pos (by decide +kernel)]; kernel_rfl) | (rw [if_neg (by decide +kernel)]; exact ⟨rfl, rfl⟩))
    (fun os started H enc _ => lifted os started H enc)
theorem proved : Rows.BlockBackSaid := over
#print axioms proved
end Go.Proofs.Ytpgjcnjojfehjaa.blockBack
namespace Go.Proofs.Ytpgjcnjojfehjaa
/-- The row, under a short name, for the claim. -/
theorem blockBack_holds : Rows.BlockBackSaid := blockBack.proved
end Go.Proofs.Ytpgjcnjojfehjaa
