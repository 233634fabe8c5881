/- Texts of chapter 16 laid together (wip/block/merge16.py): SizesHand, LawBlockSizes. -/
import Derived.Test.YtpgjcnjojfehjaaM3
import Derived.Outline
import Derived.Test.YtpgjcnjojfehjaaRows
import Derived.WalkKit
import Derived.ProofKit
import Derived.OpenShut
import Derived.ShutString
import Derived.ChangeOld
import Derived.Below
import Derived.SizedLaws
import Derived.ChangeSlices
import Derived.Test.YtpgjcnjojfehjaaWSized
/- BlockSizes: the walk by hand; condition: none. -/
namespace Go.Proofs.Ytpgjcnjojfehjaa.Bk
open Go.RowKit Go.Proofs.YtpgjcnjojfehjaaW.PrintWords Go.Proofs.YtpgjcnjojfehjaaW.PrintLast Go.Proofs.YtpgjcnjojfehjaaW.PrintMore Oct Kx Ab PBlBack

theorem put8 (n : Int) : (putS [] n 8).2 = true := by
  unfold putS
  rw [if_pos (show mayS n 8 = true by unfold mayS; simp)]
theorem fitT8 (tr : List S48) : fit (numsT tr 8) = true := by
  unfold fit numsT
  rw [List.all_map, List.all_eq_true]
  exact fun t _ => put8 t.f0
theorem fitL8 : ∀ lp : List S50, fit (numsL lp 4) = true → fit (numsL lp 8) = true
  | [], _ => rfl
  | c :: lp, h => by
    have e : ∀ s, numsL (c :: lp) s = (c.f0, s) :: (c.f1, 4) :: numsL lp s := fun _ => rfl
    rw [e] at h ⊢
    have f1 := fit_tail h
    have h1 := fitL8 lp (fit_tail f1)
    rw [fit_cons, Bool.and_eq_true] at f1
    rw [fit_cons, fit_cons, h1, f1.1, put8]
    rfl
theorem enc8 {ty : List S46} {tr : List S48} {lp : List S50} {ver : Int} (hg : encG ty tr lp ver 4 = true) : encG ty tr lp ver 8 = true := by
  obtain ⟨h1, h2, -, -, h5, h6, h7⟩ := enc_parts hg
  unfold encG countN numsA
  rw [fit_app, fit_app, fitT8, h5, h6, fitL8 lp h7, h1, h2]
  rfl
theorem enc5 (ty : List S46) (tr : List S48) (lp : List S50) (ver : Int) : encG ty tr lp ver 5 = false := by
  unfold encG
  rw [show decide ((5 : Int) = 4 ∨ (5 : Int) = 8) = false from rfl, Bool.and_false, Bool.false_and]
theorem len_sizes {ty : List S46} {tr : List S48} {lp : List S50} {foot : ByteArray} {ver : Int} (hb : fewB ty tr lp foot = true) (hg : encG ty tr lp ver 4 = true) : (((bodyN ty tr lp 8).length : Int) == wrap64 (wrap64 (((bodyN ty tr lp 4).length : Int) + wrap64 (4 * (tr.length : Int))) + wrap64 (4 * (lp.length : Int)))) = true := by
  have hg8 := enc8 hg
  obtain ⟨b0, b1, b2, b3, -⟩ := few_parts hb
  have l4 := body_len hg
  have l8 := body_len hg8
  have s4 := body_small b1 b2 b3 hg
  have hr := (enc_parts hg).2.1
  unfold sizeF at l4 l8
  rw [hr] at l4 l8
  simp only at l4 l8
  rw [if_pos (by simp)] at l4
  rw [if_pos (by simp)] at l8
  rw [R_mod (4 * (tr.length : Int)) (by omega), R_mod (4 * (lp.length : Int)) (by omega), R_mod (((bodyN ty tr lp 4).length : Int) + 4 * (tr.length : Int)) (by omega), R_mod (((bodyN ty tr lp 4).length : Int) + 4 * (tr.length : Int) + 4 * (lp.length : Int)) (by omega), beq_iff_eq]
  omega
set_option maxHeartbeats 4000000 in
set_option maxRecDepth 100000 in
theorem sizes_few (A0 : Option Addr) (c0 : Nat) (ty : List S46) (A1 : Option Addr) (c1 : Nat) (tr : List S48) (A2 : Option Addr) (c2 : Nat) (lp : List S50) (foot : ByteArray) (ver : Int) (w : World)
    (i0 : ty.length ≤ c0) (i1 : tr.length ≤ c1) (i2 : lp.length ≤ c2) (j0 : Kd.C k46 w A0 ty.length ty) (j1 : Kd.C k48 w A1 tr.length tr) (j2 : Kd.C k50 w A2 lp.length lp) (hb : fewB ty tr lp foot = false) :
    Calls Try.prog 5 #[.agg #[.slice A0 ty.length c0, .slice A1 tr.length c1, .slice A2 lp.length c2, .string foot, .int .i64 ver]] w fun e w' => e = .returned (.bool true) ∧ Below w.heap.size w w' := by
  obtain ⟨k1, h1⟩ := few_ev ty tr lp foot ver
  have HSM := Aside0.mk (fun W => small_is true W rfl)
  have HFEW := Aside0.mk (fun W j0 j1 j2 => epactlaw16_Few.calls k1 A0 c0 ty A1 c1 tr A2 c2 lp foot ver false W j0 i0 j1 i1 j2 i2 ((h1 k1 (Nat.le_refl _)).trans (by rw [hb])))
  clear hb
  have HR0 := Aside0.mk j0
  have HR1 := Aside0.mk j1
  have HR2 := Aside0.mk j2
  clear j0 j1 j2 i0 i1 i2 h1
  go_enter Try.func5, Try.ntmps5
  have HB_0 := Aside0.mk (Below.refl w.heap.size w)
  go_wp2_with ((with_reducible refine gate_dst (N := 1) rfl ?_); refine box_event ?hg (N := 1) ?hd (cs := #[.slice A0 ty.length c0, .slice A1 tr.length c1, .slice A2 lp.length c2, .string foot, .int .i64 ver]) (t := 26) ?hr ?_; (case hd => rfl); (case hg => rfl); (case hr => first | (go_simp; done) | (go_simp; rfl)); intro gz hg_ w1 hbox hb_; have GZ : Aside0 (w.heap.size ≤ gz) := ⟨Nat.le_of_eq hg_.symm⟩; have HB_1 := Aside0.mk (below_step HB_0.out hb_); clear HB_0; have Z_1 := Aside0.mk (hbox); clear hbox hb_ hg_)
  refine (HSM.out _).mono ?_
  rintro e w2 ⟨rfl, hb_⟩
  have HB_2 := Aside0.mk (below_step HB_1.out hb_)
  have Z_2 := Aside0.mk (blk_below Z_1.out hb_)
  clear HB_1 Z_1
  clear hb_ HSM
  obtain ⟨hz0, hz1, hz2, hz3, hz4⟩ := zone_cells Z_2.out
  go_wp2_with fail
  refine (HFEW.out _ (Kd.C_below HR0.out HB_2.out) (Kd.C_below HR1.out HB_2.out) (Kd.C_below HR2.out HB_2.out)).mono ?_
  rintro e w3 ⟨rfl, hb_⟩
  have HB_3 := Aside0.mk (below_step HB_2.out hb_)
  have Z_3 := Aside0.mk (blk_below Z_2.out hb_)
  clear HB_2 Z_2
  clear hz0 hz1 hz2 hz3 hz4
  clear hb_ HFEW
  go_wp2_with fail
  go_ret
  all_goals exact ⟨rfl, HB_3.out⟩
set_option maxHeartbeats 4000000 in
set_option maxRecDepth 100000 in
theorem sizes_no (A0 : Option Addr) (c0 : Nat) (ty : List S46) (A1 : Option Addr) (c1 : Nat) (tr : List S48) (A2 : Option Addr) (c2 : Nat) (lp : List S50) (foot : ByteArray) (ver : Int) (w : World)
    (i0 : ty.length ≤ c0) (i1 : tr.length ≤ c1) (i2 : lp.length ≤ c2) (j0 : Kd.C k46 w A0 ty.length ty) (j1 : Kd.C k48 w A1 tr.length tr) (j2 : Kd.C k50 w A2 lp.length lp) (hb : fewB ty tr lp foot = true) (hg : encG ty tr lp ver 4 = false) :
    Calls Try.prog 5 #[.agg #[.slice A0 ty.length c0, .slice A1 tr.length c1, .slice A2 lp.length c2, .string foot, .int .i64 ver]] w fun e w' => e = .returned (.bool true) ∧ Below w.heap.size w w' := by
  obtain ⟨k1, h1⟩ := few_ev ty tr lp foot ver
  have HSM := Aside0.mk (fun W => small_is true W rfl)
  have HFEW := Aside0.mk (fun W j0 j1 j2 => epactlaw16_Few.calls k1 A0 c0 ty A1 c1 tr A2 c2 lp foot ver true W j0 i0 j1 i1 j2 i2 ((h1 k1 (Nat.le_refl _)).trans (by rw [hb])))
  have hok := few_ok hb
  have HE4 := Aside0.mk (fun W j0 j1 j2 => encode_is A0 c0 ty A1 c1 tr A2 c2 lp foot ver 4 [] false W j0 i0 j1 i1 j2 i2 (by unfold encF encN; rw [hok, hg]))
  obtain ⟨eb, eo, he⟩ : ∃ a b, encF ty tr lp foot ver 8 = some (a, b) := ⟨_, _, by unfold encF; rw [hok]⟩
  have HE8 := Aside0.mk (fun W j0 j1 j2 => encode_is A0 c0 ty A1 c1 tr A2 c2 lp foot ver 8 eb eo W j0 i0 j1 i1 j2 i2 (he))
  obtain ⟨n1, n2, n3, n4, n5, n6, n7, n8, hn⟩ : ∃ n1 n2 n3 n4 n5 n6 n7 n8, countF ty tr lp foot ver = some (n1, n2, n3, n4, n5, n6, n7, n8) := ⟨_, _, _, _, _, _, _, _, by unfold countF; rw [hok]⟩
  have HCT := Aside0.mk (fun W j0 j1 j2 => count_is A0 c0 ty A1 c1 tr A2 c2 lp foot ver n1 n2 n3 n4 n5 n6 n7 n8 W j0 i0 j1 i1 j2 i2 hn)
  clear hb hg hok he hn
  have HR0 := Aside0.mk j0
  have HR1 := Aside0.mk j1
  have HR2 := Aside0.mk j2
  clear j0 j1 j2 i0 i1 i2 h1
  go_enter Try.func5, Try.ntmps5
  have HB_0 := Aside0.mk (Below.refl w.heap.size w)
  go_wp2_with ((with_reducible refine gate_dst (N := 1) rfl ?_); refine box_event ?hg (N := 1) ?hd (cs := #[.slice A0 ty.length c0, .slice A1 tr.length c1, .slice A2 lp.length c2, .string foot, .int .i64 ver]) (t := 26) ?hr ?_; (case hd => rfl); (case hg => rfl); (case hr => first | (go_simp; done) | (go_simp; rfl)); intro gz hg_ w1 hbox hb_; have GZ : Aside0 (w.heap.size ≤ gz) := ⟨Nat.le_of_eq hg_.symm⟩; have HB_1 := Aside0.mk (below_step HB_0.out hb_); clear HB_0; have Z_1 := Aside0.mk (hbox); clear hbox hb_ hg_)
  refine (HSM.out _).mono ?_
  rintro e w2 ⟨rfl, hb_⟩
  have HB_2 := Aside0.mk (below_step HB_1.out hb_)
  have Z_2 := Aside0.mk (blk_below Z_1.out hb_)
  clear HB_1 Z_1
  clear hb_ HSM
  obtain ⟨hz0, hz1, hz2, hz3, hz4⟩ := zone_cells Z_2.out
  go_wp2_with fail
  refine (HFEW.out _ (Kd.C_below HR0.out HB_2.out) (Kd.C_below HR1.out HB_2.out) (Kd.C_below HR2.out HB_2.out)).mono ?_
  rintro e w3 ⟨rfl, hb_⟩
  have HB_3 := Aside0.mk (below_step HB_2.out hb_)
  have Z_3 := Aside0.mk (blk_below Z_2.out hb_)
  clear HB_2 Z_2
  clear hz0 hz1 hz2 hz3 hz4
  clear hb_ HFEW
  obtain ⟨hz0, hz1, hz2, hz3, hz4⟩ := zone_cells Z_3.out
  go_wp2_with fail
  refine (HE4.out _ (Kd.C_below HR0.out HB_3.out) (Kd.C_below HR1.out HB_3.out) (Kd.C_below HR2.out HB_3.out)).mono ?_
  rintro e w4 ⟨v0, rfl, hv, hb_⟩
  obtain ⟨Ae, ce, rfl⟩ := Kd.R_slice hv
  have HB_4 := Aside0.mk (below_step HB_3.out hb_)
  have Z_4 := Aside0.mk (blk_below Z_3.out hb_)
  clear HB_3 Z_3
  clear hz0 hz1 hz2 hz3 hz4
  clear hb_ hv HE4
  obtain ⟨hz0, hz1, hz2, hz3, hz4⟩ := zone_cells Z_4.out
  go_wp2_with fail
  refine (HE8.out _ (Kd.C_below HR0.out HB_4.out) (Kd.C_below HR1.out HB_4.out) (Kd.C_below HR2.out HB_4.out)).mono ?_
  rintro e w5 ⟨v0, rfl, hv, hb_⟩
  obtain ⟨AB, cB, rfl⟩ := Kd.R_slice hv
  have HB_5 := Aside0.mk (below_step HB_4.out hb_)
  have Z_5 := Aside0.mk (blk_below Z_4.out hb_)
  clear HB_4 Z_4
  clear hz0 hz1 hz2 hz3 hz4
  have B_5 := Aside0.mk (hv)
  clear hb_ hv HE8
  obtain ⟨hz0, hz1, hz2, hz3, hz4⟩ := zone_cells Z_5.out
  go_wp2_with fail
  refine (HCT.out _ (Kd.C_below HR0.out HB_5.out) (Kd.C_below HR1.out HB_5.out) (Kd.C_below HR2.out HB_5.out)).mono ?_
  rintro e w6 ⟨rfl, hb_⟩
  have HB_6 := Aside0.mk (below_step HB_5.out hb_)
  have Z_6 := Aside0.mk (blk_below Z_5.out hb_)
  have B_6 := Aside0.mk (Kd.R_below B_5.out hb_)
  clear HB_5 Z_5 B_5
  clear hz0 hz1 hz2 hz3 hz4
  clear hb_ HCT
  go_upto_region 7 with ((with_reducible refine gate_dst (N := 9) rfl ?_); refine box_event ?hg (N := 9) ?hd (cs := #[.int .i64 0, .int .i64 0, .int .i64 0, .int .i64 0, .int .i64 0, .int .i64 0, .int .i64 0]) (t := 28) ?hr ?_; (case hd => rfl); (case hg => rfl); (case hr => first | (go_simp; done) | (go_simp; rfl)); intro gh hg_ w7 hbox hb_; have HN := Aside0.mk hb_; have HBX := Aside0.mk hbox; have GH : Aside0 (w6.heap.size ≤ gh) := ⟨Nat.le_of_eq hg_.symm⟩; obtain ⟨hy0, hy1, hy2, hy3, hy4, hy5, hy6⟩ := cells7 hbox; have f0 := blk_frozen hbox 0; have f1 := blk_frozen hbox 1; have f2 := blk_frozen hbox 2; have f3 := blk_frozen hbox 3; have f4 := blk_frozen hbox 4; have f5 := blk_frozen hbox 5; have f6 := blk_frozen hbox 6; clear hbox hb_ hg_)
  have HX := Aside0.mk (set7_below HN.out GH.out (.int .i64 n1) (.int .i64 n2) (.int .i64 n3) (.int .i64 n4) (.int .i64 n5) (.int .i64 n6) (.int .i64 n7))
  have HY := Aside0.mk (set7_blk HBX.out (.int .i64 n1) (.int .i64 n2) (.int .i64 n3) (.int .i64 n4) (.int .i64 n5) (.int .i64 n6) (.int .i64 n7))
  unfold set7 at HX HY
  clear HBX HN hy0 f0 hy1 f1 hy2 f2 hy3 f3 hy4 f4 hy5 f5 hy6 f6
  generalize (((((((w7.setCell ⟨gh, 0, none⟩ (.int .i64 n1)).setCell ⟨gh, 1, none⟩ (.int .i64 n2)).setCell ⟨gh, 2, none⟩ (.int .i64 n3)).setCell ⟨gh, 3, none⟩ (.int .i64 n4)).setCell ⟨gh, 4, none⟩ (.int .i64 n5)).setCell ⟨gh, 5, none⟩ (.int .i64 n6)).setCell ⟨gh, 6, none⟩ (.int .i64 n7)) = w8 at *
  have HB_8 := Aside0.mk (below_step HB_6.out HX.out)
  have Z_8 := Aside0.mk (blk_below Z_6.out HX.out)
  have B_8 := Aside0.mk (Kd.R_below B_6.out HX.out)
  clear HB_6 Z_6 B_6
  have H_8 := Aside0.mk (HY.out)
  clear HX HY
  go_wp2_with fail
  go_ret
  all_goals exact ⟨rfl, HB_8.out⟩
set_option maxHeartbeats 4000000 in
set_option maxRecDepth 100000 in
theorem sizes_yes (A0 : Option Addr) (c0 : Nat) (ty : List S46) (A1 : Option Addr) (c1 : Nat) (tr : List S48) (A2 : Option Addr) (c2 : Nat) (lp : List S50) (foot : ByteArray) (ver : Int) (w : World)
    (i0 : ty.length ≤ c0) (i1 : tr.length ≤ c1) (i2 : lp.length ≤ c2) (j0 : Kd.C k46 w A0 ty.length ty) (j1 : Kd.C k48 w A1 tr.length tr) (j2 : Kd.C k50 w A2 lp.length lp) (hz : RZ ty tr lp) (hb : fewB ty tr lp foot = true) (hg : encG ty tr lp ver 4 = true) :
    Calls Try.prog 5 #[.agg #[.slice A0 ty.length c0, .slice A1 tr.length c1, .slice A2 lp.length c2, .string foot, .int .i64 ver]] w fun e w' => e = .returned (.bool true) ∧ Below w.heap.size w w' := by
  obtain ⟨k1, h1⟩ := few_ev ty tr lp foot ver
  have HSM := Aside0.mk (fun W => small_is true W rfl)
  have HFEW := Aside0.mk (fun W j0 j1 j2 => epactlaw16_Few.calls k1 A0 c0 ty A1 c1 tr A2 c2 lp foot ver true W j0 i0 j1 i1 j2 i2 ((h1 k1 (Nat.le_refl _)).trans (by rw [hb])))
  have hok := few_ok hb
  have hg8 := enc8 hg
  obtain ⟨b0, b1, b2, b3, -⟩ := few_parts hb
  obtain ⟨k2, h2⟩ := same_ev ty tr lp ⟨#[]⟩ ver (by omega) (by omega) (by omega)
  have HE4 := Aside0.mk (fun W j0 j1 j2 => encode_is A0 c0 ty A1 c1 tr A2 c2 lp foot ver 4 (bodyN ty tr lp 4) true W j0 i0 j1 i1 j2 i2 (by unfold encF encN; rw [hok, hg]))
  have HE8 := Aside0.mk (fun W j0 j1 j2 => encode_is A0 c0 ty A1 c1 tr A2 c2 lp foot ver 8 (bodyN ty tr lp 8) true W j0 i0 j1 i1 j2 i2 (by unfold encF encN; rw [hok, hg8]))
  have HE5 := Aside0.mk (fun W j0 j1 j2 => encode_is A0 c0 ty A1 c1 tr A2 c2 lp foot ver 5 [] false W j0 i0 j1 i1 j2 i2 (by unfold encF encN; rw [hok, enc5]))
  have HCT := Aside0.mk (fun W j0 j1 j2 => count_is A0 c0 ty A1 c1 tr A2 c2 lp foot ver _ _ _ _ _ _ _ _ W j0 i0 j1 i1 j2 i2 (count_back (foot := foot) hok hg))
  have HD4 := Aside0.mk (fun A c W h hc => decode_is ver 0 0 lp.length tr.length ty.length (poolT (namesL ty)).1.size A c (bodyN ty tr lp 4) 4 ty tr lp ⟨#[]⟩ ver true W h hc (dec_back hb hz hg))
  have HD8 := Aside0.mk (fun A c W h hc => decode_is ver 0 0 lp.length tr.length ty.length (poolT (namesL ty)).1.size A c (bodyN ty tr lp 8) 8 ty tr lp ⟨#[]⟩ ver true W h hc (dec_back hb hz hg8))
  have hL := len_sizes hb hg
  generalize bodyN ty tr lp 4 = b4 at *
  generalize bodyN ty tr lp 8 = b8 at *
  generalize ((poolT (namesL ty)).1.size : Int) = pn at *
  have HL := Aside0.mk hL
  have HSAME := Aside0.mk (fun A0' c0' A1' c1' A2' c2' A0 c0 A1 c1 A2 c2 W j0 e0 j1 e1 j2 e2 g0 i0 g1 i1 g2 i2 => epactref16_Same.calls k2 A0' c0' ty A1' c1' tr A2' c2' lp ⟨#[]⟩ ver A0 c0 ty A1 c1 tr A2 c2 lp ⟨#[]⟩ ver true W j0 e0 j1 e1 j2 e2 g0 i0 g1 i1 g2 i2 (h2 k2 (Nat.le_refl _)))
  clear hb hg hok hg8 hL h2 b0 b1 b2 b3 hz
  have HR0 := Aside0.mk j0
  have HR1 := Aside0.mk j1
  have HR2 := Aside0.mk j2
  clear j0 j1 j2 i0 i1 i2 h1
  go_enter Try.func5, Try.ntmps5
  have HB_0 := Aside0.mk (Below.refl w.heap.size w)
  go_wp2_with ((with_reducible refine gate_dst (N := 1) rfl ?_); refine box_event ?hg (N := 1) ?hd (cs := #[.slice A0 ty.length c0, .slice A1 tr.length c1, .slice A2 lp.length c2, .string foot, .int .i64 ver]) (t := 26) ?hr ?_; (case hd => rfl); (case hg => rfl); (case hr => first | (go_simp; done) | (go_simp; rfl)); intro gz hg_ w1 hbox hb_; have GZ : Aside0 (w.heap.size ≤ gz) := ⟨Nat.le_of_eq hg_.symm⟩; have HB_1 := Aside0.mk (below_step HB_0.out hb_); clear HB_0; have Z_1 := Aside0.mk (hbox); clear hbox hb_ hg_)
  refine (HSM.out _).mono ?_
  rintro e w2 ⟨rfl, hb_⟩
  have HB_2 := Aside0.mk (below_step HB_1.out hb_)
  have Z_2 := Aside0.mk (blk_below Z_1.out hb_)
  clear HB_1 Z_1
  clear hb_ HSM
  obtain ⟨hz0, hz1, hz2, hz3, hz4⟩ := zone_cells Z_2.out
  go_wp2_with fail
  refine (HFEW.out _ (Kd.C_below HR0.out HB_2.out) (Kd.C_below HR1.out HB_2.out) (Kd.C_below HR2.out HB_2.out)).mono ?_
  rintro e w3 ⟨rfl, hb_⟩
  have HB_3 := Aside0.mk (below_step HB_2.out hb_)
  have Z_3 := Aside0.mk (blk_below Z_2.out hb_)
  clear HB_2 Z_2
  clear hz0 hz1 hz2 hz3 hz4
  clear hb_ HFEW
  obtain ⟨hz0, hz1, hz2, hz3, hz4⟩ := zone_cells Z_3.out
  go_wp2_with fail
  refine (HE4.out _ (Kd.C_below HR0.out HB_3.out) (Kd.C_below HR1.out HB_3.out) (Kd.C_below HR2.out HB_3.out)).mono ?_
  rintro e w4 ⟨v0, rfl, hv, hb_⟩
  obtain ⟨AA, cA, rfl⟩ := Kd.R_slice hv
  have HB_4 := Aside0.mk (below_step HB_3.out hb_)
  have Z_4 := Aside0.mk (blk_below Z_3.out hb_)
  clear HB_3 Z_3
  clear hz0 hz1 hz2 hz3 hz4
  have A_4 := Aside0.mk (hv)
  clear hb_ hv HE4
  obtain ⟨hz0, hz1, hz2, hz3, hz4⟩ := zone_cells Z_4.out
  go_wp2_with fail
  refine (HE8.out _ (Kd.C_below HR0.out HB_4.out) (Kd.C_below HR1.out HB_4.out) (Kd.C_below HR2.out HB_4.out)).mono ?_
  rintro e w5 ⟨v0, rfl, hv, hb_⟩
  obtain ⟨AB, cB, rfl⟩ := Kd.R_slice hv
  have HB_5 := Aside0.mk (below_step HB_4.out hb_)
  have Z_5 := Aside0.mk (blk_below Z_4.out hb_)
  have A_5 := Aside0.mk (Kd.R_below A_4.out hb_)
  clear HB_4 Z_4 A_4
  clear hz0 hz1 hz2 hz3 hz4
  have B_5 := Aside0.mk (hv)
  clear hb_ hv HE8
  obtain ⟨hz0, hz1, hz2, hz3, hz4⟩ := zone_cells Z_5.out
  go_wp2_with fail
  refine (HCT.out _ (Kd.C_below HR0.out HB_5.out) (Kd.C_below HR1.out HB_5.out) (Kd.C_below HR2.out HB_5.out)).mono ?_
  rintro e w6 ⟨rfl, hb_⟩
  have HB_6 := Aside0.mk (below_step HB_5.out hb_)
  have Z_6 := Aside0.mk (blk_below Z_5.out hb_)
  have A_6 := Aside0.mk (Kd.R_below A_5.out hb_)
  have B_6 := Aside0.mk (Kd.R_below B_5.out hb_)
  clear HB_5 Z_5 A_5 B_5
  clear hz0 hz1 hz2 hz3 hz4
  clear hb_ HCT
  go_wp2_with ((with_reducible refine gate_dst (N := 9) rfl ?_); refine box_event ?hg (N := 9) ?hd (cs := #[.int .i64 0, .int .i64 0, .int .i64 0, .int .i64 0, .int .i64 0, .int .i64 0, .int .i64 0]) (t := 28) ?hr ?_; (case hd => rfl); (case hg => rfl); (case hr => first | (go_simp; done) | (go_simp; rfl)); intro gh hg_ w7 hbox hb_; have HN := Aside0.mk hb_; have HBX := Aside0.mk hbox; have GH : Aside0 (w6.heap.size ≤ gh) := ⟨Nat.le_of_eq hg_.symm⟩; obtain ⟨hy0, hy1, hy2, hy3, hy4, hy5, hy6⟩ := cells7 hbox; have f0 := blk_frozen hbox 0; have f1 := blk_frozen hbox 1; have f2 := blk_frozen hbox 2; have f3 := blk_frozen hbox 3; have f4 := blk_frozen hbox 4; have f5 := blk_frozen hbox 5; have f6 := blk_frozen hbox 6; clear hbox hb_ hg_)
  have HX := Aside0.mk (set7_below HN.out GH.out (.int .i64 ver) (.int .i64 0) (.int .i64 0) (.int .i64 lp.length) (.int .i64 tr.length) (.int .i64 ty.length) (.int .i64 pn))
  have HY := Aside0.mk (set7_blk HBX.out (.int .i64 ver) (.int .i64 0) (.int .i64 0) (.int .i64 lp.length) (.int .i64 tr.length) (.int .i64 ty.length) (.int .i64 pn))
  unfold set7 at HX HY
  clear HBX HN hy0 f0 hy1 f1 hy2 f2 hy3 f3 hy4 f4 hy5 f5 hy6 f6
  generalize (((((((w7.setCell ⟨gh, 0, none⟩ (.int .i64 ver)).setCell ⟨gh, 1, none⟩ (.int .i64 0)).setCell ⟨gh, 2, none⟩ (.int .i64 0)).setCell ⟨gh, 3, none⟩ (.int .i64 lp.length)).setCell ⟨gh, 4, none⟩ (.int .i64 tr.length)).setCell ⟨gh, 5, none⟩ (.int .i64 ty.length)).setCell ⟨gh, 6, none⟩ (.int .i64 pn)) = w8 at *
  have HB_8 := Aside0.mk (below_step HB_6.out HX.out)
  have Z_8 := Aside0.mk (blk_below Z_6.out HX.out)
  have A_8 := Aside0.mk (Kd.R_below A_6.out HX.out)
  have B_8 := Aside0.mk (Kd.R_below B_6.out HX.out)
  clear HB_6 Z_6 A_6 B_6
  have H_8 := Aside0.mk (HY.out)
  clear HX HY
  refine (HD4.out AA cA _ (Kd.R_reads' A_8.out).2.2 (Kd.R_reads' A_8.out).2.1).mono ?_
  rintro e w9 ⟨v0, v1, v2, rfl, hr0, hr1, hr2, hb_⟩
  obtain ⟨X0, Xc0, rfl⟩ := Kd.R_slice hr0
  obtain ⟨X1, Xc1, rfl⟩ := Kd.R_slice hr1
  obtain ⟨X2, Xc2, rfl⟩ := Kd.R_slice hr2
  have HB_9 := Aside0.mk (below_step HB_8.out hb_)
  have Z_9 := Aside0.mk (blk_below Z_8.out hb_)
  have A_9 := Aside0.mk (Kd.R_below A_8.out hb_)
  have B_9 := Aside0.mk (Kd.R_below B_8.out hb_)
  have H_9 := Aside0.mk (blk_below H_8.out hb_)
  clear HB_8 Z_8 A_8 B_8 H_8
  have X0_9 := Aside0.mk (hr0)
  have X1_9 := Aside0.mk (hr1)
  have X2_9 := Aside0.mk (hr2)
  clear hb_ hr0 hr1 hr2 HD4
  go_upto_region 11 with ((with_reducible refine gate_dst (N := 11) rfl ?_); refine box_event ?hg (N := 11) ?hd (cs := #[.slice none 0 0, .slice none 0 0, .slice none 0 0, .string ⟨#[]⟩, .int .i64 0]) (t := 26) ?hr ?_; (case hd => rfl); (case hg => rfl); (case hr => first | (go_simp; done) | (go_simp; rfl)); intro gx hg_ w10 hbox hb_; have HN := Aside0.mk hb_; have HBX := Aside0.mk hbox; have GX : Aside0 (w9.heap.size ≤ gx) := ⟨Nat.le_of_eq hg_.symm⟩; obtain ⟨hy0, hy1, hy2, hy3, hy4⟩ := zone_cells hbox; have f0 := blk_frozen hbox 0; have f1 := blk_frozen hbox 1; have f2 := blk_frozen hbox 2; have f3 := blk_frozen hbox 3; have f4 := blk_frozen hbox 4; clear hbox hb_ hg_)
  have HX := Aside0.mk (set5_below HN.out GX.out (.slice X0 ty.length Xc0) (.slice X1 tr.length Xc1) (.slice X2 lp.length Xc2) (.string ⟨#[]⟩) (.int .i64 ver))
  have HY := Aside0.mk (set5_blk HBX.out (.slice X0 ty.length Xc0) (.slice X1 tr.length Xc1) (.slice X2 lp.length Xc2) (.string ⟨#[]⟩) (.int .i64 ver))
  unfold set5 at HX HY
  clear HBX HN hy0 f0 hy1 f1 hy2 f2 hy3 f3 hy4 f4
  generalize (((((w10.setCell ⟨gx, 0, none⟩ (.slice X0 ty.length Xc0)).setCell ⟨gx, 1, none⟩ (.slice X1 tr.length Xc1)).setCell ⟨gx, 2, none⟩ (.slice X2 lp.length Xc2)).setCell ⟨gx, 3, none⟩ (.string ⟨#[]⟩)).setCell ⟨gx, 4, none⟩ (.int .i64 ver)) = w11 at *
  have HB_11 := Aside0.mk (below_step HB_9.out HX.out)
  have Z_11 := Aside0.mk (blk_below Z_9.out HX.out)
  have A_11 := Aside0.mk (Kd.R_below A_9.out HX.out)
  have B_11 := Aside0.mk (Kd.R_below B_9.out HX.out)
  have H_11 := Aside0.mk (blk_below H_9.out HX.out)
  have X0_11 := Aside0.mk (Kd.R_below X0_9.out HX.out)
  have X1_11 := Aside0.mk (Kd.R_below X1_9.out HX.out)
  have X2_11 := Aside0.mk (Kd.R_below X2_9.out HX.out)
  clear HB_9 Z_9 A_9 B_9 H_9 X0_9 X1_9 X2_9
  have X_11 := Aside0.mk (HY.out)
  clear HX HY
  obtain ⟨hx0, hx1, hx2, hx3, hx4, hx5, hx6⟩ := cells7 H_11.out
  go_wp2_with fail
  refine (HD8.out AB cB _ (Kd.R_reads' B_11.out).2.2 (Kd.R_reads' B_11.out).2.1).mono ?_
  rintro e w12 ⟨v0, v1, v2, rfl, hr0, hr1, hr2, hb_⟩
  obtain ⟨Y0, Yc0, rfl⟩ := Kd.R_slice hr0
  obtain ⟨Y1, Yc1, rfl⟩ := Kd.R_slice hr1
  obtain ⟨Y2, Yc2, rfl⟩ := Kd.R_slice hr2
  have HB_12 := Aside0.mk (below_step HB_11.out hb_)
  have Z_12 := Aside0.mk (blk_below Z_11.out hb_)
  have A_12 := Aside0.mk (Kd.R_below A_11.out hb_)
  have B_12 := Aside0.mk (Kd.R_below B_11.out hb_)
  have H_12 := Aside0.mk (blk_below H_11.out hb_)
  have X0_12 := Aside0.mk (Kd.R_below X0_11.out hb_)
  have X1_12 := Aside0.mk (Kd.R_below X1_11.out hb_)
  have X2_12 := Aside0.mk (Kd.R_below X2_11.out hb_)
  have X_12 := Aside0.mk (blk_below X_11.out hb_)
  clear HB_11 Z_11 A_11 B_11 H_11 X0_11 X1_11 X2_11 X_11
  clear hx0 hx1 hx2 hx3 hx4 hx5 hx6
  have Y0_12 := Aside0.mk (hr0)
  have Y1_12 := Aside0.mk (hr1)
  have Y2_12 := Aside0.mk (hr2)
  clear hb_ hr0 hr1 hr2 HD8
  go_upto_region 12 with ((with_reducible refine gate_dst (N := 13) rfl ?_); refine box_event ?hg (N := 13) ?hd (cs := #[.slice none 0 0, .slice none 0 0, .slice none 0 0, .string ⟨#[]⟩, .int .i64 0]) (t := 26) ?hr ?_; (case hd => rfl); (case hg => rfl); (case hr => first | (go_simp; done) | (go_simp; rfl)); intro gy hg_ w13 hbox hb_; have HN := Aside0.mk hb_; have HBX := Aside0.mk hbox; have GY : Aside0 (w12.heap.size ≤ gy) := ⟨Nat.le_of_eq hg_.symm⟩; obtain ⟨hy0, hy1, hy2, hy3, hy4⟩ := zone_cells hbox; have f0 := blk_frozen hbox 0; have f1 := blk_frozen hbox 1; have f2 := blk_frozen hbox 2; have f3 := blk_frozen hbox 3; have f4 := blk_frozen hbox 4; clear hbox hb_ hg_)
  have HX := Aside0.mk (set5_below HN.out GY.out (.slice Y0 ty.length Yc0) (.slice Y1 tr.length Yc1) (.slice Y2 lp.length Yc2) (.string ⟨#[]⟩) (.int .i64 ver))
  have HY := Aside0.mk (set5_blk HBX.out (.slice Y0 ty.length Yc0) (.slice Y1 tr.length Yc1) (.slice Y2 lp.length Yc2) (.string ⟨#[]⟩) (.int .i64 ver))
  unfold set5 at HX HY
  clear HBX HN hy0 f0 hy1 f1 hy2 f2 hy3 f3 hy4 f4
  generalize (((((w13.setCell ⟨gy, 0, none⟩ (.slice Y0 ty.length Yc0)).setCell ⟨gy, 1, none⟩ (.slice Y1 tr.length Yc1)).setCell ⟨gy, 2, none⟩ (.slice Y2 lp.length Yc2)).setCell ⟨gy, 3, none⟩ (.string ⟨#[]⟩)).setCell ⟨gy, 4, none⟩ (.int .i64 ver)) = w14 at *
  have HB_14 := Aside0.mk (below_step HB_12.out HX.out)
  have Z_14 := Aside0.mk (blk_below Z_12.out HX.out)
  have A_14 := Aside0.mk (Kd.R_below A_12.out HX.out)
  have B_14 := Aside0.mk (Kd.R_below B_12.out HX.out)
  have H_14 := Aside0.mk (blk_below H_12.out HX.out)
  have X0_14 := Aside0.mk (Kd.R_below X0_12.out HX.out)
  have X1_14 := Aside0.mk (Kd.R_below X1_12.out HX.out)
  have X2_14 := Aside0.mk (Kd.R_below X2_12.out HX.out)
  have X_14 := Aside0.mk (blk_below X_12.out HX.out)
  have Y0_14 := Aside0.mk (Kd.R_below Y0_12.out HX.out)
  have Y1_14 := Aside0.mk (Kd.R_below Y1_12.out HX.out)
  have Y2_14 := Aside0.mk (Kd.R_below Y2_12.out HX.out)
  clear HB_12 Z_12 A_12 B_12 H_12 X0_12 X1_12 X2_12 X_12 Y0_12 Y1_12 Y2_12
  have Y_14 := Aside0.mk (HY.out)
  clear HX HY
  obtain ⟨hz0, hz1, hz2, hz3, hz4⟩ := zone_cells Z_14.out
  go_wp2_with fail
  refine (HE5.out _ (Kd.C_below HR0.out HB_14.out) (Kd.C_below HR1.out HB_14.out) (Kd.C_below HR2.out HB_14.out)).mono ?_
  rintro e w15 ⟨v0, rfl, hv, hb_⟩
  obtain ⟨Ae, ce, rfl⟩ := Kd.R_slice hv
  have HB_15 := Aside0.mk (below_step HB_14.out hb_)
  have Z_15 := Aside0.mk (blk_below Z_14.out hb_)
  have A_15 := Aside0.mk (Kd.R_below A_14.out hb_)
  have B_15 := Aside0.mk (Kd.R_below B_14.out hb_)
  have H_15 := Aside0.mk (blk_below H_14.out hb_)
  have X0_15 := Aside0.mk (Kd.R_below X0_14.out hb_)
  have X1_15 := Aside0.mk (Kd.R_below X1_14.out hb_)
  have X2_15 := Aside0.mk (Kd.R_below X2_14.out hb_)
  have X_15 := Aside0.mk (blk_below X_14.out hb_)
  have Y0_15 := Aside0.mk (Kd.R_below Y0_14.out hb_)
  have Y1_15 := Aside0.mk (Kd.R_below Y1_14.out hb_)
  have Y2_15 := Aside0.mk (Kd.R_below Y2_14.out hb_)
  have Y_15 := Aside0.mk (blk_below Y_14.out hb_)
  clear HB_14 Z_14 A_14 B_14 H_14 X0_14 X1_14 X2_14 X_14 Y0_14 Y1_14 Y2_14 Y_14
  clear hz0 hz1 hz2 hz3 hz4
  clear hb_ hv HE5
  obtain ⟨hx0, hx1, hx2, hx3, hx4⟩ := zone_cells X_15.out
  obtain ⟨hy0, hy1, hy2, hy3, hy4⟩ := zone_cells Y_15.out
  go_wp2_with fail
  refine (HSAME.out X0 Xc0 X1 Xc1 X2 Xc2 Y0 Yc0 Y1 Yc1 Y2 Yc2 _ (Kd.R_reads' X0_15.out).2.2 (Kd.R_reads' X0_15.out).2.1 (Kd.R_reads' X1_15.out).2.2 (Kd.R_reads' X1_15.out).2.1 (Kd.R_reads' X2_15.out).2.2 (Kd.R_reads' X2_15.out).2.1 (Kd.R_reads' Y0_15.out).2.2 (Kd.R_reads' Y0_15.out).2.1 (Kd.R_reads' Y1_15.out).2.2 (Kd.R_reads' Y1_15.out).2.1 (Kd.R_reads' Y2_15.out).2.2 (Kd.R_reads' Y2_15.out).2.1).mono ?_
  rintro e w16 ⟨rfl, hb_⟩
  have HB_16 := Aside0.mk (below_step HB_15.out hb_)
  have Z_16 := Aside0.mk (blk_below Z_15.out hb_)
  have A_16 := Aside0.mk (Kd.R_below A_15.out hb_)
  have B_16 := Aside0.mk (Kd.R_below B_15.out hb_)
  have H_16 := Aside0.mk (blk_below H_15.out hb_)
  have X0_16 := Aside0.mk (Kd.R_below X0_15.out hb_)
  have X1_16 := Aside0.mk (Kd.R_below X1_15.out hb_)
  have X2_16 := Aside0.mk (Kd.R_below X2_15.out hb_)
  have X_16 := Aside0.mk (blk_below X_15.out hb_)
  have Y0_16 := Aside0.mk (Kd.R_below Y0_15.out hb_)
  have Y1_16 := Aside0.mk (Kd.R_below Y1_15.out hb_)
  have Y2_16 := Aside0.mk (Kd.R_below Y2_15.out hb_)
  have Y_16 := Aside0.mk (blk_below Y_15.out hb_)
  clear HB_15 Z_15 A_15 B_15 H_15 X0_15 X1_15 X2_15 X_15 Y0_15 Y1_15 Y2_15 Y_15
  clear hx0 hx1 hx2 hx3 hx4 hy0 hy1 hy2 hy3 hy4
  clear hb_ HSAME
  obtain ⟨hz0, hz1, hz2, hz3, hz4⟩ := zone_cells Z_16.out
  have hl := HL.out
  go_wp2_with fail
  go_ret
  all_goals exact ⟨rfl, HB_16.out⟩
theorem sizes_walk (A0 : Option Addr) (c0 : Nat) (ty : List S46) (A1 : Option Addr) (c1 : Nat) (tr : List S48) (A2 : Option Addr) (c2 : Nat) (lp : List S50) (foot : ByteArray) (ver : Int) (w : World)
    (i0 : ty.length ≤ c0) (i1 : tr.length ≤ c1) (i2 : lp.length ≤ c2) (j0 : Kd.C k46 w A0 ty.length ty) (j1 : Kd.C k48 w A1 tr.length tr) (j2 : Kd.C k50 w A2 lp.length lp) (hz : RZ ty tr lp) :
    Calls Try.prog 5 #[.agg #[.slice A0 ty.length c0, .slice A1 tr.length c1, .slice A2 lp.length c2, .string foot, .int .i64 ver]] w fun e w' => e = .returned (.bool true) ∧ Below w.heap.size w w' := by
  cases hb : fewB ty tr lp foot with
  | false => exact sizes_few A0 c0 ty A1 c1 tr A2 c2 lp foot ver w i0 i1 i2 j0 j1 j2 hb
  | true =>
    cases hg : encG ty tr lp ver 4 with
    | false => exact sizes_no A0 c0 ty A1 c1 tr A2 c2 lp foot ver w i0 i1 i2 j0 j1 j2 hb hg
    | true => exact sizes_yes A0 c0 ty A1 c1 tr A2 c2 lp foot ver w i0 i1 i2 j0 j1 j2 hz hb hg
end Go.Proofs.Ytpgjcnjojfehjaa.Bk
/- BlockSizes: what may be laid in four bytes a time may be in eight; no condition. -/
namespace Go.Proofs.Ytpgjcnjojfehjaa.blockSizes
open Go.ChangeShapes Go.WideShapes Go.ChangeAt Go.RowKit
open Go.ChangeMaps (open_string shut_string)
theorem own : ownKnob Try.prog.godebug = none := by kernel_rfl
theorem laidOut : laidOutB Try.prog = true := by kernel_rfl
set_option maxHeartbeats 1000000 in
set_option maxRecDepth 100000 in
theorem lifted (os : Os) (started : os.Started) (H : Type) (enc : TypeId × Value → H) :
    ReturnsInHanded {} Try.checked os 5 .any (Rows.blockSizesSpec.pre6 enc Try.prog Try.f5 Rows.blockSizesRow.domain false) (Rows.blockSizesSpec.post enc Try.prog Try.f5 false true false false) := by
  refine returnsInHanded_of_change_sized (C := Try.checked) own started (by kernel_rfl) Try.func5
    (ChangeSpec.witness6 (enc := enc) (C := Try.checked) false ⟨#[], #[.agg #[.slice none 0 0, .slice none 0 0, .slice none 0 0, .string ByteArray.empty, .int .i64 0]], []⟩ 8 (by kernel_rfl) (by kernel_rfl) (by kernel_rfl) (by kernel_rfl)) ?_
  intro W base args ds gs before hval0 hW hcnd hsz0 _
  have hsz : (DataW.weightsEach Try.prog (Try.f5.params.toList ++ Rows.blockSizesSpec.plain.varTypes Try.prog) (ds ++ gs)).all (· ≤ reachBytes) = true := hsz0
  have hval : ∀ (j : Nat) t v, Try.f5.params[j]? = some t → args[j]? = some v → Value.okWide Try.prog W .any base t v := hval0
  have hW' := hW
  obtain ⟨p, q, hA0, hV, rfl, hfz, hnd⟩ := hW
  have hA : DataW.TrodAll enc Try.prog W 0 (fun _ => true) true Try.f5.params.toList args.toList ds p := hA0
  rw [Try.params5] at hA hval hsz
  obtain ⟨v0, vs0, d0, ds0, p0, q0, hargs, rfl, rfl, h0, r0⟩ := trodAll_cons hA
  obtain ⟨rfl, rfl, rfl⟩ := trodAll_nil r0
  obtain rfl : args = #[v0] := by cases args; simp_all
  obtain ⟨rfl, rfl⟩ := trodVars_none hV
  have k0 := h0
  have lt0 : ∀ x ∈ p0, x.block < W.heap.size := by obtain ⟨m, hm⟩ := k0; exact DataW.trod_lt m _ _ _ hm
  obtain ⟨A0_0, c0_0, l0_0, A0_1, c0_1, l0_1, A0_2, c0_2, l0_2, foot0, ver0, rfl, i0_0, i0_1, i0_2, j0_0, j0_1, j0_2, rz0⟩ := Bk.open_zone (hval 0 26 v0 rfl rfl) h0
  clear hA0 hval0 hsz0 hsz
  refine (Bk.sizes_walk A0_0 c0_0 l0_0 A0_1 c0_1 l0_1 A0_2 c0_2 l0_2 foot0 ver0 W i0_0 i0_1 i0_2 j0_0 j0_1 j0_2 rz0).mono fun e W' ⟨he, bel⟩ => ?_
  subst he
  exact ⟨_, rfl, _, _, _, [], _, [], hW', trodAll_mk1 (shut_bool Try.underlying4 _), (trodAll_cons_mk (Below.trod laidOut (by kernel_rfl) (of_decide_eq_true (by kernel_rfl)) k0 bel lt0) trodAll_mk0), rfl, bel.frame _, fun h => by cases h⟩
theorem over : Rows.blockSizesRow.holds Try.pinned (OpenSpec.ofChange Rows.blockSizesSpec) :=
  OpenClaim.holds_of_wide 5 Try.f5 rfl rfl rfl rfl rfl rfl rfl ⟨rfl, rfl, rfl, rfl, rfl⟩ rfl rfl rfl rfl rfl (by kernel_rfl) Try.func5 (by kernel_rfl)
    (of_decide_eq_true (by kernel_rfl)) (by unfold Func.isWrapper; first | (rw [if_pos (by decide +kernel)]; kernel_rfl) | (rw [if_neg (by decide +kernel)]; exact ⟨rfl, rfl⟩))
    (fun os started H enc _ => lifted os started H enc)
theorem proved : Rows.BlockSizesSaid := over
#print axioms proved
end Go.Proofs.Ytpgjcnjojfehjaa.blockSizes
namespace Go.Proofs.Ytpgjcnjojfehjaa
/-- The row, under a short name, for the claim. -/
theorem blockSizes_holds : Rows.BlockSizesSaid := blockSizes.proved
end Go.Proofs.Ytpgjcnjojfehjaa
