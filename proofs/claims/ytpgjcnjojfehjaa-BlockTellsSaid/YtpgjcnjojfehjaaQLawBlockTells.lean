/- Texts of chapter 16 laid together, without what none of them names (wip/block/prune.py; those whose names begin with W are the kit's printed words, cut): BkRd, TellsHand, WSized, ZoneRow, HeadRow, LawBlockTells. -/
import Derived.Test.YtpgjcnjojfehjaaQ5
import Derived.Outline
import Derived.Deep.RegionHeld3
import Derived.Deep.DeepCutAuto
import Derived.RegionTactic
import Derived.Deep.CutBlock
import Derived.BigRegion
import Derived.Test.YtpgjcnjojfehjaaQ4
import Derived.SizedLaws
import Derived.ChangeSlices
import Derived.Test.YtpgjcnjojfehjaaRows
import Derived.Test.YtpgjcnjojfehjaaQ3
import Derived.Deep.Slices
import Derived.Deep.Fields
import Derived.ChangeSame
import Derived.Lib.SmallJoins
import Derived.WalkKit
import Derived.ProofKit
import Derived.OpenShut
import Derived.ShutString
import Derived.ChangeOld
import Derived.Below
namespace Go.Proofs.Ytpgjcnjojfehjaa.Bk
open Go.RowKit Go.Proofs.YtpgjcnjojfehjaaW.PrintWords Go.Proofs.YtpgjcnjojfehjaaW.PrintLast Go.Proofs.YtpgjcnjojfehjaaW.PrintMore Oct Kx Ab
set_option maxHeartbeats 4000000 in
set_option maxRecDepth 100000 in
theorem rdec_bad (v u s l t ty c : Int) (A1 : Option Addr) (c1 : Nat) (b : List Int) (size : Int) (w : World) (hno : ¬ (rightS v u s l t ty c = true ∧ (size = 4 ∨ size = 8) ∧ (b.length : Int) = sizeF v u s l t ty c size)) :
  Calls Try.prog 15 #[.agg #[.int .i64 v, .int .i64 u, .int .i64 s, .int .i64 l, .int .i64 t, .int .i64 ty, .int .i64 c], .slice A1 b.length c1, .int .i64 size] w fun e w' => e = .returned (.tuple #[.agg #[.slice none 0 0, .slice none 0 0, .slice none 0 0, .string ⟨#[]⟩, .int .i64 0], .bool false]) ∧ Below w.heap.size w w' := by
 have HRT := Aside0.mk (fun W => rright_calls v u s l t ty c W)
 have HSZ := Aside0.mk (fun W => rsize_calls v u s l t ty c size W)
 generalize sizeF v u s l t ty c size = n at *
 generalize rightS v u s l t ty c = rr at *
 go_enter Try.func15, Try.ntmps15
 have HB_0 := Aside0.mk (Below.refl w.heap.size w)
 go_wp2_with (first | ((with_reducible refine gate_dst (N := 3) rfl ?_); refine box_event ?hg (N := 3) ?hd (cs := #[.int .i64 v, .int .i64 u, .int .i64 s, .int .i64 l, .int .i64 t, .int .i64 ty, .int .i64 c]) (t := 28) ?hr ?_; (case hd => rfl); (case hg => rfl); (case hr => first | (go_simp; done) | (go_simp; rfl)); intro hb hg_ w1 hbox hb_; have GH : Aside0 (w.heap.size ≤ hb) := ⟨Nat.le_of_eq hg_.symm⟩; have GWH : Aside0 (w.heap.size ≤ hb) := ⟨Nat.le_trans (Below.size HB_0.out) (Nat.le_of_eq hg_.symm)⟩; have HB_1 := Aside0.mk (below_step HB_0.out hb_); clear HB_0; have H_1 := Aside0.mk (hbox); clear hbox hb_ hg_) | ((with_reducible refine gate_dst (N := 6) rfl ?_); refine box_event ?hg (N := 6) ?hd (cs := #[.slice none 0 0, .slice none 0 0, .slice none 0 0, .string ⟨#[]⟩, .int .i64 0]) (t := 26) ?hr ?_; (case hd => rfl); (case hg => rfl); (case hr => first | (go_simp; done) | (go_simp; rfl)); intro ob hg_ w2 hbox hb_; have GO : Aside0 (w1.heap.size ≤ ob) := ⟨Nat.le_of_eq hg_.symm⟩; have GWO : Aside0 (w.heap.size ≤ ob) := ⟨Nat.le_trans (Below.size HB_1.out) (Nat.le_of_eq hg_.symm)⟩; have NOH : Aside0 (hb ≠ ob) := ⟨fun e_ => by have h_ := blk_lt H_1.out; omega⟩; have HB_2 := Aside0.mk (below_step HB_1.out hb_); have H_2 := Aside0.mk (blk_below H_1.out hb_); clear HB_1 H_1; have O_2 := Aside0.mk (hbox); clear hbox hb_ hg_; obtain ⟨hx0, hx1, hx2, hx3, hx4, hx5, hx6⟩ := cells7 H_2.out))
 refine (HRT.out _).mono ?_
 rintro e w3 ⟨rfl, hb_⟩
 have HB_3 := Aside0.mk (below_step HB_2.out hb_)
 have H_3 := Aside0.mk (blk_below H_2.out hb_)
 have O_3 := Aside0.mk (blk_below O_2.out hb_)
 clear HB_2 H_2 O_2
 clear hx0 hx1 hx2 hx3 hx4 hx5 hx6
 clear hb_ HRT
 cases rr with
 | false =>
  obtain ⟨ho0, ho1, ho2, ho3, ho4⟩ := zone_cells O_3.out
  have g0 := blk_frozen O_3.out 0
  have g1 := blk_frozen O_3.out 1
  have g2 := blk_frozen O_3.out 2
  have g3 := blk_frozen O_3.out 3
  have g4 := blk_frozen O_3.out 4
  go_wp2
  as_aux_lemma => exact bodyPost_ret (results_ct rfl _ _ ob 26 #[.slice none 0 0, .slice none 0 0, .slice none 0 0, .string ⟨#[]⟩, .int .i64 0] (0, 0) _ rfl (set5_blk O_3.out _ _ _ _ _) Try.underlying26 rfl (by kernel_rfl)) rfl ⟨rfl, set5_below HB_3.out GWO.out _ _ _ _ _⟩
 | true =>
  by_cases hs : size = 4 ∨ size = 8
  ·have hne : (b.length : Int) ≠ n := fun h => hno ⟨rfl, hs, h⟩
   have bq : ((b.length : Int) != n) = true := bne_iff_ne.2 hne
   have hsz : ∀ W, Calls Try.prog 32 #[.agg #[.int .i64 v, .int .i64 u, .int .i64 s, .int .i64 l, .int .i64 t, .int .i64 ty, .int .i64 c], .int .i64 size] W fun e w' => e = .returned (.int .i64 n) ∧ Below W.heap.size W w' := HSZ.out
   clear HSZ hno hne
   obtain ⟨hx0, hx1, hx2, hx3, hx4, hx5, hx6⟩ := cells7 H_3.out
   rcases hs with rfl | rfl
   all_goals
    go_wp2_with fail
    refine (hsz _).mono ?_
    rintro e w4 ⟨rfl, hb_⟩
    have HB_4 := Aside0.mk (below_step HB_3.out hb_)
    have H_4 := Aside0.mk (blk_below H_3.out hb_)
    have O_4 := Aside0.mk (blk_below O_3.out hb_)
    clear HB_3 H_3 O_3
    clear hb_ hsz
    clear hx0 hx1 hx2 hx3 hx4 hx5 hx6
    obtain ⟨ho0, ho1, ho2, ho3, ho4⟩ := zone_cells O_4.out
    have g0 := blk_frozen O_4.out 0
    have g1 := blk_frozen O_4.out 1
    have g2 := blk_frozen O_4.out 2
    have g3 := blk_frozen O_4.out 3
    have g4 := blk_frozen O_4.out 4
    go_wp2
    as_aux_lemma => exact bodyPost_ret (results_ct rfl _ _ ob 26 #[.slice none 0 0, .slice none 0 0, .slice none 0 0, .string ⟨#[]⟩, .int .i64 0] (0, 0) _ rfl (set5_blk O_4.out _ _ _ _ _) Try.underlying26 rfl (by kernel_rfl)) rfl ⟨rfl, set5_below HB_4.out GWO.out _ _ _ _ _⟩
  ·have q4 : (size != 4) = true := by simp; omega
   have q8 : (size != 8) = true := by simp; omega
   clear HSZ hno hs
   obtain ⟨ho0, ho1, ho2, ho3, ho4⟩ := zone_cells O_3.out
   have g0 := blk_frozen O_3.out 0
   have g1 := blk_frozen O_3.out 1
   have g2 := blk_frozen O_3.out 2
   have g3 := blk_frozen O_3.out 3
   have g4 := blk_frozen O_3.out 4
   go_wp2
   as_aux_lemma => exact bodyPost_ret (results_ct rfl _ _ ob 26 #[.slice none 0 0, .slice none 0 0, .slice none 0 0, .string ⟨#[]⟩, .int .i64 0] (0, 0) _ rfl (set5_blk O_3.out _ _ _ _ _) Try.underlying26 rfl (by kernel_rfl)) rfl ⟨rfl, set5_below HB_3.out GWO.out _ _ _ _ _⟩
set_option maxHeartbeats 4000000 in
set_option maxRecDepth 100000 in
theorem rdec_4 (v u s c : Int) (ln tn yn : Nat) (A1 : Option Addr) (c1 : Nat) (b : List Int) (w : World) (j1 : Kd.C (Kd.int .u8) w A1 b.length b) (h8 : B8 b) (hlb : b.length ≤ 1000000) (hb0 : 0 < b.length) (hR : rightS v u s ln tn yn c = true) (hsz : sizeF v u s ln tn yn c 4 = b.length) :
  Calls Try.prog 15 #[.agg #[.int .i64 v, .int .i64 u, .int .i64 s, .int .i64 ln, .int .i64 tn, .int .i64 yn, .int .i64 c], .slice A1 b.length c1, .int .i64 4] w fun e w' => ∃ v0_ v1_ v2_ : Value, e = .returned (.tuple #[.agg #[v0_, v1_, v2_, .string (decN v u s ln tn yn c b 4).2.2.2.1, .int .i64 (decN v u s ln tn yn c b 4).2.2.2.2.1], .bool (decN v u s ln tn yn c b 4).2.2.2.2.2]) ∧ Kd.R k46 46 w' w.heap.size (fun _ => True) v0_ (decN v u s ln tn yn c b 4).1 ∧ Kd.R k48 48 w' w.heap.size (fun _ => True) v1_ (decN v u s ln tn yn c b 4).2.1 ∧ Kd.R k50 50 w' w.heap.size (fun _ => True) v2_ (decN v u s ln tn yn c b 4).2.2.1 ∧ Below w.heap.size w w' := by
 have HRT := Aside0.mk (fun W => rright_calls v u s ln tn yn c W)
 rw [hR] at HRT
 have HSZ := Aside0.mk (fun W => rsize_calls v u s ln tn yn c 4 W)
 rw [hsz] at HSZ
 have hRR := of_decide_eq_true hR
 have HLT : Aside0 (tn ≤ 2000 ∧ ln ≤ 201 ∧ yn ≤ 64 ∧ 1 ≤ yn) := ⟨by omega⟩
 have HGD : Aside0 (sizeF v u s ln tn yn c 4 ≠ 0 ∧ (b.length : Int) = sizeF v u s ln tn yn c 4) := ⟨⟨by rw [hsz]; omega, hsz.symm⟩⟩
 have bq : ((b.length : Int) != (b.length : Int)) = false := by simp
 have HOP := Aside0.mk (fun W h => Ref.open_calls A1 c1 b W h (by omega))
 have HR1 := Aside0.mk j1
 have H8 := Aside0.mk h8
 have HLB := Aside0.mk hlb
 clear j1 hR hRR hsz h8 hlb hb0
 go_enter Try.func15, Try.ntmps15
 have HB_0 := Aside0.mk (Below.refl w.heap.size w)
 go_wp2_with (first | ((with_reducible refine gate_dst (N := 3) rfl ?_); refine box_event ?hg (N := 3) ?hd (cs := #[.int .i64 v, .int .i64 u, .int .i64 s, .int .i64 ln, .int .i64 tn, .int .i64 yn, .int .i64 c]) (t := 28) ?hr ?_; (case hd => rfl); (case hg => rfl); (case hr => first | (go_simp; done) | (go_simp; rfl)); intro hb hg_ w1 hbox hb_; have GH : Aside0 (w.heap.size ≤ hb) := ⟨Nat.le_of_eq hg_.symm⟩; have GWH : Aside0 (w.heap.size ≤ hb) := ⟨Nat.le_trans (Below.size HB_0.out) (Nat.le_of_eq hg_.symm)⟩; have HB_1 := Aside0.mk (below_step HB_0.out hb_); clear HB_0; have H_1 := Aside0.mk (hbox); clear hbox hb_ hg_) | ((with_reducible refine gate_dst (N := 6) rfl ?_); refine box_event ?hg (N := 6) ?hd (cs := #[.slice none 0 0, .slice none 0 0, .slice none 0 0, .string ⟨#[]⟩, .int .i64 0]) (t := 26) ?hr ?_; (case hd => rfl); (case hg => rfl); (case hr => first | (go_simp; done) | (go_simp; rfl)); intro ob hg_ w2 hbox hb_; have GO : Aside0 (w1.heap.size ≤ ob) := ⟨Nat.le_of_eq hg_.symm⟩; have GWO : Aside0 (w.heap.size ≤ ob) := ⟨Nat.le_trans (Below.size HB_1.out) (Nat.le_of_eq hg_.symm)⟩; have NOH : Aside0 (hb ≠ ob) := ⟨fun e_ => by have h_ := blk_lt H_1.out; omega⟩; have HB_2 := Aside0.mk (below_step HB_1.out hb_); have H_2 := Aside0.mk (blk_below H_1.out hb_); clear HB_1 H_1; have O_2 := Aside0.mk (hbox); clear hbox hb_ hg_; obtain ⟨hx0, hx1, hx2, hx3, hx4, hx5, hx6⟩ := cells7 H_2.out))
 refine (HRT.out _).mono ?_
 rintro e w3 ⟨rfl, hb_⟩
 have HB_3 := Aside0.mk (below_step HB_2.out hb_)
 have H_3 := Aside0.mk (blk_below H_2.out hb_)
 have O_3 := Aside0.mk (blk_below O_2.out hb_)
 clear HB_2 H_2 O_2
 clear hx0 hx1 hx2 hx3 hx4 hx5 hx6
 clear hb_ HRT
 obtain ⟨hx0, hx1, hx2, hx3, hx4, hx5, hx6⟩ := cells7 H_3.out
 go_wp2_with fail
 refine (HSZ.out _).mono ?_
 rintro e w4 ⟨rfl, hb_⟩
 have HB_4 := Aside0.mk (below_step HB_3.out hb_)
 have H_4 := Aside0.mk (blk_below H_3.out hb_)
 have O_4 := Aside0.mk (blk_below O_3.out hb_)
 clear HB_3 H_3 O_3
 clear hx0 hx1 hx2 hx3 hx4 hx5 hx6
 clear hb_ HSZ
 go_wp2_with fail
 have HBL : Aside0 (hb < w4.heap.size ∧ ob < w4.heap.size) := ⟨⟨blk_lt H_4.out, blk_lt O_4.out⟩⟩
 refine (HOP.out _ (Kd.C_below HR1.out HB_4.out)).mono ?_
 rintro e w5 ⟨rg, rfl, hrd, hb_⟩
 have HB_5 := Aside0.mk (below_step HB_4.out hb_)
 have H_5 := Aside0.mk (blk_below H_4.out hb_)
 have O_5 := Aside0.mk (blk_below O_4.out hb_)
 clear HB_4 H_4 O_4
 clear hb_ HOP bq
 have RD_5 := Aside0.mk hrd
 clear hrd
 obtain ⟨hx0, hx1, hx2, hx3, hx4, hx5, hx6⟩ := cells7 H_5.out
 go_upto_region 5 with ((with_reducible refine gate_dst (N := 9) rfl ?_); refine box_event ?hg (N := 9) ?hd (cs := #[.slice none 0 0, .slice none 0 0, .slice none 0 0, .string ⟨#[]⟩, .int .i64 0]) (t := 26) ?hr ?_; (case hd => rfl); (case hg => rfl); (case hr => first | (go_simp; done) | (go_simp; rfl)); intro zb hg_ w6 hbox hb_; have HN := Aside0.mk hb_; have HBX := Aside0.mk hbox; have GZB : Aside0 (w5.heap.size ≤ zb) := ⟨Nat.le_of_eq hg_.symm⟩; have NZBH : Aside0 (hb ≠ zb) := ⟨fun e_ => by have h_ := blk_lt H_5.out; omega⟩; obtain ⟨hy0, hy1, hy2, hy3, hy4⟩ := zone_cells hbox; have f0 := blk_frozen hbox 0; have f1 := blk_frozen hbox 1; have f2 := blk_frozen hbox 2; have f3 := blk_frozen hbox 3; have f4 := blk_frozen hbox 4; clear hbox hb_ hg_)
 have HX := Aside0.mk (set5_below HN.out GZB.out (.slice none 0 0) (.slice none 0 0) (.slice none 0 0) (.string ⟨#[]⟩) (.int .i64 v))
 have HY := Aside0.mk (set5_blk HBX.out (.slice none 0 0) (.slice none 0 0) (.slice none 0 0) (.string ⟨#[]⟩) (.int .i64 v))
 unfold set5 at HX HY
 clear HBX HN hy0 f0 hy1 f1 hy2 f2 hy3 f3 hy4 f4
 clear hx0 hx1 hx2 hx3 hx4 hx5 hx6
 generalize (((((w6.setCell ⟨zb, 0, none⟩ (.slice none 0 0)).setCell ⟨zb, 1, none⟩ (.slice none 0 0)).setCell ⟨zb, 2, none⟩ (.slice none 0 0)).setCell ⟨zb, 3, none⟩ (.string ⟨#[]⟩)).setCell ⟨zb, 4, none⟩ (.int .i64 v)) = w7 at *
 have HB_7 := Aside0.mk (below_step HB_5.out HX.out)
 have H_7 := Aside0.mk (blk_below H_5.out HX.out)
 have O_7 := Aside0.mk (blk_below O_5.out HX.out)
 have RD_7 := Aside0.mk (Rd.below RD_5.out HX.out)
 clear HB_5 H_5 O_5 RD_5
 have ZB_7 := Aside0.mk (HY.out)
 clear HX HY
 have HS0 : Aside0 (Rz w w7 hb ob rg zb w4.heap.size w5.heap.size (headC v u s ln tn yn c) (zoneC (.slice none 0 0) (.slice none 0 0) (.slice none 0 0) v) b false (.slice none 0 0) [] (.slice none 0 0) [] (.slice none 0 0) [] (.slice none 0 0) []) := ⟨⟨⟨H_7.out, O_7.out, RD_7.out, ZB_7.out, ⟨GWH.out, GWO.out, NOH.out, HBL.out.1, HBL.out.2, GZB.out⟩, HB_7.out⟩, Kd.R_nil _ _ _ _ _, Kd.R_nil _ _ _ _ _, Kd.R_nil _ _ _ _ _, Kd.R_nil _ _ _ _ _⟩⟩
 clear HB_7 H_7 O_7 RD_7 ZB_7
 clear HBL GWH GWO NOH GZB GH GO HR1
 generalize w4.heap.size = B at *
 generalize w5.heap.size = N at *
 go_wp2
 have HS0 : Aside0 (Rz w _ hb ob rg zb B N (headC v u s ln tn yn c) (zoneC (.slice none 0 0) (.slice none 0 0) (.slice none 0 0) v) (dA 4 0 b false).2.1 (dA 4 0 b false).2.2 (.slice none 0 0) (dA 4 0 b false).1 (.slice none 0 0) [] (.slice none 0 0) [] (.slice none 0 0) []) := HS0
 go_loopw [10] (fun vi wr => ∃ (k : Nat) (vr : Value), k ≤ tn ∧ vi = .int .i64 (k : Int) ∧ Aside0 (Rz w wr hb ob rg zb B N (headC v u s ln tn yn c) (zoneC (.slice none 0 0) (vr) (.slice none 0 0) v) (dA 4 k b false).2.1 (dA 4 k b false).2.2 vr (dA 4 k b false).1 (.slice none 0 0) [] (.slice none 0 0) [] (.slice none 0 0) [])) (fun i _ => tn - (intOf i).toNat)
 case atStart => exact ⟨0, _, Nat.zero_le _, rfl, HS0⟩
 case round =>
  obtain ⟨k, vr, hk, rfl, HS⟩ := hrel
  clear HS0
  by_cases hlt : k < tn
  ·skip
   obtain ⟨hdl, hdr, hd8⟩ := dA_facts 4 H8.out (b := false) k
   obtain ⟨n1, l1, b1, h1⟩ : ∃ a b' c', numS (dA 4 k b false).2.1 (dA 4 k b false).2.2 4 = (a, b', c') := ⟨_, _, _, rfl⟩
   have HNEW : Aside0 (dA 4 (k + 1) b false = ((dA 4 k b false).1 ++ [⟨n1, 0⟩], l1, b1)) := ⟨by show ((dA 4 k b false).1 ++ [⟨(numS (dA 4 k b false).2.1 (dA 4 k b false).2.2 4).1, 0⟩], (numS (dA 4 k b false).2.1 (dA 4 k b false).2.2 4).2.1, (numS (dA 4 k b false).2.1 (dA 4 k b false).2.2 4).2.2) = _; rw [h1]⟩
   obtain ⟨tl, lk, bk, hs⟩ : ∃ a b' c', dA 4 k b false = (a, b', c') := ⟨_, _, _, rfl⟩
   rw [hs] at HS HNEW h1 hdl hdr hd8
   dsimp only at HS HNEW h1 hdl hdr hd8
   have H1 := Aside0.mk h1
   have HD8 := Aside0.mk hd8
   have HLK : Aside0 (lk.length ≤ 1000000 ∧ tl.length = k) := ⟨⟨Nat.le_trans hdr HLB.out, hdl⟩⟩
   clear hs h1 hdl hdr hd8
   obtain ⟨hx0, hx1, hx2, hx3, hx4, hx5, hx6⟩ := cells7 HS.out.dz.head
   go_upto_region 8 with fail
   clear hx0 hx1 hx2 hx3 hx4 hx5 hx6
   have HSd := Aside0.mk (HS.out.step (below_drew (Below.refl _ _)))
   refine start_ (n := 10) (S := fun w' => w'.cell? ⟨zb, 1, none⟩ = some vr) (ds := [9]) #[false, false, false, false, false, false, false, false, false, false] (by kernel_rfl) rfl rfl (zone_cells HSd.out.dz.zone).2.1 (fun hHeld => ?_); refine with_tabW tabR8 bitsR8 (fun HT_ HW_ => ?_)
   generalize wr.drew = wd at *
   clear HS
   refine pure_ (i := 0) (N := some 59) (v := ?_) (a' := ?_) #[true, false, false, false, false, false, false, false, false, false] rfl rfl (any_of HT_.out (by kernel_rfl)) (fun _ _ _ h => h) (Or.inl ⟨by rfl, ?_⟩) ?_ ?_
   rotate_left
   ·intro w'
    go_simp
    with_reducible rfl
   rotate_left
   ·simp only [Act.put, List.setIfInBounds_toArray, List.set_cons_zero, List.set_cons_succ]
    rfl
   refine pure_ (i := 2) (N := some 61) (v := ?_) (a' := ?_) #[true, false, true, false, false, false, false, false, false, false] rfl rfl (any_of HT_.out (by kernel_rfl)) (fun _ _ _ h => h) (Or.inl ⟨by rfl, ?_⟩) ?_ ?_
   rotate_left
   ·intro w'
    go_simp
    with_reducible rfl
   rotate_left
   ·simp only [Act.put, List.setIfInBounds_toArray, List.set_cons_zero, List.set_cons_succ]
    rfl
   refine pure_ (i := 3) (N := some 62) (v := ?_) (a' := ?_) #[true, false, true, true, false, false, false, false, false, false] rfl rfl (any_of HT_.out (by kernel_rfl)) (fun _ _ _ h => h) (Or.inl ⟨by rfl, ?_⟩) ?_ ?_
   rotate_left
   ·intro w'
    go_simp
    with_reducible rfl
   rotate_left
   ·simp only [Act.put, List.setIfInBounds_toArray, List.set_cons_zero, List.set_cons_succ]
    rfl
   refine take_ (i := 1) (N := some 60) (v := ?_) (a' := ?_) #[true, true, true, true, false, false, false, false, false, false] rfl rfl (take_ofW HT_.out HW_.out (by kernel_rfl)) (fun _ _ _ h => h) (Or.inl ⟨by rfl, ?_⟩) hHeld ?_ ?_
   rotate_left
   ·intro w' s0
    go_simp
    with_reducible rfl
   rotate_left
   ·simp only [Act.put, List.setIfInBounds_toArray, List.set_cons_zero, List.set_cons_succ]
    rfl
   refine one_ (i := 4) (N := some 63) #[true, true, true, true, true, false, false, false, false, false] rfl rfl (one_of HT_.out (by kernel_rfl)) (by decide) (fun K hK => ?_)
   refine goes_ Try.func34 (by kernel_rfl) rfl #[.pointer (some ⟨rg, 0, none⟩), .int .i64 4] (by rfl) rfl rfl (by (try simp only [List.map_toArray, List.map_cons, List.map_nil]); first | done | rfl) ?_
   refine (rnum_is H1.out HD8.out HSd.out.dz.rd (Nat.le_trans HLK.out.1 (by omega))).mono ?_
   rintro e w1 ⟨rfl, hr1_, hg1_⟩
   refine ⟨_, rfl, ?_⟩
   have HS1 := Aside0.mk (HSd.out.num hr1_ hg1_)
   clear hr1_ hg1_ HSd
   refine hK.out _ _ (zone_cells HS1.out.dz.zone).2.1 (fun hHeld => ?_)
   refine norm_ (a' := ?_) ?_ ?_
   rotate_left
   ·show Act.put _ (some 63) _ = _
    simp only [Act.put, List.setIfInBounds_toArray, List.set_cons_zero, List.set_cons_succ]
    rfl
   refine pure_ (i := 5) (N := some 64) (v := ?_) (a' := ?_) #[true, true, true, true, true, true, false, false, false, false] rfl rfl (any_of HT_.out (by kernel_rfl)) (fun _ _ _ h => h) (Or.inl ⟨by rfl, ?_⟩) ?_ ?_
   rotate_left
   ·intro w'
    go_simp
    with_reducible rfl
   rotate_left
   ·simp only [Act.put, List.setIfInBounds_toArray, List.set_cons_zero, List.set_cons_succ]
    rfl
   refine one_ (i := 6) (N := some 65) #[true, true, true, true, true, true, true, false, false, false] rfl rfl (one_of HT_.out (by kernel_rfl)) (by decide) (fun K hK => ?_)
   refine Kd.R_lit_step k48 _ 48 ?hg (N := 65) ?hd (xs := ([⟨n1, 0⟩] : List S48)) (inner := [.int .i64 n1, .int .i64 0]) (ok := fun _ => True) (okp := fun _ => True) ?hr ?hp (fun _ hk => hk) trivial (Below.refl _ _) (Nat.le_refl _) (by simp) ?_; (case hd => rfl); (case hg => rfl); (case hr => first | (go_simp; done) | (go_simp; rfl)); (case hp => exact (Reps.c2 (show Kd.M k48 _ _ _ (⟨n1, 0⟩ : S48) [.int .i64 n1, .int .i64 0] from k48_mkM _ _ _ (⟨n1, 0⟩ : S48)) (Reps.none _ _)))
   intro vs w2 hs_ hb_ _ _
   obtain ⟨As, cs, rfl⟩ := Kd.R_slice hs_
   have HS2 := Aside0.mk (HS1.out.step hb_)
   have HLI := Aside0.mk (Kd.R_reads' hs_).2.2
   clear hs_ hb_ HS1
   refine hK.out _ _ (zone_cells HS2.out.dz.zone).2.1 (fun hHeld => ?_)
   refine norm_ (a' := ?_) ?_ ?_
   rotate_left
   ·show Act.put _ (some 65) _ = _
    simp only [Act.put, List.setIfInBounds_toArray, List.set_cons_zero, List.set_cons_succ]
    rfl
   refine one_ (i := 7) (N := some 66) #[true, true, true, true, true, true, true, true, false, false] rfl rfl (one_of HT_.out (by kernel_rfl)) (by decide) (fun K hK => ?_)
   refine Kd.R_append_rows_step k48 (Rr := k48.K w2) (w0 := w2) N (by rfl) (.tmp 60) (.tmp 65) 23 48 (.agg #[.int .i64 0, .int .i64 0]) 16 rfl Try.underlying23 info48 rfl (by decide) (by omega) vr tl [⟨n1, 0⟩] As _ cs (fun _ => True) (fun _ => False) rfl rfl ?aO ?aR ?aK (fun _ h => h.elim) ?aF ?aB ?aS ?aL ?_
   (case aR => exact HLI.out)
   (case aK => exact K48)
   (case aB => exact Below.refl _ _)
   (case aF => exact (fun _ _ => trivial))
   (case aO => exact HS2.out.tr)
   (case aS => exact HS2.out.dz.sz)
   (case aL => have h1 := HLK.out.2; have h2 := HLT.out; have h3 := hlt; show (tl.length + 1) * 16 ≤ _; omega)
   intro v1 w3 ho_ hb_ hg_ _
   obtain ⟨Av, cv, hv_⟩ := Kd.R_slice ho_
   rw [List.length_append, HLK.out.2, List.length_singleton] at hv_
   subst hv_
   have HS3 := Aside0.mk (HS2.out.row_tr ho_ hg_)
   clear ho_ hb_ hg_ HLI HS2
   refine hK.out _ _ (zone_cells HS3.out.dz.zone).2.1 (fun hHeld => ?_)
   refine norm_ (a' := ?_) ?_ ?_
   rotate_left
   ·show Act.put _ (some 66) _ = _
    simp only [Act.put, List.setIfInBounds_toArray, List.set_cons_zero, List.set_cons_succ]
    rfl
   refine pure_ (i := 8) (N := some 67) (v := ?_) (a' := ?_) #[true, true, true, true, true, true, true, true, true, false] rfl rfl (any_of HT_.out (by kernel_rfl)) (fun _ _ _ h => h) (Or.inl ⟨by rfl, ?_⟩) ?_ ?_
   rotate_left
   ·intro w'
    go_simp
    with_reducible rfl
   rotate_left
   ·simp only [Act.put, List.setIfInBounds_toArray, List.set_cons_zero, List.set_cons_succ]
    rfl
   refine last_ (i := 9) (N := none) #[true, true, true, true, true, true, true, true, true, true] rfl rfl (one_of HT_.out (by kernel_rfl)) (by decide) (fun K hK => ?_)
   have hz_ := (zone_cells HS3.out.dz.zone).2.1
   have fz_ := blk_frozen HS3.out.dz.zone 1
   refine skip_ (w1 := ?_) (by rfl) rfl ?_ ?_
   rotate_left
   ·go_simp
    rfl
   refine hK.out _ _ ?_
   refine done_ (done_of HT_.out (by kernel_rfl)) ?_
   have HS5 : Aside0 (Rz w _ hb ob rg zb B N (headC v u s ln tn yn c) (zoneC (.slice none 0 0) (.slice Av (k + 1) cv) (.slice none 0 0) v) l1 b1 (.slice Av (k + 1) cv) (tl ++ [⟨n1, 0⟩]) (.slice none 0 0) [] (.slice none 0 0) [] (.slice none 0 0) []) := ⟨HS3.out.zset 1 (.slice Av (k + 1) cv)⟩
   clear hK K hHeld HT_ HW_ hz_ fz_ HS3
   generalize w3.setCell ⟨zb, 1, none⟩ (.slice Av (k + 1) cv) = w5 at *
   have hLT := HLT.out
   go_wp2
   have HS6 : Aside0 (Rz w _ hb ob rg zb B N (headC v u s ln tn yn c) (zoneC (.slice none 0 0) (.slice Av (k + 1) cv) (.slice none 0 0) v) (dA 4 (k + 1) b false).2.1 (dA 4 (k + 1) b false).2.2 (.slice Av (k + 1) cv) (dA 4 (k + 1) b false).1 (.slice none 0 0) [] (.slice none 0 0) [] (.slice none 0 0) []) := ⟨by rw [HNEW.out]; exact HS5.out⟩
   refine ⟨⟨k + 1, .slice Av (k + 1) cv, ?_, ?_, HS6⟩, ?_⟩
   ·omega
   ·go_num
   ·simp [intOf]; omega
  ·obtain rfl : tn = k := by omega
   obtain ⟨hdl, hdr, hd8⟩ := dA_facts 4 H8.out (b := false) tn
   obtain ⟨tr1, la, ba, ha⟩ : ∃ a b' c', dA 4 tn b false = (a, b', c') := ⟨_, _, _, rfl⟩
   rw [ha] at HS hdl hdr hd8
   dsimp only at HS hdl hdr hd8
   have HTA := Aside0.mk ((dA_all 4 b false tn).trans ha)
   have HLA : Aside0 (la.length ≤ 1000000 ∧ tr1.length = tn) := ⟨⟨Nat.le_trans hdr HLB.out, hdl⟩⟩
   have HA8 := Aside0.mk hd8
   clear ha hdl hdr hd8 hlt hk H8 HLB
   obtain ⟨hx0, hx1, hx2, hx3, hx4, hx5, hx6⟩ := cells7 HS.out.dz.head
   go_wp2
   clear hx0 hx1 hx2 hx3 hx4 hx5 hx6
   have HS0 : Aside0 (Rz w _ hb ob rg zb B N (headC v u s ln tn yn c) (zoneC (.slice none 0 0) (vr) (.slice none 0 0) v) (trB 0 tr1 la ba).2.1 (trB 0 tr1 la ba).2.2 vr (trB 0 tr1 la ba).1 (.slice none 0 0) [] (.slice none 0 0) [] (.slice none 0 0) []) := HS
   clear HS
   go_loopw [11] (fun vi wr => ∃ (k : Nat), k ≤ tn ∧ vi = .int .i64 (k : Int) ∧ Aside0 (Rz w wr hb ob rg zb B N (headC v u s ln tn yn c) (zoneC (.slice none 0 0) (vr) (.slice none 0 0) v) (trB k tr1 la ba).2.1 (trB k tr1 la ba).2.2 vr (trB k tr1 la ba).1 (.slice none 0 0) [] (.slice none 0 0) [] (.slice none 0 0) [])) (fun i _ => tn - (intOf i).toNat)
   case atStart => exact ⟨0, Nat.zero_le _, rfl, HS0⟩
   case round =>
    obtain ⟨k, hk, rfl, HS⟩ := hrel
    clear HS0
    by_cases hlt : k < tn
    ·skip
     have hTL := trB_len tr1 la ba k
     have hB8 := trB_B8 tr1 HA8.out (b := ba) k
     obtain ⟨n1, l1, b1, h1⟩ : ∃ a b' c', numS (trB k tr1 la ba).2.1 (trB k tr1 la ba).2.2 1 = (a, b', c') := ⟨_, _, _, rfl⟩
     obtain ⟨tl, lk, bk, hs⟩ : ∃ a b' c', trB k tr1 la ba = (a, b', c') := ⟨_, _, _, rfl⟩
     have HNEW : Aside0 (trB (k + 1) tr1 la ba = (tl.set k ⟨(tl.getD k z48).f0, n1⟩, l1, b1)) := ⟨by rw [hs] at h1; unfold trB; simp only [hs, h1]⟩
     rw [hs] at HS h1 hTL hB8
     dsimp only at HS h1 hTL hB8
     have H1 := Aside0.mk h1
     have HD8 := Aside0.mk hB8
     have HLK : Aside0 (lk.length ≤ 1000000 ∧ tl.length = tn) := ⟨⟨Nat.le_trans hTL.2 HLA.out.1, hTL.1.trans HLA.out.2⟩⟩
     clear hs h1 hTL hB8
     obtain ⟨tb, cb, rfl, -⟩ := Kd.R_form HS.out.tr (by rw [HLK.out.2]; omega)
     have htl : tl.length = tn := HLK.out.2
     obtain ⟨hx0, hx1, hx2, hx3, hx4, hx5, hx6⟩ := cells7 HS.out.dz.head
     go_upto_region 12 with fail
     clear hx0 hx1 hx2 hx3 hx4 hx5 hx6
     have HSd := Aside0.mk (HS.out.step (below_drew (Below.refl _ _)))
     refine start_ (n := 8) (S := fun w' => w'.cell? ⟨zb, 1, none⟩ = some (.slice (some ⟨tb, 0, none⟩) tl.length cb)) (ds := [7]) #[false, false, false, false, false, false, false, false] (by kernel_rfl) rfl rfl (zone_cells HSd.out.dz.zone).2.1 (fun hHeld => ?_); refine with_tabW tabR12 bitsR12 (fun HT_ HW_ => ?_)
     generalize wr.drew = wd at *
     clear HS
     have q0 : (0 : Int) ≤ (k : Int) := by omega
     have q1 : (k : Int) < (tl.length : Int) := by omega
     have q2 : k < tl.length := by omega
     refine pure_ (i := 0) (N := some 74) (v := ?_) (a' := ?_) #[true, false, false, false, false, false, false, false] rfl rfl (any_of HT_.out (by kernel_rfl)) (fun _ _ _ h => h) (Or.inl ⟨by rfl, ?_⟩) ?_ ?_
     rotate_left
     ·intro w'
      go_simp
      with_reducible rfl
     rotate_left
     ·simp only [Act.put, List.setIfInBounds_toArray, List.set_cons_zero, List.set_cons_succ]
      rfl
     refine pure_ (i := 2) (N := some 76) (v := ?_) (a' := ?_) #[true, false, true, false, false, false, false, false] rfl rfl (any_of HT_.out (by kernel_rfl)) (fun _ _ _ h => h) (Or.inl ⟨by rfl, ?_⟩) ?_ ?_
     rotate_left
     ·intro w'
      go_simp
      with_reducible rfl
     rotate_left
     ·simp only [Act.put, List.setIfInBounds_toArray, List.set_cons_zero, List.set_cons_succ]
      rfl
     refine pure_ (i := 3) (N := some 77) (v := ?_) (a' := ?_) #[true, false, true, true, false, false, false, false] rfl rfl (any_of HT_.out (by kernel_rfl)) (fun _ _ _ h => h) (Or.inl ⟨by rfl, ?_⟩) ?_ ?_
     rotate_left
     ·intro w'
      go_simp
      with_reducible rfl
     rotate_left
     ·simp only [Act.put, List.setIfInBounds_toArray, List.set_cons_zero, List.set_cons_succ]
      rfl
     refine take_ (i := 1) (N := some 75) (v := ?_) (a' := ?_) #[true, true, true, true, false, false, false, false] rfl rfl (take_ofW HT_.out HW_.out (by kernel_rfl)) (fun _ _ _ h => h) (Or.inl ⟨by rfl, ?_⟩) hHeld ?_ ?_
     rotate_left
     ·intro w' s0
      go_simp
      with_reducible rfl
     rotate_left
     ·simp only [Act.put, List.setIfInBounds_toArray, List.set_cons_zero, List.set_cons_succ]
      rfl
     refine one_ (i := 4) (N := some 78) #[true, true, true, true, true, false, false, false] rfl rfl (one_of HT_.out (by kernel_rfl)) (by decide) (fun K hK => ?_)
     refine goes_ Try.func34 (by kernel_rfl) rfl #[.pointer (some ⟨rg, 0, none⟩), .int .i64 1] (by rfl) rfl rfl (by (try simp only [List.map_toArray, List.map_cons, List.map_nil]); first | done | rfl) ?_
     refine (rnum_is H1.out HD8.out HSd.out.dz.rd (Nat.le_trans HLK.out.1 (by omega))).mono ?_
     rintro e w1 ⟨rfl, hr1_, hg1_⟩
     refine ⟨_, rfl, ?_⟩
     have HS1 := Aside0.mk (HSd.out.num hr1_ hg1_)
     clear hr1_ hg1_ HSd
     refine hK.out _ _ (zone_cells HS1.out.dz.zone).2.1 (fun hHeld => ?_)
     refine norm_ (a' := ?_) ?_ ?_
     rotate_left
     ·show Act.put _ (some 78) _ = _
      simp only [Act.put, List.setIfInBounds_toArray, List.set_cons_zero, List.set_cons_succ]
      rfl
     refine pure_ (i := 5) (N := some 79) (v := ?_) (a' := ?_) #[true, true, true, true, true, true, false, false] rfl rfl (any_of HT_.out (by kernel_rfl)) (fun _ _ _ h => h) (Or.inl ⟨by rfl, ?_⟩) ?_ ?_
     rotate_left
     ·intro w'
      go_simp
      with_reducible rfl
     rotate_left
     ·simp only [Act.put, List.setIfInBounds_toArray, List.set_cons_zero, List.set_cons_succ]
      rfl
     refine pure_ (i := 6) (N := some 80) (v := ?_) (a' := ?_) #[true, true, true, true, true, true, true, false] rfl rfl (any_of HT_.out (by kernel_rfl)) (fun _ _ _ h => h) (Or.inl ⟨by rfl, ?_⟩) ?_ ?_
     rotate_left
     ·intro w'
      go_simp
      with_reducible rfl
     rotate_left
     ·simp only [Act.put, List.setIfInBounds_toArray, List.set_cons_zero, List.set_cons_succ]
      rfl
     refine last_ (i := 7) (N := none) #[true, true, true, true, true, true, true, true] rfl rfl (one_of HT_.out (by kernel_rfl)) (by decide) (fun K hK => ?_)
     obtain ⟨⟨x_, hy_, -⟩, fy_⟩ := tr_at HS1.out.tr k q2 1 (by decide)
     refine skip_ (w1 := ?_) (by rfl) rfl ?_ ?_
     rotate_left
     ·go_simp
      rfl
     refine hK.out _ _ ?_
     refine done_ (done_of HT_.out (by kernel_rfl)) ?_
     have HS5 : Aside0 (Rz w (w1.setCell ⟨tb, k * 2 + 1, none⟩ (.int .i64 n1)) hb ob rg zb B N (headC v u s ln tn yn c) (zoneC (.slice none 0 0) (.slice (some ⟨tb, 0, none⟩) tl.length cb) (.slice none 0 0) v) l1 b1 (.slice (some ⟨tb, 0, none⟩) tl.length cb) (tl.set k ⟨(tl.getD k z48).f0, n1⟩) (.slice none 0 0) [] (.slice none 0 0) [] (.slice none 0 0) []) := ⟨HS1.out.set_tr (j := 1) (x' := ⟨(tl.getD k z48).f0, n1⟩) (by decide) q2 (by rw [getD_at q2]; rfl) rfl⟩
     clear hK K hHeld HT_ HW_ hy_ fy_ HS1 q0 q1
     generalize w1.setCell ⟨tb, k * 2 + 1, none⟩ (.int .i64 n1) = w5 at *
     have hLT := HLT.out
     go_wp2
     have HS6 : Aside0 (Rz w _ hb ob rg zb B N (headC v u s ln tn yn c) (zoneC (.slice none 0 0) (.slice (some ⟨tb, 0, none⟩) tl.length cb) (.slice none 0 0) v) (trB (k + 1) tr1 la ba).2.1 (trB (k + 1) tr1 la ba).2.2 (.slice (some ⟨tb, 0, none⟩) tl.length cb) (trB (k + 1) tr1 la ba).1 (.slice none 0 0) [] (.slice none 0 0) [] (.slice none 0 0) []) := ⟨by rw [HNEW.out]; exact HS5.out⟩
     refine ⟨⟨k + 1, ?_, ?_, HS6⟩, ?_⟩
     ·omega
     ·go_num
     ·simp [intOf]; omega
    ·obtain rfl : tn = k := by omega
     have hTL := trB_len tr1 la ba tn
     have hB8 := trB_B8 tr1 HA8.out (b := ba) tn
     obtain ⟨tr2, lq, bq, ha⟩ : ∃ a b' c', trB tn tr1 la ba = (a, b', c') := ⟨_, _, _, rfl⟩
     rw [ha] at HS hTL hB8
     dsimp only at HS hTL hB8
     have HQ := Aside0.mk ha
     have HLQ : Aside0 (lq.length ≤ 1000000) := ⟨Nat.le_trans hTL.2 HLA.out.1⟩
     have HQ8 := Aside0.mk hB8
     clear ha hTL hB8 hlt hk HLA HA8
     obtain ⟨hx0, hx1, hx2, hx3, hx4, hx5, hx6⟩ := cells7 HS.out.dz.head
     go_wp2
     clear hx0 hx1 hx2 hx3 hx4 hx5 hx6
     have HS0 : Aside0 (Rz w _ hb ob rg zb B N (headC v u s ln tn yn c) (zoneC (.slice none 0 0) (vr) (.slice none 0 0) v) (tyK 0 lq bq).2.2.2.1 (tyK 0 lq bq).2.2.2.2 vr tr2 (.slice none 0 0) (tyK 0 lq bq).1 (.slice none 0 0) [] (.slice none 0 0) (tyK 0 lq bq).2.1) := HS
     clear HS
     go_loopw [12, 13, 14] (fun va vok vi wr => ∃ (k : Nat) (vt : Value), k ≤ yn ∧ vi = .int .i64 (k : Int) ∧ vok = .bool (tyK k lq bq).2.2.1 ∧ Aside0 (Rz w wr hb ob rg zb B N (headC v u s ln tn yn c) (zoneC (vt) (vr) (.slice none 0 0) v) (tyK k lq bq).2.2.2.1 (tyK k lq bq).2.2.2.2 vr tr2 (vt) (tyK k lq bq).1 (.slice none 0 0) [] (va) (tyK k lq bq).2.1)) (fun _ _ i _ => yn - (intOf i).toNat)
     case atStart => exact ⟨0, _, Nat.zero_le _, rfl, rfl, HS0⟩
     case round =>
      obtain ⟨k, vt, hk, rfl, hvok, HS⟩ := hrel
      clear HS0
      by_cases hlt : k < yn
      ·skip
       have hTL := tyK_len lq bq k
       have hB8 := tyK_B8 HQ8.out (b := bq) k
       obtain ⟨tl, az, okb, lk, bk, hs⟩ : ∃ a b' c' d e, tyK k lq bq = (a, b', c', d, e) := ⟨_, _, _, _, _, rfl⟩
       obtain ⟨n1, l1, b1, h1⟩ : ∃ a b' c', numS lk bk 4 = (a, b', c') := ⟨_, _, _, rfl⟩
       obtain ⟨n2, l2, b2, h2⟩ : ∃ a b' c', numS l1 b1 1 = (a, b', c') := ⟨_, _, _, rfl⟩
       obtain ⟨n3, l3, b3, h3⟩ : ∃ a b' c', numS l2 b2 1 = (a, b', c') := ⟨_, _, _, rfl⟩
       have HNEW : Aside0 (tyK (k + 1) lq bq = (tl ++ [⟨n1, n2 == 1, ⟨#[]⟩⟩], az ++ [n3], okb && decide (n2 < 2), l3, b3)) := ⟨by unfold tyK; simp only [hs, h1, h2, h3]⟩
       rw [hs] at HS hTL hB8 hvok
       dsimp only at HS hTL hB8 hvok
       subst hvok
       have H1 := Aside0.mk h1
       have H2 := Aside0.mk h2
       have H3 := Aside0.mk h3
       have h81 : B8 l1 := num_B8 h1 hB8
       have h82 : B8 l2 := num_B8 h2 h81
       have hn1 := num_len lk bk 4
       have hn2 := num_len l1 b1 1
       rw [h1] at hn1
       rw [h2] at hn2
       have HD8 := Aside0.mk (And.intro hB8 (And.intro h81 h82))
       have HLK : Aside0 (lk.length ≤ 1000000 ∧ l1.length ≤ 1000000 ∧ l2.length ≤ 1000000) := ⟨⟨Nat.le_trans hTL.2.2 HLQ.out, Nat.le_trans hn1 (Nat.le_trans hTL.2.2 HLQ.out), Nat.le_trans hn2 (Nat.le_trans hn1 (Nat.le_trans hTL.2.2 HLQ.out))⟩⟩
       have HTL : Aside0 (tl.length = k ∧ az.length = k ∧ k ≤ 64) := ⟨⟨hTL.1, hTL.2.1, by have := HLT.out; omega⟩⟩
       clear hs h1 h2 h3 hTL hB8 h81 h82 hn1 hn2
       obtain ⟨hx0, hx1, hx2, hx3, hx4, hx5, hx6⟩ := cells7 HS.out.dz.head
       go_wp2_with fail
       clear hx0 hx1 hx2 hx3 hx4 hx5 hx6
       refine (rnum_is H1.out HD8.out.1 HS.out.dz.rd (Nat.le_trans HLK.out.1 (by omega))).mono ?_
       rintro e w1 ⟨rfl, hr1_, hg1_⟩
       have HS1 := Aside0.mk (HS.out.num hr1_ hg1_)
       clear hr1_ hg1_ HS
       go_wp2_with fail
       refine (rnum_is H2.out HD8.out.2.1 HS1.out.dz.rd (Nat.le_trans HLK.out.2.1 (by omega))).mono ?_
       rintro e w2 ⟨rfl, hr1_, hg1_⟩
       have HS2 := Aside0.mk (HS1.out.num hr1_ hg1_)
       clear hr1_ hg1_ HS1
       obtain ⟨hz0, hz1, hz2, hz3, hz4⟩ := zone_cells HS2.out.dz.zone
       have f0 := blk_frozen HS2.out.dz.zone 0
       go_wp2_with (first | ((with_reducible refine gate_dst (N := 97) rfl ?_); refine Kd.R_lit k46 _ 46 ?hg (N := 97) ?hd (xs := ([⟨n1, n2 == 1, ⟨#[]⟩⟩] : List S46)) (inner := [.int .i64 n1, .bool (n2 == 1), .string ⟨#[]⟩]) (ok := fun _ => True) (okp := fun _ => True) ?hr ?hp (fun _ hk => hk) trivial (Below.refl _ _) (Nat.le_refl _) (by simp) ?_; (case hd => rfl); (case hg => rfl); (case hr => first | (go_simp; done) | (go_simp; rfl)); (case hp => exact (Reps.c3 (show Kd.M k46 _ _ _ (⟨n1, n2 == 1, ⟨#[]⟩⟩ : S46) [.int .i64 n1, .bool (n2 == 1), .string ⟨#[]⟩] from k46_mkM _ _ _ (⟨n1, n2 == 1, ⟨#[]⟩⟩ : S46)) (Reps.none _ _))); intro vs w3 hs_ hb_ _ _; obtain ⟨As, cs, rfl⟩ := Kd.R_slice hs_; have HS3 := Aside0.mk (HS2.out.step hb_); have HLI := Aside0.mk (Kd.R_reads' hs_).2.2; clear hs_ hb_ HS2 hz0 hz1 hz2 hz3 hz4 f0; obtain ⟨hz0, hz1, hz2, hz3, hz4⟩ := zone_cells HS3.out.dz.zone; have f0 := blk_frozen HS3.out.dz.zone 0) | ((with_reducible refine gate_builtin (b := .append) (xs := #[.tmp 92, .tmp 97]) rfl ?_); at_builtin; refine Kd.R_append_rows k46 (Rr := k46.K w3) (w0 := w3) N rfl (.tmp 92) (.tmp 97) 22 46 (.agg #[.int .i64 0, .bool false, .string ByteArray.empty]) 32 rfl Try.underlying22 info46 rfl (by decide) (by omega) vt tl [⟨n1, n2 == 1, ⟨#[]⟩⟩] As _ cs (fun _ => True) (fun _ => False) rfl rfl ?aO ?aR ?aK (fun _ h => h.elim) ?aF ?aB ?aS ?aL ?_; (case aR => exact HLI.out); (case aK => exact K46); (case aB => exact Below.refl _ _); (case aF => exact (fun _ _ => trivial)); (case aO => exact HS3.out.ty); (case aS => exact HS3.out.dz.sz); (case aL => have h1 := HTL.out; show (tl.length + 1) * 32 ≤ _; omega); intro v1 w4 ho_ hb_ hg_ _; obtain ⟨Av, cv, hv_⟩ := Kd.R_slice ho_; rw [List.length_append, HTL.out.1, List.length_singleton] at hv_; subst hv_; have HS4 := Aside0.mk (HS3.out.row_ty ho_ hg_); clear ho_ hb_ hg_ HLI HS3 hz0 hz1 hz2 hz3 hz4 f0; obtain ⟨hz0, hz1, hz2, hz3, hz4⟩ := zone_cells HS4.out.dz.zone; have f0 := blk_frozen HS4.out.dz.zone 0))
       have HS5 : Aside0 (Rz w (w4.setCell ⟨zb, 0, none⟩ (.slice Av (k + 1) cv)) hb ob rg zb B N (headC v u s ln tn yn c) (zoneC (.slice Av (k + 1) cv) (vr) (.slice none 0 0) v) l2 b2 vr tr2 (.slice Av (k + 1) cv) (tl ++ [⟨n1, n2 == 1, ⟨#[]⟩⟩]) (.slice none 0 0) [] (u12) az) := ⟨HS4.out.zset 0 (.slice Av (k + 1) cv)⟩
       clear hz0 hz1 hz2 hz3 hz4
       clear f0 HS4
       generalize w4.setCell ⟨zb, 0, none⟩ (.slice Av (k + 1) cv) = w5 at *
       refine (rnum_is H3.out HD8.out.2.2 HS5.out.dz.rd (Nat.le_trans HLK.out.2.2 (by omega))).mono ?_
       rintro e w6 ⟨rfl, hr1_, hg1_⟩
       have HS6 := Aside0.mk (HS5.out.num hr1_ hg1_)
       clear hr1_ hg1_ HS5
       have hLT := HLT.out
       cases okb
       all_goals
        go_wp2_with (first | ((with_reducible refine gate_dst (N := 103) rfl ?_); refine Kd.R_lit (Kd.int .i64) _ 3 ?hg (N := 103) ?hd (xs := ([n3] : List Int)) (inner := [.int .i64 n3]) (ok := fun _ => True) (okp := fun _ => True) ?hr ?hp (fun _ hk => hk) trivial (Below.refl _ _) (Nat.le_refl _) (by simp) ?_; (case hd => rfl); (case hg => rfl); (case hr => first | (go_simp; done) | (go_simp; rfl)); (case hp => exact (Reps.one (show Kd.M (Kd.int .i64) _ _ _ n3 [.int .i64 n3] from rfl) (Reps.none _ _))); intro vs w7 hs_ hb_ _ _; obtain ⟨As, cs, rfl⟩ := Kd.R_slice hs_; have HS7 := Aside0.mk (HS6.out.step hb_); have HLI := Aside0.mk (Kd.R_reads' hs_).2.2; clear hs_ hb_ HS6) | ((with_reducible refine gate_builtin (b := .append) (xs := #[.tmp 100, .tmp 103]) rfl ?_); at_builtin; refine Kd.R_append_rows (Kd.int .i64) (Rr := (Kd.int .i64).K w7) (w0 := w7) N rfl (.tmp 100) (.tmp 103) 51 3 (.int .i64 0) 8 rfl Try.underlying51 info3 rfl (by decide) (by omega) u12 az [n3] As _ cs (fun _ => True) (fun _ => False) rfl rfl ?aO ?aR ?aK (fun _ h => h.elim) ?aF ?aB ?aS ?aL ?_; (case aR => exact HLI.out); (case aK => exact (fun _ _ h => h)); (case aB => exact Below.refl _ _); (case aF => exact (fun _ _ => trivial)); (case aO => exact HS7.out.ats); (case aS => exact HS7.out.dz.sz); (case aL => have h1 := HTL.out; show (az.length + 1) * 8 ≤ _; omega); intro v2 w8 ho_ hb_ hg_ _; have HS8 := Aside0.mk (HS7.out.row_ats ho_ hg_); clear ho_ hb_ hg_ HLI HS7))
        have HS9 : Aside0 (Rz w _ hb ob rg zb B N (headC v u s ln tn yn c) (zoneC (.slice Av (k + 1) cv) (vr) (.slice none 0 0) v) (tyK (k + 1) lq bq).2.2.2.1 (tyK (k + 1) lq bq).2.2.2.2 vr tr2 (.slice Av (k + 1) cv) (tyK (k + 1) lq bq).1 (.slice none 0 0) [] (_) (tyK (k + 1) lq bq).2.1) := ⟨by rw [HNEW.out]; exact HS8.out⟩
        refine ⟨⟨k + 1, .slice Av (k + 1) cv, ?_, ?_, ?_, HS9⟩, ?_⟩
        ·omega
        ·go_num
        ·rw [HNEW.out]; first | rfl | exact congrArg Value.bool (decide_eq_decide.2 (by omega))
        ·simp [intOf]; omega
      ·obtain rfl : yn = k := by omega
       have hTL := tyK_len lq bq yn
       have hB8 := tyK_B8 HQ8.out (b := bq) yn
       obtain ⟨tyf, atf, okf, lf, bf, ha⟩ : ∃ a b' c' d e, tyK yn lq bq = (a, b', c', d, e) := ⟨_, _, _, _, _, rfl⟩
       rw [ha] at HS hTL hB8 hvok
       dsimp only at HS hTL hB8 hvok
       subst hvok
       have HTY := Aside0.mk ha
       have HTL : Aside0 (tyf.length = yn ∧ atf.length = yn ∧ lf.length ≤ 1000000) := ⟨⟨hTL.1, hTL.2.1, Nat.le_trans hTL.2.2 HLQ.out⟩⟩
       have HB8 := Aside0.mk hB8
       clear ha hTL hB8 hlt hk HLQ HQ8
       obtain ⟨lb, cb, rfl, hlb⟩ := form_of HS.out.ty (by have := HTL.out.1; have := HLT.out; omega)
       obtain ⟨ab, ca, hva, hab⟩ := form_of HS.out.ats (by have := HTL.out.2.1; have := HLT.out; omega)
       subst hva
       rw [HTL.out.1, HTL.out.2.1] at HS
       rw [HTL.out.2.1]
       clear hlb hab
       obtain ⟨p, lp, bp, hp⟩ : ∃ a b' c', takeS lf bf c = (a, b', c') := ⟨_, _, _, rfl⟩
       have HP := Aside0.mk hp
       have HLP : Aside0 (p.length ≤ 1000000 ∧ lp.length ≤ 1000000) := ⟨take_lens hp HTL.out.2.2⟩
       have HP8 : Aside0 (B8 lp) := ⟨by have h := (takeS_bytes (bad := bf) (n := c) HB8.out).2; rw [hp] at h; exact h⟩
       clear hp
       obtain ⟨hx0, hx1, hx2, hx3, hx4, hx5, hx6⟩ := cells7 HS.out.dz.head
       go_wp2_with fail
       clear hx0 hx1 hx2 hx3 hx4 hx5 hx6
       refine (rtake_R HP.out HS.out.dz.rd (by have := HTL.out.2.2; omega)).mono ?_
       rintro e w6 ⟨Ap, cp, rfl, hRp, hrd, hg⟩
       have HS6 := Aside0.mk (HS.out.num hrd hg)
       have hcv : (convert 29 9 (.slice Ap p.length cp)).run Try.prog w6 = .ok (.string (strOfNums p)) w6 := Kd.C_string Try.underlying29 Try.underlying5 Try.underlying9 (Kd.R_reads' hRp).2.2
       have HPS : Aside0 ((strOfNums p).size ≤ 1000000) := ⟨by rw [strOfNums_size]; exact HLP.out.1⟩
       obtain ⟨P, hP⟩ : ∃ P, strOfNums p = P := ⟨_, rfl⟩
       rw [hP] at hcv HPS
       have HPP := Aside0.mk hP
       clear hP hRp hrd hg HS
       go_wp2
       clear hcv
       have HS0 : Aside0 (Rz w w6 hb ob rg zb B N (headC v u s ln tn yn c) (zoneC (.slice (some ⟨lb, 0, none⟩) yn cb) (vr) (.slice none 0 0) v) lp bp vr tr2 (.slice (some ⟨lb, 0, none⟩) yn cb) (nmK P atf tyf okf 0).1 (.slice none 0 0) [] (.slice (some ⟨ab, 0, none⟩) yn ca) atf) := HS6
       clear HS6
       go_loopw [13, 18] (fun vok vi wr => ∃ (k : Nat), k ≤ yn ∧ vi = .int .i64 (k : Int) ∧ vok = .bool (nmK P atf tyf okf k).2 ∧ Aside0 (Rz w wr hb ob rg zb B N (headC v u s ln tn yn c) (zoneC (.slice (some ⟨lb, 0, none⟩) yn cb) (vr) (.slice none 0 0) v) lp bp vr tr2 (.slice (some ⟨lb, 0, none⟩) yn cb) (nmK P atf tyf okf k).1 (.slice none 0 0) [] (.slice (some ⟨ab, 0, none⟩) yn ca) atf)) (fun _ i _ => yn - (intOf i).toNat)
       case atStart => exact ⟨0, Nat.zero_le _, rfl, rfl, HS0⟩
       case round =>
        obtain ⟨k, hk, rfl, hvok, HS⟩ := hrel
        clear HS0
        by_cases hlt : k < yn
        ·skip
         have hNL := nmK_len P atf tyf okf k
         obtain ⟨ty1, ok1, hs⟩ : ∃ a b', nmK P atf tyf okf k = (a, b') := ⟨_, _, rfl⟩
         rw [hs] at HS hNL hvok
         dsimp only at HS hNL hvok
         subst hvok
         obtain ⟨nm, is, hat⟩ : ∃ a b', atN P (atf.getD k 0) = (a, b') := ⟨_, _, rfl⟩
         have HNEW : Aside0 (nmK P atf tyf okf (k + 1) = (ty1.set k (setNm (ty1.getD k z46) nm), ok1 && is)) := ⟨by unfold nmK; simp only [hs, hat]⟩
         have HAT := Aside0.mk hat
         have HTK : Aside0 (ty1.length = yn) := ⟨hNL.trans HTL.out.1⟩
         have h100 : yn ≤ 64 := HLT.out.2.2.1
         obtain ⟨ad, hA, hcell⟩ := Kd.at_int (Kd.R_reads' HS.out.ats).2.2 (k : Int) (by omega) (by have := HTL.out.2.1; omega)
         rw [rd_getD, Int.toNat_natCast] at hcell
         cases hA
         have hcell : wr.cell? ⟨ab, k, none⟩ = some (.int .i64 (atf.getD k 0)) := cell_add hcell
         clear hs hat hNL
         obtain ⟨hx0, hx1, hx2, hx3, hx4, hx5, hx6⟩ := cells7 HS.out.dz.head
         go_wp2_with fail
         clear hx0 hx1 hx2 hx3 hx4 hx5 hx6
         refine (rat_is (by have := HPS.out; omega) HAT.out).mono ?_
         rintro e w1 ⟨rfl, hb1⟩
         have HS1 := Aside0.mk (HS.out.step hb1)
         obtain ⟨hq2, hf2⟩ := ty_at HS1.out.ty k (by rw [HTK.out]; exact hlt)
         have HS2 := Aside0.mk (HS1.out.name nm (by rw [HTK.out]; exact hlt) rfl)
         clear hb1 HS hcell
         obtain ⟨hz0, hz1, hz2, hz3, hz4⟩ := zone_cells HS1.out.dz.zone
         cases ok1
         all_goals
          go_wp2
          exact ⟨⟨k + 1, by omega, by go_num, congrArg Value.bool (by rw [HNEW.out]; rfl), ⟨by rw [HNEW.out, getD46 (by rw [HTK.out]; exact hlt)]; exact HS2.out⟩⟩, by simp [intOf]; omega⟩
        ·obtain rfl : yn = k := by omega
         obtain ⟨ty1, ok1, hnm⟩ : ∃ a b', nmK P atf tyf okf yn = (a, b') := ⟨_, _, rfl⟩
         rw [hnm] at HS hvok
         dsimp only at HS hvok
         subst hvok
         have HNM := Aside0.mk hnm
         clear hnm hlt hk
         obtain ⟨hx0, hx1, hx2, hx3, hx4, hx5, hx6⟩ := cells7 HS.out.dz.head
         go_wp2
         clear hx0 hx1 hx2 hx3 hx4 hx5 hx6
         have HS0 : Aside0 (Rz w _ hb ob rg zb B N (headC v u s ln tn yn c) (zoneC (.slice (some ⟨lb, 0, none⟩) yn cb) (vr) (.slice none 0 0) v) (lpK 4 0 lp bp).2.1 (lpK 4 0 lp bp).2.2 vr tr2 (.slice (some ⟨lb, 0, none⟩) yn cb) ty1 (.slice none 0 0) (lpK 4 0 lp bp).1 (.slice (some ⟨ab, 0, none⟩) yn ca) atf) := HS
         clear HS
         go_loopw [21] (fun vi wr => ∃ (k : Nat) (vl : Value), k ≤ ln ∧ vi = .int .i64 (k : Int) ∧ Aside0 (Rz w wr hb ob rg zb B N (headC v u s ln tn yn c) (zoneC (.slice (some ⟨lb, 0, none⟩) yn cb) (vr) (vl) v) (lpK 4 k lp bp).2.1 (lpK 4 k lp bp).2.2 vr tr2 (.slice (some ⟨lb, 0, none⟩) yn cb) ty1 (vl) (lpK 4 k lp bp).1 (.slice (some ⟨ab, 0, none⟩) yn ca) atf)) (fun i _ => ln - (intOf i).toNat)
         case atStart => exact ⟨0, _, Nat.zero_le _, rfl, HS0⟩
         case round =>
          obtain ⟨k, vl, hk, rfl, HS⟩ := hrel
          clear HS0
          by_cases hlt : k < ln
          ·skip
           have hLL := lpK_len 4 lp bp k
           have hB8 := lpK_B8 4 HP8.out (b := bp) k
           obtain ⟨ls, lk, bk, hs⟩ : ∃ a b' c', lpK 4 k lp bp = (a, b', c') := ⟨_, _, _, rfl⟩
           obtain ⟨n1, l1, b1, h1⟩ : ∃ a b' c', numS lk bk 4 = (a, b', c') := ⟨_, _, _, rfl⟩
           obtain ⟨n2, l2, b2, h2⟩ : ∃ a b' c', numS l1 b1 4 = (a, b', c') := ⟨_, _, _, rfl⟩
           have HNEW : Aside0 (lpK 4 (k + 1) lp bp = (ls ++ [⟨n1, n2⟩], l2, b2)) := ⟨by unfold lpK; simp only [hs, h1, h2]⟩
           rw [hs] at HS hLL hB8
           dsimp only at HS hLL hB8
           have H1 := Aside0.mk h1
           have H2 := Aside0.mk h2
           have h81 : B8 l1 := num_B8 h1 hB8
           have hn1 := num_len lk bk 4
           rw [h1] at hn1
           have HD0 := Aside0.mk hB8
           have HD8 := Aside0.mk h81
           have HLK0 : Aside0 (lk.length ≤ 1000000) := ⟨Nat.le_trans hLL.2 HLP.out.2⟩
           have HLK : Aside0 (l1.length ≤ 1000000 ∧ ls.length = k) := ⟨⟨Nat.le_trans hn1 (Nat.le_trans hLL.2 HLP.out.2), hLL.1⟩⟩
           clear hs h1 h2 hLL hB8 h81 hn1
           obtain ⟨hx0, hx1, hx2, hx3, hx4, hx5, hx6⟩ := cells7 HS.out.dz.head
           go_wp2_with fail
           clear hx0 hx1 hx2 hx3 hx4 hx5 hx6
           refine (rnum_is H1.out HD0.out HS.out.dz.rd (Nat.le_trans HLK0.out (by omega))).mono ?_
           rintro e w1 ⟨rfl, hr1_, hg1_⟩
           have HSn := Aside0.mk (HS.out.num hr1_ hg1_)
           clear hr1_ hg1_ HS
           have HS := HSn
           clear HSn
           go_upto_region 34 with fail
           have HSd := Aside0.mk (HS.out.step (below_drew (Below.refl _ _)))
           refine start_ (n := 10) (S := fun w' => w'.cell? ⟨zb, 2, none⟩ = some vl) (ds := [9]) #[false, false, false, false, false, false, false, false, false, false] (by kernel_rfl) rfl rfl (zone_cells HSd.out.dz.zone).2.2.1 (fun hHeld => ?_); refine with_tabW tabR34 bitsR34 (fun HT_ HW_ => ?_)
           generalize w1.drew = wd at *
           clear HS
           refine pure_ (i := 0) (N := some 149) (v := ?_) (a' := ?_) #[true, false, false, false, false, false, false, false, false, false] rfl rfl (any_of HT_.out (by kernel_rfl)) (fun _ _ _ h => h) (Or.inl ⟨by rfl, ?_⟩) ?_ ?_
           rotate_left
           ·intro w'
            go_simp
            with_reducible rfl
           rotate_left
           ·simp only [Act.put, List.setIfInBounds_toArray, List.set_cons_zero, List.set_cons_succ]
            rfl
           refine pure_ (i := 2) (N := some 151) (v := ?_) (a' := ?_) #[true, false, true, false, false, false, false, false, false, false] rfl rfl (any_of HT_.out (by kernel_rfl)) (fun _ _ _ h => h) (Or.inl ⟨by rfl, ?_⟩) ?_ ?_
           rotate_left
           ·intro w'
            go_simp
            with_reducible rfl
           rotate_left
           ·simp only [Act.put, List.setIfInBounds_toArray, List.set_cons_zero, List.set_cons_succ]
            rfl
           refine pure_ (i := 3) (N := some 152) (v := ?_) (a' := ?_) #[true, false, true, true, false, false, false, false, false, false] rfl rfl (any_of HT_.out (by kernel_rfl)) (fun _ _ _ h => h) (Or.inl ⟨by rfl, ?_⟩) ?_ ?_
           rotate_left
           ·intro w'
            go_simp
            with_reducible rfl
           rotate_left
           ·simp only [Act.put, List.setIfInBounds_toArray, List.set_cons_zero, List.set_cons_succ]
            rfl
           refine take_ (i := 1) (N := some 150) (v := ?_) (a' := ?_) #[true, true, true, true, false, false, false, false, false, false] rfl rfl (take_ofW HT_.out HW_.out (by kernel_rfl)) (fun _ _ _ h => h) (Or.inl ⟨by rfl, ?_⟩) hHeld ?_ ?_
           rotate_left
           ·intro w' s0
            go_simp
            with_reducible rfl
           rotate_left
           ·simp only [Act.put, List.setIfInBounds_toArray, List.set_cons_zero, List.set_cons_succ]
            rfl
           refine one_ (i := 4) (N := some 153) #[true, true, true, true, true, false, false, false, false, false] rfl rfl (one_of HT_.out (by kernel_rfl)) (by decide) (fun K hK => ?_)
           refine goes_ Try.func34 (by kernel_rfl) rfl #[.pointer (some ⟨rg, 0, none⟩), .int .i64 4] (by rfl) rfl rfl (by (try simp only [List.map_toArray, List.map_cons, List.map_nil]); first | done | rfl) ?_
           refine (rnum_is H2.out HD8.out HSd.out.dz.rd (Nat.le_trans HLK.out.1 (by omega))).mono ?_
           rintro e w1 ⟨rfl, hr1_, hg1_⟩
           refine ⟨_, rfl, ?_⟩
           have HS1 := Aside0.mk (HSd.out.num hr1_ hg1_)
           clear hr1_ hg1_ HSd
           refine hK.out _ _ (zone_cells HS1.out.dz.zone).2.2.1 (fun hHeld => ?_)
           refine norm_ (a' := ?_) ?_ ?_
           rotate_left
           ·show Act.put _ (some 153) _ = _
            simp only [Act.put, List.setIfInBounds_toArray, List.set_cons_zero, List.set_cons_succ]
            rfl
           refine pure_ (i := 5) (N := some 154) (v := ?_) (a' := ?_) #[true, true, true, true, true, true, false, false, false, false] rfl rfl (any_of HT_.out (by kernel_rfl)) (fun _ _ _ h => h) (Or.inl ⟨by rfl, ?_⟩) ?_ ?_
           rotate_left
           ·intro w'
            go_simp
            with_reducible rfl
           rotate_left
           ·simp only [Act.put, List.setIfInBounds_toArray, List.set_cons_zero, List.set_cons_succ]
            rfl
           refine one_ (i := 6) (N := some 155) #[true, true, true, true, true, true, true, false, false, false] rfl rfl (one_of HT_.out (by kernel_rfl)) (by decide) (fun K hK => ?_)
           refine Kd.R_lit_step k50 _ 50 ?hg (N := 155) ?hd (xs := ([⟨n1, n2⟩] : List S50)) (inner := [.int .i64 n1, .int .i64 n2]) (ok := fun _ => True) (okp := fun _ => True) ?hr ?hp (fun _ hk => hk) trivial (Below.refl _ _) (Nat.le_refl _) (by simp) ?_; (case hd => rfl); (case hg => rfl); (case hr => first | (go_simp; done) | (go_simp; rfl)); (case hp => exact (Reps.c2 (show Kd.M k50 _ _ _ (⟨n1, n2⟩ : S50) [.int .i64 n1, .int .i64 n2] from k50_mkM _ _ _ (⟨n1, n2⟩ : S50)) (Reps.none _ _)))
           intro vs w2 hs_ hb_ _ _
           obtain ⟨As, cs, rfl⟩ := Kd.R_slice hs_
           have HS2 := Aside0.mk (HS1.out.step hb_)
           have HLI := Aside0.mk (Kd.R_reads' hs_).2.2
           clear hs_ hb_ HS1
           refine hK.out _ _ (zone_cells HS2.out.dz.zone).2.2.1 (fun hHeld => ?_)
           refine norm_ (a' := ?_) ?_ ?_
           rotate_left
           ·show Act.put _ (some 155) _ = _
            simp only [Act.put, List.setIfInBounds_toArray, List.set_cons_zero, List.set_cons_succ]
            rfl
           refine one_ (i := 7) (N := some 156) #[true, true, true, true, true, true, true, true, false, false] rfl rfl (one_of HT_.out (by kernel_rfl)) (by decide) (fun K hK => ?_)
           refine Kd.R_append_rows_step k50 (Rr := k50.K w2) (w0 := w2) N (by rfl) (.tmp 150) (.tmp 155) 24 50 (.agg #[.int .i64 0, .int .i64 0]) 16 rfl Try.underlying24 info50 rfl (by decide) (by omega) vl ls [⟨n1, n2⟩] As _ cs (fun _ => True) (fun _ => False) rfl rfl ?aO ?aR ?aK (fun _ h => h.elim) ?aF ?aB ?aS ?aL ?_
           (case aR => exact HLI.out)
           (case aK => exact K50)
           (case aB => exact Below.refl _ _)
           (case aF => exact (fun _ _ => trivial))
           (case aO => exact HS2.out.lps)
           (case aS => exact HS2.out.dz.sz)
           (case aL => have h1 := HLK.out.2; have h2 := HLT.out; have h3 := hlt; show (ls.length + 1) * 16 ≤ _; omega)
           intro v1 w3 ho_ hb_ hg_ _
           obtain ⟨Av, cv, hv_⟩ := Kd.R_slice ho_
           rw [List.length_append, HLK.out.2, List.length_singleton] at hv_
           subst hv_
           have HS3 := Aside0.mk (HS2.out.row_lps ho_ hg_)
           clear ho_ hb_ hg_ HLI HS2
           refine hK.out _ _ (zone_cells HS3.out.dz.zone).2.2.1 (fun hHeld => ?_)
           refine norm_ (a' := ?_) ?_ ?_
           rotate_left
           ·show Act.put _ (some 156) _ = _
            simp only [Act.put, List.setIfInBounds_toArray, List.set_cons_zero, List.set_cons_succ]
            rfl
           refine pure_ (i := 8) (N := some 157) (v := ?_) (a' := ?_) #[true, true, true, true, true, true, true, true, true, false] rfl rfl (any_of HT_.out (by kernel_rfl)) (fun _ _ _ h => h) (Or.inl ⟨by rfl, ?_⟩) ?_ ?_
           rotate_left
           ·intro w'
            go_simp
            with_reducible rfl
           rotate_left
           ·simp only [Act.put, List.setIfInBounds_toArray, List.set_cons_zero, List.set_cons_succ]
            rfl
           refine last_ (i := 9) (N := none) #[true, true, true, true, true, true, true, true, true, true] rfl rfl (one_of HT_.out (by kernel_rfl)) (by decide) (fun K hK => ?_)
           have hz_ := (zone_cells HS3.out.dz.zone).2.2.1
           have fz_ := blk_frozen HS3.out.dz.zone 2
           refine skip_ (w1 := ?_) (by rfl) rfl ?_ ?_
           rotate_left
           ·go_simp
            rfl
           refine hK.out _ _ ?_
           refine done_ (done_of HT_.out (by kernel_rfl)) ?_
           have HS5 : Aside0 (Rz w _ hb ob rg zb B N (headC v u s ln tn yn c) (zoneC (.slice (some ⟨lb, 0, none⟩) yn cb) (vr) (.slice Av (k + 1) cv) v) l2 b2 vr tr2 (.slice (some ⟨lb, 0, none⟩) yn cb) ty1 (.slice Av (k + 1) cv) (ls ++ [⟨n1, n2⟩]) (.slice (some ⟨ab, 0, none⟩) yn ca) atf) := ⟨HS3.out.zset 2 (.slice Av (k + 1) cv)⟩
           clear hK K hHeld HT_ HW_ hz_ fz_ HS3
           generalize w3.setCell ⟨zb, 2, none⟩ (.slice Av (k + 1) cv) = w5 at *
           have hLT := HLT.out
           go_wp2
           have HS6 : Aside0 (Rz w _ hb ob rg zb B N (headC v u s ln tn yn c) (zoneC (.slice (some ⟨lb, 0, none⟩) yn cb) (vr) (.slice Av (k + 1) cv) v) (lpK 4 (k + 1) lp bp).2.1 (lpK 4 (k + 1) lp bp).2.2 vr tr2 (.slice (some ⟨lb, 0, none⟩) yn cb) ty1 (.slice Av (k + 1) cv) (lpK 4 (k + 1) lp bp).1 (.slice (some ⟨ab, 0, none⟩) yn ca) atf) := ⟨by rw [HNEW.out]; exact HS5.out⟩
           refine ⟨⟨k + 1, .slice Av (k + 1) cv, ?_, ?_, HS6⟩, ?_⟩
           ·omega
           ·go_num
           ·simp [intOf]; omega
          ·obtain rfl : ln = k := by omega
           have hB8 := lpK_B8 4 HP8.out (b := bp) ln
           have hLL := lpK_len 4 lp bp ln
           obtain ⟨lsf, lt, bt, hlp⟩ : ∃ a b' c', lpK 4 ln lp bp = (a, b', c') := ⟨_, _, _, rfl⟩
           rw [hlp] at HS hB8 hLL
           dsimp only at HS hB8 hLL
           have HLT2 : Aside0 (lt.length ≤ 1000000) := ⟨Nat.le_trans hLL.2 HLP.out.2⟩
           obtain ⟨std, l8, b8, h8⟩ : ∃ a b' c', takeS lt bt s = (a, b', c') := ⟨_, _, _, rfl⟩
           obtain ⟨ut, l9, b9, h9⟩ : ∃ a b' c', takeS l8 b8 u = (a, b', c') := ⟨_, _, _, rfl⟩
           have H8 := Aside0.mk h8
           have H9 := Aside0.mk h9
           have HL8 : Aside0 (std.length ≤ 1000000 ∧ l8.length ≤ 1000000) := ⟨take_lens h8 HLT2.out⟩
           have HL9 : Aside0 (ut.length ≤ 1000000) := ⟨(take_lens h9 HL8.out.2).1⟩
           have hs8 : B8 std := by have h := (takeS_bytes (bad := bt) (n := s) hB8).1; rw [h8] at h; exact h
           have HDEC : Aside0 (decN v u s ln tn yn c b 4 = match (ok1 && wK std ut ut.length) && (!std.any (fun c => decide (c > 1)) && !ut.any (fun c => decide (c > 1))) with | true => (ty1, tr2, lsf, ⟨#[]⟩, v, true) | false => ([], [], [], ⟨#[]⟩, 0, false)) := ⟨by rw [dec_all HGD.out HTA.out HQ.out HTY.out HP.out HPP.out HNM.out hlp h8 h9, marks_same hs8]; cases ok1 <;> cases wK std ut ut.length <;> cases std.any (fun c => decide (c > 1)) <;> cases ut.any (fun c => decide (c > 1)) <;> rfl⟩
           clear h8 h9 hlp hB8 hLL hs8 hlt hk
           obtain ⟨Ar, cr, rfl⟩ := Kd.R_slice HS.out.tr
           obtain ⟨Al, cl, rfl⟩ := Kd.R_slice HS.out.lps
           obtain ⟨hx0, hx1, hx2, hx3, hx4, hx5, hx6⟩ := cells7 HS.out.dz.head
           go_wp2_with fail
           clear hx0 hx1 hx2 hx3 hx4 hx5 hx6
           refine (rtake_R H8.out HS.out.dz.rd (by have := HLT2.out; omega)).mono ?_
           rintro e w5 ⟨As, cs8, rfl, hRs, hrd, hg⟩
           have HS5 := Aside0.mk (HS.out.num hrd hg)
           have HRS := Aside0.mk (Kd.R_lower hRs HS.out.dz.rd.size.2.2)
           clear hRs hrd hg HS
           obtain ⟨hx0, hx1, hx2, hx3, hx4, hx5, hx6⟩ := cells7 HS5.out.dz.head
           go_wp2_with fail
           clear hx0 hx1 hx2 hx3 hx4 hx5 hx6
           refine (rtake_R H9.out HS5.out.dz.rd (by have := HL8.out.2; omega)).mono ?_
           rintro e w6 ⟨Au, cu, rfl, hRu, hrd, hg⟩
           have HS6 := Aside0.mk (HS5.out.num hrd hg)
           obtain ⟨cs5, hb5⟩ := Rd.block HS5.out.dz.rd
           have HRS6 := Aside0.mk (row_grown HRS.out hb5 (E5 (by decide)) hg)
           have HRU6 := Aside0.mk (Kd.R_lower hRu HS5.out.dz.rd.size.2.2)
           clear hRu hrd hg HS5 HRS hb5
           obtain ⟨q2, hq2⟩ : ∃ q, (!std.any (fun c => decide (c > 1))) = q := ⟨_, rfl⟩
           obtain ⟨q3, hq3⟩ : ∃ q, (!ut.any (fun c => decide (c > 1))) = q := ⟨_, rfl⟩
           have HM1 := Aside0.mk (fun W h => marks_is As cs8 std W h (Kd.R_reads' HRS6.out).2.1 HL8.out.1)
           have HM2 := Aside0.mk (fun W h => marks_is Au cu ut W h (Kd.R_reads' HRU6.out).2.1 HL9.out)
           rw [hq2] at HM1 HDEC
           rw [hq3] at HM2 HDEC
           clear hq2 hq3
           go_wp2_with fail
           refine (HM1.out _ (Kd.R_reads' HRS6.out).2.2).mono ?_
           rintro e w7 ⟨rfl, hb_⟩
           have HS7 := Aside0.mk (HS6.out.step hb_)
           have HRS7 := Aside0.mk (Kd.R_below HRS6.out hb_)
           have HRU7 := Aside0.mk (Kd.R_below HRU6.out hb_)
           clear hb_ HS6 HRS6 HRU6 HM1
           go_wp2_with fail
           refine (HM2.out _ (Kd.R_reads' HRU7.out).2.2).mono ?_
           rintro e w8 ⟨rfl, hb_⟩
           have HS8 := Aside0.mk (HS7.out.step hb_)
           have HRS8 := Aside0.mk (Kd.R_below HRS7.out hb_)
           have HRU8 := Aside0.mk (Kd.R_below HRU7.out hb_)
           clear hb_ HS7 HRS7 HRU7 HM2
           go_wp2
           go_loopw [13, 27] (fun vok vi wr => ∃ (k : Nat), k ≤ ut.length ∧ vi = .int .i64 (k : Int) ∧ vok = .bool (ok1 && wK std ut k) ∧ wr = w8) (fun _ i _ => ut.length - (intOf i).toNat)
           case atStart => exact ⟨0, Nat.zero_le _, rfl, congrArg Value.bool (Bool.and_true _).symm, rfl⟩
           case round =>
            obtain ⟨k, hk, rfl, hvok, rfl⟩ := hrel
            by_cases hlt : k < ut.length
            ·skip
             have hul := HL9.out
             have hsl := HL8.out.1
             obtain ⟨ad, hA, hcu⟩ := Kd.at_int (Kd.R_reads' HRU8.out).2.2 (k : Int) (by omega) (by omega)
             rw [rd_getD, Int.toNat_natCast] at hcu
             cases hA
             have HNEW : Aside0 (wK std ut (k + 1) = (wK std ut k && !(ut.getD k 0 == 1 && (decide (std.length ≤ k) || std.getD k 0 == 0)))) := ⟨rfl⟩
             subst hvok
             generalize ut.getD k 0 = xu at *
             by_cases hu : xu = 1
             ·have bu : (xu == 1) = true := beq_iff_eq.2 hu
              by_cases hl : std.length ≤ k
              ·have bl : decide ((std.length : Int) ≤ (k : Int)) = true := decide_eq_true (by omega)
               have bl2 : ((std.length : Int) ≤ (k : Int)) := by omega
               go_wp2_with fail
               exact ⟨⟨k + 1, by omega, by go_num, congrArg Value.bool (by rw [HNEW.out, bu, decide_eq_true hl]; simp), (by first | rfl | trivial)⟩, by simp [intOf]; omega⟩
              ·have bl : decide ((std.length : Int) ≤ (k : Int)) = false := decide_eq_false (by omega)
               have bl2 : ¬ ((std.length : Int) ≤ (k : Int)) := by omega
               have bl3 : (k : Int) < (std.length : Int) := by omega
               have bl4 : k < std.length := by omega
               obtain ⟨ad2, hA2, hcs⟩ := Kd.at_int (Kd.R_reads' HRS8.out).2.2 (k : Int) (by omega) (by omega)
               rw [rd_getD, Int.toNat_natCast] at hcs
               cases hA2
               generalize std.getD k 0 = xs at *
               by_cases hz : xs = 0
               ·have bz : (xs == 0) = true := beq_iff_eq.2 hz
                go_wp2_with fail
                exact ⟨⟨k + 1, by omega, by go_num, congrArg Value.bool (by rw [HNEW.out, bu, bz]; simp), (by first | rfl | trivial)⟩, by simp [intOf]; omega⟩
               ·have bz : (xs == 0) = false := beq_eq_false_iff_ne.2 hz
                go_wp2_with fail
                exact ⟨⟨k + 1, by omega, by go_num, congrArg Value.bool (by rw [HNEW.out, bz, decide_eq_false hl]; simp), (by first | rfl | trivial)⟩, by simp [intOf]; omega⟩
             ·have bu : (xu == 1) = false := beq_eq_false_iff_ne.2 hu
              go_wp2_with fail
              exact ⟨⟨k + 1, by omega, by go_num, congrArg Value.bool (by rw [HNEW.out, bu]; simp), (by first | rfl | trivial)⟩, by simp [intOf]; omega⟩
            ·obtain rfl : ut.length = k := by omega
             obtain ⟨q1, hq1⟩ : ∃ q, (ok1 && wK std ut ut.length) = q := ⟨_, rfl⟩
             rw [hq1] at HDEC hvok
             subst hvok
             clear hq1 hlt hk
             have hne := HS8.out.dz.ord
             obtain ⟨hz0, hz1, hz2, hz3, hz4⟩ := zone_cells HS8.out.dz.zone
             obtain ⟨ho0, ho1, ho2, ho3, ho4⟩ := zone_cells HS8.out.dz.out
             have g0 := blk_frozen HS8.out.dz.out 0
             have g1 := blk_frozen HS8.out.dz.out 1
             have g2 := blk_frozen HS8.out.dz.out 2
             have g3 := blk_frozen HS8.out.dz.out 3
             have g4 := blk_frozen HS8.out.dz.out 4
             cases q1 with
             | false =>
              have HD' : decN v u s ln tn yn c b 4 = ([], [], [], ⟨#[]⟩, 0, false) := HDEC.out
              go_wp2
              as_aux_lemma => exact bodyPost_ret (results_ct rfl _ _ ob 26 #[.slice none 0 0, .slice none 0 0, .slice none 0 0, .string ⟨#[]⟩, .int .i64 0] (0, 0) _ rfl (set5_blk HS8.out.dz.out _ _ _ _ _) Try.underlying26 rfl (by kernel_rfl)) rfl (by rw [HD']; exact ⟨_, _, _, rfl, Kd.R_nil _ _ _ _ _, Kd.R_nil _ _ _ _ _, Kd.R_nil _ _ _ _ _, set5_below HS8.out.dz.below hne.2.1 _ _ _ _ _⟩)
             | true =>
              cases q2 with
              | false =>
               have HD' : decN v u s ln tn yn c b 4 = ([], [], [], ⟨#[]⟩, 0, false) := HDEC.out
               go_wp2
               as_aux_lemma => exact bodyPost_ret (results_ct rfl _ _ ob 26 #[.slice none 0 0, .slice none 0 0, .slice none 0 0, .string ⟨#[]⟩, .int .i64 0] (0, 0) _ rfl (set5_blk HS8.out.dz.out _ _ _ _ _) Try.underlying26 rfl (by kernel_rfl)) rfl (by rw [HD']; exact ⟨_, _, _, rfl, Kd.R_nil _ _ _ _ _, Kd.R_nil _ _ _ _ _, Kd.R_nil _ _ _ _ _, set5_below HS8.out.dz.below hne.2.1 _ _ _ _ _⟩)
              | true =>
               cases q3 with
               | false =>
                have HD' : decN v u s ln tn yn c b 4 = ([], [], [], ⟨#[]⟩, 0, false) := HDEC.out
                go_wp2
                as_aux_lemma => exact bodyPost_ret (results_ct rfl _ _ ob 26 #[.slice none 0 0, .slice none 0 0, .slice none 0 0, .string ⟨#[]⟩, .int .i64 0] (0, 0) _ rfl (set5_blk HS8.out.dz.out _ _ _ _ _) Try.underlying26 rfl (by kernel_rfl)) rfl (by rw [HD']; exact ⟨_, _, _, rfl, Kd.R_nil _ _ _ _ _, Kd.R_nil _ _ _ _ _, Kd.R_nil _ _ _ _ _, set5_below HS8.out.dz.below hne.2.1 _ _ _ _ _⟩)
               | true =>
                have HD' : decN v u s ln tn yn c b 4 = (ty1, tr2, lsf, ⟨#[]⟩, v, true) := HDEC.out
                go_wp2
                as_aux_lemma => exact bodyPost_ret (results_ct rfl _ _ ob 26 #[.slice (some ⟨lb, 0, none⟩) yn cb, .slice Ar tr2.length cr, .slice Al lsf.length cl, .string ⟨#[]⟩, .int .i64 v] (0, 0) _ rfl (set5_blk HS8.out.dz.out _ _ _ _ _) Try.underlying26 rfl (by kernel_rfl)) rfl (by rw [HD']; exact ⟨_, _, _, rfl, set5_row HS8.out.ty HS8.out.dz.out (E46 (by decide)) (le_N hne HS8.out.dz.rd.size) _ _ _ _ _, set5_row HS8.out.tr HS8.out.dz.out (E48 (by decide)) (le_N hne HS8.out.dz.rd.size) _ _ _ _ _, set5_row HS8.out.lps HS8.out.dz.out (E50 (by decide)) (le_N hne HS8.out.dz.rd.size) _ _ _ _ _, set5_below HS8.out.dz.below hne.2.1 _ _ _ _ _⟩)
set_option maxHeartbeats 4000000 in
set_option maxRecDepth 100000 in
theorem rdec_8 (v u s c : Int) (ln tn yn : Nat) (A1 : Option Addr) (c1 : Nat) (b : List Int) (w : World) (j1 : Kd.C (Kd.int .u8) w A1 b.length b) (h8 : B8 b) (hlb : b.length ≤ 1000000) (hb0 : 0 < b.length) (hR : rightS v u s ln tn yn c = true) (hsz : sizeF v u s ln tn yn c 8 = b.length) :
  Calls Try.prog 15 #[.agg #[.int .i64 v, .int .i64 u, .int .i64 s, .int .i64 ln, .int .i64 tn, .int .i64 yn, .int .i64 c], .slice A1 b.length c1, .int .i64 8] w fun e w' => ∃ v0_ v1_ v2_ : Value, e = .returned (.tuple #[.agg #[v0_, v1_, v2_, .string (decN v u s ln tn yn c b 8).2.2.2.1, .int .i64 (decN v u s ln tn yn c b 8).2.2.2.2.1], .bool (decN v u s ln tn yn c b 8).2.2.2.2.2]) ∧ Kd.R k46 46 w' w.heap.size (fun _ => True) v0_ (decN v u s ln tn yn c b 8).1 ∧ Kd.R k48 48 w' w.heap.size (fun _ => True) v1_ (decN v u s ln tn yn c b 8).2.1 ∧ Kd.R k50 50 w' w.heap.size (fun _ => True) v2_ (decN v u s ln tn yn c b 8).2.2.1 ∧ Below w.heap.size w w' := by
 have HRT := Aside0.mk (fun W => rright_calls v u s ln tn yn c W)
 rw [hR] at HRT
 have HSZ := Aside0.mk (fun W => rsize_calls v u s ln tn yn c 8 W)
 rw [hsz] at HSZ
 have hRR := of_decide_eq_true hR
 have HLT : Aside0 (tn ≤ 2000 ∧ ln ≤ 201 ∧ yn ≤ 64 ∧ 1 ≤ yn) := ⟨by omega⟩
 have HGD : Aside0 (sizeF v u s ln tn yn c 8 ≠ 0 ∧ (b.length : Int) = sizeF v u s ln tn yn c 8) := ⟨⟨by rw [hsz]; omega, hsz.symm⟩⟩
 have bq : ((b.length : Int) != (b.length : Int)) = false := by simp
 have HOP := Aside0.mk (fun W h => Ref.open_calls A1 c1 b W h (by omega))
 have HR1 := Aside0.mk j1
 have H8 := Aside0.mk h8
 have HLB := Aside0.mk hlb
 clear j1 hR hRR hsz h8 hlb hb0
 go_enter Try.func15, Try.ntmps15
 have HB_0 := Aside0.mk (Below.refl w.heap.size w)
 go_wp2_with (first | ((with_reducible refine gate_dst (N := 3) rfl ?_); refine box_event ?hg (N := 3) ?hd (cs := #[.int .i64 v, .int .i64 u, .int .i64 s, .int .i64 ln, .int .i64 tn, .int .i64 yn, .int .i64 c]) (t := 28) ?hr ?_; (case hd => rfl); (case hg => rfl); (case hr => first | (go_simp; done) | (go_simp; rfl)); intro hb hg_ w1 hbox hb_; have GH : Aside0 (w.heap.size ≤ hb) := ⟨Nat.le_of_eq hg_.symm⟩; have GWH : Aside0 (w.heap.size ≤ hb) := ⟨Nat.le_trans (Below.size HB_0.out) (Nat.le_of_eq hg_.symm)⟩; have HB_1 := Aside0.mk (below_step HB_0.out hb_); clear HB_0; have H_1 := Aside0.mk (hbox); clear hbox hb_ hg_) | ((with_reducible refine gate_dst (N := 6) rfl ?_); refine box_event ?hg (N := 6) ?hd (cs := #[.slice none 0 0, .slice none 0 0, .slice none 0 0, .string ⟨#[]⟩, .int .i64 0]) (t := 26) ?hr ?_; (case hd => rfl); (case hg => rfl); (case hr => first | (go_simp; done) | (go_simp; rfl)); intro ob hg_ w2 hbox hb_; have GO : Aside0 (w1.heap.size ≤ ob) := ⟨Nat.le_of_eq hg_.symm⟩; have GWO : Aside0 (w.heap.size ≤ ob) := ⟨Nat.le_trans (Below.size HB_1.out) (Nat.le_of_eq hg_.symm)⟩; have NOH : Aside0 (hb ≠ ob) := ⟨fun e_ => by have h_ := blk_lt H_1.out; omega⟩; have HB_2 := Aside0.mk (below_step HB_1.out hb_); have H_2 := Aside0.mk (blk_below H_1.out hb_); clear HB_1 H_1; have O_2 := Aside0.mk (hbox); clear hbox hb_ hg_; obtain ⟨hx0, hx1, hx2, hx3, hx4, hx5, hx6⟩ := cells7 H_2.out))
 refine (HRT.out _).mono ?_
 rintro e w3 ⟨rfl, hb_⟩
 have HB_3 := Aside0.mk (below_step HB_2.out hb_)
 have H_3 := Aside0.mk (blk_below H_2.out hb_)
 have O_3 := Aside0.mk (blk_below O_2.out hb_)
 clear HB_2 H_2 O_2
 clear hx0 hx1 hx2 hx3 hx4 hx5 hx6
 clear hb_ HRT
 obtain ⟨hx0, hx1, hx2, hx3, hx4, hx5, hx6⟩ := cells7 H_3.out
 go_wp2_with fail
 refine (HSZ.out _).mono ?_
 rintro e w4 ⟨rfl, hb_⟩
 have HB_4 := Aside0.mk (below_step HB_3.out hb_)
 have H_4 := Aside0.mk (blk_below H_3.out hb_)
 have O_4 := Aside0.mk (blk_below O_3.out hb_)
 clear HB_3 H_3 O_3
 clear hx0 hx1 hx2 hx3 hx4 hx5 hx6
 clear hb_ HSZ
 go_wp2_with fail
 have HBL : Aside0 (hb < w4.heap.size ∧ ob < w4.heap.size) := ⟨⟨blk_lt H_4.out, blk_lt O_4.out⟩⟩
 refine (HOP.out _ (Kd.C_below HR1.out HB_4.out)).mono ?_
 rintro e w5 ⟨rg, rfl, hrd, hb_⟩
 have HB_5 := Aside0.mk (below_step HB_4.out hb_)
 have H_5 := Aside0.mk (blk_below H_4.out hb_)
 have O_5 := Aside0.mk (blk_below O_4.out hb_)
 clear HB_4 H_4 O_4
 clear hb_ HOP bq
 have RD_5 := Aside0.mk hrd
 clear hrd
 obtain ⟨hx0, hx1, hx2, hx3, hx4, hx5, hx6⟩ := cells7 H_5.out
 go_upto_region 5 with ((with_reducible refine gate_dst (N := 9) rfl ?_); refine box_event ?hg (N := 9) ?hd (cs := #[.slice none 0 0, .slice none 0 0, .slice none 0 0, .string ⟨#[]⟩, .int .i64 0]) (t := 26) ?hr ?_; (case hd => rfl); (case hg => rfl); (case hr => first | (go_simp; done) | (go_simp; rfl)); intro zb hg_ w6 hbox hb_; have HN := Aside0.mk hb_; have HBX := Aside0.mk hbox; have GZB : Aside0 (w5.heap.size ≤ zb) := ⟨Nat.le_of_eq hg_.symm⟩; have NZBH : Aside0 (hb ≠ zb) := ⟨fun e_ => by have h_ := blk_lt H_5.out; omega⟩; obtain ⟨hy0, hy1, hy2, hy3, hy4⟩ := zone_cells hbox; have f0 := blk_frozen hbox 0; have f1 := blk_frozen hbox 1; have f2 := blk_frozen hbox 2; have f3 := blk_frozen hbox 3; have f4 := blk_frozen hbox 4; clear hbox hb_ hg_)
 have HX := Aside0.mk (set5_below HN.out GZB.out (.slice none 0 0) (.slice none 0 0) (.slice none 0 0) (.string ⟨#[]⟩) (.int .i64 v))
 have HY := Aside0.mk (set5_blk HBX.out (.slice none 0 0) (.slice none 0 0) (.slice none 0 0) (.string ⟨#[]⟩) (.int .i64 v))
 unfold set5 at HX HY
 clear HBX HN hy0 f0 hy1 f1 hy2 f2 hy3 f3 hy4 f4
 clear hx0 hx1 hx2 hx3 hx4 hx5 hx6
 generalize (((((w6.setCell ⟨zb, 0, none⟩ (.slice none 0 0)).setCell ⟨zb, 1, none⟩ (.slice none 0 0)).setCell ⟨zb, 2, none⟩ (.slice none 0 0)).setCell ⟨zb, 3, none⟩ (.string ⟨#[]⟩)).setCell ⟨zb, 4, none⟩ (.int .i64 v)) = w7 at *
 have HB_7 := Aside0.mk (below_step HB_5.out HX.out)
 have H_7 := Aside0.mk (blk_below H_5.out HX.out)
 have O_7 := Aside0.mk (blk_below O_5.out HX.out)
 have RD_7 := Aside0.mk (Rd.below RD_5.out HX.out)
 clear HB_5 H_5 O_5 RD_5
 have ZB_7 := Aside0.mk (HY.out)
 clear HX HY
 have HS0 : Aside0 (Rz w w7 hb ob rg zb w4.heap.size w5.heap.size (headC v u s ln tn yn c) (zoneC (.slice none 0 0) (.slice none 0 0) (.slice none 0 0) v) b false (.slice none 0 0) [] (.slice none 0 0) [] (.slice none 0 0) [] (.slice none 0 0) []) := ⟨⟨⟨H_7.out, O_7.out, RD_7.out, ZB_7.out, ⟨GWH.out, GWO.out, NOH.out, HBL.out.1, HBL.out.2, GZB.out⟩, HB_7.out⟩, Kd.R_nil _ _ _ _ _, Kd.R_nil _ _ _ _ _, Kd.R_nil _ _ _ _ _, Kd.R_nil _ _ _ _ _⟩⟩
 clear HB_7 H_7 O_7 RD_7 ZB_7
 clear HBL GWH GWO NOH GZB GH GO HR1
 generalize w4.heap.size = B at *
 generalize w5.heap.size = N at *
 go_wp2
 have HS0 : Aside0 (Rz w _ hb ob rg zb B N (headC v u s ln tn yn c) (zoneC (.slice none 0 0) (.slice none 0 0) (.slice none 0 0) v) (dA 8 0 b false).2.1 (dA 8 0 b false).2.2 (.slice none 0 0) (dA 8 0 b false).1 (.slice none 0 0) [] (.slice none 0 0) [] (.slice none 0 0) []) := HS0
 go_loopw [10] (fun vi wr => ∃ (k : Nat) (vr : Value), k ≤ tn ∧ vi = .int .i64 (k : Int) ∧ Aside0 (Rz w wr hb ob rg zb B N (headC v u s ln tn yn c) (zoneC (.slice none 0 0) (vr) (.slice none 0 0) v) (dA 8 k b false).2.1 (dA 8 k b false).2.2 vr (dA 8 k b false).1 (.slice none 0 0) [] (.slice none 0 0) [] (.slice none 0 0) [])) (fun i _ => tn - (intOf i).toNat)
 case atStart => exact ⟨0, _, Nat.zero_le _, rfl, HS0⟩
 case round =>
  obtain ⟨k, vr, hk, rfl, HS⟩ := hrel
  clear HS0
  by_cases hlt : k < tn
  ·skip
   obtain ⟨hdl, hdr, hd8⟩ := dA_facts 8 H8.out (b := false) k
   obtain ⟨n1, l1, b1, h1⟩ : ∃ a b' c', numS (dA 8 k b false).2.1 (dA 8 k b false).2.2 8 = (a, b', c') := ⟨_, _, _, rfl⟩
   have HNEW : Aside0 (dA 8 (k + 1) b false = ((dA 8 k b false).1 ++ [⟨n1, 0⟩], l1, b1)) := ⟨by show ((dA 8 k b false).1 ++ [⟨(numS (dA 8 k b false).2.1 (dA 8 k b false).2.2 8).1, 0⟩], (numS (dA 8 k b false).2.1 (dA 8 k b false).2.2 8).2.1, (numS (dA 8 k b false).2.1 (dA 8 k b false).2.2 8).2.2) = _; rw [h1]⟩
   obtain ⟨tl, lk, bk, hs⟩ : ∃ a b' c', dA 8 k b false = (a, b', c') := ⟨_, _, _, rfl⟩
   rw [hs] at HS HNEW h1 hdl hdr hd8
   dsimp only at HS HNEW h1 hdl hdr hd8
   have H1 := Aside0.mk h1
   have HD8 := Aside0.mk hd8
   have HLK : Aside0 (lk.length ≤ 1000000 ∧ tl.length = k) := ⟨⟨Nat.le_trans hdr HLB.out, hdl⟩⟩
   clear hs h1 hdl hdr hd8
   obtain ⟨hx0, hx1, hx2, hx3, hx4, hx5, hx6⟩ := cells7 HS.out.dz.head
   go_upto_region 8 with fail
   clear hx0 hx1 hx2 hx3 hx4 hx5 hx6
   have HSd := Aside0.mk (HS.out.step (below_drew (Below.refl _ _)))
   refine start_ (n := 10) (S := fun w' => w'.cell? ⟨zb, 1, none⟩ = some vr) (ds := [9]) #[false, false, false, false, false, false, false, false, false, false] (by kernel_rfl) rfl rfl (zone_cells HSd.out.dz.zone).2.1 (fun hHeld => ?_); refine with_tabW tabR8 bitsR8 (fun HT_ HW_ => ?_)
   generalize wr.drew = wd at *
   clear HS
   refine pure_ (i := 0) (N := some 59) (v := ?_) (a' := ?_) #[true, false, false, false, false, false, false, false, false, false] rfl rfl (any_of HT_.out (by kernel_rfl)) (fun _ _ _ h => h) (Or.inl ⟨by rfl, ?_⟩) ?_ ?_
   rotate_left
   ·intro w'
    go_simp
    with_reducible rfl
   rotate_left
   ·simp only [Act.put, List.setIfInBounds_toArray, List.set_cons_zero, List.set_cons_succ]
    rfl
   refine pure_ (i := 2) (N := some 61) (v := ?_) (a' := ?_) #[true, false, true, false, false, false, false, false, false, false] rfl rfl (any_of HT_.out (by kernel_rfl)) (fun _ _ _ h => h) (Or.inl ⟨by rfl, ?_⟩) ?_ ?_
   rotate_left
   ·intro w'
    go_simp
    with_reducible rfl
   rotate_left
   ·simp only [Act.put, List.setIfInBounds_toArray, List.set_cons_zero, List.set_cons_succ]
    rfl
   refine pure_ (i := 3) (N := some 62) (v := ?_) (a' := ?_) #[true, false, true, true, false, false, false, false, false, false] rfl rfl (any_of HT_.out (by kernel_rfl)) (fun _ _ _ h => h) (Or.inl ⟨by rfl, ?_⟩) ?_ ?_
   rotate_left
   ·intro w'
    go_simp
    with_reducible rfl
   rotate_left
   ·simp only [Act.put, List.setIfInBounds_toArray, List.set_cons_zero, List.set_cons_succ]
    rfl
   refine take_ (i := 1) (N := some 60) (v := ?_) (a' := ?_) #[true, true, true, true, false, false, false, false, false, false] rfl rfl (take_ofW HT_.out HW_.out (by kernel_rfl)) (fun _ _ _ h => h) (Or.inl ⟨by rfl, ?_⟩) hHeld ?_ ?_
   rotate_left
   ·intro w' s0
    go_simp
    with_reducible rfl
   rotate_left
   ·simp only [Act.put, List.setIfInBounds_toArray, List.set_cons_zero, List.set_cons_succ]
    rfl
   refine one_ (i := 4) (N := some 63) #[true, true, true, true, true, false, false, false, false, false] rfl rfl (one_of HT_.out (by kernel_rfl)) (by decide) (fun K hK => ?_)
   refine goes_ Try.func34 (by kernel_rfl) rfl #[.pointer (some ⟨rg, 0, none⟩), .int .i64 8] (by rfl) rfl rfl (by (try simp only [List.map_toArray, List.map_cons, List.map_nil]); first | done | rfl) ?_
   refine (rnum_is H1.out HD8.out HSd.out.dz.rd (Nat.le_trans HLK.out.1 (by omega))).mono ?_
   rintro e w1 ⟨rfl, hr1_, hg1_⟩
   refine ⟨_, rfl, ?_⟩
   have HS1 := Aside0.mk (HSd.out.num hr1_ hg1_)
   clear hr1_ hg1_ HSd
   refine hK.out _ _ (zone_cells HS1.out.dz.zone).2.1 (fun hHeld => ?_)
   refine norm_ (a' := ?_) ?_ ?_
   rotate_left
   ·show Act.put _ (some 63) _ = _
    simp only [Act.put, List.setIfInBounds_toArray, List.set_cons_zero, List.set_cons_succ]
    rfl
   refine pure_ (i := 5) (N := some 64) (v := ?_) (a' := ?_) #[true, true, true, true, true, true, false, false, false, false] rfl rfl (any_of HT_.out (by kernel_rfl)) (fun _ _ _ h => h) (Or.inl ⟨by rfl, ?_⟩) ?_ ?_
   rotate_left
   ·intro w'
    go_simp
    with_reducible rfl
   rotate_left
   ·simp only [Act.put, List.setIfInBounds_toArray, List.set_cons_zero, List.set_cons_succ]
    rfl
   refine one_ (i := 6) (N := some 65) #[true, true, true, true, true, true, true, false, false, false] rfl rfl (one_of HT_.out (by kernel_rfl)) (by decide) (fun K hK => ?_)
   refine Kd.R_lit_step k48 _ 48 ?hg (N := 65) ?hd (xs := ([⟨n1, 0⟩] : List S48)) (inner := [.int .i64 n1, .int .i64 0]) (ok := fun _ => True) (okp := fun _ => True) ?hr ?hp (fun _ hk => hk) trivial (Below.refl _ _) (Nat.le_refl _) (by simp) ?_; (case hd => rfl); (case hg => rfl); (case hr => first | (go_simp; done) | (go_simp; rfl)); (case hp => exact (Reps.c2 (show Kd.M k48 _ _ _ (⟨n1, 0⟩ : S48) [.int .i64 n1, .int .i64 0] from k48_mkM _ _ _ (⟨n1, 0⟩ : S48)) (Reps.none _ _)))
   intro vs w2 hs_ hb_ _ _
   obtain ⟨As, cs, rfl⟩ := Kd.R_slice hs_
   have HS2 := Aside0.mk (HS1.out.step hb_)
   have HLI := Aside0.mk (Kd.R_reads' hs_).2.2
   clear hs_ hb_ HS1
   refine hK.out _ _ (zone_cells HS2.out.dz.zone).2.1 (fun hHeld => ?_)
   refine norm_ (a' := ?_) ?_ ?_
   rotate_left
   ·show Act.put _ (some 65) _ = _
    simp only [Act.put, List.setIfInBounds_toArray, List.set_cons_zero, List.set_cons_succ]
    rfl
   refine one_ (i := 7) (N := some 66) #[true, true, true, true, true, true, true, true, false, false] rfl rfl (one_of HT_.out (by kernel_rfl)) (by decide) (fun K hK => ?_)
   refine Kd.R_append_rows_step k48 (Rr := k48.K w2) (w0 := w2) N (by rfl) (.tmp 60) (.tmp 65) 23 48 (.agg #[.int .i64 0, .int .i64 0]) 16 rfl Try.underlying23 info48 rfl (by decide) (by omega) vr tl [⟨n1, 0⟩] As _ cs (fun _ => True) (fun _ => False) rfl rfl ?aO ?aR ?aK (fun _ h => h.elim) ?aF ?aB ?aS ?aL ?_
   (case aR => exact HLI.out)
   (case aK => exact K48)
   (case aB => exact Below.refl _ _)
   (case aF => exact (fun _ _ => trivial))
   (case aO => exact HS2.out.tr)
   (case aS => exact HS2.out.dz.sz)
   (case aL => have h1 := HLK.out.2; have h2 := HLT.out; have h3 := hlt; show (tl.length + 1) * 16 ≤ _; omega)
   intro v1 w3 ho_ hb_ hg_ _
   obtain ⟨Av, cv, hv_⟩ := Kd.R_slice ho_
   rw [List.length_append, HLK.out.2, List.length_singleton] at hv_
   subst hv_
   have HS3 := Aside0.mk (HS2.out.row_tr ho_ hg_)
   clear ho_ hb_ hg_ HLI HS2
   refine hK.out _ _ (zone_cells HS3.out.dz.zone).2.1 (fun hHeld => ?_)
   refine norm_ (a' := ?_) ?_ ?_
   rotate_left
   ·show Act.put _ (some 66) _ = _
    simp only [Act.put, List.setIfInBounds_toArray, List.set_cons_zero, List.set_cons_succ]
    rfl
   refine pure_ (i := 8) (N := some 67) (v := ?_) (a' := ?_) #[true, true, true, true, true, true, true, true, true, false] rfl rfl (any_of HT_.out (by kernel_rfl)) (fun _ _ _ h => h) (Or.inl ⟨by rfl, ?_⟩) ?_ ?_
   rotate_left
   ·intro w'
    go_simp
    with_reducible rfl
   rotate_left
   ·simp only [Act.put, List.setIfInBounds_toArray, List.set_cons_zero, List.set_cons_succ]
    rfl
   refine last_ (i := 9) (N := none) #[true, true, true, true, true, true, true, true, true, true] rfl rfl (one_of HT_.out (by kernel_rfl)) (by decide) (fun K hK => ?_)
   have hz_ := (zone_cells HS3.out.dz.zone).2.1
   have fz_ := blk_frozen HS3.out.dz.zone 1
   refine skip_ (w1 := ?_) (by rfl) rfl ?_ ?_
   rotate_left
   ·go_simp
    rfl
   refine hK.out _ _ ?_
   refine done_ (done_of HT_.out (by kernel_rfl)) ?_
   have HS5 : Aside0 (Rz w _ hb ob rg zb B N (headC v u s ln tn yn c) (zoneC (.slice none 0 0) (.slice Av (k + 1) cv) (.slice none 0 0) v) l1 b1 (.slice Av (k + 1) cv) (tl ++ [⟨n1, 0⟩]) (.slice none 0 0) [] (.slice none 0 0) [] (.slice none 0 0) []) := ⟨HS3.out.zset 1 (.slice Av (k + 1) cv)⟩
   clear hK K hHeld HT_ HW_ hz_ fz_ HS3
   generalize w3.setCell ⟨zb, 1, none⟩ (.slice Av (k + 1) cv) = w5 at *
   have hLT := HLT.out
   go_wp2
   have HS6 : Aside0 (Rz w _ hb ob rg zb B N (headC v u s ln tn yn c) (zoneC (.slice none 0 0) (.slice Av (k + 1) cv) (.slice none 0 0) v) (dA 8 (k + 1) b false).2.1 (dA 8 (k + 1) b false).2.2 (.slice Av (k + 1) cv) (dA 8 (k + 1) b false).1 (.slice none 0 0) [] (.slice none 0 0) [] (.slice none 0 0) []) := ⟨by rw [HNEW.out]; exact HS5.out⟩
   refine ⟨⟨k + 1, .slice Av (k + 1) cv, ?_, ?_, HS6⟩, ?_⟩
   ·omega
   ·go_num
   ·simp [intOf]; omega
  ·obtain rfl : tn = k := by omega
   obtain ⟨hdl, hdr, hd8⟩ := dA_facts 8 H8.out (b := false) tn
   obtain ⟨tr1, la, ba, ha⟩ : ∃ a b' c', dA 8 tn b false = (a, b', c') := ⟨_, _, _, rfl⟩
   rw [ha] at HS hdl hdr hd8
   dsimp only at HS hdl hdr hd8
   have HTA := Aside0.mk ((dA_all 8 b false tn).trans ha)
   have HLA : Aside0 (la.length ≤ 1000000 ∧ tr1.length = tn) := ⟨⟨Nat.le_trans hdr HLB.out, hdl⟩⟩
   have HA8 := Aside0.mk hd8
   clear ha hdl hdr hd8 hlt hk H8 HLB
   obtain ⟨hx0, hx1, hx2, hx3, hx4, hx5, hx6⟩ := cells7 HS.out.dz.head
   go_wp2
   clear hx0 hx1 hx2 hx3 hx4 hx5 hx6
   have HS0 : Aside0 (Rz w _ hb ob rg zb B N (headC v u s ln tn yn c) (zoneC (.slice none 0 0) (vr) (.slice none 0 0) v) (trB 0 tr1 la ba).2.1 (trB 0 tr1 la ba).2.2 vr (trB 0 tr1 la ba).1 (.slice none 0 0) [] (.slice none 0 0) [] (.slice none 0 0) []) := HS
   clear HS
   go_loopw [11] (fun vi wr => ∃ (k : Nat), k ≤ tn ∧ vi = .int .i64 (k : Int) ∧ Aside0 (Rz w wr hb ob rg zb B N (headC v u s ln tn yn c) (zoneC (.slice none 0 0) (vr) (.slice none 0 0) v) (trB k tr1 la ba).2.1 (trB k tr1 la ba).2.2 vr (trB k tr1 la ba).1 (.slice none 0 0) [] (.slice none 0 0) [] (.slice none 0 0) [])) (fun i _ => tn - (intOf i).toNat)
   case atStart => exact ⟨0, Nat.zero_le _, rfl, HS0⟩
   case round =>
    obtain ⟨k, hk, rfl, HS⟩ := hrel
    clear HS0
    by_cases hlt : k < tn
    ·skip
     have hTL := trB_len tr1 la ba k
     have hB8 := trB_B8 tr1 HA8.out (b := ba) k
     obtain ⟨n1, l1, b1, h1⟩ : ∃ a b' c', numS (trB k tr1 la ba).2.1 (trB k tr1 la ba).2.2 1 = (a, b', c') := ⟨_, _, _, rfl⟩
     obtain ⟨tl, lk, bk, hs⟩ : ∃ a b' c', trB k tr1 la ba = (a, b', c') := ⟨_, _, _, rfl⟩
     have HNEW : Aside0 (trB (k + 1) tr1 la ba = (tl.set k ⟨(tl.getD k z48).f0, n1⟩, l1, b1)) := ⟨by rw [hs] at h1; unfold trB; simp only [hs, h1]⟩
     rw [hs] at HS h1 hTL hB8
     dsimp only at HS h1 hTL hB8
     have H1 := Aside0.mk h1
     have HD8 := Aside0.mk hB8
     have HLK : Aside0 (lk.length ≤ 1000000 ∧ tl.length = tn) := ⟨⟨Nat.le_trans hTL.2 HLA.out.1, hTL.1.trans HLA.out.2⟩⟩
     clear hs h1 hTL hB8
     obtain ⟨tb, cb, rfl, -⟩ := Kd.R_form HS.out.tr (by rw [HLK.out.2]; omega)
     have htl : tl.length = tn := HLK.out.2
     obtain ⟨hx0, hx1, hx2, hx3, hx4, hx5, hx6⟩ := cells7 HS.out.dz.head
     go_upto_region 12 with fail
     clear hx0 hx1 hx2 hx3 hx4 hx5 hx6
     have HSd := Aside0.mk (HS.out.step (below_drew (Below.refl _ _)))
     refine start_ (n := 8) (S := fun w' => w'.cell? ⟨zb, 1, none⟩ = some (.slice (some ⟨tb, 0, none⟩) tl.length cb)) (ds := [7]) #[false, false, false, false, false, false, false, false] (by kernel_rfl) rfl rfl (zone_cells HSd.out.dz.zone).2.1 (fun hHeld => ?_); refine with_tabW tabR12 bitsR12 (fun HT_ HW_ => ?_)
     generalize wr.drew = wd at *
     clear HS
     have q0 : (0 : Int) ≤ (k : Int) := by omega
     have q1 : (k : Int) < (tl.length : Int) := by omega
     have q2 : k < tl.length := by omega
     refine pure_ (i := 0) (N := some 74) (v := ?_) (a' := ?_) #[true, false, false, false, false, false, false, false] rfl rfl (any_of HT_.out (by kernel_rfl)) (fun _ _ _ h => h) (Or.inl ⟨by rfl, ?_⟩) ?_ ?_
     rotate_left
     ·intro w'
      go_simp
      with_reducible rfl
     rotate_left
     ·simp only [Act.put, List.setIfInBounds_toArray, List.set_cons_zero, List.set_cons_succ]
      rfl
     refine pure_ (i := 2) (N := some 76) (v := ?_) (a' := ?_) #[true, false, true, false, false, false, false, false] rfl rfl (any_of HT_.out (by kernel_rfl)) (fun _ _ _ h => h) (Or.inl ⟨by rfl, ?_⟩) ?_ ?_
     rotate_left
     ·intro w'
      go_simp
      with_reducible rfl
     rotate_left
     ·simp only [Act.put, List.setIfInBounds_toArray, List.set_cons_zero, List.set_cons_succ]
      rfl
     refine pure_ (i := 3) (N := some 77) (v := ?_) (a' := ?_) #[true, false, true, true, false, false, false, false] rfl rfl (any_of HT_.out (by kernel_rfl)) (fun _ _ _ h => h) (Or.inl ⟨by rfl, ?_⟩) ?_ ?_
     rotate_left
     ·intro w'
      go_simp
      with_reducible rfl
     rotate_left
     ·simp only [Act.put, List.setIfInBounds_toArray, List.set_cons_zero, List.set_cons_succ]
      rfl
     refine take_ (i := 1) (N := some 75) (v := ?_) (a' := ?_) #[true, true, true, true, false, false, false, false] rfl rfl (take_ofW HT_.out HW_.out (by kernel_rfl)) (fun _ _ _ h => h) (Or.inl ⟨by rfl, ?_⟩) hHeld ?_ ?_
     rotate_left
     ·intro w' s0
      go_simp
      with_reducible rfl
     rotate_left
     ·simp only [Act.put, List.setIfInBounds_toArray, List.set_cons_zero, List.set_cons_succ]
      rfl
     refine one_ (i := 4) (N := some 78) #[true, true, true, true, true, false, false, false] rfl rfl (one_of HT_.out (by kernel_rfl)) (by decide) (fun K hK => ?_)
     refine goes_ Try.func34 (by kernel_rfl) rfl #[.pointer (some ⟨rg, 0, none⟩), .int .i64 1] (by rfl) rfl rfl (by (try simp only [List.map_toArray, List.map_cons, List.map_nil]); first | done | rfl) ?_
     refine (rnum_is H1.out HD8.out HSd.out.dz.rd (Nat.le_trans HLK.out.1 (by omega))).mono ?_
     rintro e w1 ⟨rfl, hr1_, hg1_⟩
     refine ⟨_, rfl, ?_⟩
     have HS1 := Aside0.mk (HSd.out.num hr1_ hg1_)
     clear hr1_ hg1_ HSd
     refine hK.out _ _ (zone_cells HS1.out.dz.zone).2.1 (fun hHeld => ?_)
     refine norm_ (a' := ?_) ?_ ?_
     rotate_left
     ·show Act.put _ (some 78) _ = _
      simp only [Act.put, List.setIfInBounds_toArray, List.set_cons_zero, List.set_cons_succ]
      rfl
     refine pure_ (i := 5) (N := some 79) (v := ?_) (a' := ?_) #[true, true, true, true, true, true, false, false] rfl rfl (any_of HT_.out (by kernel_rfl)) (fun _ _ _ h => h) (Or.inl ⟨by rfl, ?_⟩) ?_ ?_
     rotate_left
     ·intro w'
      go_simp
      with_reducible rfl
     rotate_left
     ·simp only [Act.put, List.setIfInBounds_toArray, List.set_cons_zero, List.set_cons_succ]
      rfl
     refine pure_ (i := 6) (N := some 80) (v := ?_) (a' := ?_) #[true, true, true, true, true, true, true, false] rfl rfl (any_of HT_.out (by kernel_rfl)) (fun _ _ _ h => h) (Or.inl ⟨by rfl, ?_⟩) ?_ ?_
     rotate_left
     ·intro w'
      go_simp
      with_reducible rfl
     rotate_left
     ·simp only [Act.put, List.setIfInBounds_toArray, List.set_cons_zero, List.set_cons_succ]
      rfl
     refine last_ (i := 7) (N := none) #[true, true, true, true, true, true, true, true] rfl rfl (one_of HT_.out (by kernel_rfl)) (by decide) (fun K hK => ?_)
     obtain ⟨⟨x_, hy_, -⟩, fy_⟩ := tr_at HS1.out.tr k q2 1 (by decide)
     refine skip_ (w1 := ?_) (by rfl) rfl ?_ ?_
     rotate_left
     ·go_simp
      rfl
     refine hK.out _ _ ?_
     refine done_ (done_of HT_.out (by kernel_rfl)) ?_
     have HS5 : Aside0 (Rz w (w1.setCell ⟨tb, k * 2 + 1, none⟩ (.int .i64 n1)) hb ob rg zb B N (headC v u s ln tn yn c) (zoneC (.slice none 0 0) (.slice (some ⟨tb, 0, none⟩) tl.length cb) (.slice none 0 0) v) l1 b1 (.slice (some ⟨tb, 0, none⟩) tl.length cb) (tl.set k ⟨(tl.getD k z48).f0, n1⟩) (.slice none 0 0) [] (.slice none 0 0) [] (.slice none 0 0) []) := ⟨HS1.out.set_tr (j := 1) (x' := ⟨(tl.getD k z48).f0, n1⟩) (by decide) q2 (by rw [getD_at q2]; rfl) rfl⟩
     clear hK K hHeld HT_ HW_ hy_ fy_ HS1 q0 q1
     generalize w1.setCell ⟨tb, k * 2 + 1, none⟩ (.int .i64 n1) = w5 at *
     have hLT := HLT.out
     go_wp2
     have HS6 : Aside0 (Rz w _ hb ob rg zb B N (headC v u s ln tn yn c) (zoneC (.slice none 0 0) (.slice (some ⟨tb, 0, none⟩) tl.length cb) (.slice none 0 0) v) (trB (k + 1) tr1 la ba).2.1 (trB (k + 1) tr1 la ba).2.2 (.slice (some ⟨tb, 0, none⟩) tl.length cb) (trB (k + 1) tr1 la ba).1 (.slice none 0 0) [] (.slice none 0 0) [] (.slice none 0 0) []) := ⟨by rw [HNEW.out]; exact HS5.out⟩
     refine ⟨⟨k + 1, ?_, ?_, HS6⟩, ?_⟩
     ·omega
     ·go_num
     ·simp [intOf]; omega
    ·obtain rfl : tn = k := by omega
     have hTL := trB_len tr1 la ba tn
     have hB8 := trB_B8 tr1 HA8.out (b := ba) tn
     obtain ⟨tr2, lq, bq, ha⟩ : ∃ a b' c', trB tn tr1 la ba = (a, b', c') := ⟨_, _, _, rfl⟩
     rw [ha] at HS hTL hB8
     dsimp only at HS hTL hB8
     have HQ := Aside0.mk ha
     have HLQ : Aside0 (lq.length ≤ 1000000) := ⟨Nat.le_trans hTL.2 HLA.out.1⟩
     have HQ8 := Aside0.mk hB8
     clear ha hTL hB8 hlt hk HLA HA8
     obtain ⟨hx0, hx1, hx2, hx3, hx4, hx5, hx6⟩ := cells7 HS.out.dz.head
     go_wp2
     clear hx0 hx1 hx2 hx3 hx4 hx5 hx6
     have HS0 : Aside0 (Rz w _ hb ob rg zb B N (headC v u s ln tn yn c) (zoneC (.slice none 0 0) (vr) (.slice none 0 0) v) (tyK 0 lq bq).2.2.2.1 (tyK 0 lq bq).2.2.2.2 vr tr2 (.slice none 0 0) (tyK 0 lq bq).1 (.slice none 0 0) [] (.slice none 0 0) (tyK 0 lq bq).2.1) := HS
     clear HS
     go_loopw [12, 13, 14] (fun va vok vi wr => ∃ (k : Nat) (vt : Value), k ≤ yn ∧ vi = .int .i64 (k : Int) ∧ vok = .bool (tyK k lq bq).2.2.1 ∧ Aside0 (Rz w wr hb ob rg zb B N (headC v u s ln tn yn c) (zoneC (vt) (vr) (.slice none 0 0) v) (tyK k lq bq).2.2.2.1 (tyK k lq bq).2.2.2.2 vr tr2 (vt) (tyK k lq bq).1 (.slice none 0 0) [] (va) (tyK k lq bq).2.1)) (fun _ _ i _ => yn - (intOf i).toNat)
     case atStart => exact ⟨0, _, Nat.zero_le _, rfl, rfl, HS0⟩
     case round =>
      obtain ⟨k, vt, hk, rfl, hvok, HS⟩ := hrel
      clear HS0
      by_cases hlt : k < yn
      ·skip
       have hTL := tyK_len lq bq k
       have hB8 := tyK_B8 HQ8.out (b := bq) k
       obtain ⟨tl, az, okb, lk, bk, hs⟩ : ∃ a b' c' d e, tyK k lq bq = (a, b', c', d, e) := ⟨_, _, _, _, _, rfl⟩
       obtain ⟨n1, l1, b1, h1⟩ : ∃ a b' c', numS lk bk 4 = (a, b', c') := ⟨_, _, _, rfl⟩
       obtain ⟨n2, l2, b2, h2⟩ : ∃ a b' c', numS l1 b1 1 = (a, b', c') := ⟨_, _, _, rfl⟩
       obtain ⟨n3, l3, b3, h3⟩ : ∃ a b' c', numS l2 b2 1 = (a, b', c') := ⟨_, _, _, rfl⟩
       have HNEW : Aside0 (tyK (k + 1) lq bq = (tl ++ [⟨n1, n2 == 1, ⟨#[]⟩⟩], az ++ [n3], okb && decide (n2 < 2), l3, b3)) := ⟨by unfold tyK; simp only [hs, h1, h2, h3]⟩
       rw [hs] at HS hTL hB8 hvok
       dsimp only at HS hTL hB8 hvok
       subst hvok
       have H1 := Aside0.mk h1
       have H2 := Aside0.mk h2
       have H3 := Aside0.mk h3
       have h81 : B8 l1 := num_B8 h1 hB8
       have h82 : B8 l2 := num_B8 h2 h81
       have hn1 := num_len lk bk 4
       have hn2 := num_len l1 b1 1
       rw [h1] at hn1
       rw [h2] at hn2
       have HD8 := Aside0.mk (And.intro hB8 (And.intro h81 h82))
       have HLK : Aside0 (lk.length ≤ 1000000 ∧ l1.length ≤ 1000000 ∧ l2.length ≤ 1000000) := ⟨⟨Nat.le_trans hTL.2.2 HLQ.out, Nat.le_trans hn1 (Nat.le_trans hTL.2.2 HLQ.out), Nat.le_trans hn2 (Nat.le_trans hn1 (Nat.le_trans hTL.2.2 HLQ.out))⟩⟩
       have HTL : Aside0 (tl.length = k ∧ az.length = k ∧ k ≤ 64) := ⟨⟨hTL.1, hTL.2.1, by have := HLT.out; omega⟩⟩
       clear hs h1 h2 h3 hTL hB8 h81 h82 hn1 hn2
       obtain ⟨hx0, hx1, hx2, hx3, hx4, hx5, hx6⟩ := cells7 HS.out.dz.head
       go_wp2_with fail
       clear hx0 hx1 hx2 hx3 hx4 hx5 hx6
       refine (rnum_is H1.out HD8.out.1 HS.out.dz.rd (Nat.le_trans HLK.out.1 (by omega))).mono ?_
       rintro e w1 ⟨rfl, hr1_, hg1_⟩
       have HS1 := Aside0.mk (HS.out.num hr1_ hg1_)
       clear hr1_ hg1_ HS
       go_wp2_with fail
       refine (rnum_is H2.out HD8.out.2.1 HS1.out.dz.rd (Nat.le_trans HLK.out.2.1 (by omega))).mono ?_
       rintro e w2 ⟨rfl, hr1_, hg1_⟩
       have HS2 := Aside0.mk (HS1.out.num hr1_ hg1_)
       clear hr1_ hg1_ HS1
       obtain ⟨hz0, hz1, hz2, hz3, hz4⟩ := zone_cells HS2.out.dz.zone
       have f0 := blk_frozen HS2.out.dz.zone 0
       go_wp2_with (first | ((with_reducible refine gate_dst (N := 97) rfl ?_); refine Kd.R_lit k46 _ 46 ?hg (N := 97) ?hd (xs := ([⟨n1, n2 == 1, ⟨#[]⟩⟩] : List S46)) (inner := [.int .i64 n1, .bool (n2 == 1), .string ⟨#[]⟩]) (ok := fun _ => True) (okp := fun _ => True) ?hr ?hp (fun _ hk => hk) trivial (Below.refl _ _) (Nat.le_refl _) (by simp) ?_; (case hd => rfl); (case hg => rfl); (case hr => first | (go_simp; done) | (go_simp; rfl)); (case hp => exact (Reps.c3 (show Kd.M k46 _ _ _ (⟨n1, n2 == 1, ⟨#[]⟩⟩ : S46) [.int .i64 n1, .bool (n2 == 1), .string ⟨#[]⟩] from k46_mkM _ _ _ (⟨n1, n2 == 1, ⟨#[]⟩⟩ : S46)) (Reps.none _ _))); intro vs w3 hs_ hb_ _ _; obtain ⟨As, cs, rfl⟩ := Kd.R_slice hs_; have HS3 := Aside0.mk (HS2.out.step hb_); have HLI := Aside0.mk (Kd.R_reads' hs_).2.2; clear hs_ hb_ HS2 hz0 hz1 hz2 hz3 hz4 f0; obtain ⟨hz0, hz1, hz2, hz3, hz4⟩ := zone_cells HS3.out.dz.zone; have f0 := blk_frozen HS3.out.dz.zone 0) | ((with_reducible refine gate_builtin (b := .append) (xs := #[.tmp 92, .tmp 97]) rfl ?_); at_builtin; refine Kd.R_append_rows k46 (Rr := k46.K w3) (w0 := w3) N rfl (.tmp 92) (.tmp 97) 22 46 (.agg #[.int .i64 0, .bool false, .string ByteArray.empty]) 32 rfl Try.underlying22 info46 rfl (by decide) (by omega) vt tl [⟨n1, n2 == 1, ⟨#[]⟩⟩] As _ cs (fun _ => True) (fun _ => False) rfl rfl ?aO ?aR ?aK (fun _ h => h.elim) ?aF ?aB ?aS ?aL ?_; (case aR => exact HLI.out); (case aK => exact K46); (case aB => exact Below.refl _ _); (case aF => exact (fun _ _ => trivial)); (case aO => exact HS3.out.ty); (case aS => exact HS3.out.dz.sz); (case aL => have h1 := HTL.out; show (tl.length + 1) * 32 ≤ _; omega); intro v1 w4 ho_ hb_ hg_ _; obtain ⟨Av, cv, hv_⟩ := Kd.R_slice ho_; rw [List.length_append, HTL.out.1, List.length_singleton] at hv_; subst hv_; have HS4 := Aside0.mk (HS3.out.row_ty ho_ hg_); clear ho_ hb_ hg_ HLI HS3 hz0 hz1 hz2 hz3 hz4 f0; obtain ⟨hz0, hz1, hz2, hz3, hz4⟩ := zone_cells HS4.out.dz.zone; have f0 := blk_frozen HS4.out.dz.zone 0))
       have HS5 : Aside0 (Rz w (w4.setCell ⟨zb, 0, none⟩ (.slice Av (k + 1) cv)) hb ob rg zb B N (headC v u s ln tn yn c) (zoneC (.slice Av (k + 1) cv) (vr) (.slice none 0 0) v) l2 b2 vr tr2 (.slice Av (k + 1) cv) (tl ++ [⟨n1, n2 == 1, ⟨#[]⟩⟩]) (.slice none 0 0) [] (u12) az) := ⟨HS4.out.zset 0 (.slice Av (k + 1) cv)⟩
       clear hz0 hz1 hz2 hz3 hz4
       clear f0 HS4
       generalize w4.setCell ⟨zb, 0, none⟩ (.slice Av (k + 1) cv) = w5 at *
       refine (rnum_is H3.out HD8.out.2.2 HS5.out.dz.rd (Nat.le_trans HLK.out.2.2 (by omega))).mono ?_
       rintro e w6 ⟨rfl, hr1_, hg1_⟩
       have HS6 := Aside0.mk (HS5.out.num hr1_ hg1_)
       clear hr1_ hg1_ HS5
       have hLT := HLT.out
       cases okb
       all_goals
        go_wp2_with (first | ((with_reducible refine gate_dst (N := 103) rfl ?_); refine Kd.R_lit (Kd.int .i64) _ 3 ?hg (N := 103) ?hd (xs := ([n3] : List Int)) (inner := [.int .i64 n3]) (ok := fun _ => True) (okp := fun _ => True) ?hr ?hp (fun _ hk => hk) trivial (Below.refl _ _) (Nat.le_refl _) (by simp) ?_; (case hd => rfl); (case hg => rfl); (case hr => first | (go_simp; done) | (go_simp; rfl)); (case hp => exact (Reps.one (show Kd.M (Kd.int .i64) _ _ _ n3 [.int .i64 n3] from rfl) (Reps.none _ _))); intro vs w7 hs_ hb_ _ _; obtain ⟨As, cs, rfl⟩ := Kd.R_slice hs_; have HS7 := Aside0.mk (HS6.out.step hb_); have HLI := Aside0.mk (Kd.R_reads' hs_).2.2; clear hs_ hb_ HS6) | ((with_reducible refine gate_builtin (b := .append) (xs := #[.tmp 100, .tmp 103]) rfl ?_); at_builtin; refine Kd.R_append_rows (Kd.int .i64) (Rr := (Kd.int .i64).K w7) (w0 := w7) N rfl (.tmp 100) (.tmp 103) 51 3 (.int .i64 0) 8 rfl Try.underlying51 info3 rfl (by decide) (by omega) u12 az [n3] As _ cs (fun _ => True) (fun _ => False) rfl rfl ?aO ?aR ?aK (fun _ h => h.elim) ?aF ?aB ?aS ?aL ?_; (case aR => exact HLI.out); (case aK => exact (fun _ _ h => h)); (case aB => exact Below.refl _ _); (case aF => exact (fun _ _ => trivial)); (case aO => exact HS7.out.ats); (case aS => exact HS7.out.dz.sz); (case aL => have h1 := HTL.out; show (az.length + 1) * 8 ≤ _; omega); intro v2 w8 ho_ hb_ hg_ _; have HS8 := Aside0.mk (HS7.out.row_ats ho_ hg_); clear ho_ hb_ hg_ HLI HS7))
        have HS9 : Aside0 (Rz w _ hb ob rg zb B N (headC v u s ln tn yn c) (zoneC (.slice Av (k + 1) cv) (vr) (.slice none 0 0) v) (tyK (k + 1) lq bq).2.2.2.1 (tyK (k + 1) lq bq).2.2.2.2 vr tr2 (.slice Av (k + 1) cv) (tyK (k + 1) lq bq).1 (.slice none 0 0) [] (_) (tyK (k + 1) lq bq).2.1) := ⟨by rw [HNEW.out]; exact HS8.out⟩
        refine ⟨⟨k + 1, .slice Av (k + 1) cv, ?_, ?_, ?_, HS9⟩, ?_⟩
        ·omega
        ·go_num
        ·rw [HNEW.out]; first | rfl | exact congrArg Value.bool (decide_eq_decide.2 (by omega))
        ·simp [intOf]; omega
      ·obtain rfl : yn = k := by omega
       have hTL := tyK_len lq bq yn
       have hB8 := tyK_B8 HQ8.out (b := bq) yn
       obtain ⟨tyf, atf, okf, lf, bf, ha⟩ : ∃ a b' c' d e, tyK yn lq bq = (a, b', c', d, e) := ⟨_, _, _, _, _, rfl⟩
       rw [ha] at HS hTL hB8 hvok
       dsimp only at HS hTL hB8 hvok
       subst hvok
       have HTY := Aside0.mk ha
       have HTL : Aside0 (tyf.length = yn ∧ atf.length = yn ∧ lf.length ≤ 1000000) := ⟨⟨hTL.1, hTL.2.1, Nat.le_trans hTL.2.2 HLQ.out⟩⟩
       have HB8 := Aside0.mk hB8
       clear ha hTL hB8 hlt hk HLQ HQ8
       obtain ⟨lb, cb, rfl, hlb⟩ := form_of HS.out.ty (by have := HTL.out.1; have := HLT.out; omega)
       obtain ⟨ab, ca, hva, hab⟩ := form_of HS.out.ats (by have := HTL.out.2.1; have := HLT.out; omega)
       subst hva
       rw [HTL.out.1, HTL.out.2.1] at HS
       rw [HTL.out.2.1]
       clear hlb hab
       obtain ⟨p, lp, bp, hp⟩ : ∃ a b' c', takeS lf bf c = (a, b', c') := ⟨_, _, _, rfl⟩
       have HP := Aside0.mk hp
       have HLP : Aside0 (p.length ≤ 1000000 ∧ lp.length ≤ 1000000) := ⟨take_lens hp HTL.out.2.2⟩
       have HP8 : Aside0 (B8 lp) := ⟨by have h := (takeS_bytes (bad := bf) (n := c) HB8.out).2; rw [hp] at h; exact h⟩
       clear hp
       obtain ⟨hx0, hx1, hx2, hx3, hx4, hx5, hx6⟩ := cells7 HS.out.dz.head
       go_wp2_with fail
       clear hx0 hx1 hx2 hx3 hx4 hx5 hx6
       refine (rtake_R HP.out HS.out.dz.rd (by have := HTL.out.2.2; omega)).mono ?_
       rintro e w6 ⟨Ap, cp, rfl, hRp, hrd, hg⟩
       have HS6 := Aside0.mk (HS.out.num hrd hg)
       have hcv : (convert 29 9 (.slice Ap p.length cp)).run Try.prog w6 = .ok (.string (strOfNums p)) w6 := Kd.C_string Try.underlying29 Try.underlying5 Try.underlying9 (Kd.R_reads' hRp).2.2
       have HPS : Aside0 ((strOfNums p).size ≤ 1000000) := ⟨by rw [strOfNums_size]; exact HLP.out.1⟩
       obtain ⟨P, hP⟩ : ∃ P, strOfNums p = P := ⟨_, rfl⟩
       rw [hP] at hcv HPS
       have HPP := Aside0.mk hP
       clear hP hRp hrd hg HS
       go_wp2
       clear hcv
       have HS0 : Aside0 (Rz w w6 hb ob rg zb B N (headC v u s ln tn yn c) (zoneC (.slice (some ⟨lb, 0, none⟩) yn cb) (vr) (.slice none 0 0) v) lp bp vr tr2 (.slice (some ⟨lb, 0, none⟩) yn cb) (nmK P atf tyf okf 0).1 (.slice none 0 0) [] (.slice (some ⟨ab, 0, none⟩) yn ca) atf) := HS6
       clear HS6
       go_loopw [13, 18] (fun vok vi wr => ∃ (k : Nat), k ≤ yn ∧ vi = .int .i64 (k : Int) ∧ vok = .bool (nmK P atf tyf okf k).2 ∧ Aside0 (Rz w wr hb ob rg zb B N (headC v u s ln tn yn c) (zoneC (.slice (some ⟨lb, 0, none⟩) yn cb) (vr) (.slice none 0 0) v) lp bp vr tr2 (.slice (some ⟨lb, 0, none⟩) yn cb) (nmK P atf tyf okf k).1 (.slice none 0 0) [] (.slice (some ⟨ab, 0, none⟩) yn ca) atf)) (fun _ i _ => yn - (intOf i).toNat)
       case atStart => exact ⟨0, Nat.zero_le _, rfl, rfl, HS0⟩
       case round =>
        obtain ⟨k, hk, rfl, hvok, HS⟩ := hrel
        clear HS0
        by_cases hlt : k < yn
        ·skip
         have hNL := nmK_len P atf tyf okf k
         obtain ⟨ty1, ok1, hs⟩ : ∃ a b', nmK P atf tyf okf k = (a, b') := ⟨_, _, rfl⟩
         rw [hs] at HS hNL hvok
         dsimp only at HS hNL hvok
         subst hvok
         obtain ⟨nm, is, hat⟩ : ∃ a b', atN P (atf.getD k 0) = (a, b') := ⟨_, _, rfl⟩
         have HNEW : Aside0 (nmK P atf tyf okf (k + 1) = (ty1.set k (setNm (ty1.getD k z46) nm), ok1 && is)) := ⟨by unfold nmK; simp only [hs, hat]⟩
         have HAT := Aside0.mk hat
         have HTK : Aside0 (ty1.length = yn) := ⟨hNL.trans HTL.out.1⟩
         have h100 : yn ≤ 64 := HLT.out.2.2.1
         obtain ⟨ad, hA, hcell⟩ := Kd.at_int (Kd.R_reads' HS.out.ats).2.2 (k : Int) (by omega) (by have := HTL.out.2.1; omega)
         rw [rd_getD, Int.toNat_natCast] at hcell
         cases hA
         have hcell : wr.cell? ⟨ab, k, none⟩ = some (.int .i64 (atf.getD k 0)) := cell_add hcell
         clear hs hat hNL
         obtain ⟨hx0, hx1, hx2, hx3, hx4, hx5, hx6⟩ := cells7 HS.out.dz.head
         go_wp2_with fail
         clear hx0 hx1 hx2 hx3 hx4 hx5 hx6
         refine (rat_is (by have := HPS.out; omega) HAT.out).mono ?_
         rintro e w1 ⟨rfl, hb1⟩
         have HS1 := Aside0.mk (HS.out.step hb1)
         obtain ⟨hq2, hf2⟩ := ty_at HS1.out.ty k (by rw [HTK.out]; exact hlt)
         have HS2 := Aside0.mk (HS1.out.name nm (by rw [HTK.out]; exact hlt) rfl)
         clear hb1 HS hcell
         obtain ⟨hz0, hz1, hz2, hz3, hz4⟩ := zone_cells HS1.out.dz.zone
         cases ok1
         all_goals
          go_wp2
          exact ⟨⟨k + 1, by omega, by go_num, congrArg Value.bool (by rw [HNEW.out]; rfl), ⟨by rw [HNEW.out, getD46 (by rw [HTK.out]; exact hlt)]; exact HS2.out⟩⟩, by simp [intOf]; omega⟩
        ·obtain rfl : yn = k := by omega
         obtain ⟨ty1, ok1, hnm⟩ : ∃ a b', nmK P atf tyf okf yn = (a, b') := ⟨_, _, rfl⟩
         rw [hnm] at HS hvok
         dsimp only at HS hvok
         subst hvok
         have HNM := Aside0.mk hnm
         clear hnm hlt hk
         obtain ⟨hx0, hx1, hx2, hx3, hx4, hx5, hx6⟩ := cells7 HS.out.dz.head
         go_wp2
         clear hx0 hx1 hx2 hx3 hx4 hx5 hx6
         have HS0 : Aside0 (Rz w _ hb ob rg zb B N (headC v u s ln tn yn c) (zoneC (.slice (some ⟨lb, 0, none⟩) yn cb) (vr) (.slice none 0 0) v) (lpK 8 0 lp bp).2.1 (lpK 8 0 lp bp).2.2 vr tr2 (.slice (some ⟨lb, 0, none⟩) yn cb) ty1 (.slice none 0 0) (lpK 8 0 lp bp).1 (.slice (some ⟨ab, 0, none⟩) yn ca) atf) := HS
         clear HS
         go_loopw [21] (fun vi wr => ∃ (k : Nat) (vl : Value), k ≤ ln ∧ vi = .int .i64 (k : Int) ∧ Aside0 (Rz w wr hb ob rg zb B N (headC v u s ln tn yn c) (zoneC (.slice (some ⟨lb, 0, none⟩) yn cb) (vr) (vl) v) (lpK 8 k lp bp).2.1 (lpK 8 k lp bp).2.2 vr tr2 (.slice (some ⟨lb, 0, none⟩) yn cb) ty1 (vl) (lpK 8 k lp bp).1 (.slice (some ⟨ab, 0, none⟩) yn ca) atf)) (fun i _ => ln - (intOf i).toNat)
         case atStart => exact ⟨0, _, Nat.zero_le _, rfl, HS0⟩
         case round =>
          obtain ⟨k, vl, hk, rfl, HS⟩ := hrel
          clear HS0
          by_cases hlt : k < ln
          ·skip
           have hLL := lpK_len 8 lp bp k
           have hB8 := lpK_B8 8 HP8.out (b := bp) k
           obtain ⟨ls, lk, bk, hs⟩ : ∃ a b' c', lpK 8 k lp bp = (a, b', c') := ⟨_, _, _, rfl⟩
           obtain ⟨n1, l1, b1, h1⟩ : ∃ a b' c', numS lk bk 8 = (a, b', c') := ⟨_, _, _, rfl⟩
           obtain ⟨n2, l2, b2, h2⟩ : ∃ a b' c', numS l1 b1 4 = (a, b', c') := ⟨_, _, _, rfl⟩
           have HNEW : Aside0 (lpK 8 (k + 1) lp bp = (ls ++ [⟨n1, n2⟩], l2, b2)) := ⟨by unfold lpK; simp only [hs, h1, h2]⟩
           rw [hs] at HS hLL hB8
           dsimp only at HS hLL hB8
           have H1 := Aside0.mk h1
           have H2 := Aside0.mk h2
           have h81 : B8 l1 := num_B8 h1 hB8
           have hn1 := num_len lk bk 8
           rw [h1] at hn1
           have HD0 := Aside0.mk hB8
           have HD8 := Aside0.mk h81
           have HLK0 : Aside0 (lk.length ≤ 1000000) := ⟨Nat.le_trans hLL.2 HLP.out.2⟩
           have HLK : Aside0 (l1.length ≤ 1000000 ∧ ls.length = k) := ⟨⟨Nat.le_trans hn1 (Nat.le_trans hLL.2 HLP.out.2), hLL.1⟩⟩
           clear hs h1 h2 hLL hB8 h81 hn1
           obtain ⟨hx0, hx1, hx2, hx3, hx4, hx5, hx6⟩ := cells7 HS.out.dz.head
           go_wp2_with fail
           clear hx0 hx1 hx2 hx3 hx4 hx5 hx6
           refine (rnum_is H1.out HD0.out HS.out.dz.rd (Nat.le_trans HLK0.out (by omega))).mono ?_
           rintro e w1 ⟨rfl, hr1_, hg1_⟩
           have HSn := Aside0.mk (HS.out.num hr1_ hg1_)
           clear hr1_ hg1_ HS
           have HS := HSn
           clear HSn
           go_upto_region 34 with fail
           have HSd := Aside0.mk (HS.out.step (below_drew (Below.refl _ _)))
           refine start_ (n := 10) (S := fun w' => w'.cell? ⟨zb, 2, none⟩ = some vl) (ds := [9]) #[false, false, false, false, false, false, false, false, false, false] (by kernel_rfl) rfl rfl (zone_cells HSd.out.dz.zone).2.2.1 (fun hHeld => ?_); refine with_tabW tabR34 bitsR34 (fun HT_ HW_ => ?_)
           generalize w1.drew = wd at *
           clear HS
           refine pure_ (i := 0) (N := some 149) (v := ?_) (a' := ?_) #[true, false, false, false, false, false, false, false, false, false] rfl rfl (any_of HT_.out (by kernel_rfl)) (fun _ _ _ h => h) (Or.inl ⟨by rfl, ?_⟩) ?_ ?_
           rotate_left
           ·intro w'
            go_simp
            with_reducible rfl
           rotate_left
           ·simp only [Act.put, List.setIfInBounds_toArray, List.set_cons_zero, List.set_cons_succ]
            rfl
           refine pure_ (i := 2) (N := some 151) (v := ?_) (a' := ?_) #[true, false, true, false, false, false, false, false, false, false] rfl rfl (any_of HT_.out (by kernel_rfl)) (fun _ _ _ h => h) (Or.inl ⟨by rfl, ?_⟩) ?_ ?_
           rotate_left
           ·intro w'
            go_simp
            with_reducible rfl
           rotate_left
           ·simp only [Act.put, List.setIfInBounds_toArray, List.set_cons_zero, List.set_cons_succ]
            rfl
           refine pure_ (i := 3) (N := some 152) (v := ?_) (a' := ?_) #[true, false, true, true, false, false, false, false, false, false] rfl rfl (any_of HT_.out (by kernel_rfl)) (fun _ _ _ h => h) (Or.inl ⟨by rfl, ?_⟩) ?_ ?_
           rotate_left
           ·intro w'
            go_simp
            with_reducible rfl
           rotate_left
           ·simp only [Act.put, List.setIfInBounds_toArray, List.set_cons_zero, List.set_cons_succ]
            rfl
           refine take_ (i := 1) (N := some 150) (v := ?_) (a' := ?_) #[true, true, true, true, false, false, false, false, false, false] rfl rfl (take_ofW HT_.out HW_.out (by kernel_rfl)) (fun _ _ _ h => h) (Or.inl ⟨by rfl, ?_⟩) hHeld ?_ ?_
           rotate_left
           ·intro w' s0
            go_simp
            with_reducible rfl
           rotate_left
           ·simp only [Act.put, List.setIfInBounds_toArray, List.set_cons_zero, List.set_cons_succ]
            rfl
           refine one_ (i := 4) (N := some 153) #[true, true, true, true, true, false, false, false, false, false] rfl rfl (one_of HT_.out (by kernel_rfl)) (by decide) (fun K hK => ?_)
           refine goes_ Try.func34 (by kernel_rfl) rfl #[.pointer (some ⟨rg, 0, none⟩), .int .i64 4] (by rfl) rfl rfl (by (try simp only [List.map_toArray, List.map_cons, List.map_nil]); first | done | rfl) ?_
           refine (rnum_is H2.out HD8.out HSd.out.dz.rd (Nat.le_trans HLK.out.1 (by omega))).mono ?_
           rintro e w1 ⟨rfl, hr1_, hg1_⟩
           refine ⟨_, rfl, ?_⟩
           have HS1 := Aside0.mk (HSd.out.num hr1_ hg1_)
           clear hr1_ hg1_ HSd
           refine hK.out _ _ (zone_cells HS1.out.dz.zone).2.2.1 (fun hHeld => ?_)
           refine norm_ (a' := ?_) ?_ ?_
           rotate_left
           ·show Act.put _ (some 153) _ = _
            simp only [Act.put, List.setIfInBounds_toArray, List.set_cons_zero, List.set_cons_succ]
            rfl
           refine pure_ (i := 5) (N := some 154) (v := ?_) (a' := ?_) #[true, true, true, true, true, true, false, false, false, false] rfl rfl (any_of HT_.out (by kernel_rfl)) (fun _ _ _ h => h) (Or.inl ⟨by rfl, ?_⟩) ?_ ?_
           rotate_left
           ·intro w'
            go_simp
            with_reducible rfl
           rotate_left
           ·simp only [Act.put, List.setIfInBounds_toArray, List.set_cons_zero, List.set_cons_succ]
            rfl
           refine one_ (i := 6) (N := some 155) #[true, true, true, true, true, true, true, false, false, false] rfl rfl (one_of HT_.out (by kernel_rfl)) (by decide) (fun K hK => ?_)
           refine Kd.R_lit_step k50 _ 50 ?hg (N := 155) ?hd (xs := ([⟨n1, n2⟩] : List S50)) (inner := [.int .i64 n1, .int .i64 n2]) (ok := fun _ => True) (okp := fun _ => True) ?hr ?hp (fun _ hk => hk) trivial (Below.refl _ _) (Nat.le_refl _) (by simp) ?_; (case hd => rfl); (case hg => rfl); (case hr => first | (go_simp; done) | (go_simp; rfl)); (case hp => exact (Reps.c2 (show Kd.M k50 _ _ _ (⟨n1, n2⟩ : S50) [.int .i64 n1, .int .i64 n2] from k50_mkM _ _ _ (⟨n1, n2⟩ : S50)) (Reps.none _ _)))
           intro vs w2 hs_ hb_ _ _
           obtain ⟨As, cs, rfl⟩ := Kd.R_slice hs_
           have HS2 := Aside0.mk (HS1.out.step hb_)
           have HLI := Aside0.mk (Kd.R_reads' hs_).2.2
           clear hs_ hb_ HS1
           refine hK.out _ _ (zone_cells HS2.out.dz.zone).2.2.1 (fun hHeld => ?_)
           refine norm_ (a' := ?_) ?_ ?_
           rotate_left
           ·show Act.put _ (some 155) _ = _
            simp only [Act.put, List.setIfInBounds_toArray, List.set_cons_zero, List.set_cons_succ]
            rfl
           refine one_ (i := 7) (N := some 156) #[true, true, true, true, true, true, true, true, false, false] rfl rfl (one_of HT_.out (by kernel_rfl)) (by decide) (fun K hK => ?_)
           refine Kd.R_append_rows_step k50 (Rr := k50.K w2) (w0 := w2) N (by rfl) (.tmp 150) (.tmp 155) 24 50 (.agg #[.int .i64 0, .int .i64 0]) 16 rfl Try.underlying24 info50 rfl (by decide) (by omega) vl ls [⟨n1, n2⟩] As _ cs (fun _ => True) (fun _ => False) rfl rfl ?aO ?aR ?aK (fun _ h => h.elim) ?aF ?aB ?aS ?aL ?_
           (case aR => exact HLI.out)
           (case aK => exact K50)
           (case aB => exact Below.refl _ _)
           (case aF => exact (fun _ _ => trivial))
           (case aO => exact HS2.out.lps)
           (case aS => exact HS2.out.dz.sz)
           (case aL => have h1 := HLK.out.2; have h2 := HLT.out; have h3 := hlt; show (ls.length + 1) * 16 ≤ _; omega)
           intro v1 w3 ho_ hb_ hg_ _
           obtain ⟨Av, cv, hv_⟩ := Kd.R_slice ho_
           rw [List.length_append, HLK.out.2, List.length_singleton] at hv_
           subst hv_
           have HS3 := Aside0.mk (HS2.out.row_lps ho_ hg_)
           clear ho_ hb_ hg_ HLI HS2
           refine hK.out _ _ (zone_cells HS3.out.dz.zone).2.2.1 (fun hHeld => ?_)
           refine norm_ (a' := ?_) ?_ ?_
           rotate_left
           ·show Act.put _ (some 156) _ = _
            simp only [Act.put, List.setIfInBounds_toArray, List.set_cons_zero, List.set_cons_succ]
            rfl
           refine pure_ (i := 8) (N := some 157) (v := ?_) (a' := ?_) #[true, true, true, true, true, true, true, true, true, false] rfl rfl (any_of HT_.out (by kernel_rfl)) (fun _ _ _ h => h) (Or.inl ⟨by rfl, ?_⟩) ?_ ?_
           rotate_left
           ·intro w'
            go_simp
            with_reducible rfl
           rotate_left
           ·simp only [Act.put, List.setIfInBounds_toArray, List.set_cons_zero, List.set_cons_succ]
            rfl
           refine last_ (i := 9) (N := none) #[true, true, true, true, true, true, true, true, true, true] rfl rfl (one_of HT_.out (by kernel_rfl)) (by decide) (fun K hK => ?_)
           have hz_ := (zone_cells HS3.out.dz.zone).2.2.1
           have fz_ := blk_frozen HS3.out.dz.zone 2
           refine skip_ (w1 := ?_) (by rfl) rfl ?_ ?_
           rotate_left
           ·go_simp
            rfl
           refine hK.out _ _ ?_
           refine done_ (done_of HT_.out (by kernel_rfl)) ?_
           have HS5 : Aside0 (Rz w _ hb ob rg zb B N (headC v u s ln tn yn c) (zoneC (.slice (some ⟨lb, 0, none⟩) yn cb) (vr) (.slice Av (k + 1) cv) v) l2 b2 vr tr2 (.slice (some ⟨lb, 0, none⟩) yn cb) ty1 (.slice Av (k + 1) cv) (ls ++ [⟨n1, n2⟩]) (.slice (some ⟨ab, 0, none⟩) yn ca) atf) := ⟨HS3.out.zset 2 (.slice Av (k + 1) cv)⟩
           clear hK K hHeld HT_ HW_ hz_ fz_ HS3
           generalize w3.setCell ⟨zb, 2, none⟩ (.slice Av (k + 1) cv) = w5 at *
           have hLT := HLT.out
           go_wp2
           have HS6 : Aside0 (Rz w _ hb ob rg zb B N (headC v u s ln tn yn c) (zoneC (.slice (some ⟨lb, 0, none⟩) yn cb) (vr) (.slice Av (k + 1) cv) v) (lpK 8 (k + 1) lp bp).2.1 (lpK 8 (k + 1) lp bp).2.2 vr tr2 (.slice (some ⟨lb, 0, none⟩) yn cb) ty1 (.slice Av (k + 1) cv) (lpK 8 (k + 1) lp bp).1 (.slice (some ⟨ab, 0, none⟩) yn ca) atf) := ⟨by rw [HNEW.out]; exact HS5.out⟩
           refine ⟨⟨k + 1, .slice Av (k + 1) cv, ?_, ?_, HS6⟩, ?_⟩
           ·omega
           ·go_num
           ·simp [intOf]; omega
          ·obtain rfl : ln = k := by omega
           have hB8 := lpK_B8 8 HP8.out (b := bp) ln
           have hLL := lpK_len 8 lp bp ln
           obtain ⟨lsf, lt, bt, hlp⟩ : ∃ a b' c', lpK 8 ln lp bp = (a, b', c') := ⟨_, _, _, rfl⟩
           rw [hlp] at HS hB8 hLL
           dsimp only at HS hB8 hLL
           have HLT2 : Aside0 (lt.length ≤ 1000000) := ⟨Nat.le_trans hLL.2 HLP.out.2⟩
           obtain ⟨std, l8, b8, h8⟩ : ∃ a b' c', takeS lt bt s = (a, b', c') := ⟨_, _, _, rfl⟩
           obtain ⟨ut, l9, b9, h9⟩ : ∃ a b' c', takeS l8 b8 u = (a, b', c') := ⟨_, _, _, rfl⟩
           have H8 := Aside0.mk h8
           have H9 := Aside0.mk h9
           have HL8 : Aside0 (std.length ≤ 1000000 ∧ l8.length ≤ 1000000) := ⟨take_lens h8 HLT2.out⟩
           have HL9 : Aside0 (ut.length ≤ 1000000) := ⟨(take_lens h9 HL8.out.2).1⟩
           have hs8 : B8 std := by have h := (takeS_bytes (bad := bt) (n := s) hB8).1; rw [h8] at h; exact h
           have HDEC : Aside0 (decN v u s ln tn yn c b 8 = match (ok1 && wK std ut ut.length) && (!std.any (fun c => decide (c > 1)) && !ut.any (fun c => decide (c > 1))) with | true => (ty1, tr2, lsf, ⟨#[]⟩, v, true) | false => ([], [], [], ⟨#[]⟩, 0, false)) := ⟨by rw [dec_all HGD.out HTA.out HQ.out HTY.out HP.out HPP.out HNM.out hlp h8 h9, marks_same hs8]; cases ok1 <;> cases wK std ut ut.length <;> cases std.any (fun c => decide (c > 1)) <;> cases ut.any (fun c => decide (c > 1)) <;> rfl⟩
           clear h8 h9 hlp hB8 hLL hs8 hlt hk
           obtain ⟨Ar, cr, rfl⟩ := Kd.R_slice HS.out.tr
           obtain ⟨Al, cl, rfl⟩ := Kd.R_slice HS.out.lps
           obtain ⟨hx0, hx1, hx2, hx3, hx4, hx5, hx6⟩ := cells7 HS.out.dz.head
           go_wp2_with fail
           clear hx0 hx1 hx2 hx3 hx4 hx5 hx6
           refine (rtake_R H8.out HS.out.dz.rd (by have := HLT2.out; omega)).mono ?_
           rintro e w5 ⟨As, cs8, rfl, hRs, hrd, hg⟩
           have HS5 := Aside0.mk (HS.out.num hrd hg)
           have HRS := Aside0.mk (Kd.R_lower hRs HS.out.dz.rd.size.2.2)
           clear hRs hrd hg HS
           obtain ⟨hx0, hx1, hx2, hx3, hx4, hx5, hx6⟩ := cells7 HS5.out.dz.head
           go_wp2_with fail
           clear hx0 hx1 hx2 hx3 hx4 hx5 hx6
           refine (rtake_R H9.out HS5.out.dz.rd (by have := HL8.out.2; omega)).mono ?_
           rintro e w6 ⟨Au, cu, rfl, hRu, hrd, hg⟩
           have HS6 := Aside0.mk (HS5.out.num hrd hg)
           obtain ⟨cs5, hb5⟩ := Rd.block HS5.out.dz.rd
           have HRS6 := Aside0.mk (row_grown HRS.out hb5 (E5 (by decide)) hg)
           have HRU6 := Aside0.mk (Kd.R_lower hRu HS5.out.dz.rd.size.2.2)
           clear hRu hrd hg HS5 HRS hb5
           obtain ⟨q2, hq2⟩ : ∃ q, (!std.any (fun c => decide (c > 1))) = q := ⟨_, rfl⟩
           obtain ⟨q3, hq3⟩ : ∃ q, (!ut.any (fun c => decide (c > 1))) = q := ⟨_, rfl⟩
           have HM1 := Aside0.mk (fun W h => marks_is As cs8 std W h (Kd.R_reads' HRS6.out).2.1 HL8.out.1)
           have HM2 := Aside0.mk (fun W h => marks_is Au cu ut W h (Kd.R_reads' HRU6.out).2.1 HL9.out)
           rw [hq2] at HM1 HDEC
           rw [hq3] at HM2 HDEC
           clear hq2 hq3
           go_wp2_with fail
           refine (HM1.out _ (Kd.R_reads' HRS6.out).2.2).mono ?_
           rintro e w7 ⟨rfl, hb_⟩
           have HS7 := Aside0.mk (HS6.out.step hb_)
           have HRS7 := Aside0.mk (Kd.R_below HRS6.out hb_)
           have HRU7 := Aside0.mk (Kd.R_below HRU6.out hb_)
           clear hb_ HS6 HRS6 HRU6 HM1
           go_wp2_with fail
           refine (HM2.out _ (Kd.R_reads' HRU7.out).2.2).mono ?_
           rintro e w8 ⟨rfl, hb_⟩
           have HS8 := Aside0.mk (HS7.out.step hb_)
           have HRS8 := Aside0.mk (Kd.R_below HRS7.out hb_)
           have HRU8 := Aside0.mk (Kd.R_below HRU7.out hb_)
           clear hb_ HS7 HRS7 HRU7 HM2
           go_wp2
           go_loopw [13, 27] (fun vok vi wr => ∃ (k : Nat), k ≤ ut.length ∧ vi = .int .i64 (k : Int) ∧ vok = .bool (ok1 && wK std ut k) ∧ wr = w8) (fun _ i _ => ut.length - (intOf i).toNat)
           case atStart => exact ⟨0, Nat.zero_le _, rfl, congrArg Value.bool (Bool.and_true _).symm, rfl⟩
           case round =>
            obtain ⟨k, hk, rfl, hvok, rfl⟩ := hrel
            by_cases hlt : k < ut.length
            ·skip
             have hul := HL9.out
             have hsl := HL8.out.1
             obtain ⟨ad, hA, hcu⟩ := Kd.at_int (Kd.R_reads' HRU8.out).2.2 (k : Int) (by omega) (by omega)
             rw [rd_getD, Int.toNat_natCast] at hcu
             cases hA
             have HNEW : Aside0 (wK std ut (k + 1) = (wK std ut k && !(ut.getD k 0 == 1 && (decide (std.length ≤ k) || std.getD k 0 == 0)))) := ⟨rfl⟩
             subst hvok
             generalize ut.getD k 0 = xu at *
             by_cases hu : xu = 1
             ·have bu : (xu == 1) = true := beq_iff_eq.2 hu
              by_cases hl : std.length ≤ k
              ·have bl : decide ((std.length : Int) ≤ (k : Int)) = true := decide_eq_true (by omega)
               have bl2 : ((std.length : Int) ≤ (k : Int)) := by omega
               go_wp2_with fail
               exact ⟨⟨k + 1, by omega, by go_num, congrArg Value.bool (by rw [HNEW.out, bu, decide_eq_true hl]; simp), (by first | rfl | trivial)⟩, by simp [intOf]; omega⟩
              ·have bl : decide ((std.length : Int) ≤ (k : Int)) = false := decide_eq_false (by omega)
               have bl2 : ¬ ((std.length : Int) ≤ (k : Int)) := by omega
               have bl3 : (k : Int) < (std.length : Int) := by omega
               have bl4 : k < std.length := by omega
               obtain ⟨ad2, hA2, hcs⟩ := Kd.at_int (Kd.R_reads' HRS8.out).2.2 (k : Int) (by omega) (by omega)
               rw [rd_getD, Int.toNat_natCast] at hcs
               cases hA2
               generalize std.getD k 0 = xs at *
               by_cases hz : xs = 0
               ·have bz : (xs == 0) = true := beq_iff_eq.2 hz
                go_wp2_with fail
                exact ⟨⟨k + 1, by omega, by go_num, congrArg Value.bool (by rw [HNEW.out, bu, bz]; simp), (by first | rfl | trivial)⟩, by simp [intOf]; omega⟩
               ·have bz : (xs == 0) = false := beq_eq_false_iff_ne.2 hz
                go_wp2_with fail
                exact ⟨⟨k + 1, by omega, by go_num, congrArg Value.bool (by rw [HNEW.out, bz, decide_eq_false hl]; simp), (by first | rfl | trivial)⟩, by simp [intOf]; omega⟩
             ·have bu : (xu == 1) = false := beq_eq_false_iff_ne.2 hu
              go_wp2_with fail
              exact ⟨⟨k + 1, by omega, by go_num, congrArg Value.bool (by rw [HNEW.out, bu]; simp), (by first | rfl | trivial)⟩, by simp [intOf]; omega⟩
            ·obtain rfl : ut.length = k := by omega
             obtain ⟨q1, hq1⟩ : ∃ q, (ok1 && wK std ut ut.length) = q := ⟨_, rfl⟩
             rw [hq1] at HDEC hvok
             subst hvok
             clear hq1 hlt hk
             have hne := HS8.out.dz.ord
             obtain ⟨hz0, hz1, hz2, hz3, hz4⟩ := zone_cells HS8.out.dz.zone
             obtain ⟨ho0, ho1, ho2, ho3, ho4⟩ := zone_cells HS8.out.dz.out
             have g0 := blk_frozen HS8.out.dz.out 0
             have g1 := blk_frozen HS8.out.dz.out 1
             have g2 := blk_frozen HS8.out.dz.out 2
             have g3 := blk_frozen HS8.out.dz.out 3
             have g4 := blk_frozen HS8.out.dz.out 4
             cases q1 with
             | false =>
              have HD' : decN v u s ln tn yn c b 8 = ([], [], [], ⟨#[]⟩, 0, false) := HDEC.out
              go_wp2
              as_aux_lemma => exact bodyPost_ret (results_ct rfl _ _ ob 26 #[.slice none 0 0, .slice none 0 0, .slice none 0 0, .string ⟨#[]⟩, .int .i64 0] (0, 0) _ rfl (set5_blk HS8.out.dz.out _ _ _ _ _) Try.underlying26 rfl (by kernel_rfl)) rfl (by rw [HD']; exact ⟨_, _, _, rfl, Kd.R_nil _ _ _ _ _, Kd.R_nil _ _ _ _ _, Kd.R_nil _ _ _ _ _, set5_below HS8.out.dz.below hne.2.1 _ _ _ _ _⟩)
             | true =>
              cases q2 with
              | false =>
               have HD' : decN v u s ln tn yn c b 8 = ([], [], [], ⟨#[]⟩, 0, false) := HDEC.out
               go_wp2
               as_aux_lemma => exact bodyPost_ret (results_ct rfl _ _ ob 26 #[.slice none 0 0, .slice none 0 0, .slice none 0 0, .string ⟨#[]⟩, .int .i64 0] (0, 0) _ rfl (set5_blk HS8.out.dz.out _ _ _ _ _) Try.underlying26 rfl (by kernel_rfl)) rfl (by rw [HD']; exact ⟨_, _, _, rfl, Kd.R_nil _ _ _ _ _, Kd.R_nil _ _ _ _ _, Kd.R_nil _ _ _ _ _, set5_below HS8.out.dz.below hne.2.1 _ _ _ _ _⟩)
              | true =>
               cases q3 with
               | false =>
                have HD' : decN v u s ln tn yn c b 8 = ([], [], [], ⟨#[]⟩, 0, false) := HDEC.out
                go_wp2
                as_aux_lemma => exact bodyPost_ret (results_ct rfl _ _ ob 26 #[.slice none 0 0, .slice none 0 0, .slice none 0 0, .string ⟨#[]⟩, .int .i64 0] (0, 0) _ rfl (set5_blk HS8.out.dz.out _ _ _ _ _) Try.underlying26 rfl (by kernel_rfl)) rfl (by rw [HD']; exact ⟨_, _, _, rfl, Kd.R_nil _ _ _ _ _, Kd.R_nil _ _ _ _ _, Kd.R_nil _ _ _ _ _, set5_below HS8.out.dz.below hne.2.1 _ _ _ _ _⟩)
               | true =>
                have HD' : decN v u s ln tn yn c b 8 = (ty1, tr2, lsf, ⟨#[]⟩, v, true) := HDEC.out
                go_wp2
                as_aux_lemma => exact bodyPost_ret (results_ct rfl _ _ ob 26 #[.slice (some ⟨lb, 0, none⟩) yn cb, .slice Ar tr2.length cr, .slice Al lsf.length cl, .string ⟨#[]⟩, .int .i64 v] (0, 0) _ rfl (set5_blk HS8.out.dz.out _ _ _ _ _) Try.underlying26 rfl (by kernel_rfl)) rfl (by rw [HD']; exact ⟨_, _, _, rfl, set5_row HS8.out.ty HS8.out.dz.out (E46 (by decide)) (le_N hne HS8.out.dz.rd.size) _ _ _ _ _, set5_row HS8.out.tr HS8.out.dz.out (E48 (by decide)) (le_N hne HS8.out.dz.rd.size) _ _ _ _ _, set5_row HS8.out.lps HS8.out.dz.out (E50 (by decide)) (le_N hne HS8.out.dz.rd.size) _ _ _ _ _, set5_below HS8.out.dz.below hne.2.1 _ _ _ _ _⟩)
theorem rdecode_is (v u s l t ty c : Int) (A1 : Option Addr) (c1 : Nat) (b : List Int) (size : Int) (r1 : List S46) (r2 : List S48) (r3 : List S50) (r4 : ByteArray) (r5 : Int) (r6 : Bool) (w : World) (h8 : B8 b) (hr1 : Kd.C (Kd.int .u8) w A1 b.length b) (_ : b.length ≤ c1) (h : decF v u s l t ty c b size = some (r1, r2, r3, r4, r5, r6)) :
  Calls Try.prog 15 #[.agg #[.int .i64 v, .int .i64 u, .int .i64 s, .int .i64 l, .int .i64 t, .int .i64 ty, .int .i64 c], .slice A1 b.length c1, .int .i64 size] w fun e w' => ∃ v0_ v1_ v2_ : Value, e = .returned (.tuple #[.agg #[v0_, v1_, v2_, .string r4, .int .i64 r5], .bool r6]) ∧ Kd.R k46 46 w' w.heap.size (fun _ => True) v0_ r1 ∧ Kd.R k48 48 w' w.heap.size (fun _ => True) v1_ r2 ∧ Kd.R k50 50 w' w.heap.size (fun _ => True) v2_ r3 ∧ Below w.heap.size w w' := by
 have hd : decN v u s l t ty c b size = (r1, r2, r3, r4, r5, r6) ∧ b.length ≤ 1000000 := by
  unfold decF at h
  split at h
  ·rename_i hl; exact ⟨Option.some.inj h, of_decide_eq_true hl⟩
  ·exact absurd h (by simp)
 by_cases hg : rightS v u s l t ty c = true ∧ (size = 4 ∨ size = 8) ∧ (b.length : Int) = sizeF v u s l t ty c size
 ·obtain ⟨hR, hs, hl⟩ := hg
  have hRR := of_decide_eq_true hR
  obtain ⟨tn, rfl⟩ := Int.eq_ofNat_of_zero_le hRR.2.2.1.1
  obtain ⟨ln, rfl⟩ := Int.eq_ofNat_of_zero_le hRR.2.1.1
  obtain ⟨yn, rfl⟩ := Int.eq_ofNat_of_zero_le (show 0 ≤ ty by omega)
  have hb0 : 0 < b.length := by
   unfold sizeF at hl
   rw [hR] at hl
   simp only at hl
   rw [if_pos hs] at hl
   have p1 : 0 ≤ (tn : Int) * (size + 1) := Int.mul_nonneg (by omega) (by omega)
   have p2 : 0 ≤ (ln : Int) * (size + 4) := Int.mul_nonneg (by omega) (by omega)
   omega
  rcases hs with rfl | rfl
  ·have h := rdec_4 v u s c ln tn yn A1 c1 b w hr1 h8 hd.2 hb0 hR hl.symm
   rw [hd.1] at h
   exact h
  ·have h := rdec_8 v u s c ln tn yn A1 c1 b w hr1 h8 hd.2 hb0 hR hl.symm
   rw [hd.1] at h
   exact h
 ·have hn : decN v u s l t ty c b size = ([], [], [], ⟨#[]⟩, 0, false) := by
   unfold decN
   rw [decide_eq_false]
   rintro ⟨h1, h2⟩
   apply hg
   have hr : rightS v u s l t ty c = true := by
    cases hr : rightS v u s l t ty c with
    | true => rfl
    | false => exact absurd (by unfold sizeF; rw [hr]) h1
   refine ⟨hr, ?_, h2⟩
   by_cases hs : size = 4 ∨ size = 8
   ·exact hs
   ·exfalso; apply h1; unfold sizeF; rw [hr]; simp only; rw [if_neg hs]
  rw [hn] at hd
  obtain ⟨hd, _⟩ := hd
  injection hd with h1 hd; injection hd with h2 hd; injection hd with h3 hd; injection hd with h4 hd; injection hd with h5 h6
  subst h1 h2 h3 h4 h5 h6
  exact (rdec_bad v u s l t ty c A1 c1 b size w hg).mono fun e w' ⟨he, hb⟩ => ⟨_, _, _, he, Kd.R_nil _ _ _ _ _, Kd.R_nil _ _ _ _ _, Kd.R_nil _ _ _ _ _, hb⟩
end Go.Proofs.Ytpgjcnjojfehjaa.Bk
namespace Go.Proofs.Ytpgjcnjojfehjaa.Bk
open Go.RowKit Go.Proofs.YtpgjcnjojfehjaaW.PrintWords Go.Proofs.YtpgjcnjojfehjaaW.PrintLast Go.Proofs.YtpgjcnjojfehjaaW.PrintMore Oct Kx Ab PBlBack
theorem dec_some (v u s l t ty c : Int) (b : List Int) (size : Int) (h8 : B8 b) (hl : b.length ≤ 2000) : ∃ (r1 : List S46) (r2 : List S48) (r3 : List S50) (r4 : ByteArray) (r5 : Int) (r6 : Bool), decF v u s l t ty c b size = some (r1, r2, r3, r4, r5, r6) ∧ r1.length ≤ 1000000 ∧ r2.length ≤ 1000000 ∧ r3.length ≤ 1000000 := by
 have hdf : decF v u s l t ty c b size = some (decN v u s l t ty c b size) := by unfold decF; rw [decide_eq_true (show b.length ≤ 1000000 by omega)]
 rcases dec_out v u s l t ty c b size h8 (by omega) with h | ⟨T, R, L, h, -, -, -, -, -, -, h1, h2, h3, -⟩
 ·exact ⟨[], [], [], ⟨#[]⟩, 0, false, hdf.trans (by rw [h]), by simp, by simp, by simp⟩
 ·exact ⟨T, R, L, ⟨#[]⟩, v, true, hdf.trans (by rw [h]), by omega, by omega, by omega⟩
theorem put_n {e base : Nat} {W : World} {ok : Nat → Prop} {g n c : Nat} {xs : List Int} (h : Kd.R (Kd.int .u8) e W base ok (.slice (some ⟨g, 0, none⟩) n c) xs) (p : Nat) (x : Int) :
  Kd.R (Kd.int .u8) e (W.setCell ⟨g, p, none⟩ (.int .u8 x)) base ok (.slice (some ⟨g, 0, none⟩) n c) (xs.set p x) ∧ W.grownBy (W.setCell ⟨g, p, none⟩ (.int .u8 x)) (Value.slice (some ⟨g, 0, none⟩) n c).ownBlock := by
 obtain ⟨h1, -, -⟩ := Kd.R_reads' h
 subst h1
 exact Kd.R_put h (p : Int) x
theorem cell_n {e base : Nat} {W : World} {ok : Nat → Prop} {g n c : Nat} {xs : List Int} (h : Kd.R (Kd.int .u8) e W base ok (.slice (some ⟨g, 0, none⟩) n c) xs) (p : Nat) (hp : p < n) :
  W.cell? ⟨g, p, none⟩ = some (.int .u8 (rdOf 0 xs p)) ∧ W.frozen? ⟨g, p, none⟩ = false := by
 obtain ⟨h1, -, -⟩ := Kd.R_reads' h
 subst h1
 exact Kd.R_cell (0 : Int) h (p : Int) (Int.natCast_nonneg _) (by omega)
set_option maxHeartbeats 4000000 in
set_option maxRecDepth 100000 in
theorem tells_few (A0 : Option Addr) (c0 : Nat) (ty : List S46) (A1 : Option Addr) (c1 : Nat) (tr : List S48) (A2 : Option Addr) (c2 : Nat) (lp : List S50) (foot : ByteArray) (ver : Int) (size : Int) (v u s l t ty_ c : Int) (A3 : Option Addr) (c3 : Nat) (b : List Int) (w : World)
  (i0 : ty.length ≤ c0) (i1 : tr.length ≤ c1) (i2 : lp.length ≤ c2) (j0 : Kd.C k46 w A0 ty.length ty) (j1 : Kd.C k48 w A1 tr.length tr) (j2 : Kd.C k50 w A2 lp.length lp) (hb : fewB ty tr lp foot = false) :
  Calls Try.prog 3 #[.agg #[.slice A0 ty.length c0, .slice A1 tr.length c1, .slice A2 lp.length c2, .string foot, .int .i64 ver], .int .i64 size, .agg #[.int .i64 v, .int .i64 u, .int .i64 s, .int .i64 l, .int .i64 t, .int .i64 ty_, .int .i64 c], .slice A3 b.length c3] w fun e w' => e = .returned (.bool true) ∧ Below w.heap.size w w' := by
 obtain ⟨k1, h1⟩ := few_ev ty tr lp foot ver
 have HSM := Aside0.mk (fun W => small_is true W rfl)
 have HFEW := Aside0.mk (fun W j0 j1 j2 => epactlaw16_Few.calls k1 A0 c0 ty A1 c1 tr A2 c2 lp foot ver false W j0 i0 j1 i1 j2 i2 ((h1 k1 (Nat.le_refl _)).trans (by rw [hb])))
 clear hb
 have HR0 := Aside0.mk j0
 have HR1 := Aside0.mk j1
 have HR2 := Aside0.mk j2
 clear j0 j1 j2 i0 i1 i2 h1
 go_enter Try.func3, Try.ntmps3
 have HB_0 := Aside0.mk (Below.refl w.heap.size w)
 go_wp2_with (first | ((with_reducible refine gate_dst (N := 4) rfl ?_); refine box_event ?hg (N := 4) ?hd (cs := #[.slice A0 ty.length c0, .slice A1 tr.length c1, .slice A2 lp.length c2, .string foot, .int .i64 ver]) (t := 26) ?hr ?_; (case hd => rfl); (case hg => rfl); (case hr => first | (go_simp; done) | (go_simp; rfl)); intro gz hg_ w1 hbox hb_; have GZ : Aside0 (w.heap.size ≤ gz) := ⟨Nat.le_of_eq hg_.symm⟩; have GWZ : Aside0 (w.heap.size ≤ gz) := ⟨Nat.le_trans (Below.size HB_0.out) (Nat.le_of_eq hg_.symm)⟩; have HB_1 := Aside0.mk (below_step HB_0.out hb_); clear HB_0; have Z_1 := Aside0.mk (hbox); clear hbox hb_ hg_) | ((with_reducible refine gate_dst (N := 6) rfl ?_); refine box_event ?hg (N := 6) ?hd (cs := #[.int .i64 v, .int .i64 u, .int .i64 s, .int .i64 l, .int .i64 t, .int .i64 ty_, .int .i64 c]) (t := 28) ?hr ?_; (case hd => rfl); (case hg => rfl); (case hr => first | (go_simp; done) | (go_simp; rfl)); intro gh hg_ w2 hbox hb_; have GH : Aside0 (w1.heap.size ≤ gh) := ⟨Nat.le_of_eq hg_.symm⟩; have GWH : Aside0 (w.heap.size ≤ gh) := ⟨Nat.le_trans (Below.size HB_1.out) (Nat.le_of_eq hg_.symm)⟩; have HB_2 := Aside0.mk (below_step HB_1.out hb_); have Z_2 := Aside0.mk (blk_below Z_1.out hb_); clear HB_1 Z_1; have H_2 := Aside0.mk (hbox); clear hbox hb_ hg_))
 refine (HSM.out _).mono ?_
 rintro e w3 ⟨rfl, hb_⟩
 have HB_3 := Aside0.mk (below_step HB_2.out hb_)
 have Z_3 := Aside0.mk (blk_below Z_2.out hb_)
 have H_3 := Aside0.mk (blk_below H_2.out hb_)
 clear HB_2 Z_2 H_2
 clear hb_ HSM
 obtain ⟨hz0, hz1, hz2, hz3, hz4⟩ := zone_cells Z_3.out
 go_wp2_with fail
 refine (HFEW.out _ (Kd.C_below HR0.out HB_3.out) (Kd.C_below HR1.out HB_3.out) (Kd.C_below HR2.out HB_3.out)).mono ?_
 rintro e w4 ⟨rfl, hb_⟩
 have HB_4 := Aside0.mk (below_step HB_3.out hb_)
 have Z_4 := Aside0.mk (blk_below Z_3.out hb_)
 have H_4 := Aside0.mk (blk_below H_3.out hb_)
 clear HB_3 Z_3 H_3
 clear hz0 hz1 hz2 hz3 hz4
 clear hb_ HFEW
 go_wp2_with fail
 go_ret
 all_goals exact ⟨rfl, HB_4.out⟩
set_option maxHeartbeats 4000000 in
set_option maxRecDepth 100000 in
theorem tells_long (A0 : Option Addr) (c0 : Nat) (ty : List S46) (A1 : Option Addr) (c1 : Nat) (tr : List S48) (A2 : Option Addr) (c2 : Nat) (lp : List S50) (foot : ByteArray) (ver : Int) (size : Int) (v u s l t ty_ c : Int) (A3 : Option Addr) (c3 : Nat) (b : List Int) (w : World)
  (i0 : ty.length ≤ c0) (i1 : tr.length ≤ c1) (i2 : lp.length ≤ c2) (j0 : Kd.C k46 w A0 ty.length ty) (j1 : Kd.C k48 w A1 tr.length tr) (j2 : Kd.C k50 w A2 lp.length lp) (hb : fewB ty tr lp foot = true) (hl : 2000 < b.length) :
  Calls Try.prog 3 #[.agg #[.slice A0 ty.length c0, .slice A1 tr.length c1, .slice A2 lp.length c2, .string foot, .int .i64 ver], .int .i64 size, .agg #[.int .i64 v, .int .i64 u, .int .i64 s, .int .i64 l, .int .i64 t, .int .i64 ty_, .int .i64 c], .slice A3 b.length c3] w fun e w' => e = .returned (.bool true) ∧ Below w.heap.size w w' := by
 obtain ⟨k1, h1⟩ := few_ev ty tr lp foot ver
 have HSM := Aside0.mk (fun W => small_is true W rfl)
 have HFEW := Aside0.mk (fun W j0 j1 j2 => epactlaw16_Few.calls k1 A0 c0 ty A1 c1 tr A2 c2 lp foot ver true W j0 i0 j1 i1 j2 i2 ((h1 k1 (Nat.le_refl _)).trans (by rw [hb])))
 have hq : ((2000 : Int) < (b.length : Int)) := by omega
 have hq2 : decide ((2000 : Int) < (b.length : Int)) = true := decide_eq_true hq
 clear hb hl
 have HR0 := Aside0.mk j0
 have HR1 := Aside0.mk j1
 have HR2 := Aside0.mk j2
 clear j0 j1 j2 i0 i1 i2 h1
 go_enter Try.func3, Try.ntmps3
 have HB_0 := Aside0.mk (Below.refl w.heap.size w)
 go_wp2_with (first | ((with_reducible refine gate_dst (N := 4) rfl ?_); refine box_event ?hg (N := 4) ?hd (cs := #[.slice A0 ty.length c0, .slice A1 tr.length c1, .slice A2 lp.length c2, .string foot, .int .i64 ver]) (t := 26) ?hr ?_; (case hd => rfl); (case hg => rfl); (case hr => first | (go_simp; done) | (go_simp; rfl)); intro gz hg_ w1 hbox hb_; have GZ : Aside0 (w.heap.size ≤ gz) := ⟨Nat.le_of_eq hg_.symm⟩; have GWZ : Aside0 (w.heap.size ≤ gz) := ⟨Nat.le_trans (Below.size HB_0.out) (Nat.le_of_eq hg_.symm)⟩; have HB_1 := Aside0.mk (below_step HB_0.out hb_); clear HB_0; have Z_1 := Aside0.mk (hbox); clear hbox hb_ hg_) | ((with_reducible refine gate_dst (N := 6) rfl ?_); refine box_event ?hg (N := 6) ?hd (cs := #[.int .i64 v, .int .i64 u, .int .i64 s, .int .i64 l, .int .i64 t, .int .i64 ty_, .int .i64 c]) (t := 28) ?hr ?_; (case hd => rfl); (case hg => rfl); (case hr => first | (go_simp; done) | (go_simp; rfl)); intro gh hg_ w2 hbox hb_; have GH : Aside0 (w1.heap.size ≤ gh) := ⟨Nat.le_of_eq hg_.symm⟩; have GWH : Aside0 (w.heap.size ≤ gh) := ⟨Nat.le_trans (Below.size HB_1.out) (Nat.le_of_eq hg_.symm)⟩; have HB_2 := Aside0.mk (below_step HB_1.out hb_); have Z_2 := Aside0.mk (blk_below Z_1.out hb_); clear HB_1 Z_1; have H_2 := Aside0.mk (hbox); clear hbox hb_ hg_))
 refine (HSM.out _).mono ?_
 rintro e w3 ⟨rfl, hb_⟩
 have HB_3 := Aside0.mk (below_step HB_2.out hb_)
 have Z_3 := Aside0.mk (blk_below Z_2.out hb_)
 have H_3 := Aside0.mk (blk_below H_2.out hb_)
 clear HB_2 Z_2 H_2
 clear hb_ HSM
 obtain ⟨hz0, hz1, hz2, hz3, hz4⟩ := zone_cells Z_3.out
 go_wp2_with fail
 refine (HFEW.out _ (Kd.C_below HR0.out HB_3.out) (Kd.C_below HR1.out HB_3.out) (Kd.C_below HR2.out HB_3.out)).mono ?_
 rintro e w4 ⟨rfl, hb_⟩
 have HB_4 := Aside0.mk (below_step HB_3.out hb_)
 have Z_4 := Aside0.mk (blk_below Z_3.out hb_)
 have H_4 := Aside0.mk (blk_below H_3.out hb_)
 clear HB_3 Z_3 H_3
 clear hz0 hz1 hz2 hz3 hz4
 clear hb_ HFEW
 go_wp2_with fail
 go_ret
 all_goals exact ⟨rfl, HB_4.out⟩
set_option maxHeartbeats 4000000 in
set_option maxRecDepth 100000 in
theorem tells_main (A0 : Option Addr) (c0 : Nat) (ty : List S46) (A1 : Option Addr) (c1 : Nat) (tr : List S48) (A2 : Option Addr) (c2 : Nat) (lp : List S50) (foot : ByteArray) (ver : Int) (size : Int) (v u s l t ty_ c : Int) (A3 : Option Addr) (c3 : Nat) (b : List Int) (w : World)
  (i0 : ty.length ≤ c0) (i1 : tr.length ≤ c1) (i2 : lp.length ≤ c2) (j0 : Kd.C k46 w A0 ty.length ty) (j1 : Kd.C k48 w A1 tr.length tr) (j2 : Kd.C k50 w A2 lp.length lp) (i3 : b.length ≤ c3) (j3 : Kd.C (Kd.int .u8) w A3 b.length b) (h8 : B8 b) (hb : fewB ty tr lp foot = true) (hl : b.length ≤ 2000) :
  Calls Try.prog 3 #[.agg #[.slice A0 ty.length c0, .slice A1 tr.length c1, .slice A2 lp.length c2, .string foot, .int .i64 ver], .int .i64 size, .agg #[.int .i64 v, .int .i64 u, .int .i64 s, .int .i64 l, .int .i64 t, .int .i64 ty_, .int .i64 c], .slice A3 b.length c3] w fun e w' => e = .returned (.bool true) ∧ Below w.heap.size w w' := by
 obtain ⟨k1, h1⟩ := few_ev ty tr lp foot ver
 have HSM := Aside0.mk (fun W => small_is true W rfl)
 have HFEW := Aside0.mk (fun W j0 j1 j2 => epactlaw16_Few.calls k1 A0 c0 ty A1 c1 tr A2 c2 lp foot ver true W j0 i0 j1 i1 j2 i2 ((h1 k1 (Nat.le_refl _)).trans (by rw [hb])))
 have hok := few_ok hb
 have hq : ¬ ((2000 : Int) < (b.length : Int)) := by omega
 have hq2 : decide ((2000 : Int) < (b.length : Int)) = false := decide_eq_false hq
 obtain ⟨n1, n2, n3, n4, n5, n6, n7, n8, hn⟩ : ∃ n1 n2 n3 n4 n5 n6 n7 n8, countF ty tr lp foot ver = some (n1, n2, n3, n4, n5, n6, n7, n8) := ⟨_, _, _, _, _, _, _, _, by unfold countF; rw [hok]⟩
 obtain ⟨eb, eo, he⟩ : ∃ a b, encF ty tr lp foot ver size = some (a, b) := ⟨_, _, by unfold encF; rw [hok]⟩
 obtain ⟨r1, r2, r3, r4, r5, r6, hd, hr1l, hr2l, hr3l⟩ := dec_some v u s l t ty_ c b size h8 hl
 obtain ⟨k2, h2⟩ := same_ev r1 r2 r3 r4 r5 hr1l hr2l hr3l
 have HCT := Aside0.mk (fun W j0 j1 j2 => count_is A0 c0 ty A1 c1 tr A2 c2 lp foot ver n1 n2 n3 n4 n5 n6 n7 n8 W j0 i0 j1 i1 j2 i2 hn)
 have HRC := Aside0.mk (fun W j0 j1 j2 => rcount_is A0 c0 ty A1 c1 tr A2 c2 lp foot ver n1 n2 n3 n4 n5 n6 n7 n8 W j0 i0 j1 i1 j2 i2 hn)
 have HENC := Aside0.mk (fun W j0 j1 j2 => encode_is A0 c0 ty A1 c1 tr A2 c2 lp foot ver size eb eo W j0 i0 j1 i1 j2 i2 he)
 have HRE := Aside0.mk (fun W j0 j1 j2 => rencode_is A0 c0 ty A1 c1 tr A2 c2 lp foot ver size eb eo W j0 i0 j1 i1 j2 i2 he)
 have HDEC := Aside0.mk (fun A c_ W h hc => decode_is v u s l t ty_ c A c_ b size r1 r2 r3 r4 r5 r6 W h hc hd)
 have HRD := Aside0.mk (fun W h => rdecode_is v u s l t ty_ c A3 c3 b size r1 r2 r3 r4 r5 r6 W h8 h i3 hd)
 have HSAME := Aside0.mk (fun A0' c0' A1' c1' A2' c2' A0 c0 A1 c1 A2 c2 W j0 e0 j1 e1 j2 e2 g0 i0 g1 i1 g2 i2 => epactref16_Same.calls k2 A0' c0' r1 A1' c1' r2 A2' c2' r3 r4 r5 A0 c0 r1 A1 c1 r2 A2 c2 r3 r4 r5 true W j0 e0 j1 e1 j2 e2 g0 i0 g1 i1 g2 i2 (h2 k2 (Nat.le_refl _)))
 have HR3 := Aside0.mk j3
 have HBL : Aside0 (b.length ≤ 2000) := ⟨hl⟩
 clear hb hok hn he hd hr1l hr2l hr3l h2 j3 i3 h8 hl
 have HR0 := Aside0.mk j0
 have HR1 := Aside0.mk j1
 have HR2 := Aside0.mk j2
 clear j0 j1 j2 i0 i1 i2 h1
 go_enter Try.func3, Try.ntmps3
 have HB_0 := Aside0.mk (Below.refl w.heap.size w)
 go_wp2_with (first | ((with_reducible refine gate_dst (N := 4) rfl ?_); refine box_event ?hg (N := 4) ?hd (cs := #[.slice A0 ty.length c0, .slice A1 tr.length c1, .slice A2 lp.length c2, .string foot, .int .i64 ver]) (t := 26) ?hr ?_; (case hd => rfl); (case hg => rfl); (case hr => first | (go_simp; done) | (go_simp; rfl)); intro gz hg_ w1 hbox hb_; have GZ : Aside0 (w.heap.size ≤ gz) := ⟨Nat.le_of_eq hg_.symm⟩; have GWZ : Aside0 (w.heap.size ≤ gz) := ⟨Nat.le_trans (Below.size HB_0.out) (Nat.le_of_eq hg_.symm)⟩; have HB_1 := Aside0.mk (below_step HB_0.out hb_); clear HB_0; have Z_1 := Aside0.mk (hbox); clear hbox hb_ hg_) | ((with_reducible refine gate_dst (N := 6) rfl ?_); refine box_event ?hg (N := 6) ?hd (cs := #[.int .i64 v, .int .i64 u, .int .i64 s, .int .i64 l, .int .i64 t, .int .i64 ty_, .int .i64 c]) (t := 28) ?hr ?_; (case hd => rfl); (case hg => rfl); (case hr => first | (go_simp; done) | (go_simp; rfl)); intro gh hg_ w2 hbox hb_; have GH : Aside0 (w1.heap.size ≤ gh) := ⟨Nat.le_of_eq hg_.symm⟩; have GWH : Aside0 (w.heap.size ≤ gh) := ⟨Nat.le_trans (Below.size HB_1.out) (Nat.le_of_eq hg_.symm)⟩; have HB_2 := Aside0.mk (below_step HB_1.out hb_); have Z_2 := Aside0.mk (blk_below Z_1.out hb_); clear HB_1 Z_1; have H_2 := Aside0.mk (hbox); clear hbox hb_ hg_))
 refine (HSM.out _).mono ?_
 rintro e w3 ⟨rfl, hb_⟩
 have HB_3 := Aside0.mk (below_step HB_2.out hb_)
 have Z_3 := Aside0.mk (blk_below Z_2.out hb_)
 have H_3 := Aside0.mk (blk_below H_2.out hb_)
 clear HB_2 Z_2 H_2
 clear hb_ HSM
 obtain ⟨hz0, hz1, hz2, hz3, hz4⟩ := zone_cells Z_3.out
 go_wp2_with fail
 refine (HFEW.out _ (Kd.C_below HR0.out HB_3.out) (Kd.C_below HR1.out HB_3.out) (Kd.C_below HR2.out HB_3.out)).mono ?_
 rintro e w4 ⟨rfl, hb_⟩
 have HB_4 := Aside0.mk (below_step HB_3.out hb_)
 have Z_4 := Aside0.mk (blk_below Z_3.out hb_)
 have H_4 := Aside0.mk (blk_below H_3.out hb_)
 clear HB_3 Z_3 H_3
 clear hz0 hz1 hz2 hz3 hz4
 clear hb_ HFEW
 obtain ⟨hz0, hz1, hz2, hz3, hz4⟩ := zone_cells Z_4.out
 go_wp2_with fail
 clear hq hq2
 refine (HCT.out _ (Kd.C_below HR0.out HB_4.out) (Kd.C_below HR1.out HB_4.out) (Kd.C_below HR2.out HB_4.out)).mono ?_
 rintro e w5 ⟨rfl, hb_⟩
 have HB_5 := Aside0.mk (below_step HB_4.out hb_)
 have Z_5 := Aside0.mk (blk_below Z_4.out hb_)
 have H_5 := Aside0.mk (blk_below H_4.out hb_)
 clear HB_4 Z_4 H_4
 clear hz0 hz1 hz2 hz3 hz4
 clear hb_ HCT
 go_upto_region 6 with ((with_reducible refine gate_dst (N := 11) rfl ?_); refine box_event ?hg (N := 11) ?hd (cs := #[.int .i64 0, .int .i64 0, .int .i64 0, .int .i64 0, .int .i64 0, .int .i64 0, .int .i64 0]) (t := 28) ?hr ?_; (case hd => rfl); (case hg => rfl); (case hr => first | (go_simp; done) | (go_simp; rfl)); intro ga hg_ w6 hbox hb_; have HN := Aside0.mk hb_; have HBX := Aside0.mk hbox; have GA : Aside0 (w5.heap.size ≤ ga) := ⟨Nat.le_of_eq hg_.symm⟩; obtain ⟨hy0, hy1, hy2, hy3, hy4, hy5, hy6⟩ := cells7 hbox; have f0 := blk_frozen hbox 0; have f1 := blk_frozen hbox 1; have f2 := blk_frozen hbox 2; have f3 := blk_frozen hbox 3; have f4 := blk_frozen hbox 4; have f5 := blk_frozen hbox 5; have f6 := blk_frozen hbox 6; clear hbox hb_ hg_)
 have HX := Aside0.mk (set7_below HN.out GA.out (.int .i64 n1) (.int .i64 n2) (.int .i64 n3) (.int .i64 n4) (.int .i64 n5) (.int .i64 n6) (.int .i64 n7))
 have HY := Aside0.mk (set7_blk HBX.out (.int .i64 n1) (.int .i64 n2) (.int .i64 n3) (.int .i64 n4) (.int .i64 n5) (.int .i64 n6) (.int .i64 n7))
 unfold set7 at HX HY
 clear HBX HN hy0 f0 hy1 f1 hy2 f2 hy3 f3 hy4 f4 hy5 f5 hy6 f6
 generalize (((((((w6.setCell ⟨ga, 0, none⟩ (.int .i64 n1)).setCell ⟨ga, 1, none⟩ (.int .i64 n2)).setCell ⟨ga, 2, none⟩ (.int .i64 n3)).setCell ⟨ga, 3, none⟩ (.int .i64 n4)).setCell ⟨ga, 4, none⟩ (.int .i64 n5)).setCell ⟨ga, 5, none⟩ (.int .i64 n6)).setCell ⟨ga, 6, none⟩ (.int .i64 n7)) = w7 at *
 have HB_7 := Aside0.mk (below_step HB_5.out HX.out)
 have Z_7 := Aside0.mk (blk_below Z_5.out HX.out)
 have H_7 := Aside0.mk (blk_below H_5.out HX.out)
 clear HB_5 Z_5 H_5
 have A_7 := Aside0.mk (HY.out)
 clear HX HY
 obtain ⟨hz0, hz1, hz2, hz3, hz4⟩ := zone_cells Z_7.out
 go_wp2_with fail
 refine (HRC.out _ (Kd.C_below HR0.out HB_7.out) (Kd.C_below HR1.out HB_7.out) (Kd.C_below HR2.out HB_7.out)).mono ?_
 rintro e w8 ⟨rfl, hb_⟩
 have HB_8 := Aside0.mk (below_step HB_7.out hb_)
 have Z_8 := Aside0.mk (blk_below Z_7.out hb_)
 have H_8 := Aside0.mk (blk_below H_7.out hb_)
 have A_8 := Aside0.mk (blk_below A_7.out hb_)
 clear HB_7 Z_7 H_7 A_7
 clear hz0 hz1 hz2 hz3 hz4
 clear hb_ HRC
 go_upto_region 7 with ((with_reducible refine gate_dst (N := 13) rfl ?_); refine box_event ?hg (N := 13) ?hd (cs := #[.int .i64 0, .int .i64 0, .int .i64 0, .int .i64 0, .int .i64 0, .int .i64 0, .int .i64 0]) (t := 28) ?hr ?_; (case hd => rfl); (case hg => rfl); (case hr => first | (go_simp; done) | (go_simp; rfl)); intro gd hg_ w9 hbox hb_; have HN := Aside0.mk hb_; have HBX := Aside0.mk hbox; have GD : Aside0 (w8.heap.size ≤ gd) := ⟨Nat.le_of_eq hg_.symm⟩; obtain ⟨hy0, hy1, hy2, hy3, hy4, hy5, hy6⟩ := cells7 hbox; have f0 := blk_frozen hbox 0; have f1 := blk_frozen hbox 1; have f2 := blk_frozen hbox 2; have f3 := blk_frozen hbox 3; have f4 := blk_frozen hbox 4; have f5 := blk_frozen hbox 5; have f6 := blk_frozen hbox 6; clear hbox hb_ hg_)
 have HX := Aside0.mk (set7_below HN.out GD.out (.int .i64 n1) (.int .i64 n2) (.int .i64 n3) (.int .i64 n4) (.int .i64 n5) (.int .i64 n6) (.int .i64 n7))
 have HY := Aside0.mk (set7_blk HBX.out (.int .i64 n1) (.int .i64 n2) (.int .i64 n3) (.int .i64 n4) (.int .i64 n5) (.int .i64 n6) (.int .i64 n7))
 unfold set7 at HX HY
 clear HBX HN hy0 f0 hy1 f1 hy2 f2 hy3 f3 hy4 f4 hy5 f5 hy6 f6
 generalize (((((((w9.setCell ⟨gd, 0, none⟩ (.int .i64 n1)).setCell ⟨gd, 1, none⟩ (.int .i64 n2)).setCell ⟨gd, 2, none⟩ (.int .i64 n3)).setCell ⟨gd, 3, none⟩ (.int .i64 n4)).setCell ⟨gd, 4, none⟩ (.int .i64 n5)).setCell ⟨gd, 5, none⟩ (.int .i64 n6)).setCell ⟨gd, 6, none⟩ (.int .i64 n7)) = w10 at *
 have HB_10 := Aside0.mk (below_step HB_8.out HX.out)
 have Z_10 := Aside0.mk (blk_below Z_8.out HX.out)
 have H_10 := Aside0.mk (blk_below H_8.out HX.out)
 have A_10 := Aside0.mk (blk_below A_8.out HX.out)
 clear HB_8 Z_8 H_8 A_8
 have D_10 := Aside0.mk (HY.out)
 clear HX HY
 obtain ⟨hz0, hz1, hz2, hz3, hz4⟩ := zone_cells Z_10.out
 go_wp2_with fail
 refine (HENC.out _ (Kd.C_below HR0.out HB_10.out) (Kd.C_below HR1.out HB_10.out) (Kd.C_below HR2.out HB_10.out)).mono ?_
 rintro e w11 ⟨v0, rfl, hv, hb_⟩
 obtain ⟨AF, cF, rfl⟩ := Kd.R_slice hv
 have HB_11 := Aside0.mk (below_step HB_10.out hb_)
 have Z_11 := Aside0.mk (blk_below Z_10.out hb_)
 have H_11 := Aside0.mk (blk_below H_10.out hb_)
 have A_11 := Aside0.mk (blk_below A_10.out hb_)
 have D_11 := Aside0.mk (blk_below D_10.out hb_)
 clear HB_10 Z_10 H_10 A_10 D_10
 clear hz0 hz1 hz2 hz3 hz4
 have F_11 := Aside0.mk (hv)
 clear hb_ hv HENC
 obtain ⟨hz0, hz1, hz2, hz3, hz4⟩ := zone_cells Z_11.out
 go_wp2_with fail
 refine (HRE.out _ (Kd.C_below HR0.out HB_11.out) (Kd.C_below HR1.out HB_11.out) (Kd.C_below HR2.out HB_11.out)).mono ?_
 rintro e w12 ⟨v0, rfl, hv, hb_⟩
 obtain ⟨AI, cI, rfl⟩ := Kd.R_slice hv
 have HB_12 := Aside0.mk (below_step HB_11.out hb_)
 have Z_12 := Aside0.mk (blk_below Z_11.out hb_)
 have H_12 := Aside0.mk (blk_below H_11.out hb_)
 have A_12 := Aside0.mk (blk_below A_11.out hb_)
 have D_12 := Aside0.mk (blk_below D_11.out hb_)
 have F_12 := Aside0.mk (Kd.R_below F_11.out hb_)
 clear HB_11 Z_11 H_11 A_11 D_11 F_11
 clear hz0 hz1 hz2 hz3 hz4
 have I_12 := Aside0.mk (hv)
 clear hb_ hv HRE
 clear Z_12
 have HBB : Aside0 (w.heap.size ≤ w12.heap.size) := ⟨Below.size HB_12.out⟩
 have FB_12 := Aside0.mk (Kd.R_mono (Kd.R_bound F_12.out) (ok' := fun k => k < w12.heap.size) (fun k hk => hk.2.2.1))
 clear F_12
 have IB_12 := Aside0.mk (Kd.R_mono (Kd.R_bound I_12.out) (ok' := fun k => k < w12.heap.size) (fun k hk => hk.2.2.1))
 clear I_12
 go_wp2_with (first | ((with_reducible refine gate_dst (N := 58) rfl ?_); refine Kd.R_lit (Kd.int .u8) _ 5 ?hg (N := 58) ?hd (xs := ([] : List Int)) (inner := []) (ok := fun _ => True) (okp := fun _ => True) ?hr ?hp (fun _ hk => hk) trivial (Below.refl _ _) (Nat.le_refl _) (by simp) ?_; (case hd => rfl); (case hg => rfl); (case hr => first | (go_simp; done) | (go_simp; rfl)); (case hp => exact (Reps.none _ _)); intro vs w13 hs_ hb_ _ _; have HB_13 := Aside0.mk (below_step HB_12.out hb_); have H_13 := Aside0.mk (blk_below H_12.out hb_); have A_13 := Aside0.mk (blk_below A_12.out hb_); have D_13 := Aside0.mk (blk_below D_12.out hb_); have F_13 := Aside0.mk (Kd.R_below FB_12.out hb_); have I_13 := Aside0.mk (Kd.R_below IB_12.out hb_); clear HB_12 H_12 A_12 D_12 FB_12 IB_12; have V_13 := Aside0.mk hs_; have HV0 := Aside0.mk hb_; clear hs_ hb_) | ((with_reducible refine gate_builtin (b := .append) (xs := #[.tmp 58, .tmp 59]) rfl ?_); at_builtin; refine Kd.R_append_rows (Kd.int .u8) (w0 := w12) w12.heap.size rfl (.tmp 58) (.tmp 59) 29 5 (.int .u8 0) 1 rfl Try.underlying29 info5 rfl (by decide) (by omega) vs [] b _ _ _ (fun _ => True) (fun _ => False) rfl rfl ?aO ?aR (fun _ _ h => h) (fun _ h => h.elim) (fun _ _ => trivial) ?aB ?aS ?aL ?_; (case aO => exact V_13.out); (case aR => exact Kd.C_below HR3.out HB_13.out); (case aB => exact HV0.out); (case aS => exact Below.size HV0.out); (case aL => have h1 := HBL.out; show (0 + b.length) * 1 ≤ _; omega); intro v2 w14 ho_ hb_ hg_ _; obtain ⟨Ai, ci, hv_⟩ := Kd.R_slice ho_; have ho_ : Kd.R (Kd.int .u8) 5 w14 w12.heap.size (fun _ => True) v2 b := ho_; rw [List.nil_append] at hv_; subst hv_; have HB_14 := Aside0.mk (below_grown HB_13.out hg_ (fun k e => Nat.le_trans HBB.out (Kd.R_base V_13.out k e))); have H_14 := Aside0.mk (blk_grown H_13.out hg_ (Kd.R_ne V_13.out H_13.out (by decide))); have A_14 := Aside0.mk (blk_grown A_13.out hg_ (Kd.R_ne V_13.out A_13.out (by decide))); have D_14 := Aside0.mk (blk_grown D_13.out hg_ (Kd.R_ne V_13.out D_13.out (by decide))); have F_14 := Aside0.mk (Kd.R_grown F_13.out hg_ (fun k hk e => by have h_ := Kd.R_base V_13.out k e.symm; omega)); have I_14 := Aside0.mk (Kd.R_grown I_13.out hg_ (fun k hk e => by have h_ := Kd.R_base V_13.out k e.symm; omega)); have V_14 := Aside0.mk (ho_); clear HB_13 H_13 A_13 D_13 F_13 I_13 V_13 HV0 ho_ hb_ hg_; obtain ⟨hx0, hx1, hx2, hx3, hx4, hx5, hx6⟩ := cells7 H_14.out))
 refine (HDEC.out Ai ci _ (Kd.R_reads' V_14.out).2.2 (Kd.R_reads' V_14.out).2.1).mono ?_
 rintro e w15 ⟨v0, v1, v2, rfl, hr0, hr1, hr2, hb_⟩
 obtain ⟨X0, Xc0, rfl⟩ := Kd.R_slice hr0
 obtain ⟨X1, Xc1, rfl⟩ := Kd.R_slice hr1
 obtain ⟨X2, Xc2, rfl⟩ := Kd.R_slice hr2
 have HB_15 := Aside0.mk (below_step HB_14.out hb_)
 have H_15 := Aside0.mk (blk_below H_14.out hb_)
 have A_15 := Aside0.mk (blk_below A_14.out hb_)
 have D_15 := Aside0.mk (blk_below D_14.out hb_)
 have F_15 := Aside0.mk (Kd.R_below F_14.out hb_)
 have I_15 := Aside0.mk (Kd.R_below I_14.out hb_)
 have V_15 := Aside0.mk (Kd.R_below V_14.out hb_)
 clear HB_14 H_14 A_14 D_14 F_14 I_14 V_14
 clear hx0 hx1 hx2 hx3 hx4 hx5 hx6
 have X0_15 := Aside0.mk (hr0)
 have X1_15 := Aside0.mk (hr1)
 have X2_15 := Aside0.mk (hr2)
 clear hb_ hr0 hr1 hr2 HDEC
 go_upto_region 11 with ((with_reducible refine gate_dst (N := 20) rfl ?_); refine box_event ?hg (N := 20) ?hd (cs := #[.slice none 0 0, .slice none 0 0, .slice none 0 0, .string ⟨#[]⟩, .int .i64 0]) (t := 26) ?hr ?_; (case hd => rfl); (case hg => rfl); (case hr => first | (go_simp; done) | (go_simp; rfl)); intro gl hg_ w16 hbox hb_; have HN := Aside0.mk hb_; have HBX := Aside0.mk hbox; have GL : Aside0 (w15.heap.size ≤ gl) := ⟨Nat.le_of_eq hg_.symm⟩; obtain ⟨hy0, hy1, hy2, hy3, hy4⟩ := zone_cells hbox; have f0 := blk_frozen hbox 0; have f1 := blk_frozen hbox 1; have f2 := blk_frozen hbox 2; have f3 := blk_frozen hbox 3; have f4 := blk_frozen hbox 4; clear hbox hb_ hg_)
 have HX := Aside0.mk (set5_below HN.out GL.out (.slice X0 r1.length Xc0) (.slice X1 r2.length Xc1) (.slice X2 r3.length Xc2) (.string r4) (.int .i64 r5))
 have HY := Aside0.mk (set5_blk HBX.out (.slice X0 r1.length Xc0) (.slice X1 r2.length Xc1) (.slice X2 r3.length Xc2) (.string r4) (.int .i64 r5))
 unfold set5 at HX HY
 clear HBX HN hy0 f0 hy1 f1 hy2 f2 hy3 f3 hy4 f4
 generalize (((((w16.setCell ⟨gl, 0, none⟩ (.slice X0 r1.length Xc0)).setCell ⟨gl, 1, none⟩ (.slice X1 r2.length Xc1)).setCell ⟨gl, 2, none⟩ (.slice X2 r3.length Xc2)).setCell ⟨gl, 3, none⟩ (.string r4)).setCell ⟨gl, 4, none⟩ (.int .i64 r5)) = w17 at *
 have HB_17 := Aside0.mk (below_step HB_15.out HX.out)
 have H_17 := Aside0.mk (blk_below H_15.out HX.out)
 have A_17 := Aside0.mk (blk_below A_15.out HX.out)
 have D_17 := Aside0.mk (blk_below D_15.out HX.out)
 have F_17 := Aside0.mk (Kd.R_below F_15.out HX.out)
 have I_17 := Aside0.mk (Kd.R_below I_15.out HX.out)
 have V_17 := Aside0.mk (Kd.R_below V_15.out HX.out)
 have X0_17 := Aside0.mk (Kd.R_below X0_15.out HX.out)
 have X1_17 := Aside0.mk (Kd.R_below X1_15.out HX.out)
 have X2_17 := Aside0.mk (Kd.R_below X2_15.out HX.out)
 clear HB_15 H_15 A_15 D_15 F_15 I_15 V_15 X0_15 X1_15 X2_15
 have L_17 := Aside0.mk (HY.out)
 clear HX HY
 obtain ⟨hx0, hx1, hx2, hx3, hx4, hx5, hx6⟩ := cells7 H_17.out
 go_wp2_with fail
 refine (HRD.out _ (Kd.C_below HR3.out HB_17.out)).mono ?_
 rintro e w18 ⟨v0, v1, v2, rfl, hr0, hr1, hr2, hb_⟩
 obtain ⟨Y0, Yc0, rfl⟩ := Kd.R_slice hr0
 obtain ⟨Y1, Yc1, rfl⟩ := Kd.R_slice hr1
 obtain ⟨Y2, Yc2, rfl⟩ := Kd.R_slice hr2
 have HB_18 := Aside0.mk (below_step HB_17.out hb_)
 have H_18 := Aside0.mk (blk_below H_17.out hb_)
 have A_18 := Aside0.mk (blk_below A_17.out hb_)
 have D_18 := Aside0.mk (blk_below D_17.out hb_)
 have F_18 := Aside0.mk (Kd.R_below F_17.out hb_)
 have I_18 := Aside0.mk (Kd.R_below I_17.out hb_)
 have V_18 := Aside0.mk (Kd.R_below V_17.out hb_)
 have X0_18 := Aside0.mk (Kd.R_below X0_17.out hb_)
 have X1_18 := Aside0.mk (Kd.R_below X1_17.out hb_)
 have X2_18 := Aside0.mk (Kd.R_below X2_17.out hb_)
 have L_18 := Aside0.mk (blk_below L_17.out hb_)
 clear HB_17 H_17 A_17 D_17 F_17 I_17 V_17 X0_17 X1_17 X2_17 L_17
 clear hx0 hx1 hx2 hx3 hx4 hx5 hx6
 have Y0_18 := Aside0.mk (hr0)
 have Y1_18 := Aside0.mk (hr1)
 have Y2_18 := Aside0.mk (hr2)
 clear hb_ hr0 hr1 hr2 HRD
 go_upto_region 12 with ((with_reducible refine gate_dst (N := 22) rfl ?_); refine box_event ?hg (N := 22) ?hd (cs := #[.slice none 0 0, .slice none 0 0, .slice none 0 0, .string ⟨#[]⟩, .int .i64 0]) (t := 26) ?hr ?_; (case hd => rfl); (case hg => rfl); (case hr => first | (go_simp; done) | (go_simp; rfl)); intro gm hg_ w19 hbox hb_; have HN := Aside0.mk hb_; have HBX := Aside0.mk hbox; have GM : Aside0 (w18.heap.size ≤ gm) := ⟨Nat.le_of_eq hg_.symm⟩; obtain ⟨hy0, hy1, hy2, hy3, hy4⟩ := zone_cells hbox; have f0 := blk_frozen hbox 0; have f1 := blk_frozen hbox 1; have f2 := blk_frozen hbox 2; have f3 := blk_frozen hbox 3; have f4 := blk_frozen hbox 4; clear hbox hb_ hg_)
 have HX := Aside0.mk (set5_below HN.out GM.out (.slice Y0 r1.length Yc0) (.slice Y1 r2.length Yc1) (.slice Y2 r3.length Yc2) (.string r4) (.int .i64 r5))
 have HY := Aside0.mk (set5_blk HBX.out (.slice Y0 r1.length Yc0) (.slice Y1 r2.length Yc1) (.slice Y2 r3.length Yc2) (.string r4) (.int .i64 r5))
 unfold set5 at HX HY
 clear HBX HN hy0 f0 hy1 f1 hy2 f2 hy3 f3 hy4 f4
 generalize (((((w19.setCell ⟨gm, 0, none⟩ (.slice Y0 r1.length Yc0)).setCell ⟨gm, 1, none⟩ (.slice Y1 r2.length Yc1)).setCell ⟨gm, 2, none⟩ (.slice Y2 r3.length Yc2)).setCell ⟨gm, 3, none⟩ (.string r4)).setCell ⟨gm, 4, none⟩ (.int .i64 r5)) = w20 at *
 have HB_20 := Aside0.mk (below_step HB_18.out HX.out)
 have H_20 := Aside0.mk (blk_below H_18.out HX.out)
 have A_20 := Aside0.mk (blk_below A_18.out HX.out)
 have D_20 := Aside0.mk (blk_below D_18.out HX.out)
 have F_20 := Aside0.mk (Kd.R_below F_18.out HX.out)
 have I_20 := Aside0.mk (Kd.R_below I_18.out HX.out)
 have V_20 := Aside0.mk (Kd.R_below V_18.out HX.out)
 have X0_20 := Aside0.mk (Kd.R_below X0_18.out HX.out)
 have X1_20 := Aside0.mk (Kd.R_below X1_18.out HX.out)
 have X2_20 := Aside0.mk (Kd.R_below X2_18.out HX.out)
 have L_20 := Aside0.mk (blk_below L_18.out HX.out)
 have Y0_20 := Aside0.mk (Kd.R_below Y0_18.out HX.out)
 have Y1_20 := Aside0.mk (Kd.R_below Y1_18.out HX.out)
 have Y2_20 := Aside0.mk (Kd.R_below Y2_18.out HX.out)
 clear HB_18 H_18 A_18 D_18 F_18 I_18 V_18 X0_18 X1_18 X2_18 L_18 Y0_18 Y1_18 Y2_18
 have M_20 := Aside0.mk (HY.out)
 clear HX HY
 clear H_20
 go_wp2
 generalize hBBe : w12.heap.size = BB at *
 clear hBBe
 have HVB := Aside0.mk (fun k (e : (Value.slice Ai b.length ci).ownBlock = some k) => Nat.le_trans HBB.out (Kd.R_base V_20.out k e))
 have HVO := Aside0.mk (Kd.R_base V_20.out)
 have HAL0 := Aside0.mk (Al.start (va := .slice Ai b.length ci) HB_20.out)
 have HV9 : Aside0 (Kd.R (Kd.int .u8) 5 w20 BB (fun _ => True) (.slice Ai b.length ci) b) := ⟨V_20.out⟩
 go_loopw [24] (fun vi wr => ∃ (k : Nat) (xs : List Int), k ≤ b.length ∧ vi = .int .i64 (k : Int) ∧ xs.length = b.length ∧ Aside0 (Al w w20 wr (.slice Ai b.length ci)) ∧ Aside0 (Kd.R (Kd.int .u8) 5 wr BB (fun _ => True) (.slice Ai b.length ci) xs)) (fun i _ => b.length - (intOf i).toNat)
 case atStart => exact ⟨0, b, Nat.zero_le _, rfl, rfl, HAL0, HV9⟩
 case round =>
  obtain ⟨k, xs, hk, rfl, hxl, HAL, HXR⟩ := hrel
  clear HAL0
  by_cases hlt : k < b.length
  ·skip
   have hbl := HBL.out
   obtain ⟨gi, ci2, hv, -⟩ := Kd.R_form HXR.out (by omega)
   injection hv with hv1 hv2 hv3
   subst hv1
   obtain ⟨hcell, hfz⟩ := cell_n HXR.out k hlt
   have hp := put_n HXR.out k 77
   have HP1 := Aside0.mk hp.1
   have HP2 := Aside0.mk (HAL.out.grown hp.2 HVB.out)
   clear hp hv2 hv3
   have q1 : ((k : Nat) : Int) < (b.length : Int) := by omega
   go_wp2_with fail
   exact ⟨⟨k + 1, xs.set k 77, by omega, by go_num, by rw [List.length_set]; exact hxl, HP2, HP1⟩, by simp [intOf]; omega⟩
  ·obtain rfl : b.length = k := by omega
   have HB_r := Aside0.mk (HAL.out.below)
   have A_r := Aside0.mk (Al.blk HAL.out A_20.out (Kd.R_ne HV9.out A_20.out (by decide)))
   have D_r := Aside0.mk (Al.blk HAL.out D_20.out (Kd.R_ne HV9.out D_20.out (by decide)))
   have F_r := Aside0.mk (Kd.R_mono (Al.row HAL.out F_20.out (fun k hk e => by have h_ := HVO.out k e.symm; omega)) (ok' := fun _ => True) (fun _ _ => trivial))
   have I_r := Aside0.mk (Kd.R_mono (Al.row HAL.out I_20.out (fun k hk e => by have h_ := HVO.out k e.symm; omega)) (ok' := fun _ => True) (fun _ _ => trivial))
   have X0_r := Aside0.mk (Kd.R_mono (Al.row HAL.out (row_types X0_20.out HV9.out (by decide)) (fun _ hk => hk.2)) (ok' := fun _ => True) (fun _ _ => trivial))
   have X1_r := Aside0.mk (Kd.R_mono (Al.row HAL.out (row_types X1_20.out HV9.out (by decide)) (fun _ hk => hk.2)) (ok' := fun _ => True) (fun _ _ => trivial))
   have X2_r := Aside0.mk (Kd.R_mono (Al.row HAL.out (row_types X2_20.out HV9.out (by decide)) (fun _ hk => hk.2)) (ok' := fun _ => True) (fun _ _ => trivial))
   have L_r := Aside0.mk (Al.blk HAL.out L_20.out (Kd.R_ne HV9.out L_20.out (by decide)))
   have Y0_r := Aside0.mk (Kd.R_mono (Al.row HAL.out (row_types Y0_20.out HV9.out (by decide)) (fun _ hk => hk.2)) (ok' := fun _ => True) (fun _ _ => trivial))
   have Y1_r := Aside0.mk (Kd.R_mono (Al.row HAL.out (row_types Y1_20.out HV9.out (by decide)) (fun _ hk => hk.2)) (ok' := fun _ => True) (fun _ _ => trivial))
   have Y2_r := Aside0.mk (Kd.R_mono (Al.row HAL.out (row_types Y2_20.out HV9.out (by decide)) (fun _ hk => hk.2)) (ok' := fun _ => True) (fun _ _ => trivial))
   have M_r := Aside0.mk (Al.blk HAL.out M_20.out (Kd.R_ne HV9.out M_20.out (by decide)))
   clear HB_20 A_20 D_20 F_20 I_20 V_20 X0_20 X1_20 X2_20 L_20 Y0_20 Y1_20 Y2_20 M_20 HAL HV9 HXR HVB HVO hlt hk hxl
   have hcf := own_string (P := Try.prog) Try.underlying29 Try.underlying5 Try.underlying9 (Kd.own_of_R F_r.out)
   have hci := own_string (P := Try.prog) Try.underlying29 Try.underlying5 Try.underlying9 (Kd.own_of_R I_r.out)
   obtain ⟨ha0, ha1, ha2, ha3, ha4, ha5, ha6⟩ := cells7 A_r.out
   obtain ⟨hd0, hd1, hd2, hd3, hd4, hd5, hd6⟩ := cells7 D_r.out
   obtain ⟨hl0, hl1, hl2, hl3, hl4⟩ := zone_cells L_r.out
   obtain ⟨hm0, hm1, hm2, hm3, hm4⟩ := zone_cells M_r.out
   generalize strOfNums eb = sb at *
   go_wp2_with fail
   refine (HSAME.out X0 Xc0 X1 Xc1 X2 Xc2 Y0 Yc0 Y1 Yc1 Y2 Yc2 _ (Kd.R_reads' X0_r.out).2.2 (Kd.R_reads' X0_r.out).2.1 (Kd.R_reads' X1_r.out).2.2 (Kd.R_reads' X1_r.out).2.1 (Kd.R_reads' X2_r.out).2.2 (Kd.R_reads' X2_r.out).2.1 (Kd.R_reads' Y0_r.out).2.2 (Kd.R_reads' Y0_r.out).2.1 (Kd.R_reads' Y1_r.out).2.2 (Kd.R_reads' Y1_r.out).2.1 (Kd.R_reads' Y2_r.out).2.2 (Kd.R_reads' Y2_r.out).2.1).mono ?_
   rintro e w21 ⟨rfl, hb_⟩
   have HB_21 := Aside0.mk (below_step HB_r.out hb_)
   have A_21 := Aside0.mk (blk_below A_r.out hb_)
   have D_21 := Aside0.mk (blk_below D_r.out hb_)
   have F_21 := Aside0.mk (Kd.R_below F_r.out hb_)
   have I_21 := Aside0.mk (Kd.R_below I_r.out hb_)
   have X0_21 := Aside0.mk (Kd.R_below X0_r.out hb_)
   have X1_21 := Aside0.mk (Kd.R_below X1_r.out hb_)
   have X2_21 := Aside0.mk (Kd.R_below X2_r.out hb_)
   have L_21 := Aside0.mk (blk_below L_r.out hb_)
   have Y0_21 := Aside0.mk (Kd.R_below Y0_r.out hb_)
   have Y1_21 := Aside0.mk (Kd.R_below Y1_r.out hb_)
   have Y2_21 := Aside0.mk (Kd.R_below Y2_r.out hb_)
   have M_21 := Aside0.mk (blk_below M_r.out hb_)
   clear HB_r A_r D_r F_r I_r X0_r X1_r X2_r L_r Y0_r Y1_r Y2_r M_r
   clear hcf hci ha0 ha1 ha2 ha3 ha4 ha5 ha6 hd0 hd1 hd2 hd3 hd4 hd5 hd6 hl0 hl1 hl2 hl3 hl4 hm0 hm1 hm2 hm3 hm4
   clear hb_ HSAME
   go_wp2_with fail
   go_ret
   all_goals exact ⟨rfl, HB_21.out⟩
theorem tells_walk (A0 : Option Addr) (c0 : Nat) (ty : List S46) (A1 : Option Addr) (c1 : Nat) (tr : List S48) (A2 : Option Addr) (c2 : Nat) (lp : List S50) (foot : ByteArray) (ver : Int) (size : Int) (v u s l t ty_ c : Int) (A3 : Option Addr) (c3 : Nat) (b : List Int) (w : World)
  (i0 : ty.length ≤ c0) (i1 : tr.length ≤ c1) (i2 : lp.length ≤ c2) (j0 : Kd.C k46 w A0 ty.length ty) (j1 : Kd.C k48 w A1 tr.length tr) (j2 : Kd.C k50 w A2 lp.length lp) (i3 : b.length ≤ c3) (j3 : Kd.C (Kd.int .u8) w A3 b.length b) (h8 : B8 b) :
  Calls Try.prog 3 #[.agg #[.slice A0 ty.length c0, .slice A1 tr.length c1, .slice A2 lp.length c2, .string foot, .int .i64 ver], .int .i64 size, .agg #[.int .i64 v, .int .i64 u, .int .i64 s, .int .i64 l, .int .i64 t, .int .i64 ty_, .int .i64 c], .slice A3 b.length c3] w fun e w' => e = .returned (.bool true) ∧ Below w.heap.size w w' := by
 cases hb : fewB ty tr lp foot with
 | false => exact tells_few A0 c0 ty A1 c1 tr A2 c2 lp foot ver size v u s l t ty_ c A3 c3 b w i0 i1 i2 j0 j1 j2 hb
 | true =>
  by_cases hl : 2000 < b.length
  ·exact tells_long A0 c0 ty A1 c1 tr A2 c2 lp foot ver size v u s l t ty_ c A3 c3 b w i0 i1 i2 j0 j1 j2 hb hl
  ·exact tells_main A0 c0 ty A1 c1 tr A2 c2 lp foot ver size v u s l t ty_ c A3 c3 b w i0 i1 i2 j0 j1 j2 i3 j3 h8 hb (by omega)
end Go.Proofs.Ytpgjcnjojfehjaa.Bk
namespace Go.Proofs.YtpgjcnjojfehjaaW.PrintWords
open Go.ChangeShapes Go.WideShapes
theorem sized_ints {H : Type} {enc : TypeId × Value → H} {P : Program} {W : World} {base : Nat} {spare : Nat → Bool} {held : Bool} {t e : TypeId} {k : IntKind} {a : Option Addr} {len cap : Nat} {d : DataW H} {ps : List MemPlace} {ts : List TypeId} {ds : List (DataW H)} {j : Nat}
  (hsz : (DataW.weightsEach P ts ds).all (· ≤ reachBytes) = true) (ht : ts[j]? = some t) (hd : ds[j]? = some d) (hu : P.underlying t = some (.slice e)) (he : P.underlying e = some (.int k)) (hc : P.cellsOf e = 1) {B : Nat} (hB : P.bytesOf e = B)
  (h : DataW.Trod enc P W base spare held t (.slice a len cap) d ps) : len * B ≤ 140737488351232 := by
 obtain ⟨fuel, hf⟩ := h
 rcases open_ints hu he hc hf with ⟨hcs, _⟩ | ⟨x, l, c, zs, hcs, _, hl, _, hz, hx, _, _⟩
 ·simp [Value.cells] at hcs
  obtain ⟨rfl, rfl, rfl⟩ := hcs
  simp
 ·simp [Value.cells] at hcs
  obtain ⟨rfl, rfl, rfl⟩ := hcs
  obtain ⟨hx, _⟩ := Prod.mk.inj hx
  subst hx
  have z := sized_slice hsz ht hd hu
  rw [hB] at z
  have hl2 : len ≤ zs.length := by
   rw [hz]
   split
   ·exact hl
   ·exact Nat.le_refl _
  have h1 : (lits (H := H) k (zs.take len)).length + (lits (H := H) k (zs.drop len)).length = zs.length := by
   simp [lits]
   omega
  rw [h1] at z
  exact Nat.le_trans (Nat.mul_le_mul_right _ hl2) z
end Go.Proofs.YtpgjcnjojfehjaaW.PrintWords
namespace Go.Proofs.Ytpgjcnjojfehjaa.Bk
open Go.Joins Go.RowKit Go.ChangeShapes Go.WideShapes Go.Deep Go.Proofs.YtpgjcnjojfehjaaW.PrintWords Kx Oct
section
variable {H : Type} {enc : TypeId × Value → H} {P : Program} {w : World} {base : Nat} {spare : Nat → Bool} {held : Bool}
theorem open_slice_fields {t e : TypeId} {fs : Array Field} {fuel : Nat} {cs : List Value} {x : DataW H × List MemPlace} (ht : P.underlying t = some (.slice e)) (he : P.underlying e = some (.struct fs))
  (hone : oneCellFields P fs = true) (hC : P.cellsOf e = fs.size) (h : DataW.trod enc P w base spare held fuel t cs = some x) :
  (cs = [.slice none 0 0] ∧ x = (.nil, [])) ∨
  ∃ (a : Addr) (len cap m : Nat) (D : Nat → DataW H) (Pl : Nat → List MemPlace), cs = [.slice (some a) len cap] ∧ base ≤ a.block ∧ len ≤ cap ∧ cap ≤ maxLen ∧ m = (if spare a.block then cap else len) ∧
   x = (.slice ((List.range len).map D) ((List.range (m - len)).map fun j => D (len + j)), MemPlace.row a (m * fs.size) ++ (List.range m).flatMap Pl) ∧
   ∀ i, i < m → ∃ (ys : List (DataW H × List MemPlace)) (n : Nat), D i = .agg (ys.map (·.1)) ∧ Pl i = ys.flatMap (·.2) ∧ ys.length = fs.size ∧
    ∀ (j : Nat) (f : Field), fs[j]? = some f → ∃ (v : Value) (y : DataW H × List MemPlace), w.cell? (a.add (i * fs.size + j)) = some v ∧ ys[j]? = some y ∧ DataW.trod enc P w base spare held n f.type [v] = some y := by
 rcases open_slice ht h with h0 | ⟨a, len, cap, m, n, D, Pl, hcs, hb, hl, hm, hmm, hx, hi⟩
 ·exact .inl h0
 ·refine .inr ⟨a, len, cap, m, D, Pl, hcs, hb, hl, hm, hmm, by rw [hC] at hx; exact hx, fun i him => ?_⟩
  obtain ⟨cs', hc, ht'⟩ := hi i him
  rw [hC] at hc
  obtain ⟨ys, n', hn', hy, hlen, hyl, hf⟩ := DataW.trod_struct he ht'
  obtain ⟨_, hcl, hat⟩ := World.cells?_some hc
  simp only [Prod.mk.injEq] at hy
  refine ⟨ys, n', hy.1, hy.2, hyl, fun j f hj => ?_⟩
  obtain ⟨ho, hk⟩ := hone_of hone j f hj
  have hjl : j < fs.size := (Array.getElem?_eq_some_iff.1 hj).1
  have hcell := hat j hjl
  have hv : cs'[j]? = some (cs'[j]'(by omega)) := List.getElem?_eq_getElem (by omega)
  have h1 := hf j f hj
  rw [ho, hk] at h1
  have hone' : (cs'.drop j).take 1 = [cs'[j]'(by omega)] := by
   rw [List.drop_eq_getElem_cons (by omega)]
   rfl
  rw [hone'] at h1
  have hys : ys[j]? = some (ys[j]'(by omega)) := List.getElem?_eq_getElem (by omega)
  refine ⟨_, _, ?_, hys, h1.trans hys⟩
  rw [← Go.Deep.add_add, hcell, hv]
theorem open_agg5 {r : Reach} {b0 : Nat} {t : TypeId} {f0 f1 f2 f3 f4 : Field} {v : Value} {d : DataW H} {p : List MemPlace} (hs : P.underlying t = some (.struct #[f0, f1, f2, f3, f4])) (hone : oneCellFields P #[f0, f1, f2, f3, f4] = true) (hC : P.cellsOf t = 5)
  (hv : Value.okWide P w r b0 t v) (h : DataW.Trod enc P w base spare held t v d p) :
  ∃ (v0 v1 v2 v3 v4 : Value) (y0 y1 y2 y3 y4 : DataW H × List MemPlace) (n : Nat), v = .agg #[v0, v1, v2, v3, v4] ∧
   DataW.trod enc P w base spare held n f0.type [v0] = some y0 ∧ DataW.trod enc P w base spare held n f1.type [v1] = some y1 ∧ DataW.trod enc P w base spare held n f2.type [v2] = some y2 ∧ DataW.trod enc P w base spare held n f3.type [v3] = some y3 ∧ DataW.trod enc P w base spare held n f4.type [v4] = some y4 := by
 obtain ⟨cs, rfl, hsz⟩ := okWide_struct hs hv
 obtain ⟨l⟩ := cs
 match l, hsz.trans hC with
 | [c0, c1, c2, c3, c4], _ =>
  obtain ⟨fuel, hf⟩ := h
  obtain ⟨xs, n, _, hx, _, hlen, hg⟩ := DataW.trod_struct hs hf
  obtain ⟨o0, k0⟩ := hone_of hone 0 f0 rfl
  obtain ⟨o1, k1⟩ := hone_of hone 1 f1 rfl
  obtain ⟨o2, k2⟩ := hone_of hone 2 f2 rfl
  obtain ⟨o3, k3⟩ := hone_of hone 3 f3 rfl
  obtain ⟨o4, k4⟩ := hone_of hone 4 f4 rfl
  match xs, hlen with
  | [y0, y1, y2, y3, y4], _ =>
   exact ⟨c0, c1, c2, c3, c4, y0, y1, y2, y3, y4, n, rfl, by simpa [Value.cells, o0, k0] using hg 0 f0 rfl, by simpa [Value.cells, o1, k1] using hg 1 f1 rfl, by simpa [Value.cells, o2, k2] using hg 2 f2 rfl, by simpa [Value.cells, o3, k3] using hg 3 f3 rfl, by simpa [Value.cells, o4, k4] using hg 4 f4 rfl⟩
end
theorem list_of {α : Type} {Q : Nat → α → Prop} (n : Nat) (h : ∀ i, i < n → ∃ x, Q i x) : ∃ l : List α, l.length = n ∧ ∀ i x, l[i]? = some x → Q i x := by
 induction n with
 | zero => exact ⟨[], rfl, fun i x hx => by simp at hx⟩
 | succ n ih =>
  obtain ⟨l, hl, hq⟩ := ih (fun i hi => h i (by omega))
  obtain ⟨x, hx⟩ := h n (by omega)
  refine ⟨l ++ [x], by simp [hl], fun i y hy => ?_⟩
  by_cases hi : i < l.length
  ·rw [List.getElem?_append_left hi] at hy; exact hq i y hy
  ·rw [List.getElem?_append_right (by omega)] at hy
   have : i - l.length = 0 := by
    by_cases hz : i - l.length = 0
    ·exact hz
    ·rw [List.getElem?_eq_none (by simp; omega)] at hy; cases hy
   rw [this] at hy
   simp at hy
   have : i = n := by omega
   rw [this, ← hy]; exact hx
theorem open_types {H : Type} {enc : TypeId × Value → H} {w : World} {base fuel : Nat} {spare : Nat → Bool} {held : Bool} {v : Value} {x : DataW H × List MemPlace}
  (h : DataW.trod enc Try.prog w base spare held fuel 22 [v] = some x) :
  ∃ (a : Option Addr) (cap : Nat) (l : List S46), v = .slice a l.length cap ∧ l.length ≤ cap ∧ Kd.C k46 w a l.length l ∧ ∀ y ∈ l, (Lit.int .i64 y.f0).wf = true := by
 rcases open_slice_fields Try.underlying22 Try.underlying46 (by kernel_rfl) (by kernel_rfl) h with ⟨hcs, _⟩ | ⟨ad, len', cap', m, D, Pl, hcs, _, hl, hm, hmm, _, hi⟩
 ·simp at hcs
  subst hcs
  exact ⟨none, 0, [], rfl, Nat.le_refl _, Kd.C_nil _ _, fun y hy => by cases hy⟩
 ·simp at hcs
  subst hcs
  have hlm : len' ≤ m := by rw [hmm]; split <;> omega
  obtain ⟨l, hll, hq⟩ := list_of (Q := fun i (y : S46) => (w.cell? (ad.add (i * 3)) = some (.int .i64 y.f0) ∧ w.cell? (ad.add (i * 3 + 1)) = some (.bool y.f1) ∧ w.cell? (ad.add (i * 3 + 2)) = some (.string y.f2)) ∧ (Lit.int .i64 y.f0).wf = true) len' (fun i hlt => by
   obtain ⟨ys, n, _, _, _, hf⟩ := hi i (by omega)
   obtain ⟨v0, y0, hc0, _, ht0⟩ := hf 0 _ rfl
   obtain ⟨x0, e0, _, wx0⟩ := DataW.trod_int Try.underlying3 ht0
   obtain ⟨v1, y1, hc1, _, ht1⟩ := hf 1 _ rfl
   obtain ⟨x1, e1, _⟩ := DataW.trod_bool Try.underlying4 ht1
   obtain ⟨v2, y2, hc2, _, ht2⟩ := hf 2 _ rfl
   obtain ⟨x2, e2, _, _⟩ := DataW.trod_string Try.underlying9 ht2
   simp at e0 e1 e2
   subst e0 e1 e2
   exact ⟨⟨x0, x1, x2⟩, ⟨hc0, hc1, hc2⟩, wx0⟩)
  subst hll
  refine ⟨some ad, cap', l, rfl, hl, ⟨rfl, by have h1 := Nat.le_trans hl hm; simpa [maxLen] using h1, fun _ => ⟨ad, rfl, fun j p hj => ?_⟩⟩, fun y hy => ?_⟩
  ·obtain ⟨⟨h0, h1, h2⟩, _⟩ := hq j p hj
   refine ⟨[.int .i64 p.f0, .bool p.f1, .string p.f2], rfl, k46_mk _ _, fun i u hu => ?_⟩
   match i with
   | 0 => simp at hu; subst hu; exact h0
   | 1 => simp at hu; subst hu; exact h1
   | 2 => simp at hu; subst hu; exact h2
   | i + 3 => simp at hu
  ·obtain ⟨i, hi', rfl⟩ := List.getElem_of_mem hy
   exact (hq i _ (List.getElem?_eq_getElem hi')).2
theorem open_trans {H : Type} {enc : TypeId × Value → H} {w : World} {base fuel : Nat} {spare : Nat → Bool} {held : Bool} {v : Value} {x : DataW H × List MemPlace}
  (h : DataW.trod enc Try.prog w base spare held fuel 23 [v] = some x) :
  ∃ (a : Option Addr) (cap : Nat) (l : List S48), v = .slice a l.length cap ∧ l.length ≤ cap ∧ Kd.C k48 w a l.length l ∧ ∀ y ∈ l, (Lit.int .i64 y.f0).wf = true ∧ (Lit.int .i64 y.f1).wf = true := by
 rcases open_slice_fields Try.underlying23 Try.underlying48 (by kernel_rfl) (by kernel_rfl) h with ⟨hcs, _⟩ | ⟨ad, len', cap', m, D, Pl, hcs, _, hl, hm, hmm, _, hi⟩
 ·simp at hcs
  subst hcs
  exact ⟨none, 0, [], rfl, Nat.le_refl _, Kd.C_nil _ _, fun y hy => by cases hy⟩
 ·simp at hcs
  subst hcs
  have hlm : len' ≤ m := by rw [hmm]; split <;> omega
  obtain ⟨l, hll, hq⟩ := list_of (Q := fun i (y : S48) => (w.cell? (ad.add (i * 2)) = some (.int .i64 y.f0) ∧ w.cell? (ad.add (i * 2 + 1)) = some (.int .i64 y.f1)) ∧ (Lit.int .i64 y.f0).wf = true ∧ (Lit.int .i64 y.f1).wf = true) len' (fun i hlt => by
   obtain ⟨ys, n, _, _, _, hf⟩ := hi i (by omega)
   obtain ⟨v0, y0, hc0, _, ht0⟩ := hf 0 _ rfl
   obtain ⟨x0, e0, _, wx0⟩ := DataW.trod_int Try.underlying3 ht0
   obtain ⟨v1, y1, hc1, _, ht1⟩ := hf 1 _ rfl
   obtain ⟨x1, e1, _, wx1⟩ := DataW.trod_int Try.underlying3 ht1
   simp at e0 e1
   subst e0 e1
   exact ⟨⟨x0, x1⟩, ⟨hc0, hc1⟩, ⟨wx0, wx1⟩⟩)
  subst hll
  refine ⟨some ad, cap', l, rfl, hl, ⟨rfl, by have h1 := Nat.le_trans hl hm; simpa [maxLen] using h1, fun _ => ⟨ad, rfl, fun j p hj => ?_⟩⟩, fun y hy => ?_⟩
  ·obtain ⟨⟨h0, h1⟩, _⟩ := hq j p hj
   refine ⟨[.int .i64 p.f0, .int .i64 p.f1], rfl, k48_mk _ _, fun i u hu => ?_⟩
   match i with
   | 0 => simp at hu; subst hu; exact h0
   | 1 => simp at hu; subst hu; exact h1
   | i + 2 => simp at hu
  ·obtain ⟨i, hi', rfl⟩ := List.getElem_of_mem hy
   exact (hq i _ (List.getElem?_eq_getElem hi')).2
theorem open_corrs {H : Type} {enc : TypeId × Value → H} {w : World} {base fuel : Nat} {spare : Nat → Bool} {held : Bool} {v : Value} {x : DataW H × List MemPlace}
  (h : DataW.trod enc Try.prog w base spare held fuel 24 [v] = some x) :
  ∃ (a : Option Addr) (cap : Nat) (l : List S50), v = .slice a l.length cap ∧ l.length ≤ cap ∧ Kd.C k50 w a l.length l ∧ ∀ y ∈ l, (Lit.int .i64 y.f0).wf = true ∧ (Lit.int .i64 y.f1).wf = true := by
 rcases open_slice_fields Try.underlying24 Try.underlying50 (by kernel_rfl) (by kernel_rfl) h with ⟨hcs, _⟩ | ⟨ad, len', cap', m, D, Pl, hcs, _, hl, hm, hmm, _, hi⟩
 ·simp at hcs
  subst hcs
  exact ⟨none, 0, [], rfl, Nat.le_refl _, Kd.C_nil _ _, fun y hy => by cases hy⟩
 ·simp at hcs
  subst hcs
  have hlm : len' ≤ m := by rw [hmm]; split <;> omega
  obtain ⟨l, hll, hq⟩ := list_of (Q := fun i (y : S50) => (w.cell? (ad.add (i * 2)) = some (.int .i64 y.f0) ∧ w.cell? (ad.add (i * 2 + 1)) = some (.int .i64 y.f1)) ∧ (Lit.int .i64 y.f0).wf = true ∧ (Lit.int .i64 y.f1).wf = true) len' (fun i hlt => by
   obtain ⟨ys, n, _, _, _, hf⟩ := hi i (by omega)
   obtain ⟨v0, y0, hc0, _, ht0⟩ := hf 0 _ rfl
   obtain ⟨x0, e0, _, wx0⟩ := DataW.trod_int Try.underlying3 ht0
   obtain ⟨v1, y1, hc1, _, ht1⟩ := hf 1 _ rfl
   obtain ⟨x1, e1, _, wx1⟩ := DataW.trod_int Try.underlying3 ht1
   simp at e0 e1
   subst e0 e1
   exact ⟨⟨x0, x1⟩, ⟨hc0, hc1⟩, ⟨wx0, wx1⟩⟩)
  subst hll
  refine ⟨some ad, cap', l, rfl, hl, ⟨rfl, by have h1 := Nat.le_trans hl hm; simpa [maxLen] using h1, fun _ => ⟨ad, rfl, fun j p hj => ?_⟩⟩, fun y hy => ?_⟩
  ·obtain ⟨⟨h0, h1⟩, _⟩ := hq j p hj
   refine ⟨[.int .i64 p.f0, .int .i64 p.f1], rfl, k50_mk _ _, fun i u hu => ?_⟩
   match i with
   | 0 => simp at hu; subst hu; exact h0
   | 1 => simp at hu; subst hu; exact h1
   | i + 2 => simp at hu
  ·obtain ⟨i, hi', rfl⟩ := List.getElem_of_mem hy
   exact (hq i _ (List.getElem?_eq_getElem hi')).2
theorem R64_of {x : Int} (h : (Lit.int .i64 x).wf = true) : R64 x := R_of h
theorem open_zone {H : Type} {enc : TypeId × Value → H} {w : World} {base : Nat} {spare : Nat → Bool} {held : Bool} {r : Reach} {b0 : Nat} {v : Value} {d : DataW H} {p : List MemPlace}
  (hv : Value.okWide Try.prog w r b0 26 v) (h : DataW.Trod enc Try.prog w base spare held 26 v d p) :
  ∃ (A0 : Option Addr) (c0 : Nat) (l0 : List S46) (A1 : Option Addr) (c1 : Nat) (l1 : List S48) (A2 : Option Addr) (c2 : Nat) (l2 : List S50) (foot : ByteArray) (ver : Int), v = .agg #[.slice A0 l0.length c0, .slice A1 l1.length c1, .slice A2 l2.length c2, .string foot, .int .i64 ver] ∧ l0.length ≤ c0 ∧ l1.length ≤ c1 ∧ l2.length ≤ c2 ∧ Kd.C k46 w A0 l0.length l0 ∧ Kd.C k48 w A1 l1.length l1 ∧ Kd.C k50 w A2 l2.length l2 ∧ RZ l0 l1 l2 := by
 obtain ⟨v0, v1, v2, v3, v4, y0, y1, y2, y3, y4, n, rfl, h0, h1, h2, h3, h4⟩ := open_agg5 Try.underlying26 (by kernel_rfl) (by kernel_rfl) hv h
 obtain ⟨A0, c0, l0, rfl, i0, j0, k0⟩ := open_types h0
 obtain ⟨A1, c1, l1, rfl, i1, j1, k1⟩ := open_trans h1
 obtain ⟨A2, c2, l2, rfl, i2, j2, k2⟩ := open_corrs h2
 obtain ⟨foot, e3, _, _⟩ := DataW.trod_string Try.underlying9 h3
 obtain ⟨ver, e4, _⟩ := DataW.trod_int Try.underlying3 h4
 simp at e3 e4
 subst e3 e4
 exact ⟨A0, c0, l0, A1, c1, l1, A2, c2, l2, foot, ver, rfl, i0, i1, i2, j0, j1, j2, fun t ht => R64_of (k0 t ht), fun t ht => ⟨R64_of (k1 t ht).1, R64_of (k1 t ht).2⟩, fun t ht => ⟨R64_of (k2 t ht).1, R64_of (k2 t ht).2⟩⟩
end Go.Proofs.Ytpgjcnjojfehjaa.Bk
namespace Go.Proofs.Ytpgjcnjojfehjaa.Oct
open Go.Joins Go.ChangeShapes Go.WideShapes Go.RowKit Go.Deep
section
variable {H : Type} {enc : TypeId × Value → H} {P : Program} {w : World} {base : Nat} {spare : Nat → Bool} {held : Bool}
theorem open_agg7 {r : Reach} {b0 : Nat} {t : TypeId} {f0 f1 f2 f3 f4 f5 f6 : Field} {v : Value} {d : DataW H} {p : List MemPlace} (hs : P.underlying t = some (.struct #[f0, f1, f2, f3, f4, f5, f6])) (hone : oneCellFields P #[f0, f1, f2, f3, f4, f5, f6] = true) (hC : P.cellsOf t = 7)
  (hv : Value.okWide P w r b0 t v) (h : DataW.Trod enc P w base spare held t v d p) :
  ∃ (v0 v1 v2 v3 v4 v5 v6 : Value) (y0 y1 y2 y3 y4 y5 y6 : DataW H × List MemPlace) (n : Nat), v = .agg #[v0, v1, v2, v3, v4, v5, v6] ∧
   DataW.trod enc P w base spare held n f0.type [v0] = some y0 ∧ DataW.trod enc P w base spare held n f1.type [v1] = some y1 ∧ DataW.trod enc P w base spare held n f2.type [v2] = some y2 ∧ DataW.trod enc P w base spare held n f3.type [v3] = some y3 ∧ DataW.trod enc P w base spare held n f4.type [v4] = some y4 ∧ DataW.trod enc P w base spare held n f5.type [v5] = some y5 ∧ DataW.trod enc P w base spare held n f6.type [v6] = some y6 := by
 obtain ⟨cs, rfl, hsz⟩ := okWide_struct hs hv
 obtain ⟨l⟩ := cs
 match l, hsz.trans hC with
 | [c0, c1, c2, c3, c4, c5, c6], _ =>
  obtain ⟨fuel, hf⟩ := h
  obtain ⟨xs, n, _, hx, _, hlen, hg⟩ := DataW.trod_struct hs hf
  obtain ⟨o0, k0⟩ := hone_of hone 0 f0 rfl
  obtain ⟨o1, k1⟩ := hone_of hone 1 f1 rfl
  obtain ⟨o2, k2⟩ := hone_of hone 2 f2 rfl
  obtain ⟨o3, k3⟩ := hone_of hone 3 f3 rfl
  obtain ⟨o4, k4⟩ := hone_of hone 4 f4 rfl
  obtain ⟨o5, k5⟩ := hone_of hone 5 f5 rfl
  obtain ⟨o6, k6⟩ := hone_of hone 6 f6 rfl
  match xs, hlen with
  | [y0, y1, y2, y3, y4, y5, y6], _ =>
   exact ⟨c0, c1, c2, c3, c4, c5, c6, y0, y1, y2, y3, y4, y5, y6, n, rfl, by simpa [Value.cells, o0, k0] using hg 0 f0 rfl, by simpa [Value.cells, o1, k1] using hg 1 f1 rfl, by simpa [Value.cells, o2, k2] using hg 2 f2 rfl, by simpa [Value.cells, o3, k3] using hg 3 f3 rfl, by simpa [Value.cells, o4, k4] using hg 4 f4 rfl, by simpa [Value.cells, o5, k5] using hg 5 f5 rfl, by simpa [Value.cells, o6, k6] using hg 6 f6 rfl⟩
end
theorem open_head {H : Type} {enc : TypeId × Value → H} {w : World} {base : Nat} {spare : Nat → Bool} {held : Bool} {r : Reach} {b0 : Nat} {v : Value} {d : DataW H} {p : List MemPlace}
  (hv : Value.okWide Try.prog w r b0 28 v) (h : DataW.Trod enc Try.prog w base spare held 28 v d p) :
  ∃ x0 x1 x2 x3 x4 x5 x6 : Int, v = .agg #[.int .i64 x0, .int .i64 x1, .int .i64 x2, .int .i64 x3, .int .i64 x4, .int .i64 x5, .int .i64 x6] := by
 obtain ⟨v0, v1, v2, v3, v4, v5, v6, y0, y1, y2, y3, y4, y5, y6, n, rfl, h0, h1, h2, h3, h4, h5, h6⟩ := open_agg7 Try.underlying28 (by kernel_rfl) (by kernel_rfl) hv h
 obtain ⟨x0, e0, _⟩ := DataW.trod_int Try.underlying3 h0
 obtain ⟨x1, e1, _⟩ := DataW.trod_int Try.underlying3 h1
 obtain ⟨x2, e2, _⟩ := DataW.trod_int Try.underlying3 h2
 obtain ⟨x3, e3, _⟩ := DataW.trod_int Try.underlying3 h3
 obtain ⟨x4, e4, _⟩ := DataW.trod_int Try.underlying3 h4
 obtain ⟨x5, e5, _⟩ := DataW.trod_int Try.underlying3 h5
 obtain ⟨x6, e6, _⟩ := DataW.trod_int Try.underlying3 h6
 simp at e0 e1 e2 e3 e4 e5 e6
 subst e0 e1 e2 e3 e4 e5 e6
 exact ⟨x0, x1, x2, x3, x4, x5, x6, rfl⟩
end Go.Proofs.Ytpgjcnjojfehjaa.Oct
namespace Go.Proofs.Ytpgjcnjojfehjaa.blockTells
open Go.ChangeShapes Go.WideShapes Go.ChangeAt Go.RowKit
open Go.ChangeMaps (open_string shut_string)
theorem own : ownKnob Try.prog.godebug = none := by kernel_rfl
theorem laidOut : laidOutB Try.prog = true := by kernel_rfl
def IsRow (k : IntKind) (w : World) (a : Option Addr) (len cap : Nat) (zs : List Int) : Prop :=
 (a = none ∧ len = 0 ∧ cap = 0 ∧ zs = []) ∨
 ∃ x, a = some x ∧ len ≤ cap ∧ cap ≤ maxLen ∧ zs.length = cap ∧ (∀ i, i < zs.length → w.cell? (x.add i) = some (.int k (zs.getD i 0))) ∧ ∀ n ∈ zs, (Lit.int k n).wf = true
set_option maxHeartbeats 1000000 in
set_option maxRecDepth 100000 in
theorem lifted (os : Os) (started : os.Started) (H : Type) (enc : TypeId × Value → H) :
  ReturnsInHanded {} Try.checked os 3 .any (Rows.blockTellsSpec.pre6 enc Try.prog Try.f3 Rows.blockTellsRow.domain false) (Rows.blockTellsSpec.post enc Try.prog Try.f3 false true false false) := by
 refine returnsInHanded_of_change_sized (C := Try.checked) own started (by kernel_rfl) Try.func3
  (ChangeSpec.witness6 (enc := enc) (C := Try.checked) false ⟨#[], #[.agg #[.slice none 0 0, .slice none 0 0, .slice none 0 0, .string ByteArray.empty, .int .i64 0], .int .i64 0, .agg #[.int .i64 0, .int .i64 0, .int .i64 0, .int .i64 0, .int .i64 0, .int .i64 0, .int .i64 0], .slice none 0 0], []⟩ 8 (by kernel_rfl) (by kernel_rfl) (by kernel_rfl) (by kernel_rfl)) ?_
 intro W base args ds gs before hval0 hW hcnd hsz0 _
 have hsz : (DataW.weightsEach Try.prog (Try.f3.params.toList ++ Rows.blockTellsSpec.plain.varTypes Try.prog) (ds ++ gs)).all (· ≤ reachBytes) = true := hsz0
 have hval : ∀ (j : Nat) t v, Try.f3.params[j]? = some t → args[j]? = some v → Value.okWide Try.prog W .any base t v := hval0
 have hW' := hW
 obtain ⟨p, q, hA0, hV, rfl, hfz, hnd⟩ := hW
 have hA : DataW.TrodAll enc Try.prog W 0 (fun _ => true) true Try.f3.params.toList args.toList ds p := hA0
 rw [Try.params3] at hA hval hsz
 obtain ⟨v0, vs0, d0, ds0, p0, q0, hargs, rfl, rfl, h0, r0⟩ := trodAll_cons hA
 obtain ⟨v1, vs1, d1, ds1, p1, q1, rfl, rfl, rfl, h1, r1⟩ := trodAll_cons r0
 obtain ⟨v2, vs2, d2, ds2, p2, q2, rfl, rfl, rfl, h2, r2⟩ := trodAll_cons r1
 obtain ⟨v3, vs3, d3, ds3, p3, q3, rfl, rfl, rfl, h3, r3⟩ := trodAll_cons r2
 obtain ⟨rfl, rfl, rfl⟩ := trodAll_nil r3
 obtain rfl : args = #[v0, v1, v2, v3] := by cases args; simp_all
 obtain ⟨rfl, rfl⟩ := trodVars_none hV
 have k0 := h0
 have lt0 : ∀ x ∈ p0, x.block < W.heap.size := by obtain ⟨m, hm⟩ := k0; exact DataW.trod_lt m _ _ _ hm
 obtain ⟨A0_0, c0_0, l0_0, A0_1, c0_1, l0_1, A0_2, c0_2, l0_2, foot0, ver0, rfl, i0_0, i0_1, i0_2, j0_0, j0_1, j0_2, rz0⟩ := Bk.open_zone (hval 0 26 v0 rfl rfl) h0
 obtain ⟨a1, rfl, rfl, rfl, w1⟩ := open_int Try.underlying3 (hval 1 3 v1 rfl rfl) h1
 have k2 := h2
 have lt2 : ∀ x ∈ p2, x.block < W.heap.size := by obtain ⟨m, hm⟩ := k2; exact DataW.trod_lt m _ _ _ hm
 obtain ⟨x2_0, x2_1, x2_2, x2_3, x2_4, x2_5, x2_6, rfl⟩ := Oct.open_head (hval 2 28 v2 rfl rfl) h2
 obtain ⟨a3, len3, cap3, rfl⟩ := okWide_slice Try.underlying29 (hval 3 29 v3 rfl rfl)
 have k3 := h3
 have lt3 : ∀ x ∈ p3, x.block < W.heap.size := by obtain ⟨m, hm⟩ := k3; exact DataW.trod_lt m _ _ _ hm
 obtain ⟨z3, w3⟩ : ∃ zs, IsRow .u8 W a3 len3 cap3 zs := by
  obtain ⟨fuel, hf⟩ := h3
  rcases open_ints Try.underlying29 Try.underlying5 (by kernel_rfl) hf with ⟨hcs, _⟩ | ⟨x, l, c, zs, hcs, _, hl, hm, hz, _, hcell, hwz⟩
  ·simp [Value.cells] at hcs
   obtain ⟨rfl, rfl, rfl⟩ := hcs
   exact ⟨[], .inl ⟨rfl, rfl, rfl, rfl⟩⟩
  ·simp [Value.cells] at hcs
   obtain ⟨rfl, rfl, rfl⟩ := hcs
   exact ⟨zs, .inr ⟨_, rfl, hl, hm, by simpa using hz, hcell, hwz⟩⟩
 have y3 : len3 * 1 ≤ 140737488351232 := Go.Proofs.YtpgjcnjojfehjaaW.PrintWords.sized_ints hsz (j := 3) (t := 29) rfl rfl Try.underlying29 Try.underlying5 (by kernel_rfl) (by kernel_rfl) h3
 obtain ⟨l3, rfl, hq3, hm3, hw3, hc3⟩ := Go.Proofs.YtpgjcnjojfehjaaW.PrintWords.ReadsInt.ofRowC w3
 have hr3 := Go.Proofs.YtpgjcnjojfehjaaW.PrintWords.Kd.C_of_reads (d := (0 : Int)) (h1 := fun _ => rfl) hq3
 clear hA0 hval0 hsz0 hsz
 refine (Bk.tells_walk A0_0 c0_0 l0_0 A0_1 c0_1 l0_1 A0_2 c0_2 l0_2 foot0 ver0 a1 x2_0 x2_1 x2_2 x2_3 x2_4 x2_5 x2_6 a3 cap3 l3 W i0_0 i0_1 i0_2 j0_0 j0_1 j0_2 hc3 hr3 (Oct.B8_of hw3)).mono fun e W' ⟨he, bel⟩ => ?_
 subst he
 exact ⟨_, rfl, _, _, _, [], _, [], hW', trodAll_mk1 (shut_bool Try.underlying4 _), (trodAll_cons_mk (Below.trod laidOut (by kernel_rfl) (of_decide_eq_true (by kernel_rfl)) k0 bel lt0) (trodAll_cons_mk (shut_int Try.underlying3 w1) (trodAll_cons_mk (Below.trod laidOut (by kernel_rfl) (of_decide_eq_true (by kernel_rfl)) k2 bel lt2) (trodAll_cons_mk (Below.trod laidOut (by kernel_rfl) (of_decide_eq_true (by kernel_rfl)) k3 bel lt3) trodAll_mk0)))), rfl, bel.frame _, fun h => by cases h⟩
theorem over : Rows.blockTellsRow.holds Try.pinned (OpenSpec.ofChange Rows.blockTellsSpec) :=
 OpenClaim.holds_of_wide 3 Try.f3 rfl rfl rfl rfl rfl rfl rfl ⟨rfl, rfl, rfl, rfl, rfl⟩ rfl rfl rfl rfl rfl (by kernel_rfl) Try.func3 (by kernel_rfl)
  (of_decide_eq_true (by kernel_rfl)) (by unfold Func.isWrapper; first | (rw [if_pos (by decide +kernel)]; kernel_rfl) | (rw [if_neg (by decide +kernel)]; exact ⟨rfl, rfl⟩))
  (fun os started H enc _ => lifted os started H enc)
theorem proved : Rows.BlockTellsSaid := over
#print axioms proved
end Go.Proofs.Ytpgjcnjojfehjaa.blockTells
namespace Go.Proofs.Ytpgjcnjojfehjaa
theorem blockTells_holds : Rows.BlockTellsSaid := blockTells.proved
end Go.Proofs.Ytpgjcnjojfehjaa
