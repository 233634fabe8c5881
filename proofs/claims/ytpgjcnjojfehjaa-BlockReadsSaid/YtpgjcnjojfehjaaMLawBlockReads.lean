/- Texts of chapter 16 laid together (wip/block/merge16.py): BkQ, ReadsHand, HeadRow, LawBlockReads. -/
import Derived.Test.YtpgjcnjojfehjaaM3
import Derived.Outline
import Derived.Test.YtpgjcnjojfehjaaRows
import Derived.Lib.SmallJoins
import Derived.WalkKit
import Derived.ProofKit
import Derived.OpenShut
import Derived.ShutString
import Derived.ChangeOld
import Derived.Below
import Derived.SizedLaws
import Derived.ChangeSlices
import Derived.Test.YtpgjcnjojfehjaaWSized
/- What was read of bytes may be laid again, and is then read as it was: plain laws; condition: the bytes are bytes. -/
namespace Go.Proofs.Ytpgjcnjojfehjaa.Bk
open Go.RowKit Go.Proofs.YtpgjcnjojfehjaaW.PrintWords Go.Proofs.YtpgjcnjojfehjaaW.PrintLast Go.Proofs.YtpgjcnjojfehjaaW.PrintMore Oct Kx Ab

theorem at_size (p : ByteArray) (x : Int) : (atN p x).1.size ≤ p.size := by
  rcases at_cases p x with h | ⟨a, i, -, hi, h, -⟩
  · rw [h]; exact Nat.zero_le _
  · rw [h]
    show (p.extract a (a + i)).size ≤ p.size
    rw [ByteArray.size_extract]
    omega
theorem nmK_keep (p : ByteArray) (ats : List Int) {ty : List S46} {ok : Bool} {P : S46 → Prop} (h0 : ∀ t ∈ ty, P t) (hz : P z46) (hset : ∀ t k, P t → P (setNm t (atN p (ats.getD k 0)).1)) : ∀ k, ∀ t ∈ (nmK p ats ty ok k).1, P t
  | 0 => h0
  | k + 1 => by
    have h1 := nmK_keep p ats (ok := ok) h0 hz hset k
    unfold nmK
    exact set_all h1 (hset _ k (getD_all h1 hz k)) k
theorem tyK_names {l : List Int} {b : Bool} : ∀ k, ∀ t ∈ (tyK k l b).1, t.f2.size = 0
  | 0 => fun t h => by cases h
  | k + 1 => by
    unfold tyK
    intro t ht
    rcases List.mem_append.1 ht with h | h
    · exact tyK_names k t h
    · rw [List.mem_singleton] at h; subst h; rfl
theorem dec_out (v u s l t ty c : Int) (b : List Int) (size : Int) (hb : B8 b) (hl : b.length ≤ 1000000) :
    decN v u s l t ty c b size = ([], [], [], ⟨#[]⟩, 0, false) ∨ ∃ (T : List S46) (R : List S48) (L : List S50), decN v u s l t ty c b size = (T, R, L, ⟨#[]⟩, v, true) ∧ (T.length : Int) = ty ∧ (R.length : Int) = t ∧ (L.length : Int) = l ∧ sizeF v u s l t ty c size = b.length ∧ RZ T R L ∧ okZ T R L = true ∧ T.length ≤ 64 ∧ R.length ≤ 2000 ∧ L.length ≤ 201 ∧ encG T R L v size = (countN T R L v).2.2.2.2.2.2.2 := by
  cases hg : decide (sizeF v u s l t ty c size ≠ 0 ∧ (b.length : Int) = sizeF v u s l t ty c size) with
  | false => left; unfold decN; rw [hg]
  | true =>
    have hg' := of_decide_eq_true hg
    have hR : rightS v u s l t ty c = true := by
      cases h : rightS v u s l t ty c with
      | true => rfl
      | false => exfalso; apply hg'.1; unfold sizeF; rw [h]
    have hs4 : size = 4 ∨ size = 8 := by
      by_cases h : size = 4 ∨ size = 8
      · exact h
      · exfalso; apply hg'.1; unfold sizeF; rw [hR]; simp only; rw [if_neg h]
    have hs : sizeB size = true := by unfold sizeB; rw [decide_eq_true_eq]; omega
    have hRR := of_decide_eq_true hR
    obtain ⟨tn, rfl⟩ := Int.eq_ofNat_of_zero_le hRR.2.2.1.1
    obtain ⟨ln, rfl⟩ := Int.eq_ofNat_of_zero_le hRR.2.1.1
    obtain ⟨yn, rfl⟩ := Int.eq_ofNat_of_zero_le (show 0 ≤ ty by omega)
    have d0 : ∀ x ∈ List.replicate tn z48, TF size x := fun x hx => by
      rw [List.eq_of_mem_replicate hx]; exact ⟨fits_zero hs, fits_zero one_size⟩
    obtain ⟨a1, b1⟩ := trA_fits size hs d0 hb (b := false) tn
    obtain ⟨a2, b2⟩ := trB_fits size hs a1 b1 (b := (trA size tn (List.replicate tn z48) b false).2.2) tn
    have n1 := trA_len size (List.replicate tn z48) b false tn
    have n2 := trB_len (trA size tn (List.replicate tn z48) b false).1 (trA size tn (List.replicate tn z48) b false).2.1 (trA size tn (List.replicate tn z48) b false).2.2 tn
    unfold decN
    rw [hg]
    simp only [Int.toNat_natCast]
    generalize trA size tn (List.replicate tn z48) b false = A1 at *
    generalize trB tn A1.1 A1.2.1 A1.2.2 = A2 at *
    obtain ⟨a3, b3⟩ := tyK_fits b2 (b := A2.2.2) yn
    have n3 := tyK_len A2.2.1 A2.2.2 yn
    have m3 := tyK_names (l := A2.2.1) (b := A2.2.2) yn
    generalize tyK yn A2.2.1 A2.2.2 = Y at *
    have hp : B8 (takeS Y.2.2.2.1 Y.2.2.2.2 c).2.1 ∧ (takeS Y.2.2.2.1 Y.2.2.2.2 c).1.length ≤ 1000000 := by
      unfold takeS
      split
      · exact ⟨fun x hx => (by cases hx), Nat.zero_le _⟩
      · refine ⟨drop_B8 _ b3, ?_⟩
        have h1 := n3.2.2
        have h2 := n2.2
        have h3 := n1.2
        show (Y.2.2.2.1.take c.toNat).length ≤ 1000000
        rw [List.length_take]
        omega
    generalize takeS Y.2.2.2.1 Y.2.2.2.2 c = p at *
    have hps : (strOfNums p.1).size ≤ 1000000 := by rw [strOfNums_size]; exact hp.2
    generalize strOfNums p.1 = P at *
    have n4 := nmK_len P Y.2.1 Y.1 Y.2.2.1 yn
    have a4 := nmK_keep P Y.2.1 (ty := Y.1) (ok := Y.2.2.1) (P := fun t => Fits t.f0 4 ∧ t.f2.size ≤ 1000000) (fun t ht => ⟨a3 t ht, by rw [m3 t ht]; omega⟩) ⟨fits_zero four_size, by decide⟩ (fun t k ht => ⟨ht.1, Nat.le_trans (at_size P _) hps⟩) yn
    generalize nmK P Y.2.1 Y.1 Y.2.2.1 yn = M at *
    obtain ⟨a5, b5⟩ := lpK_fits size hs hp.1 (b := p.2.2) ln
    have n5 := lpK_len size p.2.1 p.2.2 ln
    generalize lpK size ln p.2.1 p.2.2 = q at *
    cases hm : markS (takeS q.2.1 q.2.2 s).1 (takeS (takeS q.2.1 q.2.2 s).2.1 (takeS q.2.1 q.2.2 s).2.2 u).1 && M.2 with
    | false => left; rfl
    | true =>
      right
      have l2 : A2.1.length = tn := by rw [n2.1, n1.1, List.length_replicate]
      have l4 : M.1.length = yn := by rw [n4, n3.1]
      refine ⟨M.1, A2.1, q.1, rfl, by rw [l4], by rw [l2], by rw [n5.1], hg'.2.symm, ⟨fun t ht => (a4 t ht).1.2, fun t ht => ⟨(a2 t ht).1.2, (a2 t ht).2.2⟩, fun t ht => ⟨(a5 t ht).1.2, (a5 t ht).2.2⟩⟩, ?_, by omega, by omega, by omega, ?_⟩
      · unfold okZ
        rw [Bool.and_eq_true, decide_eq_true_eq, List.all_eq_true]
        exact ⟨by omega, fun t ht => decide_eq_true (Nat.le_trans (a4 t ht).2 (by omega))⟩
      · unfold encG
        cases hc : (countN M.1 A2.1 q.1 v).2.2.2.2.2.2.2 with
        | false => rfl
        | true =>
          have hpo : (poolT (namesL M.1)).2.2 = true := by
            unfold countN at hc
            split at hc
            · rename_i h; rw [Bool.and_eq_true] at h; exact h.1
            · cases hc
          have hn : (namesL M.1).length = M.1.length := by unfold namesL; rw [List.length_map]
          have f1 := fitT_of a2
          have f2 := fitL_of a5
          have f3 := fitY_of (ty := M.1) (ats := (poolT (namesL M.1)).2.1) (fun t ht => (a4 t ht).1) (fun i hi => pool_fits hpo i (by rw [hn]; exact hi)) (by rw [pool_ats hpo, hn])
          unfold numsA
          rw [fit_app, fit_app, f1.1, f1.2, f2, f3, decide_eq_true hs4]
          rfl
theorem dec_again {T : List S46} {R : List S48} {L : List S50} {v size : Int} (hz : RZ T R L) (h1 : T.length ≤ 64) (h2 : R.length ≤ 2000) (h3 : L.length ≤ 201) (hg : encG T R L v size = true) :
    decF v 0 0 L.length R.length T.length (poolT (namesL T)).1.size (bodyN T R L size) size = some (T, R, L, ⟨#[]⟩, v, true) := by
  have hl := body_len hg
  obtain ⟨-, p2, p3, -⟩ := enc_parts hg
  have p4 : (poolT (namesL T)).1.size ≤ 256 := pool_size _
  have hs : (bodyN T R L size).length ≤ 1000000 := by
    unfold sizeF at hl
    rw [p2] at hl
    simp only at hl
    rw [if_pos p3] at hl
    rcases p3 with rfl | rfl <;> omega
  unfold decF
  rw [decide_eq_true hs, zone_back hz hg]
end Go.Proofs.Ytpgjcnjojfehjaa.Bk
/- BlockReads: the walk by hand; condition: none. -/
namespace Go.Proofs.Ytpgjcnjojfehjaa.Bk
open Go.RowKit Go.Proofs.YtpgjcnjojfehjaaW.PrintWords Go.Proofs.YtpgjcnjojfehjaaW.PrintLast Go.Proofs.YtpgjcnjojfehjaaW.PrintMore Oct Kx Ab PBlBack

set_option maxHeartbeats 4000000 in
set_option maxRecDepth 100000 in
theorem reads_long (v u s l t ty c : Int) (A1 : Option Addr) (c1 : Nat) (b : List Int) (size : Int) (w : World)
    (hl : 2000 < b.length) :
    Calls Try.prog 6 #[.agg #[.int .i64 v, .int .i64 u, .int .i64 s, .int .i64 l, .int .i64 t, .int .i64 ty, .int .i64 c], .slice A1 b.length c1, .int .i64 size] w fun e w' => e = .returned (.bool true) ∧ Below w.heap.size w w' := by
  have HSM := Aside0.mk (fun W => small_is true W rfl)
  have hq : ((2000 : Int) < (b.length : Int)) := by omega
  have hq2 : decide ((2000 : Int) < (b.length : Int)) = true := decide_eq_true hq
  clear hl
  go_enter Try.func6, Try.ntmps6
  have HB_0 := Aside0.mk (Below.refl w.heap.size w)
  go_wp2_with ((with_reducible refine gate_dst (N := 3) rfl ?_); refine box_event ?hg (N := 3) ?hd (cs := #[.int .i64 v, .int .i64 u, .int .i64 s, .int .i64 l, .int .i64 t, .int .i64 ty, .int .i64 c]) (t := 28) ?hr ?_; (case hd => rfl); (case hg => rfl); (case hr => first | (go_simp; done) | (go_simp; rfl)); intro gh hg_ w1 hbox hb_; have GH : Aside0 (w.heap.size ≤ gh) := ⟨Nat.le_of_eq hg_.symm⟩; have HB_1 := Aside0.mk (below_step HB_0.out hb_); clear HB_0; have H_1 := Aside0.mk (hbox); clear hbox hb_ hg_)
  refine (HSM.out _).mono ?_
  rintro e w2 ⟨rfl, hb_⟩
  have HB_2 := Aside0.mk (below_step HB_1.out hb_)
  have H_2 := Aside0.mk (blk_below H_1.out hb_)
  clear HB_1 H_1
  clear hb_ HSM
  go_wp2_with fail
  go_ret
  all_goals exact ⟨rfl, HB_2.out⟩
set_option maxHeartbeats 4000000 in
set_option maxRecDepth 100000 in
theorem reads_no (v u s l t ty c : Int) (A1 : Option Addr) (c1 : Nat) (b : List Int) (size : Int) (w : World)
    (i1 : b.length ≤ c1) (j1 : Kd.C (Kd.int .u8) w A1 b.length b) (hl : b.length ≤ 2000) (hd : decF v u s l t ty c b size = some ([], [], [], ⟨#[]⟩, 0, false)) :
    Calls Try.prog 6 #[.agg #[.int .i64 v, .int .i64 u, .int .i64 s, .int .i64 l, .int .i64 t, .int .i64 ty, .int .i64 c], .slice A1 b.length c1, .int .i64 size] w fun e w' => e = .returned (.bool true) ∧ Below w.heap.size w w' := by
  have HSM := Aside0.mk (fun W => small_is true W rfl)
  have hq : ¬ ((2000 : Int) < (b.length : Int)) := by omega
  have hq2 : decide ((2000 : Int) < (b.length : Int)) = false := decide_eq_false hq
  have HDEC := Aside0.mk (fun W h => decode_is v u s l t ty c A1 c1 b size [] [] [] ⟨#[]⟩ 0 false W h i1 hd)
  have HR1 := Aside0.mk j1
  obtain ⟨k2, h2⟩ := same_ev [] [] [] ⟨#[]⟩ 0 (by decide) (by decide) (by decide)
  have HSAME := Aside0.mk (fun A0' c0' A1' c1' A2' c2' A0 c0 A1 c1 A2 c2 W => epactref16_Same.calls k2 A0' c0' [] A1' c1' [] A2' c2' [] ⟨#[]⟩ 0 A0 c0 [] A1 c1 [] A2 c2 [] ⟨#[]⟩ 0 true W (C_none _ _ _) (Nat.zero_le _) (C_none _ _ _) (Nat.zero_le _) (C_none _ _ _) (Nat.zero_le _) (C_none _ _ _) (Nat.zero_le _) (C_none _ _ _) (Nat.zero_le _) (C_none _ _ _) (Nat.zero_le _) (h2 k2 (Nat.le_refl _)))
  clear hd hl i1 j1 h2
  go_enter Try.func6, Try.ntmps6
  have HB_0 := Aside0.mk (Below.refl w.heap.size w)
  go_wp2_with ((with_reducible refine gate_dst (N := 3) rfl ?_); refine box_event ?hg (N := 3) ?hd (cs := #[.int .i64 v, .int .i64 u, .int .i64 s, .int .i64 l, .int .i64 t, .int .i64 ty, .int .i64 c]) (t := 28) ?hr ?_; (case hd => rfl); (case hg => rfl); (case hr => first | (go_simp; done) | (go_simp; rfl)); intro gh hg_ w1 hbox hb_; have GH : Aside0 (w.heap.size ≤ gh) := ⟨Nat.le_of_eq hg_.symm⟩; have HB_1 := Aside0.mk (below_step HB_0.out hb_); clear HB_0; have H_1 := Aside0.mk (hbox); clear hbox hb_ hg_)
  refine (HSM.out _).mono ?_
  rintro e w2 ⟨rfl, hb_⟩
  have HB_2 := Aside0.mk (below_step HB_1.out hb_)
  have H_2 := Aside0.mk (blk_below H_1.out hb_)
  clear HB_1 H_1
  clear hb_ HSM
  obtain ⟨hx0, hx1, hx2, hx3, hx4, hx5, hx6⟩ := cells7 H_2.out
  go_wp2_with fail
  refine (HDEC.out _ (Kd.C_below HR1.out HB_2.out)).mono ?_
  rintro e w3 ⟨v0, v1, v2, rfl, hr0, hr1, hr2, hb_⟩
  obtain ⟨X0, Xc0, rfl⟩ := Kd.R_slice hr0
  obtain ⟨X1, Xc1, rfl⟩ := Kd.R_slice hr1
  obtain ⟨X2, Xc2, rfl⟩ := Kd.R_slice hr2
  have HB_3 := Aside0.mk (below_step HB_2.out hb_)
  have H_3 := Aside0.mk (blk_below H_2.out hb_)
  clear HB_2 H_2
  clear hx0 hx1 hx2 hx3 hx4 hx5 hx6
  clear hb_ hr0 hr1 hr2 HDEC hq hq2
  go_upto_region 5 with ((with_reducible refine gate_dst (N := 8) rfl ?_); refine box_event ?hg (N := 8) ?hd (cs := #[.slice none 0 0, .slice none 0 0, .slice none 0 0, .string ⟨#[]⟩, .int .i64 0]) (t := 26) ?hr ?_; (case hd => rfl); (case hg => rfl); (case hr => first | (go_simp; done) | (go_simp; rfl)); intro gz hg_ w4 hbox hb_; have HN := Aside0.mk hb_; have HBX := Aside0.mk hbox; have GZ : Aside0 (w3.heap.size ≤ gz) := ⟨Nat.le_of_eq hg_.symm⟩; obtain ⟨hy0, hy1, hy2, hy3, hy4⟩ := zone_cells hbox; have f0 := blk_frozen hbox 0; have f1 := blk_frozen hbox 1; have f2 := blk_frozen hbox 2; have f3 := blk_frozen hbox 3; have f4 := blk_frozen hbox 4; clear hbox hb_ hg_)
  have HX := Aside0.mk (set5_below HN.out GZ.out (.slice X0 0 Xc0) (.slice X1 0 Xc1) (.slice X2 0 Xc2) (.string ⟨#[]⟩) (.int .i64 0))
  have HY := Aside0.mk (set5_blk HBX.out (.slice X0 0 Xc0) (.slice X1 0 Xc1) (.slice X2 0 Xc2) (.string ⟨#[]⟩) (.int .i64 0))
  unfold set5 at HX HY
  clear HBX HN hy0 f0 hy1 f1 hy2 f2 hy3 f3 hy4 f4
  generalize (((((w4.setCell ⟨gz, 0, none⟩ (.slice X0 0 Xc0)).setCell ⟨gz, 1, none⟩ (.slice X1 0 Xc1)).setCell ⟨gz, 2, none⟩ (.slice X2 0 Xc2)).setCell ⟨gz, 3, none⟩ (.string ⟨#[]⟩)).setCell ⟨gz, 4, none⟩ (.int .i64 0)) = w5 at *
  have HB_5 := Aside0.mk (below_step HB_3.out HX.out)
  have H_5 := Aside0.mk (blk_below H_3.out HX.out)
  clear HB_3 H_3
  have Z_5 := Aside0.mk (HY.out)
  clear HX HY
  obtain ⟨hz0, hz1, hz2, hz3, hz4⟩ := zone_cells Z_5.out
  go_wp2_with fail
  refine (HSAME.out X0 Xc0 X1 Xc1 X2 Xc2 none 0 none 0 none 0 _).mono ?_
  rintro e w6 ⟨rfl, hb_⟩
  have HB_6 := Aside0.mk (below_step HB_5.out hb_)
  have H_6 := Aside0.mk (blk_below H_5.out hb_)
  have Z_6 := Aside0.mk (blk_below Z_5.out hb_)
  clear HB_5 H_5 Z_5
  clear hz0 hz1 hz2 hz3 hz4
  clear hb_ HSAME
  go_wp2_with fail
  go_ret
  all_goals exact ⟨rfl, HB_6.out⟩
set_option maxHeartbeats 4000000 in
set_option maxRecDepth 100000 in
theorem reads_not (v u s c : Int) (T : List S46) (R : List S48) (L : List S50) (A1 : Option Addr) (c1 : Nat) (b : List Int) (size : Int) (w : World)
    (i1 : b.length ≤ c1) (j1 : Kd.C (Kd.int .u8) w A1 b.length b) (hl : b.length ≤ 2000) (hd : decF v u s L.length R.length T.length c b size = some (T, R, L, ⟨#[]⟩, v, true)) (hsz : sizeF v u s L.length R.length T.length c size = b.length) (hok : okZ T R L = true) (hg : encG T R L v size = false) (hcn : false = (countN T R L v).2.2.2.2.2.2.2) :
    Calls Try.prog 6 #[.agg #[.int .i64 v, .int .i64 u, .int .i64 s, .int .i64 L.length, .int .i64 R.length, .int .i64 T.length, .int .i64 c], .slice A1 b.length c1, .int .i64 size] w fun e w' => e = .returned (.bool true) ∧ Below w.heap.size w w' := by
  have HSM := Aside0.mk (fun W => small_is true W rfl)
  have hq : ¬ ((2000 : Int) < (b.length : Int)) := by omega
  have hq2 : decide ((2000 : Int) < (b.length : Int)) = false := decide_eq_false hq
  have HDEC := Aside0.mk (fun W h => decode_is v u s L.length R.length T.length c A1 c1 b size T R L ⟨#[]⟩ v true W h i1 hd)
  have HR1 := Aside0.mk j1
  have HSZ := Aside0.mk (fun W => size_calls v u s L.length R.length T.length c size W)
  rw [hsz] at HSZ
  have q0 : ((T.length : Int) != (T.length : Int)) = false := by simp
  have q1 : ((R.length : Int) != (R.length : Int)) = false := by simp
  have q2 : ((L.length : Int) != (L.length : Int)) = false := by simp
  have q3 : (v != v) = false := by simp
  have q4 : ((b.length : Int) != (b.length : Int)) = false := by simp
  have HENC := Aside0.mk (fun X0 Xc0 X1 Xc1 X2 Xc2 W j0 i0 j1 i1 j2 i2 => encode_is X0 Xc0 T X1 Xc1 R X2 Xc2 L ⟨#[]⟩ v size [] false W j0 i0 j1 i1 j2 i2 (by unfold encF encN; rw [hok, hg]))
  obtain ⟨n1, n2, n3, n4, n5, n6, n7, n8, hN⟩ : ∃ n1 n2 n3 n4 n5 n6 n7 n8, countN T R L v = (n1, n2, n3, n4, n5, n6, n7, n8) := ⟨_, _, _, _, _, _, _, _, rfl⟩
  rw [hN] at hcn
  have hcn2 : n8 = false := hcn.symm
  subst hcn2
  have hn : countF T R L ⟨#[]⟩ v = some (n1, n2, n3, n4, n5, n6, n7, false) := by unfold countF; rw [hok]; exact congrArg some hN
  clear hN
  have HCT := Aside0.mk (fun X0 Xc0 X1 Xc1 X2 Xc2 W j0 i0 j1 i1 j2 i2 => count_is X0 Xc0 T X1 Xc1 R X2 Xc2 L ⟨#[]⟩ v n1 n2 n3 n4 n5 n6 n7 false W j0 i0 j1 i1 j2 i2 hn)
  clear hd hl i1 j1 hsz hok hg hcn hn
  go_enter Try.func6, Try.ntmps6
  have HB_0 := Aside0.mk (Below.refl w.heap.size w)
  go_wp2_with ((with_reducible refine gate_dst (N := 3) rfl ?_); refine box_event ?hg (N := 3) ?hd (cs := #[.int .i64 v, .int .i64 u, .int .i64 s, .int .i64 L.length, .int .i64 R.length, .int .i64 T.length, .int .i64 c]) (t := 28) ?hr ?_; (case hd => rfl); (case hg => rfl); (case hr => first | (go_simp; done) | (go_simp; rfl)); intro gh hg_ w1 hbox hb_; have GH : Aside0 (w.heap.size ≤ gh) := ⟨Nat.le_of_eq hg_.symm⟩; have HB_1 := Aside0.mk (below_step HB_0.out hb_); clear HB_0; have H_1 := Aside0.mk (hbox); clear hbox hb_ hg_)
  refine (HSM.out _).mono ?_
  rintro e w2 ⟨rfl, hb_⟩
  have HB_2 := Aside0.mk (below_step HB_1.out hb_)
  have H_2 := Aside0.mk (blk_below H_1.out hb_)
  clear HB_1 H_1
  clear hb_ HSM
  obtain ⟨hx0, hx1, hx2, hx3, hx4, hx5, hx6⟩ := cells7 H_2.out
  go_wp2_with fail
  refine (HDEC.out _ (Kd.C_below HR1.out HB_2.out)).mono ?_
  rintro e w3 ⟨v0, v1, v2, rfl, hr0, hr1, hr2, hb_⟩
  obtain ⟨X0, Xc0, rfl⟩ := Kd.R_slice hr0
  obtain ⟨X1, Xc1, rfl⟩ := Kd.R_slice hr1
  obtain ⟨X2, Xc2, rfl⟩ := Kd.R_slice hr2
  have HB_3 := Aside0.mk (below_step HB_2.out hb_)
  have H_3 := Aside0.mk (blk_below H_2.out hb_)
  clear HB_2 H_2
  clear hx0 hx1 hx2 hx3 hx4 hx5 hx6
  have X0_3 := Aside0.mk (hr0)
  have X1_3 := Aside0.mk (hr1)
  have X2_3 := Aside0.mk (hr2)
  clear hb_ hr0 hr1 hr2 HDEC hq hq2
  go_upto_region 5 with ((with_reducible refine gate_dst (N := 8) rfl ?_); refine box_event ?hg (N := 8) ?hd (cs := #[.slice none 0 0, .slice none 0 0, .slice none 0 0, .string ⟨#[]⟩, .int .i64 0]) (t := 26) ?hr ?_; (case hd => rfl); (case hg => rfl); (case hr => first | (go_simp; done) | (go_simp; rfl)); intro gz hg_ w4 hbox hb_; have HN := Aside0.mk hb_; have HBX := Aside0.mk hbox; have GZ : Aside0 (w3.heap.size ≤ gz) := ⟨Nat.le_of_eq hg_.symm⟩; obtain ⟨hy0, hy1, hy2, hy3, hy4⟩ := zone_cells hbox; have f0 := blk_frozen hbox 0; have f1 := blk_frozen hbox 1; have f2 := blk_frozen hbox 2; have f3 := blk_frozen hbox 3; have f4 := blk_frozen hbox 4; clear hbox hb_ hg_)
  have HX := Aside0.mk (set5_below HN.out GZ.out (.slice X0 T.length Xc0) (.slice X1 R.length Xc1) (.slice X2 L.length Xc2) (.string ⟨#[]⟩) (.int .i64 v))
  have HY := Aside0.mk (set5_blk HBX.out (.slice X0 T.length Xc0) (.slice X1 R.length Xc1) (.slice X2 L.length Xc2) (.string ⟨#[]⟩) (.int .i64 v))
  unfold set5 at HX HY
  clear HBX HN hy0 f0 hy1 f1 hy2 f2 hy3 f3 hy4 f4
  generalize (((((w4.setCell ⟨gz, 0, none⟩ (.slice X0 T.length Xc0)).setCell ⟨gz, 1, none⟩ (.slice X1 R.length Xc1)).setCell ⟨gz, 2, none⟩ (.slice X2 L.length Xc2)).setCell ⟨gz, 3, none⟩ (.string ⟨#[]⟩)).setCell ⟨gz, 4, none⟩ (.int .i64 v)) = w5 at *
  have HB_5 := Aside0.mk (below_step HB_3.out HX.out)
  have H_5 := Aside0.mk (blk_below H_3.out HX.out)
  have X0_5 := Aside0.mk (Kd.R_below X0_3.out HX.out)
  have X1_5 := Aside0.mk (Kd.R_below X1_3.out HX.out)
  have X2_5 := Aside0.mk (Kd.R_below X2_3.out HX.out)
  clear HB_3 H_3 X0_3 X1_3 X2_3
  have Z_5 := Aside0.mk (HY.out)
  clear HX HY
  obtain ⟨hz0, hz1, hz2, hz3, hz4⟩ := zone_cells Z_5.out
  obtain ⟨hx0, hx1, hx2, hx3, hx4, hx5, hx6⟩ := cells7 H_5.out
  go_wp2_with fail
  refine (HSZ.out _).mono ?_
  rintro e w6 ⟨rfl, hb_⟩
  have HB_6 := Aside0.mk (below_step HB_5.out hb_)
  have H_6 := Aside0.mk (blk_below H_5.out hb_)
  have X0_6 := Aside0.mk (Kd.R_below X0_5.out hb_)
  have X1_6 := Aside0.mk (Kd.R_below X1_5.out hb_)
  have X2_6 := Aside0.mk (Kd.R_below X2_5.out hb_)
  have Z_6 := Aside0.mk (blk_below Z_5.out hb_)
  clear HB_5 H_5 X0_5 X1_5 X2_5 Z_5
  clear hz0 hz1 hz2 hz3 hz4 hx0 hx1 hx2 hx3 hx4 hx5 hx6
  clear hb_ HSZ
  obtain ⟨hz0, hz1, hz2, hz3, hz4⟩ := zone_cells Z_6.out
  go_wp2_with fail
  clear q0 q1 q2 q3 q4
  refine (HENC.out X0 Xc0 X1 Xc1 X2 Xc2 _ (Kd.R_reads' X0_6.out).2.2 (Kd.R_reads' X0_6.out).2.1 (Kd.R_reads' X1_6.out).2.2 (Kd.R_reads' X1_6.out).2.1 (Kd.R_reads' X2_6.out).2.2 (Kd.R_reads' X2_6.out).2.1).mono ?_
  rintro e w7 ⟨v0, rfl, hv, hb_⟩
  obtain ⟨Ae, ce, rfl⟩ := Kd.R_slice hv
  have HB_7 := Aside0.mk (below_step HB_6.out hb_)
  have H_7 := Aside0.mk (blk_below H_6.out hb_)
  have X0_7 := Aside0.mk (Kd.R_below X0_6.out hb_)
  have X1_7 := Aside0.mk (Kd.R_below X1_6.out hb_)
  have X2_7 := Aside0.mk (Kd.R_below X2_6.out hb_)
  have Z_7 := Aside0.mk (blk_below Z_6.out hb_)
  clear HB_6 H_6 X0_6 X1_6 X2_6 Z_6
  clear hz0 hz1 hz2 hz3 hz4
  clear hb_ hv HENC
  obtain ⟨hz0, hz1, hz2, hz3, hz4⟩ := zone_cells Z_7.out
  go_wp2_with fail
  refine (HCT.out X0 Xc0 X1 Xc1 X2 Xc2 _ (Kd.R_reads' X0_7.out).2.2 (Kd.R_reads' X0_7.out).2.1 (Kd.R_reads' X1_7.out).2.2 (Kd.R_reads' X1_7.out).2.1 (Kd.R_reads' X2_7.out).2.2 (Kd.R_reads' X2_7.out).2.1).mono ?_
  rintro e w8 ⟨rfl, hb_⟩
  have HB_8 := Aside0.mk (below_step HB_7.out hb_)
  have H_8 := Aside0.mk (blk_below H_7.out hb_)
  have X0_8 := Aside0.mk (Kd.R_below X0_7.out hb_)
  have X1_8 := Aside0.mk (Kd.R_below X1_7.out hb_)
  have X2_8 := Aside0.mk (Kd.R_below X2_7.out hb_)
  have Z_8 := Aside0.mk (blk_below Z_7.out hb_)
  clear HB_7 H_7 X0_7 X1_7 X2_7 Z_7
  clear hz0 hz1 hz2 hz3 hz4
  clear hb_ HCT
  go_upto_region 12 with ((with_reducible refine gate_dst (N := 12) rfl ?_); refine box_event ?hg (N := 12) ?hd (cs := #[.int .i64 0, .int .i64 0, .int .i64 0, .int .i64 0, .int .i64 0, .int .i64 0, .int .i64 0]) (t := 28) ?hr ?_; (case hd => rfl); (case hg => rfl); (case hr => first | (go_simp; done) | (go_simp; rfl)); intro gg hg_ w9 hbox hb_; have HN := Aside0.mk hb_; have HBX := Aside0.mk hbox; have GG : Aside0 (w8.heap.size ≤ gg) := ⟨Nat.le_of_eq hg_.symm⟩; obtain ⟨hy0, hy1, hy2, hy3, hy4, hy5, hy6⟩ := cells7 hbox; have f0 := blk_frozen hbox 0; have f1 := blk_frozen hbox 1; have f2 := blk_frozen hbox 2; have f3 := blk_frozen hbox 3; have f4 := blk_frozen hbox 4; have f5 := blk_frozen hbox 5; have f6 := blk_frozen hbox 6; clear hbox hb_ hg_)
  have HX := Aside0.mk (set7_below HN.out GG.out (.int .i64 n1) (.int .i64 n2) (.int .i64 n3) (.int .i64 n4) (.int .i64 n5) (.int .i64 n6) (.int .i64 n7))
  have HY := Aside0.mk (set7_blk HBX.out (.int .i64 n1) (.int .i64 n2) (.int .i64 n3) (.int .i64 n4) (.int .i64 n5) (.int .i64 n6) (.int .i64 n7))
  unfold set7 at HX HY
  clear HBX HN hy0 f0 hy1 f1 hy2 f2 hy3 f3 hy4 f4 hy5 f5 hy6 f6
  generalize (((((((w9.setCell ⟨gg, 0, none⟩ (.int .i64 n1)).setCell ⟨gg, 1, none⟩ (.int .i64 n2)).setCell ⟨gg, 2, none⟩ (.int .i64 n3)).setCell ⟨gg, 3, none⟩ (.int .i64 n4)).setCell ⟨gg, 4, none⟩ (.int .i64 n5)).setCell ⟨gg, 5, none⟩ (.int .i64 n6)).setCell ⟨gg, 6, none⟩ (.int .i64 n7)) = w10 at *
  have HB_10 := Aside0.mk (below_step HB_8.out HX.out)
  have H_10 := Aside0.mk (blk_below H_8.out HX.out)
  have X0_10 := Aside0.mk (Kd.R_below X0_8.out HX.out)
  have X1_10 := Aside0.mk (Kd.R_below X1_8.out HX.out)
  have X2_10 := Aside0.mk (Kd.R_below X2_8.out HX.out)
  have Z_10 := Aside0.mk (blk_below Z_8.out HX.out)
  clear HB_8 H_8 X0_8 X1_8 X2_8 Z_8
  have G_10 := Aside0.mk (HY.out)
  clear HX HY
  go_wp2_with fail
  go_ret
  all_goals exact ⟨rfl, HB_10.out⟩
set_option maxHeartbeats 4000000 in
set_option maxRecDepth 100000 in
theorem reads_yes (v u s c : Int) (T : List S46) (R : List S48) (L : List S50) (A1 : Option Addr) (c1 : Nat) (b : List Int) (size : Int) (w : World)
    (i1 : b.length ≤ c1) (j1 : Kd.C (Kd.int .u8) w A1 b.length b) (hl : b.length ≤ 2000) (hd : decF v u s L.length R.length T.length c b size = some (T, R, L, ⟨#[]⟩, v, true)) (hsz : sizeF v u s L.length R.length T.length c size = b.length) (hok : okZ T R L = true) (hg : encG T R L v size = true) (ha : decF v 0 0 L.length R.length T.length (poolT (namesL T)).1.size (bodyN T R L size) size = some (T, R, L, ⟨#[]⟩, v, true)) :
    Calls Try.prog 6 #[.agg #[.int .i64 v, .int .i64 u, .int .i64 s, .int .i64 L.length, .int .i64 R.length, .int .i64 T.length, .int .i64 c], .slice A1 b.length c1, .int .i64 size] w fun e w' => e = .returned (.bool true) ∧ Below w.heap.size w w' := by
  have HSM := Aside0.mk (fun W => small_is true W rfl)
  have hq : ¬ ((2000 : Int) < (b.length : Int)) := by omega
  have hq2 : decide ((2000 : Int) < (b.length : Int)) = false := decide_eq_false hq
  have HDEC := Aside0.mk (fun W h => decode_is v u s L.length R.length T.length c A1 c1 b size T R L ⟨#[]⟩ v true W h i1 hd)
  have HR1 := Aside0.mk j1
  have HSZ := Aside0.mk (fun W => size_calls v u s L.length R.length T.length c size W)
  rw [hsz] at HSZ
  have q0 : ((T.length : Int) != (T.length : Int)) = false := by simp
  have q1 : ((R.length : Int) != (R.length : Int)) = false := by simp
  have q2 : ((L.length : Int) != (L.length : Int)) = false := by simp
  have q3 : (v != v) = false := by simp
  have q4 : ((b.length : Int) != (b.length : Int)) = false := by simp
  have hb1 := okZ_out hok
  obtain ⟨k2, h2⟩ := same_ev T R L ⟨#[]⟩ v (by omega) (by omega) (by omega)
  have HENC := Aside0.mk (fun X0 Xc0 X1 Xc1 X2 Xc2 W j0 i0 j1 i1 j2 i2 => encode_is X0 Xc0 T X1 Xc1 R X2 Xc2 L ⟨#[]⟩ v size (bodyN T R L size) true W j0 i0 j1 i1 j2 i2 (by unfold encF encN; rw [hok, hg]))
  have HCT := Aside0.mk (fun X0 Xc0 X1 Xc1 X2 Xc2 W j0 i0 j1 i1 j2 i2 => count_is X0 Xc0 T X1 Xc1 R X2 Xc2 L ⟨#[]⟩ v _ _ _ _ _ _ _ _ W j0 i0 j1 i1 j2 i2 (count_back (foot := ⟨#[]⟩) hok hg))
  have HD2 := Aside0.mk (fun A c W h hc => decode_is v 0 0 L.length R.length T.length (poolT (namesL T)).1.size A c (bodyN T R L size) size T R L ⟨#[]⟩ v true W h hc ha)
  have HSAME := Aside0.mk (fun A0' c0' A1' c1' A2' c2' A0 c0 A1 c1 A2 c2 W j0 e0 j1 e1 j2 e2 g0 i0 g1 i1 g2 i2 => epactref16_Same.calls k2 A0' c0' T A1' c1' R A2' c2' L ⟨#[]⟩ v A0 c0 T A1 c1 R A2 c2 L ⟨#[]⟩ v true W j0 e0 j1 e1 j2 e2 g0 i0 g1 i1 g2 i2 (h2 k2 (Nat.le_refl _)))
  generalize bodyN T R L size = bb at *
  generalize ((poolT (namesL T)).1.size : Int) = pn at *
  clear hd hl i1 j1 hsz hok hg ha hb1 h2
  go_enter Try.func6, Try.ntmps6
  have HB_0 := Aside0.mk (Below.refl w.heap.size w)
  go_wp2_with ((with_reducible refine gate_dst (N := 3) rfl ?_); refine box_event ?hg (N := 3) ?hd (cs := #[.int .i64 v, .int .i64 u, .int .i64 s, .int .i64 L.length, .int .i64 R.length, .int .i64 T.length, .int .i64 c]) (t := 28) ?hr ?_; (case hd => rfl); (case hg => rfl); (case hr => first | (go_simp; done) | (go_simp; rfl)); intro gh hg_ w1 hbox hb_; have GH : Aside0 (w.heap.size ≤ gh) := ⟨Nat.le_of_eq hg_.symm⟩; have HB_1 := Aside0.mk (below_step HB_0.out hb_); clear HB_0; have H_1 := Aside0.mk (hbox); clear hbox hb_ hg_)
  refine (HSM.out _).mono ?_
  rintro e w2 ⟨rfl, hb_⟩
  have HB_2 := Aside0.mk (below_step HB_1.out hb_)
  have H_2 := Aside0.mk (blk_below H_1.out hb_)
  clear HB_1 H_1
  clear hb_ HSM
  obtain ⟨hx0, hx1, hx2, hx3, hx4, hx5, hx6⟩ := cells7 H_2.out
  go_wp2_with fail
  refine (HDEC.out _ (Kd.C_below HR1.out HB_2.out)).mono ?_
  rintro e w3 ⟨v0, v1, v2, rfl, hr0, hr1, hr2, hb_⟩
  obtain ⟨X0, Xc0, rfl⟩ := Kd.R_slice hr0
  obtain ⟨X1, Xc1, rfl⟩ := Kd.R_slice hr1
  obtain ⟨X2, Xc2, rfl⟩ := Kd.R_slice hr2
  have HB_3 := Aside0.mk (below_step HB_2.out hb_)
  have H_3 := Aside0.mk (blk_below H_2.out hb_)
  clear HB_2 H_2
  clear hx0 hx1 hx2 hx3 hx4 hx5 hx6
  have X0_3 := Aside0.mk (hr0)
  have X1_3 := Aside0.mk (hr1)
  have X2_3 := Aside0.mk (hr2)
  clear hb_ hr0 hr1 hr2 HDEC hq hq2
  go_upto_region 5 with ((with_reducible refine gate_dst (N := 8) rfl ?_); refine box_event ?hg (N := 8) ?hd (cs := #[.slice none 0 0, .slice none 0 0, .slice none 0 0, .string ⟨#[]⟩, .int .i64 0]) (t := 26) ?hr ?_; (case hd => rfl); (case hg => rfl); (case hr => first | (go_simp; done) | (go_simp; rfl)); intro gz hg_ w4 hbox hb_; have HN := Aside0.mk hb_; have HBX := Aside0.mk hbox; have GZ : Aside0 (w3.heap.size ≤ gz) := ⟨Nat.le_of_eq hg_.symm⟩; obtain ⟨hy0, hy1, hy2, hy3, hy4⟩ := zone_cells hbox; have f0 := blk_frozen hbox 0; have f1 := blk_frozen hbox 1; have f2 := blk_frozen hbox 2; have f3 := blk_frozen hbox 3; have f4 := blk_frozen hbox 4; clear hbox hb_ hg_)
  have HX := Aside0.mk (set5_below HN.out GZ.out (.slice X0 T.length Xc0) (.slice X1 R.length Xc1) (.slice X2 L.length Xc2) (.string ⟨#[]⟩) (.int .i64 v))
  have HY := Aside0.mk (set5_blk HBX.out (.slice X0 T.length Xc0) (.slice X1 R.length Xc1) (.slice X2 L.length Xc2) (.string ⟨#[]⟩) (.int .i64 v))
  unfold set5 at HX HY
  clear HBX HN hy0 f0 hy1 f1 hy2 f2 hy3 f3 hy4 f4
  generalize (((((w4.setCell ⟨gz, 0, none⟩ (.slice X0 T.length Xc0)).setCell ⟨gz, 1, none⟩ (.slice X1 R.length Xc1)).setCell ⟨gz, 2, none⟩ (.slice X2 L.length Xc2)).setCell ⟨gz, 3, none⟩ (.string ⟨#[]⟩)).setCell ⟨gz, 4, none⟩ (.int .i64 v)) = w5 at *
  have HB_5 := Aside0.mk (below_step HB_3.out HX.out)
  have H_5 := Aside0.mk (blk_below H_3.out HX.out)
  have X0_5 := Aside0.mk (Kd.R_below X0_3.out HX.out)
  have X1_5 := Aside0.mk (Kd.R_below X1_3.out HX.out)
  have X2_5 := Aside0.mk (Kd.R_below X2_3.out HX.out)
  clear HB_3 H_3 X0_3 X1_3 X2_3
  have Z_5 := Aside0.mk (HY.out)
  clear HX HY
  obtain ⟨hz0, hz1, hz2, hz3, hz4⟩ := zone_cells Z_5.out
  obtain ⟨hx0, hx1, hx2, hx3, hx4, hx5, hx6⟩ := cells7 H_5.out
  go_wp2_with fail
  refine (HSZ.out _).mono ?_
  rintro e w6 ⟨rfl, hb_⟩
  have HB_6 := Aside0.mk (below_step HB_5.out hb_)
  have H_6 := Aside0.mk (blk_below H_5.out hb_)
  have X0_6 := Aside0.mk (Kd.R_below X0_5.out hb_)
  have X1_6 := Aside0.mk (Kd.R_below X1_5.out hb_)
  have X2_6 := Aside0.mk (Kd.R_below X2_5.out hb_)
  have Z_6 := Aside0.mk (blk_below Z_5.out hb_)
  clear HB_5 H_5 X0_5 X1_5 X2_5 Z_5
  clear hz0 hz1 hz2 hz3 hz4 hx0 hx1 hx2 hx3 hx4 hx5 hx6
  clear hb_ HSZ
  obtain ⟨hz0, hz1, hz2, hz3, hz4⟩ := zone_cells Z_6.out
  go_wp2_with fail
  clear q0 q1 q2 q3 q4
  refine (HENC.out X0 Xc0 X1 Xc1 X2 Xc2 _ (Kd.R_reads' X0_6.out).2.2 (Kd.R_reads' X0_6.out).2.1 (Kd.R_reads' X1_6.out).2.2 (Kd.R_reads' X1_6.out).2.1 (Kd.R_reads' X2_6.out).2.2 (Kd.R_reads' X2_6.out).2.1).mono ?_
  rintro e w7 ⟨v0, rfl, hv, hb_⟩
  obtain ⟨AB, cB, rfl⟩ := Kd.R_slice hv
  have HB_7 := Aside0.mk (below_step HB_6.out hb_)
  have H_7 := Aside0.mk (blk_below H_6.out hb_)
  have X0_7 := Aside0.mk (Kd.R_below X0_6.out hb_)
  have X1_7 := Aside0.mk (Kd.R_below X1_6.out hb_)
  have X2_7 := Aside0.mk (Kd.R_below X2_6.out hb_)
  have Z_7 := Aside0.mk (blk_below Z_6.out hb_)
  clear HB_6 H_6 X0_6 X1_6 X2_6 Z_6
  clear hz0 hz1 hz2 hz3 hz4
  have B_7 := Aside0.mk (hv)
  clear hb_ hv HENC
  obtain ⟨hz0, hz1, hz2, hz3, hz4⟩ := zone_cells Z_7.out
  go_wp2_with fail
  refine (HCT.out X0 Xc0 X1 Xc1 X2 Xc2 _ (Kd.R_reads' X0_7.out).2.2 (Kd.R_reads' X0_7.out).2.1 (Kd.R_reads' X1_7.out).2.2 (Kd.R_reads' X1_7.out).2.1 (Kd.R_reads' X2_7.out).2.2 (Kd.R_reads' X2_7.out).2.1).mono ?_
  rintro e w8 ⟨rfl, hb_⟩
  have HB_8 := Aside0.mk (below_step HB_7.out hb_)
  have H_8 := Aside0.mk (blk_below H_7.out hb_)
  have X0_8 := Aside0.mk (Kd.R_below X0_7.out hb_)
  have X1_8 := Aside0.mk (Kd.R_below X1_7.out hb_)
  have X2_8 := Aside0.mk (Kd.R_below X2_7.out hb_)
  have Z_8 := Aside0.mk (blk_below Z_7.out hb_)
  have B_8 := Aside0.mk (Kd.R_below B_7.out hb_)
  clear HB_7 H_7 X0_7 X1_7 X2_7 Z_7 B_7
  clear hz0 hz1 hz2 hz3 hz4
  clear hb_ HCT
  go_wp2_with ((with_reducible refine gate_dst (N := 14) rfl ?_); refine box_event ?hg (N := 14) ?hd (cs := #[.int .i64 0, .int .i64 0, .int .i64 0, .int .i64 0, .int .i64 0, .int .i64 0, .int .i64 0]) (t := 28) ?hr ?_; (case hd => rfl); (case hg => rfl); (case hr => first | (go_simp; done) | (go_simp; rfl)); intro gg hg_ w9 hbox hb_; have HN := Aside0.mk hb_; have HBX := Aside0.mk hbox; have GG : Aside0 (w8.heap.size ≤ gg) := ⟨Nat.le_of_eq hg_.symm⟩; obtain ⟨hy0, hy1, hy2, hy3, hy4, hy5, hy6⟩ := cells7 hbox; have f0 := blk_frozen hbox 0; have f1 := blk_frozen hbox 1; have f2 := blk_frozen hbox 2; have f3 := blk_frozen hbox 3; have f4 := blk_frozen hbox 4; have f5 := blk_frozen hbox 5; have f6 := blk_frozen hbox 6; clear hbox hb_ hg_)
  have HX := Aside0.mk (set7_below HN.out GG.out (.int .i64 v) (.int .i64 0) (.int .i64 0) (.int .i64 L.length) (.int .i64 R.length) (.int .i64 T.length) (.int .i64 pn))
  have HY := Aside0.mk (set7_blk HBX.out (.int .i64 v) (.int .i64 0) (.int .i64 0) (.int .i64 L.length) (.int .i64 R.length) (.int .i64 T.length) (.int .i64 pn))
  unfold set7 at HX HY
  clear HBX HN hy0 f0 hy1 f1 hy2 f2 hy3 f3 hy4 f4 hy5 f5 hy6 f6
  generalize (((((((w9.setCell ⟨gg, 0, none⟩ (.int .i64 v)).setCell ⟨gg, 1, none⟩ (.int .i64 0)).setCell ⟨gg, 2, none⟩ (.int .i64 0)).setCell ⟨gg, 3, none⟩ (.int .i64 L.length)).setCell ⟨gg, 4, none⟩ (.int .i64 R.length)).setCell ⟨gg, 5, none⟩ (.int .i64 T.length)).setCell ⟨gg, 6, none⟩ (.int .i64 pn)) = w10 at *
  have HB_10 := Aside0.mk (below_step HB_8.out HX.out)
  have H_10 := Aside0.mk (blk_below H_8.out HX.out)
  have X0_10 := Aside0.mk (Kd.R_below X0_8.out HX.out)
  have X1_10 := Aside0.mk (Kd.R_below X1_8.out HX.out)
  have X2_10 := Aside0.mk (Kd.R_below X2_8.out HX.out)
  have Z_10 := Aside0.mk (blk_below Z_8.out HX.out)
  have B_10 := Aside0.mk (Kd.R_below B_8.out HX.out)
  clear HB_8 H_8 X0_8 X1_8 X2_8 Z_8 B_8
  have G_10 := Aside0.mk (HY.out)
  clear HX HY
  refine (HD2.out AB cB _ (Kd.R_reads' B_10.out).2.2 (Kd.R_reads' B_10.out).2.1).mono ?_
  rintro e w11 ⟨v0, v1, v2, rfl, hr0, hr1, hr2, hb_⟩
  obtain ⟨Y0, Yc0, rfl⟩ := Kd.R_slice hr0
  obtain ⟨Y1, Yc1, rfl⟩ := Kd.R_slice hr1
  obtain ⟨Y2, Yc2, rfl⟩ := Kd.R_slice hr2
  have HB_11 := Aside0.mk (below_step HB_10.out hb_)
  have H_11 := Aside0.mk (blk_below H_10.out hb_)
  have X0_11 := Aside0.mk (Kd.R_below X0_10.out hb_)
  have X1_11 := Aside0.mk (Kd.R_below X1_10.out hb_)
  have X2_11 := Aside0.mk (Kd.R_below X2_10.out hb_)
  have Z_11 := Aside0.mk (blk_below Z_10.out hb_)
  have B_11 := Aside0.mk (Kd.R_below B_10.out hb_)
  have G_11 := Aside0.mk (blk_below G_10.out hb_)
  clear HB_10 H_10 X0_10 X1_10 X2_10 Z_10 B_10 G_10
  have Y0_11 := Aside0.mk (hr0)
  have Y1_11 := Aside0.mk (hr1)
  have Y2_11 := Aside0.mk (hr2)
  clear hb_ hr0 hr1 hr2 HD2
  go_upto_region 15 with ((with_reducible refine gate_dst (N := 16) rfl ?_); refine box_event ?hg (N := 16) ?hd (cs := #[.slice none 0 0, .slice none 0 0, .slice none 0 0, .string ⟨#[]⟩, .int .i64 0]) (t := 26) ?hr ?_; (case hd => rfl); (case hg => rfl); (case hr => first | (go_simp; done) | (go_simp; rfl)); intro gy hg_ w12 hbox hb_; have HN := Aside0.mk hb_; have HBX := Aside0.mk hbox; have GY : Aside0 (w11.heap.size ≤ gy) := ⟨Nat.le_of_eq hg_.symm⟩; obtain ⟨hy0, hy1, hy2, hy3, hy4⟩ := zone_cells hbox; have f0 := blk_frozen hbox 0; have f1 := blk_frozen hbox 1; have f2 := blk_frozen hbox 2; have f3 := blk_frozen hbox 3; have f4 := blk_frozen hbox 4; clear hbox hb_ hg_)
  have HX := Aside0.mk (set5_below HN.out GY.out (.slice Y0 T.length Yc0) (.slice Y1 R.length Yc1) (.slice Y2 L.length Yc2) (.string ⟨#[]⟩) (.int .i64 v))
  have HY := Aside0.mk (set5_blk HBX.out (.slice Y0 T.length Yc0) (.slice Y1 R.length Yc1) (.slice Y2 L.length Yc2) (.string ⟨#[]⟩) (.int .i64 v))
  unfold set5 at HX HY
  clear HBX HN hy0 f0 hy1 f1 hy2 f2 hy3 f3 hy4 f4
  generalize (((((w12.setCell ⟨gy, 0, none⟩ (.slice Y0 T.length Yc0)).setCell ⟨gy, 1, none⟩ (.slice Y1 R.length Yc1)).setCell ⟨gy, 2, none⟩ (.slice Y2 L.length Yc2)).setCell ⟨gy, 3, none⟩ (.string ⟨#[]⟩)).setCell ⟨gy, 4, none⟩ (.int .i64 v)) = w13 at *
  have HB_13 := Aside0.mk (below_step HB_11.out HX.out)
  have H_13 := Aside0.mk (blk_below H_11.out HX.out)
  have X0_13 := Aside0.mk (Kd.R_below X0_11.out HX.out)
  have X1_13 := Aside0.mk (Kd.R_below X1_11.out HX.out)
  have X2_13 := Aside0.mk (Kd.R_below X2_11.out HX.out)
  have Z_13 := Aside0.mk (blk_below Z_11.out HX.out)
  have B_13 := Aside0.mk (Kd.R_below B_11.out HX.out)
  have G_13 := Aside0.mk (blk_below G_11.out HX.out)
  have Y0_13 := Aside0.mk (Kd.R_below Y0_11.out HX.out)
  have Y1_13 := Aside0.mk (Kd.R_below Y1_11.out HX.out)
  have Y2_13 := Aside0.mk (Kd.R_below Y2_11.out HX.out)
  clear HB_11 H_11 X0_11 X1_11 X2_11 Z_11 B_11 G_11 Y0_11 Y1_11 Y2_11
  have Y_13 := Aside0.mk (HY.out)
  clear HX HY
  obtain ⟨hz0, hz1, hz2, hz3, hz4⟩ := zone_cells Z_13.out
  obtain ⟨hy0, hy1, hy2, hy3, hy4⟩ := zone_cells Y_13.out
  go_wp2_with fail
  refine (HSAME.out Y0 Yc0 Y1 Yc1 Y2 Yc2 X0 Xc0 X1 Xc1 X2 Xc2 _ (Kd.R_reads' Y0_13.out).2.2 (Kd.R_reads' Y0_13.out).2.1 (Kd.R_reads' Y1_13.out).2.2 (Kd.R_reads' Y1_13.out).2.1 (Kd.R_reads' Y2_13.out).2.2 (Kd.R_reads' Y2_13.out).2.1 (Kd.R_reads' X0_13.out).2.2 (Kd.R_reads' X0_13.out).2.1 (Kd.R_reads' X1_13.out).2.2 (Kd.R_reads' X1_13.out).2.1 (Kd.R_reads' X2_13.out).2.2 (Kd.R_reads' X2_13.out).2.1).mono ?_
  rintro e w14 ⟨rfl, hb_⟩
  have HB_14 := Aside0.mk (below_step HB_13.out hb_)
  have H_14 := Aside0.mk (blk_below H_13.out hb_)
  have X0_14 := Aside0.mk (Kd.R_below X0_13.out hb_)
  have X1_14 := Aside0.mk (Kd.R_below X1_13.out hb_)
  have X2_14 := Aside0.mk (Kd.R_below X2_13.out hb_)
  have Z_14 := Aside0.mk (blk_below Z_13.out hb_)
  have B_14 := Aside0.mk (Kd.R_below B_13.out hb_)
  have G_14 := Aside0.mk (blk_below G_13.out hb_)
  have Y0_14 := Aside0.mk (Kd.R_below Y0_13.out hb_)
  have Y1_14 := Aside0.mk (Kd.R_below Y1_13.out hb_)
  have Y2_14 := Aside0.mk (Kd.R_below Y2_13.out hb_)
  have Y_14 := Aside0.mk (blk_below Y_13.out hb_)
  clear HB_13 H_13 X0_13 X1_13 X2_13 Z_13 B_13 G_13 Y0_13 Y1_13 Y2_13 Y_13
  clear hz0 hz1 hz2 hz3 hz4 hy0 hy1 hy2 hy3 hy4
  clear hb_ HSAME
  go_wp2_with fail
  go_ret
  all_goals exact ⟨rfl, HB_14.out⟩
theorem reads_walk (v u s l t ty c : Int) (A1 : Option Addr) (c1 : Nat) (b : List Int) (size : Int) (w : World)
    (i1 : b.length ≤ c1) (j1 : Kd.C (Kd.int .u8) w A1 b.length b) (hb : B8 b) :
    Calls Try.prog 6 #[.agg #[.int .i64 v, .int .i64 u, .int .i64 s, .int .i64 l, .int .i64 t, .int .i64 ty, .int .i64 c], .slice A1 b.length c1, .int .i64 size] w fun e w' => e = .returned (.bool true) ∧ Below w.heap.size w w' := by
  by_cases hl : 2000 < b.length
  · exact reads_long v u s l t ty c A1 c1 b size w hl
  · have hl2 : b.length ≤ 2000 := by omega
    have hdf : decF v u s l t ty c b size = some (decN v u s l t ty c b size) := by unfold decF; rw [decide_eq_true (show b.length ≤ 1000000 by omega)]
    rcases dec_out v u s l t ty c b size hb (by omega) with h | ⟨T, R, L, h, rfl, rfl, rfl, hsz, hz, hok, h1, h2, h3, hg⟩
    · exact reads_no v u s l t ty c A1 c1 b size w i1 j1 hl2 (hdf.trans (by rw [h]))
    · cases hc : (countN T R L v).2.2.2.2.2.2.2 with
      | false => exact reads_not v u s c T R L A1 c1 b size w i1 j1 hl2 (hdf.trans (by rw [h])) hsz hok (hg.trans hc) hc.symm
      | true => exact reads_yes v u s c T R L A1 c1 b size w i1 j1 hl2 (hdf.trans (by rw [h])) hsz hok (hg.trans hc) (dec_again hz h1 h2 h3 (hg.trans hc))
end Go.Proofs.Ytpgjcnjojfehjaa.Bk
/- A head that is handed in: seven numbers. (The proof of a struct of six fields of the guides, with one name more.) -/
namespace Go.Proofs.Ytpgjcnjojfehjaa.Oct
open Go.Joins Go.ChangeShapes Go.WideShapes Go.RowKit Go.Deep
section
variable {H : Type} {enc : TypeId × Value → H} {P : Program} {w : World} {base : Nat} {spare : Nat → Bool} {held : Bool}
theorem open_agg7 {r : Reach} {b0 : Nat} {t : TypeId} {f0 f1 f2 f3 f4 f5 f6 : Field} {v : Value} {d : DataW H} {p : List MemPlace} (hs : P.underlying t = some (.struct #[f0, f1, f2, f3, f4, f5, f6])) (hone : oneCellFields P #[f0, f1, f2, f3, f4, f5, f6] = true) (hC : P.cellsOf t = 7)
    (hv : Value.okWide P w r b0 t v) (h : DataW.Trod enc P w base spare held t v d p) :
    ∃ (v0 v1 v2 v3 v4 v5 v6 : Value) (y0 y1 y2 y3 y4 y5 y6 : DataW H × List MemPlace) (n : Nat), v = .agg #[v0, v1, v2, v3, v4, v5, v6] ∧
      DataW.trod enc P w base spare held n f0.type [v0] = some y0 ∧ DataW.trod enc P w base spare held n f1.type [v1] = some y1 ∧ DataW.trod enc P w base spare held n f2.type [v2] = some y2 ∧ DataW.trod enc P w base spare held n f3.type [v3] = some y3 ∧ DataW.trod enc P w base spare held n f4.type [v4] = some y4 ∧ DataW.trod enc P w base spare held n f5.type [v5] = some y5 ∧ DataW.trod enc P w base spare held n f6.type [v6] = some y6 := by
  obtain ⟨cs, rfl, hsz⟩ := okWide_struct hs hv
  obtain ⟨l⟩ := cs
  match l, hsz.trans hC with
  | [c0, c1, c2, c3, c4, c5, c6], _ =>
    obtain ⟨fuel, hf⟩ := h
    obtain ⟨xs, n, _, hx, _, hlen, hg⟩ := DataW.trod_struct hs hf
    obtain ⟨o0, k0⟩ := hone_of hone 0 f0 rfl
    obtain ⟨o1, k1⟩ := hone_of hone 1 f1 rfl
    obtain ⟨o2, k2⟩ := hone_of hone 2 f2 rfl
    obtain ⟨o3, k3⟩ := hone_of hone 3 f3 rfl
    obtain ⟨o4, k4⟩ := hone_of hone 4 f4 rfl
    obtain ⟨o5, k5⟩ := hone_of hone 5 f5 rfl
    obtain ⟨o6, k6⟩ := hone_of hone 6 f6 rfl
    match xs, hlen with
    | [y0, y1, y2, y3, y4, y5, y6], _ =>
      exact ⟨c0, c1, c2, c3, c4, c5, c6, y0, y1, y2, y3, y4, y5, y6, n, rfl, by simpa [Value.cells, o0, k0] using hg 0 f0 rfl, by simpa [Value.cells, o1, k1] using hg 1 f1 rfl, by simpa [Value.cells, o2, k2] using hg 2 f2 rfl, by simpa [Value.cells, o3, k3] using hg 3 f3 rfl, by simpa [Value.cells, o4, k4] using hg 4 f4 rfl, by simpa [Value.cells, o5, k5] using hg 5 f5 rfl, by simpa [Value.cells, o6, k6] using hg 6 f6 rfl⟩
end
theorem open_head {H : Type} {enc : TypeId × Value → H} {w : World} {base : Nat} {spare : Nat → Bool} {held : Bool} {r : Reach} {b0 : Nat} {v : Value} {d : DataW H} {p : List MemPlace}
    (hv : Value.okWide Try.prog w r b0 28 v) (h : DataW.Trod enc Try.prog w base spare held 28 v d p) :
    ∃ x0 x1 x2 x3 x4 x5 x6 : Int, v = .agg #[.int .i64 x0, .int .i64 x1, .int .i64 x2, .int .i64 x3, .int .i64 x4, .int .i64 x5, .int .i64 x6] := by
  obtain ⟨v0, v1, v2, v3, v4, v5, v6, y0, y1, y2, y3, y4, y5, y6, n, rfl, h0, h1, h2, h3, h4, h5, h6⟩ := open_agg7 Try.underlying28 (by kernel_rfl) (by kernel_rfl) hv h
  obtain ⟨x0, e0, _⟩ := DataW.trod_int Try.underlying3 h0
  obtain ⟨x1, e1, _⟩ := DataW.trod_int Try.underlying3 h1
  obtain ⟨x2, e2, _⟩ := DataW.trod_int Try.underlying3 h2
  obtain ⟨x3, e3, _⟩ := DataW.trod_int Try.underlying3 h3
  obtain ⟨x4, e4, _⟩ := DataW.trod_int Try.underlying3 h4
  obtain ⟨x5, e5, _⟩ := DataW.trod_int Try.underlying3 h5
  obtain ⟨x6, e6, _⟩ := DataW.trod_int Try.underlying3 h6
  simp at e0 e1 e2 e3 e4 e5 e6
  subst e0 e1 e2 e3 e4 e5 e6
  exact ⟨x0, x1, x2, x3, x4, x5, x6, rfl⟩
end Go.Proofs.Ytpgjcnjojfehjaa.Oct
/- BlockReads: what is read may be laid, and is then read as it was; no condition. -/
namespace Go.Proofs.Ytpgjcnjojfehjaa.blockReads
open Go.ChangeShapes Go.WideShapes Go.ChangeAt Go.RowKit
open Go.ChangeMaps (open_string shut_string)
theorem own : ownKnob Try.prog.godebug = none := by kernel_rfl
theorem laidOut : laidOutB Try.prog = true := by kernel_rfl
def IsRow (k : IntKind) (w : World) (a : Option Addr) (len cap : Nat) (zs : List Int) : Prop :=
  (a = none ∧ len = 0 ∧ cap = 0 ∧ zs = []) ∨
  ∃ x, a = some x ∧ len ≤ cap ∧ cap ≤ maxLen ∧ zs.length = cap ∧ (∀ i, i < zs.length → w.cell? (x.add i) = some (.int k (zs.getD i 0))) ∧ ∀ n ∈ zs, (Lit.int k n).wf = true
set_option maxHeartbeats 1000000 in
set_option maxRecDepth 100000 in
theorem lifted (os : Os) (started : os.Started) (H : Type) (enc : TypeId × Value → H) :
    ReturnsInHanded {} Try.checked os 6 .any (Rows.blockReadsSpec.pre6 enc Try.prog Try.f6 Rows.blockReadsRow.domain false) (Rows.blockReadsSpec.post enc Try.prog Try.f6 false true false false) := by
  refine returnsInHanded_of_change_sized (C := Try.checked) own started (by kernel_rfl) Try.func6
    (ChangeSpec.witness6 (enc := enc) (C := Try.checked) false ⟨#[], #[.agg #[.int .i64 0, .int .i64 0, .int .i64 0, .int .i64 0, .int .i64 0, .int .i64 0, .int .i64 0], .slice none 0 0, .int .i64 0], []⟩ 8 (by kernel_rfl) (by kernel_rfl) (by kernel_rfl) (by kernel_rfl)) ?_
  intro W base args ds gs before hval0 hW hcnd hsz0 _
  have hsz : (DataW.weightsEach Try.prog (Try.f6.params.toList ++ Rows.blockReadsSpec.plain.varTypes Try.prog) (ds ++ gs)).all (· ≤ reachBytes) = true := hsz0
  have hval : ∀ (j : Nat) t v, Try.f6.params[j]? = some t → args[j]? = some v → Value.okWide Try.prog W .any base t v := hval0
  have hW' := hW
  obtain ⟨p, q, hA0, hV, rfl, hfz, hnd⟩ := hW
  have hA : DataW.TrodAll enc Try.prog W 0 (fun _ => true) true Try.f6.params.toList args.toList ds p := hA0
  rw [Try.params6] at hA hval hsz
  obtain ⟨v0, vs0, d0, ds0, p0, q0, hargs, rfl, rfl, h0, r0⟩ := trodAll_cons hA
  obtain ⟨v1, vs1, d1, ds1, p1, q1, rfl, rfl, rfl, h1, r1⟩ := trodAll_cons r0
  obtain ⟨v2, vs2, d2, ds2, p2, q2, rfl, rfl, rfl, h2, r2⟩ := trodAll_cons r1
  obtain ⟨rfl, rfl, rfl⟩ := trodAll_nil r2
  obtain rfl : args = #[v0, v1, v2] := by cases args; simp_all
  obtain ⟨rfl, rfl⟩ := trodVars_none hV
  have k0 := h0
  have lt0 : ∀ x ∈ p0, x.block < W.heap.size := by obtain ⟨m, hm⟩ := k0; exact DataW.trod_lt m _ _ _ hm
  obtain ⟨x0_0, x0_1, x0_2, x0_3, x0_4, x0_5, x0_6, rfl⟩ := Oct.open_head (hval 0 28 v0 rfl rfl) h0
  obtain ⟨a1, len1, cap1, rfl⟩ := okWide_slice Try.underlying29 (hval 1 29 v1 rfl rfl)
  have k1 := h1
  have lt1 : ∀ x ∈ p1, x.block < W.heap.size := by obtain ⟨m, hm⟩ := k1; exact DataW.trod_lt m _ _ _ hm
  obtain ⟨z1, w1⟩ : ∃ zs, IsRow .u8 W a1 len1 cap1 zs := by
    obtain ⟨fuel, hf⟩ := h1
    rcases open_ints Try.underlying29 Try.underlying5 (by kernel_rfl) hf with ⟨hcs, _⟩ | ⟨x, l, c, zs, hcs, _, hl, hm, hz, _, hcell, hwz⟩
    · simp [Value.cells] at hcs
      obtain ⟨rfl, rfl, rfl⟩ := hcs
      exact ⟨[], .inl ⟨rfl, rfl, rfl, rfl⟩⟩
    · simp [Value.cells] at hcs
      obtain ⟨rfl, rfl, rfl⟩ := hcs
      exact ⟨zs, .inr ⟨_, rfl, hl, hm, by simpa using hz, hcell, hwz⟩⟩
  have y1 : len1 * 1 ≤ 140737488351232 := Go.Proofs.YtpgjcnjojfehjaaW.PrintWords.sized_ints hsz (j := 1) (t := 29) rfl rfl Try.underlying29 Try.underlying5 (by kernel_rfl) (by kernel_rfl) h1
  obtain ⟨l1, rfl, hq1, hm1, hw1, hc1⟩ := Go.Proofs.YtpgjcnjojfehjaaW.PrintWords.ReadsInt.ofRowC w1
  have hr1 := Go.Proofs.YtpgjcnjojfehjaaW.PrintWords.Kd.C_of_reads (d := (0 : Int)) (h1 := fun _ => rfl) hq1
  obtain ⟨a2, rfl, rfl, rfl, w2⟩ := open_int Try.underlying3 (hval 2 3 v2 rfl rfl) h2
  clear hA0 hval0 hsz0 hsz
  refine (Bk.reads_walk x0_0 x0_1 x0_2 x0_3 x0_4 x0_5 x0_6 a1 cap1 l1 a2 W hc1 hr1 (Oct.B8_of hw1)).mono fun e W' ⟨he, bel⟩ => ?_
  subst he
  exact ⟨_, rfl, _, _, _, [], _, [], hW', trodAll_mk1 (shut_bool Try.underlying4 _), (trodAll_cons_mk (Below.trod laidOut (by kernel_rfl) (of_decide_eq_true (by kernel_rfl)) k0 bel lt0) (trodAll_cons_mk (Below.trod laidOut (by kernel_rfl) (of_decide_eq_true (by kernel_rfl)) k1 bel lt1) (trodAll_cons_mk (shut_int Try.underlying3 w2) trodAll_mk0))), rfl, bel.frame _, fun h => by cases h⟩
theorem over : Rows.blockReadsRow.holds Try.pinned (OpenSpec.ofChange Rows.blockReadsSpec) :=
  OpenClaim.holds_of_wide 6 Try.f6 rfl rfl rfl rfl rfl rfl rfl ⟨rfl, rfl, rfl, rfl, rfl⟩ rfl rfl rfl rfl rfl (by kernel_rfl) Try.func6 (by kernel_rfl)
    (of_decide_eq_true (by kernel_rfl)) (by unfold Func.isWrapper; first | (rw [if_pos (by decide +kernel)]; kernel_rfl) | (rw [if_neg (by decide +kernel)]; exact ⟨rfl, rfl⟩))
    (fun os started H enc _ => lifted os started H enc)
theorem proved : Rows.BlockReadsSaid := over
#print axioms proved
end Go.Proofs.Ytpgjcnjojfehjaa.blockReads
namespace Go.Proofs.Ytpgjcnjojfehjaa
/-- The row, under a short name, for the claim. -/
theorem blockReads_holds : Rows.BlockReadsSaid := blockReads.proved
end Go.Proofs.Ytpgjcnjojfehjaa
