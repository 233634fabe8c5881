/- Texts of chapter 16 laid together (wip/block/merge16.py): BkV, MarksHand, LawBlockMarks. -/
import Derived.Test.YtpgjcnjojfehjaaM3
import Derived.Outline
import Derived.Test.YtpgjcnjojfehjaaRows
import Derived.WalkKit
import Derived.ProofKit
import Derived.OpenShut
import Derived.ShutString
import Derived.ChangeOld
import Derived.Below
import Derived.SizedLaws
import Derived.ChangeSlices
import Derived.Test.YtpgjcnjojfehjaaWSized
/- A zone's data with marks behind it: plain laws; condition: the zone's numbers are numbers of 64 bits. -/
namespace Go.Proofs.Ytpgjcnjojfehjaa.Bk
open Go.RowKit Go.Proofs.YtpgjcnjojfehjaaW.PrintWords Go.Proofs.YtpgjcnjojfehjaaW.PrintLast Go.Proofs.YtpgjcnjojfehjaaW.PrintMore Oct Kx Ab

theorem size_marks {ty : List S46} {tr : List S48} {lp : List S50} {ver size : Int} (hg : encG ty tr lp ver size = true) :
    sizeF ver ty.length ty.length lp.length tr.length ty.length (poolT (namesL ty)).1.size size = (bodyN ty tr lp size).length + 2 * ty.length := by
  have hl := body_len hg
  obtain ⟨-, h2, h3, -⟩ := enc_parts hg
  have h4 := of_decide_eq_true h2
  have hr : rightS ver ty.length ty.length lp.length tr.length ty.length (poolT (namesL ty)).1.size = true := decide_eq_true (by omega)
  unfold sizeF at hl ⊢
  rw [h2] at hl
  rw [hr]
  simp only at hl ⊢
  rw [if_pos h3] at hl ⊢
  omega
theorem zone_marks {ty : List S46} {tr : List S48} {lp : List S50} {ver size : Int} (hz : RZ ty tr lp) (hg : encG ty tr lp ver size = true) (std ut : List Int) (hs : std.length = ty.length) (hu : ut.length = ty.length) :
    decN ver ty.length ty.length lp.length tr.length ty.length (poolT (namesL ty)).1.size (bodyN ty tr lp size ++ (std ++ ut)) size = match markS std ut with | true => (ty, tr, lp, ⟨#[]⟩, ver, true) | false => ([], [], [], ⟨#[]⟩, 0, false) := by
  have hlen0 := body_len hg
  have hsz := size_marks hg
  have hlen : ((bodyN ty tr lp size ++ (std ++ ut)).length : Int) = sizeF ver ty.length ty.length lp.length tr.length ty.length (poolT (namesL ty)).1.size size := by
    rw [hsz, List.length_append, List.length_append, hs, hu]; omega
  obtain ⟨h1, h2, h3, h4, h5, h6, h7⟩ := enc_parts hg
  have hn : (namesL ty).length = ty.length := by unfold namesL; rw [List.length_map]
  have hat : (poolT (namesL ty)).2.1.length = ty.length := by rw [pool_ats h1, hn]
  have hty : 1 ≤ ty.length := by unfold rightS at h2; rw [decide_eq_true_eq] at h2; omega
  have hne : sizeF ver ty.length ty.length lp.length tr.length ty.length (poolT (namesL ty)).1.size size ≠ 0 := by
    rw [← hlen, List.length_append, List.length_append, hs, hu]; omega
  have hb : bodyN ty tr lp size ++ (std ++ ut) = lay (numsT tr size) ++ (lay (numsK tr) ++ (lay (numsY ty (poolT (namesL ty)).2.1) ++ (bytesOf (poolT (namesL ty)).1 ++ (lay (numsL lp size) ++ (std ++ ut))))) := by
    have hbo : bodyN ty tr lp size = lay (numsA ty tr size) ++ bytesOf (poolT (namesL ty)).1 ++ lay (numsL lp size) := rfl
    rw [hbo]
    unfold numsA
    rw [lay_app, lay_app]
    simp only [List.append_assoc]
  obtain ⟨L1, b1, b2, b3, -⟩ := trA_back size tr (lay (numsK tr) ++ (lay (numsY ty (poolT (namesL ty)).2.1) ++ (bytesOf (poolT (namesL ty)).1 ++ (lay (numsL lp size) ++ (std ++ ut))))) (fun t ht => (hz.2.1 t ht).1) h4 tr.length (Nat.le_refl _)
  rw [← hb, List.drop_length] at b1
  obtain ⟨L2, c1, c2, c3, -⟩ := trB_back tr L1 (lay (numsY ty (poolT (namesL ty)).2.1) ++ (bytesOf (poolT (namesL ty)).1 ++ (lay (numsL lp size) ++ (std ++ ut)))) (fun t ht => (hz.2.1 t ht).2) h5 b2 (fun i h => by rw [b3 i h, if_pos h]) tr.length (Nat.le_refl _)
  rw [List.drop_length] at c1
  have hL2 : L2 = tr := List.ext_getElem? fun i => by
    by_cases h : i < tr.length
    · rw [c3 i h, if_pos h, List.getElem?_eq_getElem h]
    · rw [List.getElem?_eq_none (by omega), List.getElem?_eq_none (by omega)]
  subst hL2
  obtain ⟨d1, -⟩ := tyK_back (bytesOf (poolT (namesL ty)).1 ++ (lay (numsL lp size) ++ (std ++ ut))) ty _ hat hz.1 h6 ty.length (Nat.le_refl _)
  rw [List.drop_length, List.take_length, ← hat, List.drop_length, List.take_length] at d1
  rw [hat] at d1
  obtain ⟨L3, e1, e2, e3⟩ := nmK_back (poolT (namesL ty)).1 (poolT (namesL ty)).2.1 ty hat (fun i h => by
    rw [pool_places h1 i (by omega)]
    unfold namesL
    rw [List.getElem_map]) ty.length (Nat.le_refl _)
  have hL3 : L3 = ty := List.ext_getElem? fun i => by
    by_cases h : i < ty.length
    · rw [e3 i h, if_pos h, List.getElem?_eq_getElem h]
    · rw [List.getElem?_eq_none (by omega), List.getElem?_eq_none (by omega)]
  rw [hL3] at e1
  obtain ⟨f1, -⟩ := lpK_back size (std ++ ut) lp hz.2.2 h7 lp.length (Nat.le_refl _)
  rw [List.drop_length, List.take_length] at f1
  have t1 : takeS (bytesOf (poolT (namesL ty)).1 ++ (lay (numsL lp size) ++ (std ++ ut))) false (poolT (namesL ty)).1.size = (bytesOf (poolT (namesL ty)).1, lay (numsL lp size) ++ (std ++ ut), false) := take_all (by rw [bytesOf_length])
  have t2 : takeS (std ++ ut) false (ty.length : Int) = (std, ut, false) := take_all (by rw [hs])
  have t3 : takeS ut false (ty.length : Int) = (ut, [], false) := by have h := take_all (p := ut) (rest := []) (n := (ty.length : Int)) (by rw [hu]); rwa [List.append_nil] at h
  rw [dec_all (tyf := ty.map noNm) ⟨hne, hlen⟩ b1 c1 d1 t1 (str_back _) e1 f1 (t2 : takeS _ false (ty.length : Int) = (std, ut, false)) t3]
  rw [Bool.and_true]
  all_goals (cases markS std ut <;> rfl)

theorem P0 : ∀ n : Nat, markP (List.replicate n 0) (List.replicate n 0) = true
  | 0 => rfl
  | n + 1 => by
    rw [List.replicate_succ]
    show (if (0 : Int) = 1 ∧ (0 : Int) ≠ 1 then false else markP (List.replicate n 0) (List.replicate n 0)) = true
    rw [if_neg (by omega)]
    exact P0 n
theorem P1 : ∀ (n k : Nat), k < n → markP (List.replicate n 0) ((List.replicate n 0).set k 1) = false
  | 0, k, h => absurd h (Nat.not_lt_zero k)
  | n + 1, 0, _ => by
    rw [List.replicate_succ]
    show (if (1 : Int) = 1 ∧ (0 : Int) ≠ 1 then false else markP (List.replicate n 0) (List.replicate n 0)) = false
    rw [if_pos (by omega)]
  | n + 1, k + 1, h => by
    rw [List.replicate_succ]
    show (if (0 : Int) = 1 ∧ (0 : Int) ≠ 1 then false else markP (List.replicate n 0) ((List.replicate n 0).set k 1)) = false
    rw [if_neg (by omega)]
    exact P1 n k (by omega)
theorem P2 : ∀ (n k : Nat), markP ((List.replicate n 0).set k 1) ((List.replicate n 0).set k 1) = true
  | 0, _ => rfl
  | n + 1, 0 => by
    rw [List.replicate_succ]
    show (if (1 : Int) = 1 ∧ (1 : Int) ≠ 1 then false else markP (List.replicate n 0) (List.replicate n 0)) = true
    rw [if_neg (by omega)]
    exact P0 n
  | n + 1, k + 1 => by
    rw [List.replicate_succ]
    show (if (0 : Int) = 1 ∧ (0 : Int) ≠ 1 then false else markP ((List.replicate n 0).set k 1) ((List.replicate n 0).set k 1)) = true
    rw [if_neg (by omega)]
    exact P2 n k
theorem any_rep (n : Nat) : (List.replicate n (0 : Int)).any (fun c => decide (c > 1)) = false := by
  rw [List.any_eq_false]
  intro x hx
  rw [List.eq_of_mem_replicate hx]
  decide
theorem any_set1 (n k : Nat) : ((List.replicate n (0 : Int)).set k 1).any (fun c => decide (c > 1)) = false := by
  rw [List.any_eq_false]
  intro x hx
  rcases List.mem_or_eq_of_mem_set hx with h | rfl
  · rw [List.eq_of_mem_replicate h]; decide
  · decide
theorem any_set2 {n k : Nat} (h : k < n) : ((List.replicate n (0 : Int)).set k 2).any (fun c => decide (c > 1)) = true := by
  rw [List.any_eq_true]
  exact ⟨2, List.mem_iff_getElem.2 ⟨k, by simp [h], by simp⟩, by decide⟩
theorem marks0 (n : Nat) : markS (List.replicate n 0) (List.replicate n 0) = true := by
  unfold markS; rw [P0, any_rep]; rfl
theorem marks1 {n k : Nat} (h : k < n) : markS (List.replicate n 0) ((List.replicate n 0).set k 1) = false := by
  unfold markS; rw [P1 n k h]; rfl
theorem marks2 (n k : Nat) : markS ((List.replicate n 0).set k 1) ((List.replicate n 0).set k 1) = true := by
  unfold markS; rw [P2, any_set1]; rfl
theorem marks3 {n k : Nat} (h : k < n) : markS ((List.replicate n 0).set k 2) ((List.replicate n 0).set k 1) = false := by
  unfold markS; rw [any_set2 h]; simp
end Go.Proofs.Ytpgjcnjojfehjaa.Bk
/- BlockMarks: the walk by hand; condition: none. -/
namespace Go.Proofs.Ytpgjcnjojfehjaa.Bk
open Go.RowKit Go.Proofs.YtpgjcnjojfehjaaW.PrintWords Go.Proofs.YtpgjcnjojfehjaaW.PrintLast Go.Proofs.YtpgjcnjojfehjaaW.PrintMore Oct Kx Ab PBlBack

theorem marks_small {ty : List S46} {tr : List S48} {lp : List S50} {foot : ByteArray} {ver size : Int} (hb : fewB ty tr lp foot = true) (hg : encG ty tr lp ver size = true) : (bodyN ty tr lp size).length ≤ 10000 ∧ ty.length ≤ 100 ∧ 0 < ty.length ∧ tr.length ≤ 300 ∧ lp.length ≤ 300 := by
  obtain ⟨h0, h1, h2, h3, -⟩ := few_parts hb
  obtain ⟨-, p2, -⟩ := enc_parts hg
  have p3 := of_decide_eq_true p2
  exact ⟨body_small h1 h2 h3 hg, h1, by omega, h2, h3⟩
theorem rep_two (n : Nat) : List.replicate (2 * n) (0 : Int) = List.replicate n 0 ++ List.replicate n 0 := by
  rw [List.replicate_append_replicate]
  congr 1
  omega
theorem set_right {a b : List Int} {i m : Nat} (h : a.length = m) (x : Int) : (a ++ b).set (m + i) x = a ++ b.set i x := by
  subst h
  rw [List.set_append, if_neg (by omega)]
  congr 2
  omega
theorem set_left {a b : List Int} {i : Nat} (h : i < a.length) (x : Int) : (a ++ b).set i x = a.set i x ++ b := by
  rw [List.set_append, if_pos h]
theorem dec_marks {ty : List S46} {tr : List S48} {lp : List S50} {foot : ByteArray} {ver size : Int} {kn : Nat} (hb : fewB ty tr lp foot = true) (hz : RZ ty tr lp) (hg : encG ty tr lp ver size = true) (hk : kn < ty.length) :
    decF ver ty.length ty.length lp.length tr.length ty.length (poolT (namesL ty)).1.size (bodyN ty tr lp size ++ List.replicate (2 * ty.length) 0) size = some (ty, tr, lp, ⟨#[]⟩, ver, true) ∧
    decF ver ty.length ty.length lp.length tr.length ty.length (poolT (namesL ty)).1.size ((bodyN ty tr lp size ++ List.replicate (2 * ty.length) 0).set ((bodyN ty tr lp size).length + ty.length + kn) 1) size = some ([], [], [], ⟨#[]⟩, 0, false) ∧
    decF ver ty.length ty.length lp.length tr.length ty.length (poolT (namesL ty)).1.size (((bodyN ty tr lp size ++ List.replicate (2 * ty.length) 0).set ((bodyN ty tr lp size).length + ty.length + kn) 1).set ((bodyN ty tr lp size).length + kn) 1) size = some (ty, tr, lp, ⟨#[]⟩, ver, true) ∧
    decF ver ty.length ty.length lp.length tr.length ty.length (poolT (namesL ty)).1.size ((((bodyN ty tr lp size ++ List.replicate (2 * ty.length) 0).set ((bodyN ty tr lp size).length + ty.length + kn) 1).set ((bodyN ty tr lp size).length + kn) 1).set ((bodyN ty tr lp size).length + kn) 2) size = some ([], [], [], ⟨#[]⟩, 0, false) := by
  obtain ⟨s1, s2, -⟩ := marks_small hb hg
  have key : ∀ std ut : List Int, std.length = ty.length → ut.length = ty.length → decF ver ty.length ty.length lp.length tr.length ty.length (poolT (namesL ty)).1.size (bodyN ty tr lp size ++ (std ++ ut)) size = some (match markS std ut with | true => (ty, tr, lp, ⟨#[]⟩, ver, true) | false => ([], [], [], ⟨#[]⟩, 0, false)) := by
    intro std ut h1 h2
    unfold decF
    rw [decide_eq_true (show (bodyN ty tr lp size ++ (std ++ ut)).length ≤ 1000000 by rw [List.length_append, List.length_append]; omega), zone_marks hz hg std ut h1 h2]
    all_goals (cases markS std ut <;> rfl)
  generalize bodyN ty tr lp size = B at *
  have l0 : (List.replicate ty.length (0 : Int)).length = ty.length := List.length_replicate
  have e1 : (B ++ List.replicate (2 * ty.length) 0).set (B.length + ty.length + kn) 1 = B ++ (List.replicate ty.length 0 ++ (List.replicate ty.length 0).set kn 1) := by
    rw [rep_two, Nat.add_assoc, set_right rfl, set_right l0]
  have e2 : (B ++ (List.replicate ty.length 0 ++ (List.replicate ty.length 0).set kn 1)).set (B.length + kn) 1 = B ++ ((List.replicate ty.length 0).set kn 1 ++ (List.replicate ty.length 0).set kn 1) := by
    rw [set_right rfl, set_left (by rw [l0]; exact hk)]
  have e3 : (B ++ ((List.replicate ty.length 0).set kn 1 ++ (List.replicate ty.length 0).set kn 1)).set (B.length + kn) 2 = B ++ ((List.replicate ty.length 0).set kn 2 ++ (List.replicate ty.length 0).set kn 1) := by
    rw [set_right rfl, set_left (by rw [List.length_set, l0]; exact hk), List.set_set]
  rw [e1, e2, e3, rep_two]
  have l1 : ∀ x : Int, ((List.replicate ty.length (0 : Int)).set kn x).length = ty.length := fun x => by rw [List.length_set, l0]
  refine ⟨?_, ?_, ?_, ?_⟩
  · rw [key _ _ l0 l0, marks0]
  · rw [key _ _ l0 (l1 1), marks1 hk]
  · rw [key _ _ (l1 1) (l1 1), marks2]
  · rw [key _ _ (l1 2) (l1 1), marks3 hk]
theorem decode_n (v u s l t ty c : Int) (A1 : Option Addr) (c1 : Nat) (b : List Int) (n : Nat) (size : Int) (r1 : List S46) (r2 : List S48) (r3 : List S50) (r4 : ByteArray) (r5 : Int) (r6 : Bool) (w : World) (hn : b.length = n) (hr1 : Kd.C (Kd.int .u8) w A1 n b) (hc : n ≤ c1) (h : decF v u s l t ty c b size = some (r1, r2, r3, r4, r5, r6)) :
    Calls Try.prog 14 #[.agg #[.int .i64 v, .int .i64 u, .int .i64 s, .int .i64 l, .int .i64 t, .int .i64 ty, .int .i64 c], .slice A1 n c1, .int .i64 size] w fun e w' => ∃ v0_ v1_ v2_ : Value, e = .returned (.tuple #[.agg #[v0_, v1_, v2_, .string r4, .int .i64 r5], .bool r6]) ∧ Kd.R k46 46 w' w.heap.size (fun _ => True) v0_ r1 ∧ Kd.R k48 48 w' w.heap.size (fun _ => True) v1_ r2 ∧ Kd.R k50 50 w' w.heap.size (fun _ => True) v2_ r3 ∧ Below w.heap.size w w' := by
  subst hn
  exact decode_is v u s l t ty c A1 c1 b size r1 r2 r3 r4 r5 r6 w hr1 hc h
theorem row_n {e base : Nat} {W : World} {ok : Nat → Prop} {A : Option Addr} {n c : Nat} {xs : List Int} (h : Kd.R (Kd.int .u8) e W base ok (.slice A n c) xs) : Kd.C (Kd.int .u8) W A n xs := by
  obtain ⟨h1, -, h3⟩ := Kd.R_reads' h
  rw [h1]
  exact h3
theorem put_n {e base : Nat} {W : World} {ok : Nat → Prop} {g n c : Nat} {xs : List Int} (h : Kd.R (Kd.int .u8) e W base ok (.slice (some ⟨g, 0, none⟩) n c) xs) (p : Nat) (x : Int) :
    Kd.R (Kd.int .u8) e (W.setCell ⟨g, p, none⟩ (.int .u8 x)) base ok (.slice (some ⟨g, 0, none⟩) n c) (xs.set p x) ∧ W.grownBy (W.setCell ⟨g, p, none⟩ (.int .u8 x)) (Value.slice (some ⟨g, 0, none⟩) n c).ownBlock := by
  obtain ⟨h1, -, -⟩ := Kd.R_reads' h
  subst h1
  exact Kd.R_put h (p : Int) x
theorem cell_n {e base : Nat} {W : World} {ok : Nat → Prop} {g n c : Nat} {xs : List Int} (h : Kd.R (Kd.int .u8) e W base ok (.slice (some ⟨g, 0, none⟩) n c) xs) (p : Nat) (hp : p < n) :
    W.cell? ⟨g, p, none⟩ = some (.int .u8 (rdOf 0 xs p)) ∧ W.frozen? ⟨g, p, none⟩ = false := by
  obtain ⟨h1, -, -⟩ := Kd.R_reads' h
  subst h1
  exact Kd.R_cell (0 : Int) h (p : Int) (Int.natCast_nonneg _) (by omega)
def TM : Bool × List (List Nat × List Nat) := (true, [([], []), ([], []), ([0, 1], [0, 1]), ([], []), ([3], [3]), ([4], [4]), ([2, 5, 2], [2, 5]), ([6, 6, 0, 1, 2, 3, 4, 5, 6], [6])])
def BM : List Nat := [0, 0, 3, 0, 8, 24, 63, 127]
theorem tabM : rtab .any (opsOf Try.f7 11) = TM := by kernel_rfl
theorem bitsM : waitsOk TM.2 BM = true := by kernel_rfl
set_option maxHeartbeats 4000000 in
set_option maxRecDepth 100000 in
theorem marks_few (A0 : Option Addr) (c0 : Nat) (ty : List S46) (A1 : Option Addr) (c1 : Nat) (tr : List S48) (A2 : Option Addr) (c2 : Nat) (lp : List S50) (foot : ByteArray) (ver : Int) (size k : Int) (w : World)
    (i0 : ty.length ≤ c0) (i1 : tr.length ≤ c1) (i2 : lp.length ≤ c2) (j0 : Kd.C k46 w A0 ty.length ty) (j1 : Kd.C k48 w A1 tr.length tr) (j2 : Kd.C k50 w A2 lp.length lp) (hb : fewB ty tr lp foot = false) :
    Calls Try.prog 7 #[.agg #[.slice A0 ty.length c0, .slice A1 tr.length c1, .slice A2 lp.length c2, .string foot, .int .i64 ver], .int .i64 size, .int .i64 k] w fun e w' => e = .returned (.bool true) ∧ Below w.heap.size w w' := by
  obtain ⟨k1, h1⟩ := few_ev ty tr lp foot ver
  have HSM := Aside0.mk (fun W => small_is true W rfl)
  have HFEW := Aside0.mk (fun W j0 j1 j2 => epactlaw16_Few.calls k1 A0 c0 ty A1 c1 tr A2 c2 lp foot ver false W j0 i0 j1 i1 j2 i2 ((h1 k1 (Nat.le_refl _)).trans (by rw [hb])))
  clear hb
  have HR0 := Aside0.mk j0
  have HR1 := Aside0.mk j1
  have HR2 := Aside0.mk j2
  clear j0 j1 j2 i0 i1 i2 h1
  go_enter Try.func7, Try.ntmps7
  have HB_0 := Aside0.mk (Below.refl w.heap.size w)
  go_wp2_with ((with_reducible refine gate_dst (N := 3) rfl ?_); refine box_event ?hg (N := 3) ?hd (cs := #[.slice A0 ty.length c0, .slice A1 tr.length c1, .slice A2 lp.length c2, .string foot, .int .i64 ver]) (t := 26) ?hr ?_; (case hd => rfl); (case hg => rfl); (case hr => first | (go_simp; done) | (go_simp; rfl)); intro gz hg_ w1 hbox hb_; have GZ : Aside0 (w.heap.size ≤ gz) := ⟨Nat.le_of_eq hg_.symm⟩; have HB_1 := Aside0.mk (below_step HB_0.out hb_); clear HB_0; have Z_1 := Aside0.mk (hbox); clear hbox hb_ hg_)
  refine (HSM.out _).mono ?_
  rintro e w2 ⟨rfl, hb_⟩
  have HB_2 := Aside0.mk (below_step HB_1.out hb_)
  have Z_2 := Aside0.mk (blk_below Z_1.out hb_)
  clear HB_1 Z_1
  clear hb_ HSM
  obtain ⟨hz0, hz1, hz2, hz3, hz4⟩ := zone_cells Z_2.out
  go_wp2_with fail
  refine (HFEW.out _ (Kd.C_below HR0.out HB_2.out) (Kd.C_below HR1.out HB_2.out) (Kd.C_below HR2.out HB_2.out)).mono ?_
  rintro e w3 ⟨rfl, hb_⟩
  have HB_3 := Aside0.mk (below_step HB_2.out hb_)
  have Z_3 := Aside0.mk (blk_below Z_2.out hb_)
  clear HB_2 Z_2
  clear hz0 hz1 hz2 hz3 hz4
  clear hb_ HFEW
  go_wp2_with fail
  go_ret
  all_goals exact ⟨rfl, HB_3.out⟩
set_option maxHeartbeats 4000000 in
set_option maxRecDepth 100000 in
theorem marks_no (A0 : Option Addr) (c0 : Nat) (ty : List S46) (A1 : Option Addr) (c1 : Nat) (tr : List S48) (A2 : Option Addr) (c2 : Nat) (lp : List S50) (foot : ByteArray) (ver : Int) (size k : Int) (w : World)
    (i0 : ty.length ≤ c0) (i1 : tr.length ≤ c1) (i2 : lp.length ≤ c2) (j0 : Kd.C k46 w A0 ty.length ty) (j1 : Kd.C k48 w A1 tr.length tr) (j2 : Kd.C k50 w A2 lp.length lp) (hb : fewB ty tr lp foot = true) (hg : encG ty tr lp ver size = false) :
    Calls Try.prog 7 #[.agg #[.slice A0 ty.length c0, .slice A1 tr.length c1, .slice A2 lp.length c2, .string foot, .int .i64 ver], .int .i64 size, .int .i64 k] w fun e w' => e = .returned (.bool true) ∧ Below w.heap.size w w' := by
  obtain ⟨k1, h1⟩ := few_ev ty tr lp foot ver
  have HSM := Aside0.mk (fun W => small_is true W rfl)
  have HFEW := Aside0.mk (fun W j0 j1 j2 => epactlaw16_Few.calls k1 A0 c0 ty A1 c1 tr A2 c2 lp foot ver true W j0 i0 j1 i1 j2 i2 ((h1 k1 (Nat.le_refl _)).trans (by rw [hb])))
  have hok := few_ok hb
  have HENC := Aside0.mk (fun W j0 j1 j2 => encode_is A0 c0 ty A1 c1 tr A2 c2 lp foot ver size [] false W j0 i0 j1 i1 j2 i2 (by unfold encF encN; rw [hok, hg]))
  obtain ⟨n1, n2, n3, n4, n5, n6, n7, n8, hn⟩ : ∃ n1 n2 n3 n4 n5 n6 n7 n8, countF ty tr lp foot ver = some (n1, n2, n3, n4, n5, n6, n7, n8) := ⟨_, _, _, _, _, _, _, _, by unfold countF; rw [hok]⟩
  have HCT := Aside0.mk (fun W j0 j1 j2 => count_is A0 c0 ty A1 c1 tr A2 c2 lp foot ver n1 n2 n3 n4 n5 n6 n7 n8 W j0 i0 j1 i1 j2 i2 hn)
  clear hb hg hok hn
  have HR0 := Aside0.mk j0
  have HR1 := Aside0.mk j1
  have HR2 := Aside0.mk j2
  clear j0 j1 j2 i0 i1 i2 h1
  go_enter Try.func7, Try.ntmps7
  have HB_0 := Aside0.mk (Below.refl w.heap.size w)
  go_wp2_with ((with_reducible refine gate_dst (N := 3) rfl ?_); refine box_event ?hg (N := 3) ?hd (cs := #[.slice A0 ty.length c0, .slice A1 tr.length c1, .slice A2 lp.length c2, .string foot, .int .i64 ver]) (t := 26) ?hr ?_; (case hd => rfl); (case hg => rfl); (case hr => first | (go_simp; done) | (go_simp; rfl)); intro gz hg_ w1 hbox hb_; have GZ : Aside0 (w.heap.size ≤ gz) := ⟨Nat.le_of_eq hg_.symm⟩; have HB_1 := Aside0.mk (below_step HB_0.out hb_); clear HB_0; have Z_1 := Aside0.mk (hbox); clear hbox hb_ hg_)
  refine (HSM.out _).mono ?_
  rintro e w2 ⟨rfl, hb_⟩
  have HB_2 := Aside0.mk (below_step HB_1.out hb_)
  have Z_2 := Aside0.mk (blk_below Z_1.out hb_)
  clear HB_1 Z_1
  clear hb_ HSM
  obtain ⟨hz0, hz1, hz2, hz3, hz4⟩ := zone_cells Z_2.out
  go_wp2_with fail
  refine (HFEW.out _ (Kd.C_below HR0.out HB_2.out) (Kd.C_below HR1.out HB_2.out) (Kd.C_below HR2.out HB_2.out)).mono ?_
  rintro e w3 ⟨rfl, hb_⟩
  have HB_3 := Aside0.mk (below_step HB_2.out hb_)
  have Z_3 := Aside0.mk (blk_below Z_2.out hb_)
  clear HB_2 Z_2
  clear hz0 hz1 hz2 hz3 hz4
  clear hb_ HFEW
  obtain ⟨hz0, hz1, hz2, hz3, hz4⟩ := zone_cells Z_3.out
  go_wp2_with fail
  refine (HENC.out _ (Kd.C_below HR0.out HB_3.out) (Kd.C_below HR1.out HB_3.out) (Kd.C_below HR2.out HB_3.out)).mono ?_
  rintro e w4 ⟨v0, rfl, hv, hb_⟩
  obtain ⟨Ae, ce, rfl⟩ := Kd.R_slice hv
  have HB_4 := Aside0.mk (below_step HB_3.out hb_)
  have Z_4 := Aside0.mk (blk_below Z_3.out hb_)
  clear HB_3 Z_3
  clear hz0 hz1 hz2 hz3 hz4
  clear hb_ hv HENC
  obtain ⟨hz0, hz1, hz2, hz3, hz4⟩ := zone_cells Z_4.out
  go_wp2_with fail
  refine (HCT.out _ (Kd.C_below HR0.out HB_4.out) (Kd.C_below HR1.out HB_4.out) (Kd.C_below HR2.out HB_4.out)).mono ?_
  rintro e w5 ⟨rfl, hb_⟩
  have HB_5 := Aside0.mk (below_step HB_4.out hb_)
  have Z_5 := Aside0.mk (blk_below Z_4.out hb_)
  clear HB_4 Z_4
  clear hz0 hz1 hz2 hz3 hz4
  clear hb_ HCT
  go_upto_region 7 with ((with_reducible refine gate_dst (N := 11) rfl ?_); refine box_event ?hg (N := 11) ?hd (cs := #[.int .i64 0, .int .i64 0, .int .i64 0, .int .i64 0, .int .i64 0, .int .i64 0, .int .i64 0]) (t := 28) ?hr ?_; (case hd => rfl); (case hg => rfl); (case hr => first | (go_simp; done) | (go_simp; rfl)); intro gh hg_ w6 hbox hb_; have HN := Aside0.mk hb_; have HBX := Aside0.mk hbox; have GH : Aside0 (w5.heap.size ≤ gh) := ⟨Nat.le_of_eq hg_.symm⟩; obtain ⟨hy0, hy1, hy2, hy3, hy4, hy5, hy6⟩ := cells7 hbox; have f0 := blk_frozen hbox 0; have f1 := blk_frozen hbox 1; have f2 := blk_frozen hbox 2; have f3 := blk_frozen hbox 3; have f4 := blk_frozen hbox 4; have f5 := blk_frozen hbox 5; have f6 := blk_frozen hbox 6; clear hbox hb_ hg_)
  have HX := Aside0.mk (set7_below HN.out GH.out (.int .i64 n1) (.int .i64 n2) (.int .i64 n3) (.int .i64 n4) (.int .i64 n5) (.int .i64 n6) (.int .i64 n7))
  have HY := Aside0.mk (set7_blk HBX.out (.int .i64 n1) (.int .i64 n2) (.int .i64 n3) (.int .i64 n4) (.int .i64 n5) (.int .i64 n6) (.int .i64 n7))
  unfold set7 at HX HY
  clear HBX HN hy0 f0 hy1 f1 hy2 f2 hy3 f3 hy4 f4 hy5 f5 hy6 f6
  generalize (((((((w6.setCell ⟨gh, 0, none⟩ (.int .i64 n1)).setCell ⟨gh, 1, none⟩ (.int .i64 n2)).setCell ⟨gh, 2, none⟩ (.int .i64 n3)).setCell ⟨gh, 3, none⟩ (.int .i64 n4)).setCell ⟨gh, 4, none⟩ (.int .i64 n5)).setCell ⟨gh, 5, none⟩ (.int .i64 n6)).setCell ⟨gh, 6, none⟩ (.int .i64 n7)) = w7 at *
  have HB_7 := Aside0.mk (below_step HB_5.out HX.out)
  have Z_7 := Aside0.mk (blk_below Z_5.out HX.out)
  clear HB_5 Z_5
  have H_7 := Aside0.mk (HY.out)
  clear HX HY
  obtain ⟨hx0, hx1, hx2, hx3, hx4, hx5, hx6⟩ := cells7 H_7.out
  go_wp2_with fail
  go_ret
  all_goals exact ⟨rfl, HB_7.out⟩
set_option maxHeartbeats 4000000 in
set_option maxRecDepth 100000 in
theorem marks_low (A0 : Option Addr) (c0 : Nat) (ty : List S46) (A1 : Option Addr) (c1 : Nat) (tr : List S48) (A2 : Option Addr) (c2 : Nat) (lp : List S50) (foot : ByteArray) (ver : Int) (size k : Int) (w : World)
    (i0 : ty.length ≤ c0) (i1 : tr.length ≤ c1) (i2 : lp.length ≤ c2) (j0 : Kd.C k46 w A0 ty.length ty) (j1 : Kd.C k48 w A1 tr.length tr) (j2 : Kd.C k50 w A2 lp.length lp) (hb : fewB ty tr lp foot = true) (hg : encG ty tr lp ver size = true) (hk : k < 0) :
    Calls Try.prog 7 #[.agg #[.slice A0 ty.length c0, .slice A1 tr.length c1, .slice A2 lp.length c2, .string foot, .int .i64 ver], .int .i64 size, .int .i64 k] w fun e w' => e = .returned (.bool true) ∧ Below w.heap.size w w' := by
  obtain ⟨k1, h1⟩ := few_ev ty tr lp foot ver
  have HSM := Aside0.mk (fun W => small_is true W rfl)
  have HFEW := Aside0.mk (fun W j0 j1 j2 => epactlaw16_Few.calls k1 A0 c0 ty A1 c1 tr A2 c2 lp foot ver true W j0 i0 j1 i1 j2 i2 ((h1 k1 (Nat.le_refl _)).trans (by rw [hb])))
  have hok := few_ok hb
  have HENC := Aside0.mk (fun W j0 j1 j2 => encode_is A0 c0 ty A1 c1 tr A2 c2 lp foot ver size (bodyN ty tr lp size) true W j0 i0 j1 i1 j2 i2 (by unfold encF encN; rw [hok, hg]))
  have HCT := Aside0.mk (fun W j0 j1 j2 => count_is A0 c0 ty A1 c1 tr A2 c2 lp foot ver _ _ _ _ _ _ _ _ W j0 i0 j1 i1 j2 i2 (count_back (foot := foot) hok hg))
  generalize bodyN ty tr lp size = bb at *
  generalize ((poolT (namesL ty)).1.size : Int) = pn at *
  have hk1 := decide_eq_true hk
  clear hb hg hok
  have HR0 := Aside0.mk j0
  have HR1 := Aside0.mk j1
  have HR2 := Aside0.mk j2
  clear j0 j1 j2 i0 i1 i2 h1
  go_enter Try.func7, Try.ntmps7
  have HB_0 := Aside0.mk (Below.refl w.heap.size w)
  go_wp2_with ((with_reducible refine gate_dst (N := 3) rfl ?_); refine box_event ?hg (N := 3) ?hd (cs := #[.slice A0 ty.length c0, .slice A1 tr.length c1, .slice A2 lp.length c2, .string foot, .int .i64 ver]) (t := 26) ?hr ?_; (case hd => rfl); (case hg => rfl); (case hr => first | (go_simp; done) | (go_simp; rfl)); intro gz hg_ w1 hbox hb_; have GZ : Aside0 (w.heap.size ≤ gz) := ⟨Nat.le_of_eq hg_.symm⟩; have HB_1 := Aside0.mk (below_step HB_0.out hb_); clear HB_0; have Z_1 := Aside0.mk (hbox); clear hbox hb_ hg_)
  refine (HSM.out _).mono ?_
  rintro e w2 ⟨rfl, hb_⟩
  have HB_2 := Aside0.mk (below_step HB_1.out hb_)
  have Z_2 := Aside0.mk (blk_below Z_1.out hb_)
  clear HB_1 Z_1
  clear hb_ HSM
  obtain ⟨hz0, hz1, hz2, hz3, hz4⟩ := zone_cells Z_2.out
  go_wp2_with fail
  refine (HFEW.out _ (Kd.C_below HR0.out HB_2.out) (Kd.C_below HR1.out HB_2.out) (Kd.C_below HR2.out HB_2.out)).mono ?_
  rintro e w3 ⟨rfl, hb_⟩
  have HB_3 := Aside0.mk (below_step HB_2.out hb_)
  have Z_3 := Aside0.mk (blk_below Z_2.out hb_)
  clear HB_2 Z_2
  clear hz0 hz1 hz2 hz3 hz4
  clear hb_ HFEW
  obtain ⟨hz0, hz1, hz2, hz3, hz4⟩ := zone_cells Z_3.out
  go_wp2_with fail
  refine (HENC.out _ (Kd.C_below HR0.out HB_3.out) (Kd.C_below HR1.out HB_3.out) (Kd.C_below HR2.out HB_3.out)).mono ?_
  rintro e w4 ⟨v0, rfl, hv, hb_⟩
  obtain ⟨AB, cB, rfl⟩ := Kd.R_slice hv
  have HB_4 := Aside0.mk (below_step HB_3.out hb_)
  have Z_4 := Aside0.mk (blk_below Z_3.out hb_)
  clear HB_3 Z_3
  clear hz0 hz1 hz2 hz3 hz4
  have B_4 := Aside0.mk (hv)
  clear hb_ hv HENC
  obtain ⟨hz0, hz1, hz2, hz3, hz4⟩ := zone_cells Z_4.out
  go_wp2_with fail
  refine (HCT.out _ (Kd.C_below HR0.out HB_4.out) (Kd.C_below HR1.out HB_4.out) (Kd.C_below HR2.out HB_4.out)).mono ?_
  rintro e w5 ⟨rfl, hb_⟩
  have HB_5 := Aside0.mk (below_step HB_4.out hb_)
  have Z_5 := Aside0.mk (blk_below Z_4.out hb_)
  have B_5 := Aside0.mk (Kd.R_below B_4.out hb_)
  clear HB_4 Z_4 B_4
  clear hz0 hz1 hz2 hz3 hz4
  clear hb_ HCT
  go_upto_region 7 with ((with_reducible refine gate_dst (N := 11) rfl ?_); refine box_event ?hg (N := 11) ?hd (cs := #[.int .i64 0, .int .i64 0, .int .i64 0, .int .i64 0, .int .i64 0, .int .i64 0, .int .i64 0]) (t := 28) ?hr ?_; (case hd => rfl); (case hg => rfl); (case hr => first | (go_simp; done) | (go_simp; rfl)); intro gh hg_ w6 hbox hb_; have HN := Aside0.mk hb_; have HBX := Aside0.mk hbox; have GH : Aside0 (w5.heap.size ≤ gh) := ⟨Nat.le_of_eq hg_.symm⟩; have GWH : Aside0 (w.heap.size ≤ gh) := ⟨Nat.le_trans (Below.size HB_5.out) (Nat.le_of_eq hg_.symm)⟩; obtain ⟨hy0, hy1, hy2, hy3, hy4, hy5, hy6⟩ := cells7 hbox; have f0 := blk_frozen hbox 0; have f1 := blk_frozen hbox 1; have f2 := blk_frozen hbox 2; have f3 := blk_frozen hbox 3; have f4 := blk_frozen hbox 4; have f5 := blk_frozen hbox 5; have f6 := blk_frozen hbox 6; clear hbox hb_ hg_)
  have HX := Aside0.mk (set7_below HN.out GH.out (.int .i64 ver) (.int .i64 0) (.int .i64 0) (.int .i64 lp.length) (.int .i64 tr.length) (.int .i64 ty.length) (.int .i64 pn))
  have HY := Aside0.mk (set7_blk HBX.out (.int .i64 ver) (.int .i64 0) (.int .i64 0) (.int .i64 lp.length) (.int .i64 tr.length) (.int .i64 ty.length) (.int .i64 pn))
  unfold set7 at HX HY
  clear HBX HN hy0 f0 hy1 f1 hy2 f2 hy3 f3 hy4 f4 hy5 f5 hy6 f6
  generalize (((((((w6.setCell ⟨gh, 0, none⟩ (.int .i64 ver)).setCell ⟨gh, 1, none⟩ (.int .i64 0)).setCell ⟨gh, 2, none⟩ (.int .i64 0)).setCell ⟨gh, 3, none⟩ (.int .i64 lp.length)).setCell ⟨gh, 4, none⟩ (.int .i64 tr.length)).setCell ⟨gh, 5, none⟩ (.int .i64 ty.length)).setCell ⟨gh, 6, none⟩ (.int .i64 pn)) = w7 at *
  have HB_7 := Aside0.mk (below_step HB_5.out HX.out)
  have Z_7 := Aside0.mk (blk_below Z_5.out HX.out)
  have B_7 := Aside0.mk (Kd.R_below B_5.out HX.out)
  clear HB_5 Z_5 B_5
  have H_7 := Aside0.mk (HY.out)
  clear HX HY
  obtain ⟨hx0, hx1, hx2, hx3, hx4, hx5, hx6⟩ := cells7 H_7.out
  go_wp2_with fail
  go_ret
  all_goals exact ⟨rfl, HB_7.out⟩
set_option maxHeartbeats 4000000 in
set_option maxRecDepth 100000 in
theorem marks_high (A0 : Option Addr) (c0 : Nat) (ty : List S46) (A1 : Option Addr) (c1 : Nat) (tr : List S48) (A2 : Option Addr) (c2 : Nat) (lp : List S50) (foot : ByteArray) (ver : Int) (size k : Int) (w : World)
    (i0 : ty.length ≤ c0) (i1 : tr.length ≤ c1) (i2 : lp.length ≤ c2) (j0 : Kd.C k46 w A0 ty.length ty) (j1 : Kd.C k48 w A1 tr.length tr) (j2 : Kd.C k50 w A2 lp.length lp) (hb : fewB ty tr lp foot = true) (hg : encG ty tr lp ver size = true) (h0 : 0 ≤ k) (hk : (ty.length : Int) ≤ k) :
    Calls Try.prog 7 #[.agg #[.slice A0 ty.length c0, .slice A1 tr.length c1, .slice A2 lp.length c2, .string foot, .int .i64 ver], .int .i64 size, .int .i64 k] w fun e w' => e = .returned (.bool true) ∧ Below w.heap.size w w' := by
  obtain ⟨k1, h1⟩ := few_ev ty tr lp foot ver
  have HSM := Aside0.mk (fun W => small_is true W rfl)
  have HFEW := Aside0.mk (fun W j0 j1 j2 => epactlaw16_Few.calls k1 A0 c0 ty A1 c1 tr A2 c2 lp foot ver true W j0 i0 j1 i1 j2 i2 ((h1 k1 (Nat.le_refl _)).trans (by rw [hb])))
  have hok := few_ok hb
  have HENC := Aside0.mk (fun W j0 j1 j2 => encode_is A0 c0 ty A1 c1 tr A2 c2 lp foot ver size (bodyN ty tr lp size) true W j0 i0 j1 i1 j2 i2 (by unfold encF encN; rw [hok, hg]))
  have HCT := Aside0.mk (fun W j0 j1 j2 => count_is A0 c0 ty A1 c1 tr A2 c2 lp foot ver _ _ _ _ _ _ _ _ W j0 i0 j1 i1 j2 i2 (count_back (foot := foot) hok hg))
  generalize bodyN ty tr lp size = bb at *
  generalize ((poolT (namesL ty)).1.size : Int) = pn at *
  have hk1 : ¬ (k < 0) := by omega
  have hk2 := decide_eq_false hk1
  have hk3 := decide_eq_true hk
  clear hb hg hok
  have HR0 := Aside0.mk j0
  have HR1 := Aside0.mk j1
  have HR2 := Aside0.mk j2
  clear j0 j1 j2 i0 i1 i2 h1
  go_enter Try.func7, Try.ntmps7
  have HB_0 := Aside0.mk (Below.refl w.heap.size w)
  go_wp2_with ((with_reducible refine gate_dst (N := 3) rfl ?_); refine box_event ?hg (N := 3) ?hd (cs := #[.slice A0 ty.length c0, .slice A1 tr.length c1, .slice A2 lp.length c2, .string foot, .int .i64 ver]) (t := 26) ?hr ?_; (case hd => rfl); (case hg => rfl); (case hr => first | (go_simp; done) | (go_simp; rfl)); intro gz hg_ w1 hbox hb_; have GZ : Aside0 (w.heap.size ≤ gz) := ⟨Nat.le_of_eq hg_.symm⟩; have HB_1 := Aside0.mk (below_step HB_0.out hb_); clear HB_0; have Z_1 := Aside0.mk (hbox); clear hbox hb_ hg_)
  refine (HSM.out _).mono ?_
  rintro e w2 ⟨rfl, hb_⟩
  have HB_2 := Aside0.mk (below_step HB_1.out hb_)
  have Z_2 := Aside0.mk (blk_below Z_1.out hb_)
  clear HB_1 Z_1
  clear hb_ HSM
  obtain ⟨hz0, hz1, hz2, hz3, hz4⟩ := zone_cells Z_2.out
  go_wp2_with fail
  refine (HFEW.out _ (Kd.C_below HR0.out HB_2.out) (Kd.C_below HR1.out HB_2.out) (Kd.C_below HR2.out HB_2.out)).mono ?_
  rintro e w3 ⟨rfl, hb_⟩
  have HB_3 := Aside0.mk (below_step HB_2.out hb_)
  have Z_3 := Aside0.mk (blk_below Z_2.out hb_)
  clear HB_2 Z_2
  clear hz0 hz1 hz2 hz3 hz4
  clear hb_ HFEW
  obtain ⟨hz0, hz1, hz2, hz3, hz4⟩ := zone_cells Z_3.out
  go_wp2_with fail
  refine (HENC.out _ (Kd.C_below HR0.out HB_3.out) (Kd.C_below HR1.out HB_3.out) (Kd.C_below HR2.out HB_3.out)).mono ?_
  rintro e w4 ⟨v0, rfl, hv, hb_⟩
  obtain ⟨AB, cB, rfl⟩ := Kd.R_slice hv
  have HB_4 := Aside0.mk (below_step HB_3.out hb_)
  have Z_4 := Aside0.mk (blk_below Z_3.out hb_)
  clear HB_3 Z_3
  clear hz0 hz1 hz2 hz3 hz4
  have B_4 := Aside0.mk (hv)
  clear hb_ hv HENC
  obtain ⟨hz0, hz1, hz2, hz3, hz4⟩ := zone_cells Z_4.out
  go_wp2_with fail
  refine (HCT.out _ (Kd.C_below HR0.out HB_4.out) (Kd.C_below HR1.out HB_4.out) (Kd.C_below HR2.out HB_4.out)).mono ?_
  rintro e w5 ⟨rfl, hb_⟩
  have HB_5 := Aside0.mk (below_step HB_4.out hb_)
  have Z_5 := Aside0.mk (blk_below Z_4.out hb_)
  have B_5 := Aside0.mk (Kd.R_below B_4.out hb_)
  clear HB_4 Z_4 B_4
  clear hz0 hz1 hz2 hz3 hz4
  clear hb_ HCT
  go_upto_region 7 with ((with_reducible refine gate_dst (N := 11) rfl ?_); refine box_event ?hg (N := 11) ?hd (cs := #[.int .i64 0, .int .i64 0, .int .i64 0, .int .i64 0, .int .i64 0, .int .i64 0, .int .i64 0]) (t := 28) ?hr ?_; (case hd => rfl); (case hg => rfl); (case hr => first | (go_simp; done) | (go_simp; rfl)); intro gh hg_ w6 hbox hb_; have HN := Aside0.mk hb_; have HBX := Aside0.mk hbox; have GH : Aside0 (w5.heap.size ≤ gh) := ⟨Nat.le_of_eq hg_.symm⟩; have GWH : Aside0 (w.heap.size ≤ gh) := ⟨Nat.le_trans (Below.size HB_5.out) (Nat.le_of_eq hg_.symm)⟩; obtain ⟨hy0, hy1, hy2, hy3, hy4, hy5, hy6⟩ := cells7 hbox; have f0 := blk_frozen hbox 0; have f1 := blk_frozen hbox 1; have f2 := blk_frozen hbox 2; have f3 := blk_frozen hbox 3; have f4 := blk_frozen hbox 4; have f5 := blk_frozen hbox 5; have f6 := blk_frozen hbox 6; clear hbox hb_ hg_)
  have HX := Aside0.mk (set7_below HN.out GH.out (.int .i64 ver) (.int .i64 0) (.int .i64 0) (.int .i64 lp.length) (.int .i64 tr.length) (.int .i64 ty.length) (.int .i64 pn))
  have HY := Aside0.mk (set7_blk HBX.out (.int .i64 ver) (.int .i64 0) (.int .i64 0) (.int .i64 lp.length) (.int .i64 tr.length) (.int .i64 ty.length) (.int .i64 pn))
  unfold set7 at HX HY
  clear HBX HN hy0 f0 hy1 f1 hy2 f2 hy3 f3 hy4 f4 hy5 f5 hy6 f6
  generalize (((((((w6.setCell ⟨gh, 0, none⟩ (.int .i64 ver)).setCell ⟨gh, 1, none⟩ (.int .i64 0)).setCell ⟨gh, 2, none⟩ (.int .i64 0)).setCell ⟨gh, 3, none⟩ (.int .i64 lp.length)).setCell ⟨gh, 4, none⟩ (.int .i64 tr.length)).setCell ⟨gh, 5, none⟩ (.int .i64 ty.length)).setCell ⟨gh, 6, none⟩ (.int .i64 pn)) = w7 at *
  have HB_7 := Aside0.mk (below_step HB_5.out HX.out)
  have Z_7 := Aside0.mk (blk_below Z_5.out HX.out)
  have B_7 := Aside0.mk (Kd.R_below B_5.out HX.out)
  clear HB_5 Z_5 B_5
  have H_7 := Aside0.mk (HY.out)
  clear HX HY
  obtain ⟨hx0, hx1, hx2, hx3, hx4, hx5, hx6⟩ := cells7 H_7.out
  go_wp2_with fail
  go_ret
  all_goals exact ⟨rfl, HB_7.out⟩
set_option maxHeartbeats 4000000 in
set_option maxRecDepth 100000 in
theorem marks_main (A0 : Option Addr) (c0 : Nat) (ty : List S46) (A1 : Option Addr) (c1 : Nat) (tr : List S48) (A2 : Option Addr) (c2 : Nat) (lp : List S50) (foot : ByteArray) (ver : Int) (size : Int) (kn : Nat) (w : World)
    (i0 : ty.length ≤ c0) (i1 : tr.length ≤ c1) (i2 : lp.length ≤ c2) (j0 : Kd.C k46 w A0 ty.length ty) (j1 : Kd.C k48 w A1 tr.length tr) (j2 : Kd.C k50 w A2 lp.length lp) (hb : fewB ty tr lp foot = true) (hg : encG ty tr lp ver size = true) (hz : RZ ty tr lp) (hk : kn < ty.length) :
    Calls Try.prog 7 #[.agg #[.slice A0 ty.length c0, .slice A1 tr.length c1, .slice A2 lp.length c2, .string foot, .int .i64 ver], .int .i64 size, .int .i64 ((kn : Nat) : Int)] w fun e w' => e = .returned (.bool true) ∧ Below w.heap.size w w' := by
  obtain ⟨k1, h1⟩ := few_ev ty tr lp foot ver
  have HSM := Aside0.mk (fun W => small_is true W rfl)
  have HFEW := Aside0.mk (fun W j0 j1 j2 => epactlaw16_Few.calls k1 A0 c0 ty A1 c1 tr A2 c2 lp foot ver true W j0 i0 j1 i1 j2 i2 ((h1 k1 (Nat.le_refl _)).trans (by rw [hb])))
  have hok := few_ok hb
  have HENC := Aside0.mk (fun W j0 j1 j2 => encode_is A0 c0 ty A1 c1 tr A2 c2 lp foot ver size (bodyN ty tr lp size) true W j0 i0 j1 i1 j2 i2 (by unfold encF encN; rw [hok, hg]))
  have HCT := Aside0.mk (fun W j0 j1 j2 => count_is A0 c0 ty A1 c1 tr A2 c2 lp foot ver _ _ _ _ _ _ _ _ W j0 i0 j1 i1 j2 i2 (count_back (foot := foot) hok hg))
  obtain ⟨hd0, hd1, hd2, hd3⟩ := dec_marks hb hz hg hk
  obtain ⟨hbs, hts⟩ := marks_small hb hg
  obtain ⟨k2, h2⟩ := same_ev ty tr lp ⟨#[]⟩ ver (by omega) (by omega) (by omega)
  generalize bodyN ty tr lp size = bb at *
  generalize ((poolT (namesL ty)).1.size : Int) = pn at *
  obtain ⟨m2, hm2⟩ : ∃ m : Nat, m = 2 * ty.length := ⟨_, rfl⟩
  obtain ⟨jn, hjn⟩ : ∃ m : Nat, m = bb.length + ty.length := ⟨_, rfl⟩
  obtain ⟨p1, hp1⟩ : ∃ m : Nat, m = bb.length + ty.length + kn := ⟨_, rfl⟩
  obtain ⟨p0, hp0⟩ : ∃ m : Nat, m = bb.length + kn := ⟨_, rfl⟩
  rw [← hm2, ← hp1] at hd1 hd2 hd3
  rw [← hp0] at hd2 hd3
  rw [← hm2] at hd0
  obtain ⟨C0, hC0⟩ : ∃ C : List Int, C = bb ++ List.replicate m2 0 := ⟨_, rfl⟩
  obtain ⟨C1, hC1⟩ : ∃ C : List Int, C = C0.set p1 1 := ⟨_, rfl⟩
  obtain ⟨C2, hC2⟩ : ∃ C : List Int, C = C1.set p0 1 := ⟨_, rfl⟩
  obtain ⟨C3, hC3⟩ : ∃ C : List Int, C = C2.set p0 2 := ⟨_, rfl⟩
  rw [← hC0] at hd0 hd1 hd2 hd3
  rw [← hC1] at hd1 hd2 hd3
  rw [← hC2] at hd2 hd3
  rw [← hC3] at hd3
  have hl0 : C0.length = C0.length := rfl
  have hl1 : C1.length = C0.length := by rw [hC1, List.length_set]
  have hl2 : C2.length = C0.length := by rw [hC2, List.length_set, hl1]
  have hl3 : C3.length = C0.length := by rw [hC3, List.length_set, hl2]
  have hcl : C0.length = bb.length + m2 := by rw [hC0, List.length_append, List.length_replicate]
  have HD0 := Aside0.mk (fun A c W h hc => decode_n ver ty.length ty.length lp.length tr.length ty.length pn A c C0 C0.length size ty tr lp ⟨#[]⟩ ver true W hl0 h hc hd0)
  have HD1 := Aside0.mk (fun A c W h hc => decode_n ver ty.length ty.length lp.length tr.length ty.length pn A c C1 C0.length size [] [] [] ⟨#[]⟩ 0 false W hl1 h hc hd1)
  have HD2 := Aside0.mk (fun A c W h hc => decode_n ver ty.length ty.length lp.length tr.length ty.length pn A c C2 C0.length size ty tr lp ⟨#[]⟩ ver true W hl2 h hc hd2)
  have HD3 := Aside0.mk (fun A c W h hc => decode_n ver ty.length ty.length lp.length tr.length ty.length pn A c C3 C0.length size [] [] [] ⟨#[]⟩ 0 false W hl3 h hc hd3)
  have HC0 := Aside0.mk hC0
  have HC1 := Aside0.mk hC1
  have HC2 := Aside0.mk hC2
  have HC3 := Aside0.mk hC3
  have HPL : Aside0 (p1 < C0.length ∧ p0 < C0.length ∧ 0 < C0.length ∧ bb.length + m2 ≤ 20000) := ⟨by omega⟩
  have hm2w : IntKind.i64.wrap (2 * (ty.length : Int)) = (m2 : Int) := (i64_w _).trans (by rw [R_mod _ (by omega)]; omega)
  have hjnw : IntKind.i64.wrap ((bb.length : Int) + (ty.length : Int)) = (jn : Int) := (i64_w _).trans (by rw [R_mod _ (by omega)]; omega)
  have hp1w : IntKind.i64.wrap ((jn : Int) + ((kn : Nat) : Int)) = (p1 : Int) := (i64_w _).trans (by rw [R_mod _ (by omega)]; omega)
  have hp0w : IntKind.i64.wrap ((bb.length : Int) + ((kn : Nat) : Int)) = (p0 : Int) := (i64_w _).trans (by rw [R_mod _ (by omega)]; omega)
  have HSAME := Aside0.mk (fun A0' c0' A1' c1' A2' c2' W j0 e0 j1 e1 j2 e2 g0 g1 g2 => epactref16_Same.calls k2 A0' c0' ty A1' c1' tr A2' c2' lp ⟨#[]⟩ ver A0 c0 ty A1 c1 tr A2 c2 lp ⟨#[]⟩ ver true W j0 e0 j1 e1 j2 e2 g0 i0 g1 i1 g2 i2 (h2 k2 (Nat.le_refl _)))
  have hk1 : ¬ (((kn : Nat) : Int) < 0) := by omega
  have hk2 := decide_eq_false hk1
  have hk3 : ¬ ((ty.length : Int) ≤ ((kn : Nat) : Int)) := by omega
  have hk4 := decide_eq_false hk3
  have q1 : ((p1 : Nat) : Int) < (C0.length : Int) := by omega
  have q0 : ((p0 : Nat) : Int) < (C0.length : Int) := by omega
  have qq1 : (p1 < C0.length) = True := eq_true (by omega)
  have qq0 : (p0 < C0.length) = True := eq_true (by omega)
  clear hb hg hok hz hk hd0 hd1 hd2 hd3 hl0 hl1 hl2 hl3 hcl hC0 hC1 hC2 hC3 hm2 hjn hp1 hp0 hbs hts h2
  have HR0 := Aside0.mk j0
  have HR1 := Aside0.mk j1
  have HR2 := Aside0.mk j2
  clear j0 j1 j2 i0 i1 i2 h1
  go_enter Try.func7, Try.ntmps7
  have HB_0 := Aside0.mk (Below.refl w.heap.size w)
  go_wp2_with ((with_reducible refine gate_dst (N := 3) rfl ?_); refine box_event ?hg (N := 3) ?hd (cs := #[.slice A0 ty.length c0, .slice A1 tr.length c1, .slice A2 lp.length c2, .string foot, .int .i64 ver]) (t := 26) ?hr ?_; (case hd => rfl); (case hg => rfl); (case hr => first | (go_simp; done) | (go_simp; rfl)); intro gz hg_ w1 hbox hb_; have GZ : Aside0 (w.heap.size ≤ gz) := ⟨Nat.le_of_eq hg_.symm⟩; have HB_1 := Aside0.mk (below_step HB_0.out hb_); clear HB_0; have Z_1 := Aside0.mk (hbox); clear hbox hb_ hg_)
  refine (HSM.out _).mono ?_
  rintro e w2 ⟨rfl, hb_⟩
  have HB_2 := Aside0.mk (below_step HB_1.out hb_)
  have Z_2 := Aside0.mk (blk_below Z_1.out hb_)
  clear HB_1 Z_1
  clear hb_ HSM
  obtain ⟨hz0, hz1, hz2, hz3, hz4⟩ := zone_cells Z_2.out
  go_wp2_with fail
  refine (HFEW.out _ (Kd.C_below HR0.out HB_2.out) (Kd.C_below HR1.out HB_2.out) (Kd.C_below HR2.out HB_2.out)).mono ?_
  rintro e w3 ⟨rfl, hb_⟩
  have HB_3 := Aside0.mk (below_step HB_2.out hb_)
  have Z_3 := Aside0.mk (blk_below Z_2.out hb_)
  clear HB_2 Z_2
  clear hz0 hz1 hz2 hz3 hz4
  clear hb_ HFEW
  obtain ⟨hz0, hz1, hz2, hz3, hz4⟩ := zone_cells Z_3.out
  go_wp2_with fail
  refine (HENC.out _ (Kd.C_below HR0.out HB_3.out) (Kd.C_below HR1.out HB_3.out) (Kd.C_below HR2.out HB_3.out)).mono ?_
  rintro e w4 ⟨v0, rfl, hv, hb_⟩
  obtain ⟨AB, cB, rfl⟩ := Kd.R_slice hv
  have HB_4 := Aside0.mk (below_step HB_3.out hb_)
  have Z_4 := Aside0.mk (blk_below Z_3.out hb_)
  clear HB_3 Z_3
  clear hz0 hz1 hz2 hz3 hz4
  have B_4 := Aside0.mk (hv)
  clear hb_ hv HENC
  obtain ⟨hz0, hz1, hz2, hz3, hz4⟩ := zone_cells Z_4.out
  go_wp2_with fail
  refine (HCT.out _ (Kd.C_below HR0.out HB_4.out) (Kd.C_below HR1.out HB_4.out) (Kd.C_below HR2.out HB_4.out)).mono ?_
  rintro e w5 ⟨rfl, hb_⟩
  have HB_5 := Aside0.mk (below_step HB_4.out hb_)
  have Z_5 := Aside0.mk (blk_below Z_4.out hb_)
  have B_5 := Aside0.mk (Kd.R_below B_4.out hb_)
  clear HB_4 Z_4 B_4
  clear hz0 hz1 hz2 hz3 hz4
  clear hb_ HCT
  go_upto_region 7 with ((with_reducible refine gate_dst (N := 11) rfl ?_); refine box_event ?hg (N := 11) ?hd (cs := #[.int .i64 0, .int .i64 0, .int .i64 0, .int .i64 0, .int .i64 0, .int .i64 0, .int .i64 0]) (t := 28) ?hr ?_; (case hd => rfl); (case hg => rfl); (case hr => first | (go_simp; done) | (go_simp; rfl)); intro gh hg_ w6 hbox hb_; have HN := Aside0.mk hb_; have HBX := Aside0.mk hbox; have GH : Aside0 (w5.heap.size ≤ gh) := ⟨Nat.le_of_eq hg_.symm⟩; have GWH : Aside0 (w.heap.size ≤ gh) := ⟨Nat.le_trans (Below.size HB_5.out) (Nat.le_of_eq hg_.symm)⟩; obtain ⟨hy0, hy1, hy2, hy3, hy4, hy5, hy6⟩ := cells7 hbox; have f0 := blk_frozen hbox 0; have f1 := blk_frozen hbox 1; have f2 := blk_frozen hbox 2; have f3 := blk_frozen hbox 3; have f4 := blk_frozen hbox 4; have f5 := blk_frozen hbox 5; have f6 := blk_frozen hbox 6; clear hbox hb_ hg_)
  have HX := Aside0.mk (set7_below HN.out GH.out (.int .i64 ver) (.int .i64 0) (.int .i64 0) (.int .i64 lp.length) (.int .i64 tr.length) (.int .i64 ty.length) (.int .i64 pn))
  have HY := Aside0.mk (set7_blk HBX.out (.int .i64 ver) (.int .i64 0) (.int .i64 0) (.int .i64 lp.length) (.int .i64 tr.length) (.int .i64 ty.length) (.int .i64 pn))
  unfold set7 at HX HY
  clear HBX HN hy0 f0 hy1 f1 hy2 f2 hy3 f3 hy4 f4 hy5 f5 hy6 f6
  generalize (((((((w6.setCell ⟨gh, 0, none⟩ (.int .i64 ver)).setCell ⟨gh, 1, none⟩ (.int .i64 0)).setCell ⟨gh, 2, none⟩ (.int .i64 0)).setCell ⟨gh, 3, none⟩ (.int .i64 lp.length)).setCell ⟨gh, 4, none⟩ (.int .i64 tr.length)).setCell ⟨gh, 5, none⟩ (.int .i64 ty.length)).setCell ⟨gh, 6, none⟩ (.int .i64 pn)) = w7 at *
  have HB_7 := Aside0.mk (below_step HB_5.out HX.out)
  have Z_7 := Aside0.mk (blk_below Z_5.out HX.out)
  have B_7 := Aside0.mk (Kd.R_below B_5.out HX.out)
  clear HB_5 Z_5 B_5
  have H_7 := Aside0.mk (HY.out)
  clear HX HY
  obtain ⟨hx0, hx1, hx2, hx3, hx4, hx5, hx6⟩ := cells7 H_7.out
  have f2 := blk_frozen H_7.out 2
  have f1 := blk_frozen H_7.out 1
  go_upto_region 11 with fail
  clear hx0 hx1 hx2 hx3 hx4 hx5 hx6 f2 f1
  clear hk1 hk2 hk3 hk4
  have n0_ := Aside0.mk (Below.setCell (p := ⟨gh, 1, none⟩) (Below.setCell (p := ⟨gh, 2, none⟩) HB_7.out GWH.out (.int .i64 ty.length)) GWH.out (.int .i64 ty.length))
  have n1_ : Aside0 (((w7.setCell ⟨gh, 2, none⟩ (.int .i64 ty.length)).setCell ⟨gh, 1, none⟩ (.int .i64 ty.length)).heap[gh]? = some (.cells #[.int .i64 ver, .int .i64 ty.length, .int .i64 ty.length, .int .i64 lp.length, .int .i64 tr.length, .int .i64 ty.length, .int .i64 pn] 28 (0, 0))) := ⟨blk_set (blk_set H_7.out 2 (.int .i64 ty.length)) 1 (.int .i64 ty.length)⟩
  have n2_ := Aside0.mk (blk_far (p := ⟨gh, 1, none⟩) (blk_far (p := ⟨gh, 2, none⟩) Z_7.out (blk_ne Z_7.out H_7.out (by decide)) (.int .i64 ty.length)) (blk_ne Z_7.out H_7.out (by decide)) (.int .i64 ty.length))
  have n3_ := Aside0.mk (Kd.R_set (Kd.R_set B_7.out H_7.out (by decide) 2 (.int .i64 ty.length)) (blk_set H_7.out 2 (.int .i64 ty.length)) (by decide) 1 (.int .i64 ty.length))
  clear HB_7 Z_7 B_7 H_7
  generalize ((w7.setCell ⟨gh, 2, none⟩ (.int .i64 ty.length)).setCell ⟨gh, 1, none⟩ (.int .i64 ty.length)) = w8 at *
  have HB_8 := Aside0.mk (n0_.out)
  clear n0_
  have H_8 := Aside0.mk (n1_.out)
  clear n1_
  have Z_8 := Aside0.mk (n2_.out)
  clear n2_
  have B_8 := Aside0.mk (n3_.out)
  clear n3_
  have HB_d := Aside0.mk (below_step HB_8.out (below_drew (Below.refl _ _) : Below w8.heap.size w8 w8.drew))
  have H_d := Aside0.mk (blk_below H_8.out (below_drew (Below.refl _ _) : Below w8.heap.size w8 w8.drew))
  have Z_d := Aside0.mk (blk_below Z_8.out (below_drew (Below.refl _ _) : Below w8.heap.size w8 w8.drew))
  have B_d := Aside0.mk (Kd.R_below B_8.out (below_drew (Below.refl _ _) : Below w8.heap.size w8 w8.drew))
  clear HB_8 H_8 Z_8 B_8
  refine start_ (n := 8) (S := fun w' => w'.cell? ⟨gh, 0, none⟩ = some (.int .i64 ver) ∧ w'.cell? ⟨gh, 1, none⟩ = some (.int .i64 ty.length) ∧ w'.cell? ⟨gh, 2, none⟩ = some (.int .i64 ty.length) ∧ w'.cell? ⟨gh, 3, none⟩ = some (.int .i64 lp.length) ∧ w'.cell? ⟨gh, 4, none⟩ = some (.int .i64 tr.length) ∧ w'.cell? ⟨gh, 5, none⟩ = some (.int .i64 ty.length) ∧ w'.cell? ⟨gh, 6, none⟩ = some (.int .i64 pn)) (ds := []) #[false, false, false, false, false, false, false, false] (by kernel_rfl) rfl rfl (cells7 H_d.out) (fun hHeld => ?_); refine with_tabW tabM bitsM (fun HT_ HW_ => ?_)
  generalize w8.drew = w9 at *
  refine pure_ (i := 1) (N := some 59) (v := ?_) (a' := ?_) #[false, true, false, false, false, false, false, false] rfl rfl (any_of HT_.out (by kernel_rfl)) (fun _ _ _ h => h) (Or.inl ⟨by rfl, ?_⟩) ?_ ?_
  rotate_left
  · intro w'
    go_simp
    with_reducible rfl
  rotate_left
  · simp only [Act.put, List.setIfInBounds_toArray, List.set_cons_zero, List.set_cons_succ]
    rfl
  refine pure_ (i := 3) (N := some 61) (v := ?_) (a' := ?_) #[false, true, false, true, false, false, false, false] rfl rfl (any_of HT_.out (by kernel_rfl)) (fun _ _ _ h => h) (Or.inl ⟨by rfl, ?_⟩) ?_ ?_
  rotate_left
  · intro w'
    go_simp
    with_reducible rfl
  rotate_left
  · simp only [Act.put, List.setIfInBounds_toArray, List.set_cons_zero, List.set_cons_succ]
    rfl
  refine take_ (i := 4) (N := some 62) (v := ?_) (a' := ?_) #[false, true, false, true, true, false, false, false] rfl rfl (take_ofW HT_.out HW_.out (by kernel_rfl)) (fun _ _ _ h => h) (Or.inl ⟨by rfl, ?_⟩) hHeld ?_ ?_
  rotate_left
  · rintro w' ⟨s0, s1, s2, s3, s4, s5, s6⟩
    go_simp
    with_reducible rfl
  rotate_left
  · simp only [Act.put, List.setIfInBounds_toArray, List.set_cons_zero, List.set_cons_succ]
    rfl
  refine pure_ (i := 5) (N := some 63) (v := ?_) (a' := ?_) #[false, true, false, true, true, true, false, false] rfl rfl (any_of HT_.out (by kernel_rfl)) (fun _ _ _ h => h) (Or.inl ⟨by rfl, ?_⟩) ?_ ?_
  rotate_left
  · intro w'
    go_simp
    with_reducible rfl
  rotate_left
  · simp only [Act.put, List.setIfInBounds_toArray, List.set_cons_zero, List.set_cons_succ]
    rfl
  refine one_ (i := 0) (N := some 58) #[true, true, false, true, true, true, false, false] rfl rfl (one_of HT_.out (by kernel_rfl)) (by decide) (fun K hK => ?_)
  refine Kd.R_lit_step (Kd.int .u8) _ 5 ?hg (N := 58) ?hd (xs := ([] : List Int)) (inner := []) (ok := fun _ => True) (okp := fun _ => True) ?hr ?hp (fun _ hk => hk) trivial (Below.refl _ _) (Nat.le_refl _) (by simp) ?_; (case hd => rfl); (case hg => rfl); (case hr => first | (go_simp; done) | (go_simp; rfl)); (case hp => exact (Reps.none _ _))
  intro vs w10 hs_ hb_ _ _
  have hs_ := Kd.R_lower hs_ (Below.size HB_d.out)
  have HB_10 := Aside0.mk (below_step HB_d.out hb_)
  have H_10 := Aside0.mk (blk_below H_d.out hb_)
  have Z_10 := Aside0.mk (blk_below Z_d.out hb_)
  have B_10 := Aside0.mk (Kd.R_below B_d.out hb_)
  clear HB_d H_d Z_d B_d
  have V_10 := Aside0.mk (hs_)
  clear hs_ hb_
  refine hK.out _ _ (cells7 H_10.out) (fun hHeld => ?_)
  refine norm_ (a' := ?_) ?_ ?_
  rotate_left
  · show Act.put _ (some 58) _ = _
    simp only [Act.put, List.setIfInBounds_toArray, List.set_cons_zero, List.set_cons_succ]
    rfl
  refine one_ (i := 2) (N := some 60) #[true, true, true, true, true, true, false, false] rfl rfl (one_of HT_.out (by kernel_rfl)) (by decide) (fun K hK => ?_)
  refine Kd.R_append_rows_step (Kd.int .u8) (w0 := w) w.heap.size (by rfl) (.tmp 58) (.tmp 59) 29 5 (.int .u8 0) 1 rfl Try.underlying29 info5 rfl (by decide) (by omega) vs [] bb AB bb.length cB (fun _ => True) (fun _ => False) rfl rfl ?aO ?aR (fun _ _ h => h) (fun _ h => h.elim) ?aF ?aB ?aS ?aL ?_
  (case aR => exact (Kd.R_reads' B_10.out).2.2)
  (case aB => exact HB_10.out)
  (case aF => exact (fun _ _ => trivial))
  (case aO => exact V_10.out)
  (case aS => exact Below.size HB_10.out)
  (case aL => have := HPL.out; show (0 + bb.length) * 1 ≤ _; omega)
  intro vp w11 hp_ _ hg_ _
  have hp_ : Kd.R (Kd.int .u8) 5 w11 w.heap.size (fun _ => True) vp bb := hp_
  have HB_11 := Aside0.mk (below_grown HB_10.out hg_ (Kd.R_base V_10.out))
  have H_11 := Aside0.mk (blk_grown H_10.out hg_ (Kd.R_ne V_10.out H_10.out (by decide)))
  have Z_11 := Aside0.mk (blk_grown Z_10.out hg_ (Kd.R_ne V_10.out Z_10.out (by decide)))
  clear HB_10 H_10 Z_10 B_10 V_10
  have V_11 := Aside0.mk (hp_)
  clear hp_ hg_
  refine hK.out _ _ (cells7 H_11.out) (fun hHeld => ?_)
  refine norm_ (a' := ?_) ?_ ?_
  rotate_left
  · show Act.put _ (some 60) _ = _
    simp only [Act.put, List.setIfInBounds_toArray, List.set_cons_zero, List.set_cons_succ]
    rfl
  refine one_ (i := 6) (N := some 64) #[true, true, true, true, true, true, true, false] rfl rfl (one_of HT_.out (by kernel_rfl)) (by decide) (fun K hK => ?_)
  refine Kd.R_append_zeros_step (Kd.int .u8) (w0 := w) w.heap.size (by rfl) (.tmp 60) (.tmp 63) 29 3 5 (.int .u8 0) 1 rfl Try.underlying29 Try.underlying3 info5 rfl (by decide) (by omega) vp bb 0 (m2 : Int) (fun _ => True) rfl rfl rfl ?aF ?aO ?a0 ?aB ?aS ?aL ?_
  (case aB => exact HB_11.out)
  (case aF => exact (fun _ _ => trivial))
  (case aO => exact V_11.out)
  (case a0 => exact Int.natCast_nonneg _)
  (case aS => exact Below.size HB_11.out)
  (case aL => have := HPL.out; rw [Int.toNat_natCast]; omega)
  intro vc w12 hp_ _ hg_ _
  rw [Int.toNat_natCast, ← HC0.out] at hp_
  have HB_12 := Aside0.mk (below_grown HB_11.out hg_ (Kd.R_base V_11.out))
  have H_12 := Aside0.mk (blk_grown H_11.out hg_ (Kd.R_ne V_11.out H_11.out (by decide)))
  have Z_12 := Aside0.mk (blk_grown Z_11.out hg_ (Kd.R_ne V_11.out Z_11.out (by decide)))
  clear HB_11 H_11 Z_11 V_11
  have C_12 := Aside0.mk (hp_)
  clear hp_ hg_ HC0
  refine hK.out _ _ (cells7 H_12.out) (fun hHeld => ?_)
  refine norm_ (a' := ?_) ?_ ?_
  rotate_left
  · show Act.put _ (some 64) _ = _
    simp only [Act.put, List.setIfInBounds_toArray, List.set_cons_zero, List.set_cons_succ]
    rfl
  refine pure_ (i := 7) (N := some 13) (v := ?_) (a' := ?_) #[true, true, true, true, true, true, true, true] rfl rfl (any_of HT_.out (by kernel_rfl)) (fun _ _ _ h => h) (Or.inl ⟨by rfl, ?_⟩) ?_ ?_
  rotate_left
  · intro w'
    go_simp
    with_reducible rfl
  rotate_left
  · simp only [Act.put, List.setIfInBounds_toArray, List.set_cons_zero, List.set_cons_succ]
    rfl
  refine done_ (done_of HT_.out (by kernel_rfl)) ?_
  clear HT_ HW_ hHeld
  obtain ⟨gc, cc, rfl, -⟩ := Kd.R_form C_12.out HPL.out.2.2.1
  obtain ⟨hx0, hx1, hx2, hx3, hx4, hx5, hx6⟩ := cells7 H_12.out
  go_wp2_with fail
  refine (HD0.out _ _ _ (row_n C_12.out) (Kd.R_reads' C_12.out).2.1).mono ?_
  rintro e w13 ⟨v0, v1, v2, rfl, hr0, hr1, hr2, hb_⟩
  obtain ⟨Y0, Yc0, rfl⟩ := Kd.R_slice hr0
  obtain ⟨Y1, Yc1, rfl⟩ := Kd.R_slice hr1
  obtain ⟨Y2, Yc2, rfl⟩ := Kd.R_slice hr2
  have HB_13 := Aside0.mk (below_step HB_12.out hb_)
  have H_13 := Aside0.mk (blk_below H_12.out hb_)
  have Z_13 := Aside0.mk (blk_below Z_12.out hb_)
  have C_13 := Aside0.mk (Kd.R_below C_12.out hb_)
  clear HB_12 H_12 Z_12 C_12
  clear hx0 hx1 hx2 hx3 hx4 hx5 hx6
  have Y0_13 := Aside0.mk (hr0)
  have Y1_13 := Aside0.mk (hr1)
  have Y2_13 := Aside0.mk (hr2)
  clear hb_ hr0 hr1 hr2 HD0
  go_upto_region 13 with ((with_reducible refine gate_dst (N := 14) rfl ?_); refine box_event ?hg (N := 14) ?hd (cs := #[.slice none 0 0, .slice none 0 0, .slice none 0 0, .string ⟨#[]⟩, .int .i64 0]) (t := 26) ?hr ?_; (case hd => rfl); (case hg => rfl); (case hr => first | (go_simp; done) | (go_simp; rfl)); intro gy hg_ w14 hbox hb_; have HN := Aside0.mk hb_; have HBX := Aside0.mk hbox; have GY : Aside0 (w13.heap.size ≤ gy) := ⟨Nat.le_of_eq hg_.symm⟩; have NYZ : Aside0 (gz ≠ gy) := ⟨fun e_ => by have h_ := blk_lt Z_13.out; omega⟩; obtain ⟨hy0, hy1, hy2, hy3, hy4⟩ := zone_cells hbox; have f0 := blk_frozen hbox 0; have f1 := blk_frozen hbox 1; have f2 := blk_frozen hbox 2; have f3 := blk_frozen hbox 3; have f4 := blk_frozen hbox 4; clear hbox hb_ hg_)
  have HX := Aside0.mk (set5_below HN.out GY.out (.slice Y0 ty.length Yc0) (.slice Y1 tr.length Yc1) (.slice Y2 lp.length Yc2) (.string ⟨#[]⟩) (.int .i64 ver))
  have HY := Aside0.mk (set5_blk HBX.out (.slice Y0 ty.length Yc0) (.slice Y1 tr.length Yc1) (.slice Y2 lp.length Yc2) (.string ⟨#[]⟩) (.int .i64 ver))
  unfold set5 at HX HY
  clear HBX HN hy0 f0 hy1 f1 hy2 f2 hy3 f3 hy4 f4
  generalize (((((w14.setCell ⟨gy, 0, none⟩ (.slice Y0 ty.length Yc0)).setCell ⟨gy, 1, none⟩ (.slice Y1 tr.length Yc1)).setCell ⟨gy, 2, none⟩ (.slice Y2 lp.length Yc2)).setCell ⟨gy, 3, none⟩ (.string ⟨#[]⟩)).setCell ⟨gy, 4, none⟩ (.int .i64 ver)) = w15 at *
  have HB_15 := Aside0.mk (below_step HB_13.out HX.out)
  have H_15 := Aside0.mk (blk_below H_13.out HX.out)
  have Z_15 := Aside0.mk (blk_below Z_13.out HX.out)
  have C_15 := Aside0.mk (Kd.R_below C_13.out HX.out)
  have Y0_15 := Aside0.mk (Kd.R_below Y0_13.out HX.out)
  have Y1_15 := Aside0.mk (Kd.R_below Y1_13.out HX.out)
  have Y2_15 := Aside0.mk (Kd.R_below Y2_13.out HX.out)
  clear HB_13 H_13 Z_13 C_13 Y0_13 Y1_13 Y2_13
  have Y_15 := Aside0.mk (HY.out)
  clear HX HY
  obtain ⟨hx0, hx1, hx2, hx3, hx4, hx5, hx6⟩ := cells7 H_15.out
  obtain ⟨hv_, hf_⟩ := cell_n C_15.out p1 HPL.out.1
  have HP := Aside0.mk (put_n C_15.out p1 1)
  go_upto_region 14 with fail
  clear hx0 hx1 hx2 hx3 hx4 hx5 hx6 hv_ hf_
  generalize w15.setCell ⟨gc, p1, none⟩ (.int .u8 1) = w16 at *
  rw [← HC1.out] at HP
  have HB_16 := Aside0.mk (below_grown HB_15.out HP.out.2 (Kd.R_base C_15.out))
  have H_16 := Aside0.mk (blk_grown H_15.out HP.out.2 (Kd.R_ne C_15.out H_15.out (by decide)))
  have Z_16 := Aside0.mk (blk_grown Z_15.out HP.out.2 (Kd.R_ne C_15.out Z_15.out (by decide)))
  have Y0_16 := Aside0.mk (Kd.R_over Y0_15.out C_15.out (by decide) HP.out.2)
  have Y1_16 := Aside0.mk (Kd.R_over Y1_15.out C_15.out (by decide) HP.out.2)
  have Y2_16 := Aside0.mk (Kd.R_over Y2_15.out C_15.out (by decide) HP.out.2)
  have Y_16 := Aside0.mk (blk_grown Y_15.out HP.out.2 (Kd.R_ne C_15.out Y_15.out (by decide)))
  clear HB_15 H_15 Z_15 C_15 Y0_15 Y1_15 Y2_15 Y_15
  have C_16 := Aside0.mk (HP.out.1)
  clear HP
  obtain ⟨hx0, hx1, hx2, hx3, hx4, hx5, hx6⟩ := cells7 H_16.out
  go_wp2_with fail
  refine (HD1.out _ _ _ (row_n C_16.out) (Kd.R_reads' C_16.out).2.1).mono ?_
  rintro e w17 ⟨v0, v1, v2, rfl, hr0, hr1, hr2, hb_⟩
  obtain ⟨U0, Uc0, rfl⟩ := Kd.R_slice hr0
  obtain ⟨U1, Uc1, rfl⟩ := Kd.R_slice hr1
  obtain ⟨U2, Uc2, rfl⟩ := Kd.R_slice hr2
  have HB_17 := Aside0.mk (below_step HB_16.out hb_)
  have H_17 := Aside0.mk (blk_below H_16.out hb_)
  have Z_17 := Aside0.mk (blk_below Z_16.out hb_)
  have Y0_17 := Aside0.mk (Kd.R_below Y0_16.out hb_)
  have Y1_17 := Aside0.mk (Kd.R_below Y1_16.out hb_)
  have Y2_17 := Aside0.mk (Kd.R_below Y2_16.out hb_)
  have Y_17 := Aside0.mk (blk_below Y_16.out hb_)
  have C_17 := Aside0.mk (Kd.R_below C_16.out hb_)
  clear HB_16 H_16 Z_16 Y0_16 Y1_16 Y2_16 Y_16 C_16
  clear hx0 hx1 hx2 hx3 hx4 hx5 hx6
  clear hb_ hr0 hr1 hr2 HD1
  go_upto_region 15 with ((with_reducible refine gate_dst (N := 16) rfl ?_); refine box_event ?hg (N := 16) ?hd (cs := #[.slice none 0 0, .slice none 0 0, .slice none 0 0, .string ⟨#[]⟩, .int .i64 0]) (t := 26) ?hr ?_; (case hd => rfl); (case hg => rfl); (case hr => first | (go_simp; done) | (go_simp; rfl)); intro gu hg_ w18 hbox hb_; have HN := Aside0.mk hb_; have HBX := Aside0.mk hbox; have GU : Aside0 (w17.heap.size ≤ gu) := ⟨Nat.le_of_eq hg_.symm⟩; obtain ⟨hy0, hy1, hy2, hy3, hy4⟩ := zone_cells hbox; have f0 := blk_frozen hbox 0; have f1 := blk_frozen hbox 1; have f2 := blk_frozen hbox 2; have f3 := blk_frozen hbox 3; have f4 := blk_frozen hbox 4; clear hbox hb_ hg_)
  have HX := Aside0.mk (set5_below HN.out GU.out (.slice U0 0 Uc0) (.slice U1 0 Uc1) (.slice U2 0 Uc2) (.string ⟨#[]⟩) (.int .i64 0))
  have HY := Aside0.mk (set5_blk HBX.out (.slice U0 0 Uc0) (.slice U1 0 Uc1) (.slice U2 0 Uc2) (.string ⟨#[]⟩) (.int .i64 0))
  unfold set5 at HX HY
  clear HBX HN hy0 f0 hy1 f1 hy2 f2 hy3 f3 hy4 f4
  generalize (((((w18.setCell ⟨gu, 0, none⟩ (.slice U0 0 Uc0)).setCell ⟨gu, 1, none⟩ (.slice U1 0 Uc1)).setCell ⟨gu, 2, none⟩ (.slice U2 0 Uc2)).setCell ⟨gu, 3, none⟩ (.string ⟨#[]⟩)).setCell ⟨gu, 4, none⟩ (.int .i64 0)) = w19 at *
  have HB_19 := Aside0.mk (below_step HB_17.out HX.out)
  have H_19 := Aside0.mk (blk_below H_17.out HX.out)
  have Z_19 := Aside0.mk (blk_below Z_17.out HX.out)
  have Y0_19 := Aside0.mk (Kd.R_below Y0_17.out HX.out)
  have Y1_19 := Aside0.mk (Kd.R_below Y1_17.out HX.out)
  have Y2_19 := Aside0.mk (Kd.R_below Y2_17.out HX.out)
  have Y_19 := Aside0.mk (blk_below Y_17.out HX.out)
  have C_19 := Aside0.mk (Kd.R_below C_17.out HX.out)
  clear HB_17 H_17 Z_17 Y0_17 Y1_17 Y2_17 Y_17 C_17
  have U_19 := Aside0.mk (HY.out)
  clear HX HY
  clear U_19
  obtain ⟨hx0, hx1, hx2, hx3, hx4, hx5, hx6⟩ := cells7 H_19.out
  obtain ⟨hv_, hf_⟩ := cell_n C_19.out p0 HPL.out.2.1
  have HP := Aside0.mk (put_n C_19.out p0 1)
  go_upto_region 16 with fail
  clear hx0 hx1 hx2 hx3 hx4 hx5 hx6 hv_ hf_
  generalize w19.setCell ⟨gc, p0, none⟩ (.int .u8 1) = w20 at *
  rw [← HC2.out] at HP
  have HB_20 := Aside0.mk (below_grown HB_19.out HP.out.2 (Kd.R_base C_19.out))
  have H_20 := Aside0.mk (blk_grown H_19.out HP.out.2 (Kd.R_ne C_19.out H_19.out (by decide)))
  have Z_20 := Aside0.mk (blk_grown Z_19.out HP.out.2 (Kd.R_ne C_19.out Z_19.out (by decide)))
  have Y0_20 := Aside0.mk (Kd.R_over Y0_19.out C_19.out (by decide) HP.out.2)
  have Y1_20 := Aside0.mk (Kd.R_over Y1_19.out C_19.out (by decide) HP.out.2)
  have Y2_20 := Aside0.mk (Kd.R_over Y2_19.out C_19.out (by decide) HP.out.2)
  have Y_20 := Aside0.mk (blk_grown Y_19.out HP.out.2 (Kd.R_ne C_19.out Y_19.out (by decide)))
  clear HB_19 H_19 Z_19 Y0_19 Y1_19 Y2_19 Y_19 C_19
  have C_20 := Aside0.mk (HP.out.1)
  clear HP
  obtain ⟨hx0, hx1, hx2, hx3, hx4, hx5, hx6⟩ := cells7 H_20.out
  go_wp2_with fail
  refine (HD2.out _ _ _ (row_n C_20.out) (Kd.R_reads' C_20.out).2.1).mono ?_
  rintro e w21 ⟨v0, v1, v2, rfl, hr0, hr1, hr2, hb_⟩
  obtain ⟨X0, Xc0, rfl⟩ := Kd.R_slice hr0
  obtain ⟨X1, Xc1, rfl⟩ := Kd.R_slice hr1
  obtain ⟨X2, Xc2, rfl⟩ := Kd.R_slice hr2
  have HB_21 := Aside0.mk (below_step HB_20.out hb_)
  have H_21 := Aside0.mk (blk_below H_20.out hb_)
  have Z_21 := Aside0.mk (blk_below Z_20.out hb_)
  have Y0_21 := Aside0.mk (Kd.R_below Y0_20.out hb_)
  have Y1_21 := Aside0.mk (Kd.R_below Y1_20.out hb_)
  have Y2_21 := Aside0.mk (Kd.R_below Y2_20.out hb_)
  have Y_21 := Aside0.mk (blk_below Y_20.out hb_)
  have C_21 := Aside0.mk (Kd.R_below C_20.out hb_)
  clear HB_20 H_20 Z_20 Y0_20 Y1_20 Y2_20 Y_20 C_20
  clear hx0 hx1 hx2 hx3 hx4 hx5 hx6
  have X0_21 := Aside0.mk (hr0)
  have X1_21 := Aside0.mk (hr1)
  have X2_21 := Aside0.mk (hr2)
  clear hb_ hr0 hr1 hr2 HD2
  go_upto_region 17 with ((with_reducible refine gate_dst (N := 18) rfl ?_); refine box_event ?hg (N := 18) ?hd (cs := #[.slice none 0 0, .slice none 0 0, .slice none 0 0, .string ⟨#[]⟩, .int .i64 0]) (t := 26) ?hr ?_; (case hd => rfl); (case hg => rfl); (case hr => first | (go_simp; done) | (go_simp; rfl)); intro gx hg_ w22 hbox hb_; have HN := Aside0.mk hb_; have HBX := Aside0.mk hbox; have GX : Aside0 (w21.heap.size ≤ gx) := ⟨Nat.le_of_eq hg_.symm⟩; have NXZ : Aside0 (gz ≠ gx) := ⟨fun e_ => by have h_ := blk_lt Z_21.out; omega⟩; obtain ⟨hy0, hy1, hy2, hy3, hy4⟩ := zone_cells hbox; have f0 := blk_frozen hbox 0; have f1 := blk_frozen hbox 1; have f2 := blk_frozen hbox 2; have f3 := blk_frozen hbox 3; have f4 := blk_frozen hbox 4; clear hbox hb_ hg_)
  have HX := Aside0.mk (set5_below HN.out GX.out (.slice X0 ty.length Xc0) (.slice X1 tr.length Xc1) (.slice X2 lp.length Xc2) (.string ⟨#[]⟩) (.int .i64 ver))
  have HY := Aside0.mk (set5_blk HBX.out (.slice X0 ty.length Xc0) (.slice X1 tr.length Xc1) (.slice X2 lp.length Xc2) (.string ⟨#[]⟩) (.int .i64 ver))
  unfold set5 at HX HY
  clear HBX HN hy0 f0 hy1 f1 hy2 f2 hy3 f3 hy4 f4
  generalize (((((w22.setCell ⟨gx, 0, none⟩ (.slice X0 ty.length Xc0)).setCell ⟨gx, 1, none⟩ (.slice X1 tr.length Xc1)).setCell ⟨gx, 2, none⟩ (.slice X2 lp.length Xc2)).setCell ⟨gx, 3, none⟩ (.string ⟨#[]⟩)).setCell ⟨gx, 4, none⟩ (.int .i64 ver)) = w23 at *
  have HB_23 := Aside0.mk (below_step HB_21.out HX.out)
  have H_23 := Aside0.mk (blk_below H_21.out HX.out)
  have Z_23 := Aside0.mk (blk_below Z_21.out HX.out)
  have Y0_23 := Aside0.mk (Kd.R_below Y0_21.out HX.out)
  have Y1_23 := Aside0.mk (Kd.R_below Y1_21.out HX.out)
  have Y2_23 := Aside0.mk (Kd.R_below Y2_21.out HX.out)
  have Y_23 := Aside0.mk (blk_below Y_21.out HX.out)
  have C_23 := Aside0.mk (Kd.R_below C_21.out HX.out)
  have X0_23 := Aside0.mk (Kd.R_below X0_21.out HX.out)
  have X1_23 := Aside0.mk (Kd.R_below X1_21.out HX.out)
  have X2_23 := Aside0.mk (Kd.R_below X2_21.out HX.out)
  clear HB_21 H_21 Z_21 Y0_21 Y1_21 Y2_21 Y_21 C_21 X0_21 X1_21 X2_21
  have X_23 := Aside0.mk (HY.out)
  clear HX HY
  obtain ⟨hx0, hx1, hx2, hx3, hx4, hx5, hx6⟩ := cells7 H_23.out
  obtain ⟨hv_, hf_⟩ := cell_n C_23.out p0 HPL.out.2.1
  have HP := Aside0.mk (put_n C_23.out p0 2)
  go_upto_region 18 with fail
  clear hx0 hx1 hx2 hx3 hx4 hx5 hx6 hv_ hf_
  generalize w23.setCell ⟨gc, p0, none⟩ (.int .u8 2) = w24 at *
  rw [← HC3.out] at HP
  have HB_24 := Aside0.mk (below_grown HB_23.out HP.out.2 (Kd.R_base C_23.out))
  have H_24 := Aside0.mk (blk_grown H_23.out HP.out.2 (Kd.R_ne C_23.out H_23.out (by decide)))
  have Z_24 := Aside0.mk (blk_grown Z_23.out HP.out.2 (Kd.R_ne C_23.out Z_23.out (by decide)))
  have Y0_24 := Aside0.mk (Kd.R_over Y0_23.out C_23.out (by decide) HP.out.2)
  have Y1_24 := Aside0.mk (Kd.R_over Y1_23.out C_23.out (by decide) HP.out.2)
  have Y2_24 := Aside0.mk (Kd.R_over Y2_23.out C_23.out (by decide) HP.out.2)
  have Y_24 := Aside0.mk (blk_grown Y_23.out HP.out.2 (Kd.R_ne C_23.out Y_23.out (by decide)))
  have X0_24 := Aside0.mk (Kd.R_over X0_23.out C_23.out (by decide) HP.out.2)
  have X1_24 := Aside0.mk (Kd.R_over X1_23.out C_23.out (by decide) HP.out.2)
  have X2_24 := Aside0.mk (Kd.R_over X2_23.out C_23.out (by decide) HP.out.2)
  have X_24 := Aside0.mk (blk_grown X_23.out HP.out.2 (Kd.R_ne C_23.out X_23.out (by decide)))
  clear HB_23 H_23 Z_23 Y0_23 Y1_23 Y2_23 Y_23 C_23 X0_23 X1_23 X2_23 X_23
  have C_24 := Aside0.mk (HP.out.1)
  clear HP
  obtain ⟨hx0, hx1, hx2, hx3, hx4, hx5, hx6⟩ := cells7 H_24.out
  go_wp2_with fail
  refine (HD3.out _ _ _ (row_n C_24.out) (Kd.R_reads' C_24.out).2.1).mono ?_
  rintro e w25 ⟨v0, v1, v2, rfl, hr0, hr1, hr2, hb_⟩
  obtain ⟨V0, Vc0, rfl⟩ := Kd.R_slice hr0
  obtain ⟨V1, Vc1, rfl⟩ := Kd.R_slice hr1
  obtain ⟨V2, Vc2, rfl⟩ := Kd.R_slice hr2
  have HB_25 := Aside0.mk (below_step HB_24.out hb_)
  have H_25 := Aside0.mk (blk_below H_24.out hb_)
  have Z_25 := Aside0.mk (blk_below Z_24.out hb_)
  have Y0_25 := Aside0.mk (Kd.R_below Y0_24.out hb_)
  have Y1_25 := Aside0.mk (Kd.R_below Y1_24.out hb_)
  have Y2_25 := Aside0.mk (Kd.R_below Y2_24.out hb_)
  have Y_25 := Aside0.mk (blk_below Y_24.out hb_)
  have X0_25 := Aside0.mk (Kd.R_below X0_24.out hb_)
  have X1_25 := Aside0.mk (Kd.R_below X1_24.out hb_)
  have X2_25 := Aside0.mk (Kd.R_below X2_24.out hb_)
  have X_25 := Aside0.mk (blk_below X_24.out hb_)
  have C_25 := Aside0.mk (Kd.R_below C_24.out hb_)
  clear HB_24 H_24 Z_24 Y0_24 Y1_24 Y2_24 Y_24 X0_24 X1_24 X2_24 X_24 C_24
  clear hx0 hx1 hx2 hx3 hx4 hx5 hx6
  clear hb_ hr0 hr1 hr2 HD3
  go_upto_region 19 with ((with_reducible refine gate_dst (N := 20) rfl ?_); refine box_event ?hg (N := 20) ?hd (cs := #[.slice none 0 0, .slice none 0 0, .slice none 0 0, .string ⟨#[]⟩, .int .i64 0]) (t := 26) ?hr ?_; (case hd => rfl); (case hg => rfl); (case hr => first | (go_simp; done) | (go_simp; rfl)); intro gv hg_ w26 hbox hb_; have HN := Aside0.mk hb_; have HBX := Aside0.mk hbox; have GV : Aside0 (w25.heap.size ≤ gv) := ⟨Nat.le_of_eq hg_.symm⟩; obtain ⟨hy0, hy1, hy2, hy3, hy4⟩ := zone_cells hbox; have f0 := blk_frozen hbox 0; have f1 := blk_frozen hbox 1; have f2 := blk_frozen hbox 2; have f3 := blk_frozen hbox 3; have f4 := blk_frozen hbox 4; clear hbox hb_ hg_)
  have HX := Aside0.mk (set5_below HN.out GV.out (.slice V0 0 Vc0) (.slice V1 0 Vc1) (.slice V2 0 Vc2) (.string ⟨#[]⟩) (.int .i64 0))
  have HY := Aside0.mk (set5_blk HBX.out (.slice V0 0 Vc0) (.slice V1 0 Vc1) (.slice V2 0 Vc2) (.string ⟨#[]⟩) (.int .i64 0))
  unfold set5 at HX HY
  clear HBX HN hy0 f0 hy1 f1 hy2 f2 hy3 f3 hy4 f4
  generalize (((((w26.setCell ⟨gv, 0, none⟩ (.slice V0 0 Vc0)).setCell ⟨gv, 1, none⟩ (.slice V1 0 Vc1)).setCell ⟨gv, 2, none⟩ (.slice V2 0 Vc2)).setCell ⟨gv, 3, none⟩ (.string ⟨#[]⟩)).setCell ⟨gv, 4, none⟩ (.int .i64 0)) = w27 at *
  have HB_27 := Aside0.mk (below_step HB_25.out HX.out)
  have H_27 := Aside0.mk (blk_below H_25.out HX.out)
  have Z_27 := Aside0.mk (blk_below Z_25.out HX.out)
  have Y0_27 := Aside0.mk (Kd.R_below Y0_25.out HX.out)
  have Y1_27 := Aside0.mk (Kd.R_below Y1_25.out HX.out)
  have Y2_27 := Aside0.mk (Kd.R_below Y2_25.out HX.out)
  have Y_27 := Aside0.mk (blk_below Y_25.out HX.out)
  have X0_27 := Aside0.mk (Kd.R_below X0_25.out HX.out)
  have X1_27 := Aside0.mk (Kd.R_below X1_25.out HX.out)
  have X2_27 := Aside0.mk (Kd.R_below X2_25.out HX.out)
  have X_27 := Aside0.mk (blk_below X_25.out HX.out)
  have C_27 := Aside0.mk (Kd.R_below C_25.out HX.out)
  clear HB_25 H_25 Z_25 Y0_25 Y1_25 Y2_25 Y_25 X0_25 X1_25 X2_25 X_25 C_25
  have V_27 := Aside0.mk (HY.out)
  clear HX HY
  clear V_27
  clear C_27
  clear H_27
  obtain ⟨hz0, hz1, hz2, hz3, hz4⟩ := zone_cells Z_27.out
  have f3 := blk_frozen Z_27.out 3
  go_upto_region 20 with fail
  clear hz0 hz1 hz2 hz3 hz4 f3
  have nHB_ := Aside0.mk (Below.setCell (p := ⟨gz, 3, none⟩) HB_27.out GZ.out (.string ⟨#[]⟩))
  have nY0_ := Aside0.mk (Kd.R_set Y0_27.out Z_27.out (by decide) 3 (.string ⟨#[]⟩))
  have nY1_ := Aside0.mk (Kd.R_set Y1_27.out Z_27.out (by decide) 3 (.string ⟨#[]⟩))
  have nY2_ := Aside0.mk (Kd.R_set Y2_27.out Z_27.out (by decide) 3 (.string ⟨#[]⟩))
  have nY_ := Aside0.mk (blk_far (p := ⟨gz, 3, none⟩) Y_27.out NYZ.out.symm (.string ⟨#[]⟩))
  have nX0_ := Aside0.mk (Kd.R_set X0_27.out Z_27.out (by decide) 3 (.string ⟨#[]⟩))
  have nX1_ := Aside0.mk (Kd.R_set X1_27.out Z_27.out (by decide) 3 (.string ⟨#[]⟩))
  have nX2_ := Aside0.mk (Kd.R_set X2_27.out Z_27.out (by decide) 3 (.string ⟨#[]⟩))
  have nX_ := Aside0.mk (blk_far (p := ⟨gz, 3, none⟩) X_27.out NXZ.out.symm (.string ⟨#[]⟩))
  have nZ_ : Aside0 ((w27.setCell ⟨gz, 3, none⟩ (.string ⟨#[]⟩)).heap[gz]? = some (.cells #[.slice A0 ty.length c0, .slice A1 tr.length c1, .slice A2 lp.length c2, .string ⟨#[]⟩, .int .i64 ver] 26 (0, 0))) := ⟨blk_set Z_27.out 3 (.string ⟨#[]⟩)⟩
  clear HB_27 Z_27 Y0_27 Y1_27 Y2_27 Y_27 X0_27 X1_27 X2_27 X_27
  generalize (w27.setCell ⟨gz, 3, none⟩ (.string ⟨#[]⟩)) = w28 at *
  have HB_28 := Aside0.mk (nHB_.out)
  clear nHB_
  have Y0_28 := Aside0.mk (nY0_.out)
  clear nY0_
  have Y1_28 := Aside0.mk (nY1_.out)
  clear nY1_
  have Y2_28 := Aside0.mk (nY2_.out)
  clear nY2_
  have Y_28 := Aside0.mk (nY_.out)
  clear nY_
  have X0_28 := Aside0.mk (nX0_.out)
  clear nX0_
  have X1_28 := Aside0.mk (nX1_.out)
  clear nX1_
  have X2_28 := Aside0.mk (nX2_.out)
  clear nX2_
  have X_28 := Aside0.mk (nX_.out)
  clear nX_
  have Z_28 := Aside0.mk (nZ_.out)
  clear nZ_
  obtain ⟨hz0, hz1, hz2, hz3, hz4⟩ := zone_cells Z_28.out
  obtain ⟨hy0, hy1, hy2, hy3, hy4⟩ := zone_cells Y_28.out
  go_wp2_with fail
  refine (HSAME.out Y0 Yc0 Y1 Yc1 Y2 Yc2 _ (Kd.R_reads' Y0_28.out).2.2 (Kd.R_reads' Y0_28.out).2.1 (Kd.R_reads' Y1_28.out).2.2 (Kd.R_reads' Y1_28.out).2.1 (Kd.R_reads' Y2_28.out).2.2 (Kd.R_reads' Y2_28.out).2.1 (Kd.C_below HR0.out HB_28.out) (Kd.C_below HR1.out HB_28.out) (Kd.C_below HR2.out HB_28.out)).mono ?_
  rintro e w29 ⟨rfl, hb_⟩
  have HB_29 := Aside0.mk (below_step HB_28.out hb_)
  have Y0_29 := Aside0.mk (Kd.R_below Y0_28.out hb_)
  have Y1_29 := Aside0.mk (Kd.R_below Y1_28.out hb_)
  have Y2_29 := Aside0.mk (Kd.R_below Y2_28.out hb_)
  have Y_29 := Aside0.mk (blk_below Y_28.out hb_)
  have X0_29 := Aside0.mk (Kd.R_below X0_28.out hb_)
  have X1_29 := Aside0.mk (Kd.R_below X1_28.out hb_)
  have X2_29 := Aside0.mk (Kd.R_below X2_28.out hb_)
  have X_29 := Aside0.mk (blk_below X_28.out hb_)
  have Z_29 := Aside0.mk (blk_below Z_28.out hb_)
  clear HB_28 Y0_28 Y1_28 Y2_28 Y_28 X0_28 X1_28 X2_28 X_28 Z_28
  clear hz0 hz1 hz2 hz3 hz4 hy0 hy1 hy2 hy3 hy4
  clear hb_
  obtain ⟨hz0, hz1, hz2, hz3, hz4⟩ := zone_cells Z_29.out
  obtain ⟨hx0, hx1, hx2, hx3, hx4⟩ := zone_cells X_29.out
  go_wp2_with fail
  refine (HSAME.out X0 Xc0 X1 Xc1 X2 Xc2 _ (Kd.R_reads' X0_29.out).2.2 (Kd.R_reads' X0_29.out).2.1 (Kd.R_reads' X1_29.out).2.2 (Kd.R_reads' X1_29.out).2.1 (Kd.R_reads' X2_29.out).2.2 (Kd.R_reads' X2_29.out).2.1 (Kd.C_below HR0.out HB_29.out) (Kd.C_below HR1.out HB_29.out) (Kd.C_below HR2.out HB_29.out)).mono ?_
  rintro e w30 ⟨rfl, hb_⟩
  have HB_30 := Aside0.mk (below_step HB_29.out hb_)
  have Y0_30 := Aside0.mk (Kd.R_below Y0_29.out hb_)
  have Y1_30 := Aside0.mk (Kd.R_below Y1_29.out hb_)
  have Y2_30 := Aside0.mk (Kd.R_below Y2_29.out hb_)
  have Y_30 := Aside0.mk (blk_below Y_29.out hb_)
  have X0_30 := Aside0.mk (Kd.R_below X0_29.out hb_)
  have X1_30 := Aside0.mk (Kd.R_below X1_29.out hb_)
  have X2_30 := Aside0.mk (Kd.R_below X2_29.out hb_)
  have X_30 := Aside0.mk (blk_below X_29.out hb_)
  have Z_30 := Aside0.mk (blk_below Z_29.out hb_)
  clear HB_29 Y0_29 Y1_29 Y2_29 Y_29 X0_29 X1_29 X2_29 X_29 Z_29
  clear hz0 hz1 hz2 hz3 hz4 hx0 hx1 hx2 hx3 hx4
  clear hb_
  go_wp2_with fail
  go_ret
  all_goals exact ⟨rfl, HB_30.out⟩
theorem marks_walk (A0 : Option Addr) (c0 : Nat) (ty : List S46) (A1 : Option Addr) (c1 : Nat) (tr : List S48) (A2 : Option Addr) (c2 : Nat) (lp : List S50) (foot : ByteArray) (ver : Int) (size k : Int) (w : World)
    (i0 : ty.length ≤ c0) (i1 : tr.length ≤ c1) (i2 : lp.length ≤ c2) (j0 : Kd.C k46 w A0 ty.length ty) (j1 : Kd.C k48 w A1 tr.length tr) (j2 : Kd.C k50 w A2 lp.length lp) (hz : RZ ty tr lp) :
    Calls Try.prog 7 #[.agg #[.slice A0 ty.length c0, .slice A1 tr.length c1, .slice A2 lp.length c2, .string foot, .int .i64 ver], .int .i64 size, .int .i64 k] w fun e w' => e = .returned (.bool true) ∧ Below w.heap.size w w' := by
  cases hb : fewB ty tr lp foot with
  | false => exact marks_few A0 c0 ty A1 c1 tr A2 c2 lp foot ver size k w i0 i1 i2 j0 j1 j2 hb
  | true =>
    cases hg : encG ty tr lp ver size with
    | false => exact marks_no A0 c0 ty A1 c1 tr A2 c2 lp foot ver size k w i0 i1 i2 j0 j1 j2 hb hg
    | true =>
      by_cases h0 : k < 0
      · exact marks_low A0 c0 ty A1 c1 tr A2 c2 lp foot ver size k w i0 i1 i2 j0 j1 j2 hb hg h0
      · obtain ⟨kn, rfl⟩ := Int.eq_ofNat_of_zero_le (show 0 ≤ k by omega)
        by_cases h1 : (ty.length : Int) ≤ (kn : Int)
        · exact marks_high A0 c0 ty A1 c1 tr A2 c2 lp foot ver size kn w i0 i1 i2 j0 j1 j2 hb hg (by omega) h1
        · exact marks_main A0 c0 ty A1 c1 tr A2 c2 lp foot ver size kn w i0 i1 i2 j0 j1 j2 hb hg hz (by omega)
end Go.Proofs.Ytpgjcnjojfehjaa.Bk
/- BlockMarks: marks of 0 behind the data change nothing, and one of the second row alone is wrong; no condition. -/
namespace Go.Proofs.Ytpgjcnjojfehjaa.blockMarks
open Go.ChangeShapes Go.WideShapes Go.ChangeAt Go.RowKit
open Go.ChangeMaps (open_string shut_string)
theorem own : ownKnob Try.prog.godebug = none := by kernel_rfl
theorem laidOut : laidOutB Try.prog = true := by kernel_rfl
set_option maxHeartbeats 1000000 in
set_option maxRecDepth 100000 in
theorem lifted (os : Os) (started : os.Started) (H : Type) (enc : TypeId × Value → H) :
    ReturnsInHanded {} Try.checked os 7 .any (Rows.blockMarksSpec.pre6 enc Try.prog Try.f7 Rows.blockMarksRow.domain false) (Rows.blockMarksSpec.post enc Try.prog Try.f7 false true false false) := by
  refine returnsInHanded_of_change_sized (C := Try.checked) own started (by kernel_rfl) Try.func7
    (ChangeSpec.witness6 (enc := enc) (C := Try.checked) false ⟨#[], #[.agg #[.slice none 0 0, .slice none 0 0, .slice none 0 0, .string ByteArray.empty, .int .i64 0], .int .i64 0, .int .i64 0], []⟩ 8 (by kernel_rfl) (by kernel_rfl) (by kernel_rfl) (by kernel_rfl)) ?_
  intro W base args ds gs before hval0 hW hcnd hsz0 _
  have hsz : (DataW.weightsEach Try.prog (Try.f7.params.toList ++ Rows.blockMarksSpec.plain.varTypes Try.prog) (ds ++ gs)).all (· ≤ reachBytes) = true := hsz0
  have hval : ∀ (j : Nat) t v, Try.f7.params[j]? = some t → args[j]? = some v → Value.okWide Try.prog W .any base t v := hval0
  have hW' := hW
  obtain ⟨p, q, hA0, hV, rfl, hfz, hnd⟩ := hW
  have hA : DataW.TrodAll enc Try.prog W 0 (fun _ => true) true Try.f7.params.toList args.toList ds p := hA0
  rw [Try.params7] at hA hval hsz
  obtain ⟨v0, vs0, d0, ds0, p0, q0, hargs, rfl, rfl, h0, r0⟩ := trodAll_cons hA
  obtain ⟨v1, vs1, d1, ds1, p1, q1, rfl, rfl, rfl, h1, r1⟩ := trodAll_cons r0
  obtain ⟨v2, vs2, d2, ds2, p2, q2, rfl, rfl, rfl, h2, r2⟩ := trodAll_cons r1
  obtain ⟨rfl, rfl, rfl⟩ := trodAll_nil r2
  obtain rfl : args = #[v0, v1, v2] := by cases args; simp_all
  obtain ⟨rfl, rfl⟩ := trodVars_none hV
  have k0 := h0
  have lt0 : ∀ x ∈ p0, x.block < W.heap.size := by obtain ⟨m, hm⟩ := k0; exact DataW.trod_lt m _ _ _ hm
  obtain ⟨A0_0, c0_0, l0_0, A0_1, c0_1, l0_1, A0_2, c0_2, l0_2, foot0, ver0, rfl, i0_0, i0_1, i0_2, j0_0, j0_1, j0_2, rz0⟩ := Bk.open_zone (hval 0 26 v0 rfl rfl) h0
  obtain ⟨a1, rfl, rfl, rfl, w1⟩ := open_int Try.underlying3 (hval 1 3 v1 rfl rfl) h1
  obtain ⟨a2, rfl, rfl, rfl, w2⟩ := open_int Try.underlying3 (hval 2 3 v2 rfl rfl) h2
  clear hA0 hval0 hsz0 hsz
  refine (Bk.marks_walk A0_0 c0_0 l0_0 A0_1 c0_1 l0_1 A0_2 c0_2 l0_2 foot0 ver0 a1 a2 W i0_0 i0_1 i0_2 j0_0 j0_1 j0_2 rz0).mono fun e W' ⟨he, bel⟩ => ?_
  subst he
  exact ⟨_, rfl, _, _, _, [], _, [], hW', trodAll_mk1 (shut_bool Try.underlying4 _), (trodAll_cons_mk (Below.trod laidOut (by kernel_rfl) (of_decide_eq_true (by kernel_rfl)) k0 bel lt0) (trodAll_cons_mk (shut_int Try.underlying3 w1) (trodAll_cons_mk (shut_int Try.underlying3 w2) trodAll_mk0))), rfl, bel.frame _, fun h => by cases h⟩
theorem over : Rows.blockMarksRow.holds Try.pinned (OpenSpec.ofChange Rows.blockMarksSpec) :=
  OpenClaim.holds_of_wide 7 Try.f7 rfl rfl rfl rfl rfl rfl rfl ⟨rfl, rfl, rfl, rfl, rfl⟩ rfl rfl rfl rfl rfl (by kernel_rfl) Try.func7 (by kernel_rfl)
    (of_decide_eq_true (by kernel_rfl)) (by unfold Func.isWrapper; first | (rw [if_pos (by decide +kernel)]; kernel_rfl) | (rw [if_neg (by decide +kernel)]; exact ⟨rfl, rfl⟩))
    (fun os started H enc _ => lifted os started H enc)
theorem proved : Rows.BlockMarksSaid := over
#print axioms proved
end Go.Proofs.Ytpgjcnjojfehjaa.blockMarks
namespace Go.Proofs.Ytpgjcnjojfehjaa
/-- The row, under a short name, for the claim. -/
theorem blockMarks_holds : Rows.BlockMarksSaid := blockMarks.proved
end Go.Proofs.Ytpgjcnjojfehjaa
