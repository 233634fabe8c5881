/- Towards TopSources; no condition. Texts laid together, without what none of them names (wip/block/prune.py): Sr3, Sr4, Sr5, Ss1, Ss2, Ss3, Ss4, Sk1, Sk2, Sk3, Sk4, Sk5, Se1, Se2, Se3, Se4, Se5, Sh1, SyL, Sh2, Sh3, Sh4, Sn2, Sn3, Sn4, Sq1, Sq2, Sq3, SyM, Sq4, Sq5, Sq6, Sq7. -/
import Derived.Test.YthjldemjipnmdaaGreatDoorV2
import Derived.Lib.AppendZeros
import Derived.Lib.MapLaws
import Derived.WalkSpells
import Derived.RegionTactic
namespace Go.Proofs.YthjldemjipnmdaaGreatDoor.Sx
open Go.RowKit
set_option maxRecDepth 100000
def tot (t : Tbl) : Int := sumAt t.leaps t.leaps.length
theorem tot_bd {t : Tbl} (hr : Rt t) : -200 ≤ tot t ∧ tot t ≤ 200 := by
 have := sumAt_bd (chkL_none hr.none) t.leaps.length (Nat.le_refl _)
 have := rt_len hr
 unfold tot
 omega
theorem expiry_ac (t : Tbl) (hr : Rt t) : AC Tryz.prog 61 (L1 (corrA (recs t))) (.tup (L2 (I (if t.has = true then t.exp + tot t else 0)) (B t.has))) := by
 have hn := rt_len hr
 have hlen := recs_len t
 have hl2 := recL_len t.leaps 0
 cases hh : t.has with
 | true =>
  rw [if_pos hh] at hlen
  have hi := recs_hi t hh
  refine AC.enter Tryz.func61 Tryz.ntmps61 rfl rfl rfl (fun F hX => ?_)
  repeat' (first | refine stp tab_ok rfl (by first | exact sideN | exact sideT (by omega)) ?_ | refine gT rfl rfl (by omega) ?_ | refine gF rfl rfl (by omega) ?_ | refine gNT rfl rfl (by omega) ?_ | refine gNF rfl rfl (by omega) ?_ | fail)
  refine good_call rfl rfl rfl rfl rfl ent127 (leaps_ac t hr) rfl ?_
  repeat' (first | refine stp tab_ok rfl (by first | exact sideN | exact sideT (by omega)) ?_ | refine gT rfl rfl (by omega) ?_ | refine gF rfl rfl (by omega) ?_ | refine gNT rfl rfl (by omega) ?_ | refine gNF rfl rfl (by omega) ?_ | fail)
  simp only [Int.toNat_natCast]
  rw [hl2]
  repeat' (first | refine stp tab_ok rfl (by first | exact sideN | exact sideT (by omega)) ?_ | refine gT rfl rfl (by omega) ?_ | refine gF rfl rfl (by omega) ?_ | refine gNT rfl rfl (by omega) ?_ | refine gNF rfl rfl (by omega) ?_ | fail)
  refine good_ret tab_ok hX rfl (Sub.of_eq ?_)
  rw [hi]
  rfl
 | false =>
  rw [hh, if_neg (by decide), Nat.add_zero] at hlen
  refine AC.enter Tryz.func61 Tryz.ntmps61 rfl rfl rfl (fun F hX => ?_)
  repeat' (first | refine stp tab_ok rfl (by first | exact sideN | exact sideT (by omega)) ?_ | refine gT rfl rfl (by omega) ?_ | refine gF rfl rfl (by omega) ?_ | refine gNT rfl rfl (by omega) ?_ | refine gNF rfl rfl (by omega) ?_ | fail)
  refine good_call rfl rfl rfl rfl rfl ent127 (leaps_ac t hr) rfl ?_
  repeat' (first | refine stp tab_ok rfl (by first | exact sideN | exact sideT (by omega)) ?_ | refine gT rfl rfl (by omega) ?_ | refine gF rfl rfl (by omega) ?_ | refine gNT rfl rfl (by omega) ?_ | refine gNF rfl rfl (by omega) ?_ | refine gS rfl rfl (fun _ => ?_) (fun _ => ?_) | refine gNS rfl rfl (fun _ => ?_) (fun _ => ?_) | refine gBS rfl rfl (fun _ => ?_) (fun _ => ?_) | refine gBN rfl rfl (fun _ => ?_) (fun _ => ?_) | refine good_ret tab_ok hX rfl (Sub.of_eq ?_) | refine good_end tab_ok hX rfl (Sub.of_eq ?_) | fail)
  rfl
theorem sum1_ac (l : List Cr) (at_ : Int) (i : Nat) (hi : i < l.length) : AC Tryz.prog 191 (L3 (I i) (.pim (L1 (corrA l))) (.pim (L1 (I at_)))) (B (decide (at_ < (l.getD i cr0).at_))) := by
 refine AC.enter Tryz.func191 Tryz.ntmps191 rfl rfl rfl (fun F hX => ?_)
 repeat' (first | refine stp tab_ok rfl (by first | exact sideN | exact sideT (by omega)) ?_ | refine gT rfl rfl (by omega) ?_ | refine gF rfl rfl (by omega) ?_ | refine gNT rfl rfl (by omega) ?_ | refine gNF rfl rfl (by omega) ?_ | fail)
 refine dg_start ?_
 repeat' (first | refine dgp tab_ok rfl (by first | exact sideN | exact sideT (by omega)) ?_ | refine dT rfl rfl (by omega) ?_ | refine dF rfl rfl (by omega) ?_ | refine dNT rfl rfl (by omega) ?_ | refine dNF rfl rfl (by omega) ?_ | fail)
 refine dg_end mixed rfl ?_
 repeat' (first | refine stp tab_ok rfl (by first | exact sideN | exact sideT (by omega)) ?_ | refine gT rfl rfl (by omega) ?_ | refine gF rfl rfl (by omega) ?_ | refine gNT rfl rfl (by omega) ?_ | refine gNF rfl rfl (by omega) ?_ | fail)
 simp only [Int.toNat_natCast]
 repeat' (first | refine stp tab_ok rfl (by first | exact sideN | exact sideT (by omega)) ?_ | refine gT rfl rfl (by omega) ?_ | refine gF rfl rfl (by omega) ?_ | refine gNT rfl rfl (by omega) ?_ | refine gNF rfl rfl (by omega) ?_ | refine gS rfl rfl (fun _ => ?_) (fun _ => ?_) | refine gNS rfl rfl (fun _ => ?_) (fun _ => ?_) | refine gBS rfl rfl (fun _ => ?_) (fun _ => ?_) | refine gBN rfl rfl (fun _ => ?_) (fun _ => ?_) | refine good_ret tab_ok hX rfl (Sub.of_eq ?_) | refine good_end tab_ok hX rfl (Sub.of_eq ?_) | fail)
 rfl
theorem step1_ac (l : List Cr) (at_ : Int) (i : Nat) (hi : i < l.length) : AC Tryz.prog 192 (L3 (I i) (.pim (L1 (corrA l))) (.pim (L1 (I at_)))) (B (decide (at_ ≤ (l.getD i cr0).at_))) := by
 refine AC.enter Tryz.func192 Tryz.ntmps192 rfl rfl rfl (fun F hX => ?_)
 repeat' (first | refine stp tab_ok rfl (by first | exact sideN | exact sideT (by omega)) ?_ | refine gT rfl rfl (by omega) ?_ | refine gF rfl rfl (by omega) ?_ | refine gNT rfl rfl (by omega) ?_ | refine gNF rfl rfl (by omega) ?_ | fail)
 refine dg_start ?_
 repeat' (first | refine dgp tab_ok rfl (by first | exact sideN | exact sideT (by omega)) ?_ | refine dT rfl rfl (by omega) ?_ | refine dF rfl rfl (by omega) ?_ | refine dNT rfl rfl (by omega) ?_ | refine dNF rfl rfl (by omega) ?_ | fail)
 refine dg_end mixed rfl ?_
 repeat' (first | refine stp tab_ok rfl (by first | exact sideN | exact sideT (by omega)) ?_ | refine gT rfl rfl (by omega) ?_ | refine gF rfl rfl (by omega) ?_ | refine gNT rfl rfl (by omega) ?_ | refine gNF rfl rfl (by omega) ?_ | fail)
 simp only [Int.toNat_natCast]
 repeat' (first | refine stp tab_ok rfl (by first | exact sideN | exact sideT (by omega)) ?_ | refine gT rfl rfl (by omega) ?_ | refine gF rfl rfl (by omega) ?_ | refine gNT rfl rfl (by omega) ?_ | refine gNF rfl rfl (by omega) ?_ | refine gS rfl rfl (fun _ => ?_) (fun _ => ?_) | refine gNS rfl rfl (fun _ => ?_) (fun _ => ?_) | refine gBS rfl rfl (fun _ => ?_) (fun _ => ?_) | refine gBN rfl rfl (fun _ => ?_) (fun _ => ?_) | refine good_ret tab_ok hX rfl (Sub.of_eq ?_) | refine good_end tab_ok hX rfl (Sub.of_eq ?_) | fail)
 rfl
theorem sum_ac (t : Tbl) (hr : Rt t) (at_ : Int) (k : Nat) (hk : k ≤ t.leaps.length) (h1 : ∀ i, i < k → atI t.leaps i ≤ at_) (h2 : ∀ i, k ≤ i → i < t.leaps.length → at_ < atI t.leaps i) : AC Tryz.prog 138 (L2 (corrA (recs t)) (I at_)) (I (sumAt t.leaps k)) := by
 have hn := rt_len hr
 have hl2 := recL_len t.leaps 0
 refine AC.enter Tryz.func138 Tryz.ntmps138 rfl rfl rfl (fun F hX => ?_)
 repeat' (first | refine stp tab_ok rfl (by first | exact sideN | exact sideT (by omega)) ?_ | refine gT rfl rfl (by omega) ?_ | refine gF rfl rfl (by omega) ?_ | refine gNT rfl rfl (by omega) ?_ | refine gNF rfl rfl (by omega) ?_ | fail)
 refine good_call rfl rfl rfl rfl rfl ent127 (leaps_ac t hr) rfl ?_
 repeat' (first | refine stp tab_ok rfl (by first | exact sideN | exact sideT (by omega)) ?_ | refine gT rfl rfl (by omega) ?_ | refine gF rfl rfl (by omega) ?_ | refine gNT rfl rfl (by omega) ?_ | refine gNF rfl rfl (by omega) ?_ | fail)
 refine good_callP rfl rfl rfl rfl rfl ent190 (search_ac 191 _ _ ent191 (recL t.leaps 0).length (by omega) (fun i => decide (at_ < ((recL t.leaps 0).getD i cr0).at_)) (fun i hi => sum1_ac _ at_ i hi) k (by omega) (fun i hi => ?_) (fun i hi hi2 => ?_)) rfl rfl ?_
 ·rw [recL_at _ i (by omega)]
  exact decide_eq_false (by have := h1 i hi; show ¬ at_ < atI t.leaps i; omega)
 ·rw [recL_at _ i (by omega)]
  exact decide_eq_true (h2 i hi (by omega))
 repeat' (first | refine stp tab_ok rfl (by first | exact sideN | exact sideT (by omega)) ?_ | refine gT rfl rfl (by omega) ?_ | refine gF rfl rfl (by omega) ?_ | refine gNT rfl rfl (by omega) ?_ | refine gNF rfl rfl (by omega) ?_ | fail)
 by_cases h0 : k = 0
 ·subst h0
  repeat' (first | refine stp tab_ok rfl (by first | exact sideN | exact sideT (by omega)) ?_ | refine gT rfl rfl (by omega) ?_ | refine gF rfl rfl (by omega) ?_ | refine gNT rfl rfl (by omega) ?_ | refine gNF rfl rfl (by omega) ?_ | refine gS rfl rfl (fun _ => ?_) (fun _ => ?_) | refine gNS rfl rfl (fun _ => ?_) (fun _ => ?_) | refine gBS rfl rfl (fun _ => ?_) (fun _ => ?_) | refine gBN rfl rfl (fun _ => ?_) (fun _ => ?_) | refine good_ret tab_ok hX rfl (Sub.of_eq ?_) | refine good_end tab_ok hX rfl (Sub.of_eq ?_) | fail)
  rfl
 ·have e1 : ((k : Int) - 1).toNat = k - 1 := by omega
  refine gF rfl rfl (by omega) ?_
  repeat' (first | refine stp tab_ok rfl (by first | exact sideN | exact sideT (by omega)) ?_ | refine gT rfl rfl (by omega) ?_ | refine gF rfl rfl (by omega) ?_ | refine gNT rfl rfl (by omega) ?_ | refine gNF rfl rfl (by omega) ?_ | fail)
  simp only [e1]
  repeat' (first | refine stp tab_ok rfl (by first | exact sideN | exact sideT (by omega)) ?_ | refine gT rfl rfl (by omega) ?_ | refine gF rfl rfl (by omega) ?_ | refine gNT rfl rfl (by omega) ?_ | refine gNF rfl rfl (by omega) ?_ | fail)
  refine good_ret tab_ok hX rfl (Sub.of_eq ?_)
  rw [recL_at _ _ (by omega)]
  show I (sumAt t.leaps (k - 1 + 1)) = _
  rw [show k - 1 + 1 = k by omega]
def stepAt (l : List Lp) (k : Nat) (at_ : Int) : Int := if k < l.length ∧ atI l k = at_ then (l.getD k lp0).step else 0
theorem step_ac (t : Tbl) (hr : Rt t) (at_ : Int) (k : Nat) (hk : k ≤ t.leaps.length) (h1 : ∀ i, i < k → atI t.leaps i < at_) (h2 : ∀ i, k ≤ i → i < t.leaps.length → at_ ≤ atI t.leaps i) : AC Tryz.prog 139 (L2 (corrA (recs t)) (I at_)) (I (stepAt t.leaps k at_)) := by
 have hn := rt_len hr
 have hl2 := recL_len t.leaps 0
 have hst := sumAt_bd (chkL_none hr.none)
 refine AC.enter Tryz.func139 Tryz.ntmps139 rfl rfl rfl (fun F hX => ?_)
 repeat' (first | refine stp tab_ok rfl (by first | exact sideN | exact sideT (by omega)) ?_ | refine gT rfl rfl (by omega) ?_ | refine gF rfl rfl (by omega) ?_ | refine gNT rfl rfl (by omega) ?_ | refine gNF rfl rfl (by omega) ?_ | fail)
 refine good_call rfl rfl rfl rfl rfl ent127 (leaps_ac t hr) rfl ?_
 repeat' (first | refine stp tab_ok rfl (by first | exact sideN | exact sideT (by omega)) ?_ | refine gT rfl rfl (by omega) ?_ | refine gF rfl rfl (by omega) ?_ | refine gNT rfl rfl (by omega) ?_ | refine gNF rfl rfl (by omega) ?_ | fail)
 refine good_callP rfl rfl rfl rfl rfl ent190 (search_ac 192 _ _ ent192 (recL t.leaps 0).length (by omega) (fun i => decide (at_ ≤ ((recL t.leaps 0).getD i cr0).at_)) (fun i hi => step1_ac _ at_ i hi) k (by omega) (fun i hi => ?_) (fun i hi hi2 => ?_)) rfl rfl ?_
 ·rw [recL_at _ i (by omega)]
  exact decide_eq_false (by have := h1 i hi; show ¬ at_ ≤ atI t.leaps i; omega)
 ·rw [recL_at _ i (by omega)]
  exact decide_eq_true (h2 i hi (by omega))
 repeat' (first | refine stp tab_ok rfl (by first | exact sideN | exact sideT (by omega)) ?_ | refine gT rfl rfl (by omega) ?_ | refine gF rfl rfl (by omega) ?_ | refine gNT rfl rfl (by omega) ?_ | refine gNF rfl rfl (by omega) ?_ | fail)
 refine dg_start ?_
 by_cases hkn : k = t.leaps.length
 ·unfold stepAt
  rw [if_neg (by omega)]
  repeat' (first | refine dgp tab_ok rfl (by first | exact sideN | exact sideT (by omega)) ?_ | refine dT rfl rfl (by omega) ?_ | refine dF rfl rfl (by omega) ?_ | refine dNT rfl rfl (by omega) ?_ | refine dNF rfl rfl (by omega) ?_ | fail)
  refine dg_end mixed rfl ?_
  repeat' (first | refine stp tab_ok rfl (by first | exact sideN | exact sideT (by omega)) ?_ | refine gT rfl rfl (by omega) ?_ | refine gF rfl rfl (by omega) ?_ | refine gNT rfl rfl (by omega) ?_ | refine gNF rfl rfl (by omega) ?_ | refine gS rfl rfl (fun _ => ?_) (fun _ => ?_) | refine gNS rfl rfl (fun _ => ?_) (fun _ => ?_) | refine gBS rfl rfl (fun _ => ?_) (fun _ => ?_) | refine gBN rfl rfl (fun _ => ?_) (fun _ => ?_) | refine good_ret tab_ok hX rfl (Sub.of_eq ?_) | refine good_end tab_ok hX rfl (Sub.of_eq ?_) | fail)
  rfl
 ·have hR := recL_at t.leaps k (by omega)
  have ha : ((recL t.leaps 0).getD k cr0).at_ = atI t.leaps k := by rw [hR]
  repeat' (first | refine dgp tab_ok rfl (by first | exact sideN | exact sideT (by omega)) ?_ | refine dT rfl rfl (by omega) ?_ | refine dF rfl rfl (by omega) ?_ | refine dNT rfl rfl (by omega) ?_ | refine dNF rfl rfl (by omega) ?_ | fail)
  simp only [Int.toNat_natCast]
  repeat' (first | refine dgp tab_ok rfl (by first | exact sideN | exact sideT (by omega)) ?_ | refine dT rfl rfl (by omega) ?_ | refine dF rfl rfl (by omega) ?_ | refine dNT rfl rfl (by omega) ?_ | refine dNF rfl rfl (by omega) ?_ | fail)
  refine dg_end mixed rfl ?_
  by_cases hat : atI t.leaps k = at_
  ·unfold stepAt
   rw [if_pos ⟨by omega, hat⟩]
   refine gF rfl rfl (by omega) ?_
   by_cases h0 : k = 0
   ·subst h0
    have hc : ((recL t.leaps 0).getD 0 cr0).corr = (t.leaps.getD 0 lp0).step := by rw [hR]; simp [sumAt]
    repeat' (first | refine stp tab_ok rfl (by first | exact sideN | exact sideT (by omega)) ?_ | refine gT rfl rfl (by omega) ?_ | refine gF rfl rfl (by omega) ?_ | refine gNT rfl rfl (by omega) ?_ | refine gNF rfl rfl (by omega) ?_ | fail)
    simp only [Int.toNat_zero, hc]
    repeat' (first | refine stp tab_ok rfl (by first | exact sideN | exact sideT (by omega)) ?_ | refine gT rfl rfl (by omega) ?_ | refine gF rfl rfl (by omega) ?_ | refine gNT rfl rfl (by omega) ?_ | refine gNF rfl rfl (by omega) ?_ | refine gS rfl rfl (fun _ => ?_) (fun _ => ?_) | refine gNS rfl rfl (fun _ => ?_) (fun _ => ?_) | refine gBS rfl rfl (fun _ => ?_) (fun _ => ?_) | refine gBN rfl rfl (fun _ => ?_) (fun _ => ?_) | refine good_ret tab_ok hX rfl (Sub.of_eq ?_) | refine good_end tab_ok hX rfl (Sub.of_eq ?_) | fail)
    rfl
   ·have e1 : ((k : Int) - 1).toNat = k - 1 := by omega
    have hc : ((recL t.leaps 0).getD k cr0).corr = sumAt t.leaps (k + 1) := by rw [hR]
    have hc2 : ((recL t.leaps 0).getD (k - 1) cr0).corr = sumAt t.leaps k := by
     rw [recL_at _ _ (by omega)]
     show sumAt t.leaps (k - 1 + 1) = _
     rw [show k - 1 + 1 = k by omega]
    have b1 := hst k (by omega)
    have b2 := hst (k + 1) (by omega)
    repeat' (first | refine stp tab_ok rfl (by first | exact sideN | exact sideT (by omega)) ?_ | refine gT rfl rfl (by omega) ?_ | refine gF rfl rfl (by omega) ?_ | refine gNT rfl rfl (by omega) ?_ | refine gNF rfl rfl (by omega) ?_ | fail)
    refine dg_start ?_
    repeat' (first | refine dgp tab_ok rfl (by first | exact sideN | exact sideT (by omega)) ?_ | refine dT rfl rfl (by omega) ?_ | refine dF rfl rfl (by omega) ?_ | refine dNT rfl rfl (by omega) ?_ | refine dNF rfl rfl (by omega) ?_ | fail)
    simp only [e1, Int.toNat_natCast, hc, hc2]
    repeat' (first | refine dgp tab_ok rfl (by first | exact sideN | exact sideT (by omega)) ?_ | refine dT rfl rfl (by omega) ?_ | refine dF rfl rfl (by omega) ?_ | refine dNT rfl rfl (by omega) ?_ | refine dNF rfl rfl (by omega) ?_ | fail)
    refine dg_end mixed rfl ?_
    repeat' (first | refine stp tab_ok rfl (by first | exact sideN | exact sideT (by omega)) ?_ | refine gT rfl rfl (by omega) ?_ | refine gF rfl rfl (by omega) ?_ | refine gNT rfl rfl (by omega) ?_ | refine gNF rfl rfl (by omega) ?_ | fail)
    refine good_ret tab_ok hX rfl (Sub.of_eq ?_)
    have : sumAt t.leaps (k + 1) = sumAt t.leaps k + (t.leaps.getD k lp0).step := rfl
    rw [this]
    congr 2
    omega
  ·unfold stepAt
   rw [if_neg (fun h => hat h.2)]
   repeat' (first | refine stp tab_ok rfl (by first | exact sideN | exact sideT (by omega)) ?_ | refine gT rfl rfl (by omega) ?_ | refine gF rfl rfl (by omega) ?_ | refine gNT rfl rfl (by omega) ?_ | refine gNF rfl rfl (by omega) ?_ | refine gS rfl rfl (fun _ => ?_) (fun _ => ?_) | refine gNS rfl rfl (fun _ => ?_) (fun _ => ?_) | refine gBS rfl rfl (fun _ => ?_) (fun _ => ?_) | refine gBN rfl rfl (fun _ => ?_) (fun _ => ?_) | refine good_ret tab_ok hX rfl (Sub.of_eq ?_) | refine good_end tab_ok hX rfl (Sub.of_eq ?_) | fail)
   rfl
end Go.Proofs.YthjldemjipnmdaaGreatDoor.Sx
namespace Go.Proofs.YthjldemjipnmdaaGreatDoor.Sx
open Go.RowKit
set_option maxRecDepth 100000
theorem numSub_ac (a b : Int) (hb : i64B b) (hn : i64B (a - b)) : AC Tryz.prog 96 (L2 (I a) (I b)) (.tup (L2 (I (a - b)) (B true))) := by
 have hd : (decide (a - b < a) != decide (0 < b)) = false := by
  rw [show decide (a - b < a) = decide (0 < b) from decide_eq_decide.2 (by omega)]
  simp
 refine AC.enter Tryz.func96 Tryz.ntmps96 rfl rfl rfl (fun F hX => ?_)
 repeat' (first | refine stp tab_ok rfl (by first | exact sideN | exact sideT (by omega)) ?_ | refine gT rfl rfl (by omega) ?_ | refine gF rfl rfl (by omega) ?_ | refine gNT rfl rfl (by omega) ?_ | refine gNF rfl rfl (by omega) ?_ | fail)
 refine gB rfl rfl hd ?_
 repeat' (first | refine stp tab_ok rfl (by first | exact sideN | exact sideT (by omega)) ?_ | refine gT rfl rfl (by omega) ?_ | refine gF rfl rfl (by omega) ?_ | refine gNT rfl rfl (by omega) ?_ | refine gNF rfl rfl (by omega) ?_ | refine gS rfl rfl (fun _ => ?_) (fun _ => ?_) | refine gNS rfl rfl (fun _ => ?_) (fun _ => ?_) | refine gBS rfl rfl (fun _ => ?_) (fun _ => ?_) | refine gBN rfl rfl (fun _ => ?_) (fun _ => ?_) | refine good_ret tab_ok hX rfl (Sub.of_eq ?_) | refine good_end tab_ok hX rfl (Sub.of_eq ?_) | fail)
 rfl
theorem numAdd_ac (a b : Int) (hb : i64B b) (hn : i64B (a + b)) : AC Tryz.prog 69 (L2 (I a) (I b)) (.tup (L2 (I (a + b)) (B true))) := by
 have hd : (decide (a < a + b) != decide (0 < b)) = false := by
  rw [show decide (a < a + b) = decide (0 < b) from decide_eq_decide.2 (by omega)]
  simp
 refine AC.enter Tryz.func69 Tryz.ntmps69 rfl rfl rfl (fun F hX => ?_)
 repeat' (first | refine stp tab_ok rfl (by first | exact sideN | exact sideT (by omega)) ?_ | refine gT rfl rfl (by omega) ?_ | refine gF rfl rfl (by omega) ?_ | refine gNT rfl rfl (by omega) ?_ | refine gNF rfl rfl (by omega) ?_ | fail)
 refine gB rfl rfl hd ?_
 repeat' (first | refine stp tab_ok rfl (by first | exact sideN | exact sideT (by omega)) ?_ | refine gT rfl rfl (by omega) ?_ | refine gF rfl rfl (by omega) ?_ | refine gNT rfl rfl (by omega) ?_ | refine gNF rfl rfl (by omega) ?_ | refine gS rfl rfl (fun _ => ?_) (fun _ => ?_) | refine gNS rfl rfl (fun _ => ?_) (fun _ => ?_) | refine gBS rfl rfl (fun _ => ?_) (fun _ => ?_) | refine gBN rfl rfl (fun _ => ?_) (fun _ => ?_) | refine good_ret tab_ok hX rfl (Sub.of_eq ?_) | refine good_end tab_ok hX rfl (Sub.of_eq ?_) | fail)
 rfl
def aheadC (t : Tbl) (i : Nat) : Cr := if i = 0 then ⟨-2419199, 0⟩ else (recs t).getD (i - 1) cr0
theorem rec_lo {t : Tbl} (hr : Rt t) {i : Nat} (hi : i < t.leaps.length) : ((recs t).getD i cr0).corr - (aheadC t i).corr = (t.leaps.getD i lp0).step ∧ (0 ≤ ((recs t).getD i cr0).at_ ∧ ((recs t).getD i cr0).at_ ≤ 253402400000) ∧ (-201 ≤ ((recs t).getD i cr0).corr ∧ ((recs t).getD i cr0).corr ≤ 201) ∧ (-201 ≤ (aheadC t i).corr ∧ (aheadC t i).corr ≤ 201) ∧ (-2419199 ≤ (aheadC t i).at_ ∧ (aheadC t i).at_ ≤ 253402400000) ∧ (0 < i → 2419199 ≤ ((recs t).getD i cr0).at_ - (aheadC t i).at_) := by
 have hL := chkL_none hr.none
 have hn := rt_len hr
 have h1 := sumAt_bd hL (i + 1) (by omega)
 have h2 := sumAt_bd hL i (by omega)
 have h3 := at_bd hL hi
 rw [recs_lo t i hi]
 have e : sumAt t.leaps (i + 1) = sumAt t.leaps i + (t.leaps.getD i lp0).step := rfl
 by_cases h0 : i = 0
 ·subst h0
  have : aheadC t 0 = ⟨-2419199, 0⟩ := rfl
  rw [this]
  simp only [sumAt] at *
  omega
 ·have : aheadC t i = ⟨atI t.leaps (i - 1), sumAt t.leaps i⟩ := by
   unfold aheadC
   rw [if_neg h0, recs_lo t _ (by omega), show i - 1 + 1 = i by omega]
  rw [this]
  have h4 := at_bd hL (show i - 1 < t.leaps.length by omega)
  have h5 := at_gap hL (show i - 1 + 1 < t.leaps.length by omega)
  rw [show i - 1 + 1 = i by omega] at h5
  simp only
  omega
theorem rec_hi {t : Tbl} (hr : Rt t) (hh : t.has = true) : ((recs t).getD t.leaps.length cr0).corr - (aheadC t t.leaps.length).corr = 0 ∧ (0 ≤ ((recs t).getD t.leaps.length cr0).at_ ∧ ((recs t).getD t.leaps.length cr0).at_ ≤ 253402400000) ∧ (-201 ≤ ((recs t).getD t.leaps.length cr0).corr ∧ ((recs t).getD t.leaps.length cr0).corr ≤ 201) ∧ (-201 ≤ (aheadC t t.leaps.length).corr ∧ (aheadC t t.leaps.length).corr ≤ 201) ∧ (-2419199 ≤ (aheadC t t.leaps.length).at_ ∧ (aheadC t t.leaps.length).at_ ≤ 253402400000) ∧ (0 < t.leaps.length → 0 ≤ ((recs t).getD t.leaps.length cr0).at_ - (aheadC t t.leaps.length).at_) := by
 have hL := chkL_none hr.none
 have hn := rt_len hr
 have hy := hr.yes hh
 have ht := tot_bd hr
 unfold tot at ht
 rw [recs_hi t hh]
 by_cases h0 : t.leaps.length = 0
 ·rw [h0] at ht ⊢
  have : aheadC t 0 = ⟨-2419199, 0⟩ := rfl
  rw [this]
  simp only [sumAt] at *
  omega
 ·have e0 : t.leaps.length - 1 + 1 = t.leaps.length := by omega
  have : aheadC t t.leaps.length = ⟨atI t.leaps (t.leaps.length - 1), sumAt t.leaps t.leaps.length⟩ := by
   unfold aheadC
   rw [if_neg h0, recs_lo t _ (by omega), e0]
  rw [this]
  have h4 := at_bd hL (show t.leaps.length - 1 < t.leaps.length by omega)
  have h6 := (hL (t.leaps.length - 1) (by omega)).step
  have hl := aheadAt_last t.leaps
  unfold aheadAt at hl
  rw [if_neg h0] at hl
  rw [← hl] at hy
  have e : sumAt t.leaps t.leaps.length = sumAt t.leaps (t.leaps.length - 1) + (t.leaps.getD (t.leaps.length - 1) lp0).step := by
   conv => lhs; rw [← e0]
   rfl
  simp only
  unfold atI at h4 ⊢
  omega
theorem rcheckR_ac (t : Tbl) (hr : Rt t) : AC Tryz.prog 126 (L1 (corrA (recs t))) (.tup (L2 (I (recs t).length) (I 0))) := by
 have hn := rt_len hr
 have hlen := recs_len t
 have hL := chkL_none hr.none
 refine AC.enter Tryz.func126 Tryz.ntmps126 rfl rfl rfl (fun F hX => ?_)
 repeat' (first | refine stp tab_ok rfl (by first | exact sideN | exact sideT (by omega)) ?_ | refine gT rfl rfl (by omega) ?_ | refine gF rfl rfl (by omega) ?_ | refine gNT rfl rfl (by omega) ?_ | refine gNF rfl rfl (by omega) ?_ | fail)
 refine good_rounds (fun i : Nat => [(12, corrA (recs t)), (13, I (recs t).length), (14, I i), (0, corrA (recs t)), (4, .ptr 4 0)]) (fun i : Nat => [(4, .box 80 (crA (aheadC t i)))]) (fun i : Nat => (recs t).length - i) (fun i : Nat => i ≤ (recs t).length) 0 (by omega) (Wk.mk ⟨Sub.of_eq rfl, Sub.of_eq rfl, Sub.of_eq rfl, Sub.of_eq rfl, Sub.of_eq rfl, trivial⟩ ⟨⟨_, rfl, SubO.refl _⟩, trivial⟩ rfl rfl (pin0 hX)) (fun i hi => ?_)
 have hlen2 : (recs t).length ≤ 201 := by rw [hlen]; split <;> omega
 repeat' (first | refine stp tab_ok rfl (by first | exact sideN | exact sideT (by omega)) ?_ | refine gT rfl rfl (by omega) ?_ | refine gF rfl rfl (by omega) ?_ | refine gNT rfl rfl (by omega) ?_ | refine gNF rfl rfl (by omega) ?_ | fail)
 by_cases hlt : i < (recs t).length
 ·refine gT rfl rfl (by omega) ?_
  repeat' (first | refine stp tab_ok rfl (by first | exact sideN | exact sideT (by omega)) ?_ | refine gT rfl rfl (by omega) ?_ | refine gF rfl rfl (by omega) ?_ | refine gNT rfl rfl (by omega) ?_ | refine gNF rfl rfl (by omega) ?_ | fail)
  simp only [Int.toNat_natCast]
  by_cases hin : i < t.leaps.length
  ·obtain ⟨c1, c2, c3, c4, c5, c6⟩ := rec_lo hr hin
   have hs := (hL i hin).step
   repeat' (first | refine stp tab_ok rfl (by first | exact sideN | exact sideT (by omega)) ?_ | refine gT rfl rfl (by omega) ?_ | refine gF rfl rfl (by omega) ?_ | refine gNT rfl rfl (by omega) ?_ | refine gNF rfl rfl (by omega) ?_ | fail)
   refine good_call rfl rfl rfl rfl rfl ent96 (numSub_ac _ _ (by omega) (by omega)) rfl ?_
   rcases hs with hs | hs <;> by_cases h0 : i = 0 <;> (
    repeat' (first | refine stp tab_ok rfl (by first | exact sideN | exact sideT (by omega)) ?_ | refine gT rfl rfl (by omega) ?_ | refine gF rfl rfl (by omega) ?_ | refine gNT rfl rfl (by omega) ?_ | refine gNF rfl rfl (by omega) ?_ | fail)
    exact good_again (i + 1) (by omega) (by omega) (Wk.mk ⟨Sub.of_eq rfl, Sub.of_eq rfl, Sub.of_eq rfl, Sub.of_eq rfl, Sub.of_eq rfl, trivial⟩ ⟨⟨_, rfl, SubO.refl _⟩, trivial⟩ rfl rfl (pin0 hX)))
  ·have hh : t.has = true := by
    cases h : t.has with
    | true => rfl
    | false => rw [h, if_neg (by decide)] at hlen; omega
   rw [if_pos hh] at hlen
   obtain rfl : i = t.leaps.length := by omega
   obtain ⟨c1, c2, c3, c4, c5, c6⟩ := rec_hi hr hh
   repeat' (first | refine stp tab_ok rfl (by first | exact sideN | exact sideT (by omega)) ?_ | refine gT rfl rfl (by omega) ?_ | refine gF rfl rfl (by omega) ?_ | refine gNT rfl rfl (by omega) ?_ | refine gNF rfl rfl (by omega) ?_ | fail)
   refine good_call rfl rfl rfl rfl rfl ent96 (numSub_ac _ _ (by omega) (by omega)) rfl ?_
   by_cases h0 : t.leaps.length = 0 <;> (
    repeat' (first | refine stp tab_ok rfl (by first | exact sideN | exact sideT (by omega)) ?_ | refine gT rfl rfl (by omega) ?_ | refine gF rfl rfl (by omega) ?_ | refine gNT rfl rfl (by omega) ?_ | refine gNF rfl rfl (by omega) ?_ | fail)
    exact good_again (t.leaps.length + 1) (by omega) (by omega) (Wk.mk ⟨Sub.of_eq rfl, Sub.of_eq rfl, Sub.of_eq rfl, Sub.of_eq rfl, Sub.of_eq rfl, trivial⟩ ⟨⟨_, rfl, SubO.refl _⟩, trivial⟩ rfl rfl (pin0 hX)))
 ·obtain rfl : i = (recs t).length := by omega
  refine gF rfl rfl (by omega) ?_
  repeat' (first | refine stp tab_ok rfl (by first | exact sideN | exact sideT (by omega)) ?_ | refine gT rfl rfl (by omega) ?_ | refine gF rfl rfl (by omega) ?_ | refine gNT rfl rfl (by omega) ?_ | refine gNF rfl rfl (by omega) ?_ | refine gS rfl rfl (fun _ => ?_) (fun _ => ?_) | refine gNS rfl rfl (fun _ => ?_) (fun _ => ?_) | refine gBS rfl rfl (fun _ => ?_) (fun _ => ?_) | refine gBN rfl rfl (fun _ => ?_) (fun _ => ?_) | refine good_ret tab_ok hX rfl (Sub.of_eq ?_) | refine good_end tab_ok hX rfl (Sub.of_eq ?_) | fail)
  rfl
theorem rrightR_ac (t : Tbl) (hr : Rt t) : AC Tryz.prog 60 (L1 (corrA (recs t))) (B true) := by
 refine AC.enter Tryz.func60 Tryz.ntmps60 rfl rfl rfl (fun F hX => ?_)
 repeat' (first | refine stp tab_ok rfl (by first | exact sideN | exact sideT (by omega)) ?_ | refine gT rfl rfl (by omega) ?_ | refine gF rfl rfl (by omega) ?_ | refine gNT rfl rfl (by omega) ?_ | refine gNF rfl rfl (by omega) ?_ | fail)
 refine good_call rfl rfl rfl rfl rfl ent126 (rcheckR_ac t hr) rfl ?_
 repeat' (first | refine stp tab_ok rfl (by first | exact sideN | exact sideT (by omega)) ?_ | refine gT rfl rfl (by omega) ?_ | refine gF rfl rfl (by omega) ?_ | refine gNT rfl rfl (by omega) ?_ | refine gNF rfl rfl (by omega) ?_ | refine gS rfl rfl (fun _ => ?_) (fun _ => ?_) | refine gNS rfl rfl (fun _ => ?_) (fun _ => ?_) | refine gBS rfl rfl (fun _ => ?_) (fun _ => ?_) | refine gBN rfl rfl (fun _ => ?_) (fun _ => ?_) | refine good_ret tab_ok hX rfl (Sub.of_eq ?_) | refine good_end tab_ok hX rfl (Sub.of_eq ?_) | fail)
 rfl
end Go.Proofs.YthjldemjipnmdaaGreatDoor.Sx
namespace Go.Proofs.YthjldemjipnmdaaGreatDoor.Sx
open Go.RowKit
set_option maxRecDepth 100000
def nr (x : Lp) : Lp := { x with roll := false }
def nrT (t : Tbl) : Tbl := { t with leaps := t.leaps.map nr }
theorem chkL_nr : ∀ (l : List Lp) (k a : Int), chkL (l.map nr) k a = chkL l k a
 | [], _, _ => rfl
 | x :: l, k, a => by
  show (if wrongF k (nr x) a ≠ 0 then some (k, wrongF k (nr x) a) else chkL (l.map nr) (k + 1) (nr x).day) = _
  rw [chkL_nr l]
  rfl
theorem lastDay_nr (l : List Lp) : lastDay (l.map nr) = lastDay l := by
 unfold lastDay
 rw [List.getLast?_map]
 cases l.getLast? <;> rfl
theorem rt_nr {t : Tbl} (h : Rt t) : Rt (nrT t) := ⟨by show chkL (t.leaps.map nr) 0 729 = none; rw [chkL_nr]; exact h.none, by show t.has = true → _; rw [show lastDay (nrT t).leaps = lastDay t.leaps from lastDay_nr _]; exact h.yes, h.no⟩
theorem getD_nr (l : List Lp) (i : Nat) : (l.map nr).getD i lp0 = nr (l.getD i lp0) := by
 rw [List.getD_eq_getElem?_getD, List.getD_eq_getElem?_getD, List.getElem?_map]
 cases l[i]? <;> rfl
theorem table_ac (t : Tbl) (hr : Rt t) : AC Tryz.prog 136 (L1 (corrA (recs t))) (.tup (L2 (tblA (nrT t)) (B true))) := by
 have hn := rt_len hr
 have hlen := recs_len t
 have hl2 := recL_len t.leaps 0
 have hL := chkL_none hr.none
 refine AC.enter Tryz.func136 Tryz.ntmps136 rfl rfl rfl (fun F hX => ?_)
 repeat' (first | refine stp tab_ok rfl (by first | exact sideN | exact sideT (by omega)) ?_ | refine gT rfl rfl (by omega) ?_ | refine gF rfl rfl (by omega) ?_ | refine gNT rfl rfl (by omega) ?_ | refine gNF rfl rfl (by omega) ?_ | fail)
 refine good_adoptB 2 0 1000 42 3 (fun j => lpA (nr (t.leaps.getD j lp0))) rfl rfl rfl rfl ?_
 repeat' (first | refine stp tab_ok rfl (by first | exact sideN | exact sideT (by omega)) ?_ | refine gT rfl rfl (by omega) ?_ | refine gF rfl rfl (by omega) ?_ | refine gNT rfl rfl (by omega) ?_ | refine gNF rfl rfl (by omega) ?_ | fail)
 refine good_call rfl rfl rfl rfl rfl ent127 (leaps_ac t hr) rfl ?_
 repeat' (first | refine stp tab_ok rfl (by first | exact sideN | exact sideT (by omega)) ?_ | refine gT rfl rfl (by omega) ?_ | refine gF rfl rfl (by omega) ?_ | refine gNT rfl rfl (by omega) ?_ | refine gNF rfl rfl (by omega) ?_ | fail)
 refine good_rounds (fun i : Nat => [(14, corrA (recL t.leaps 0)), (15, I t.leaps.length), (16, I i), (0, corrA (recs t)), (5, corrA (recL t.leaps 0)), (4, I (sumAt t.leaps i)), (2, .ptr 2 0)]) (fun i : Nat => [(2, .box 25 (L3 (.own 1000) (B false) (I 0))), (1000, .row 42 3 i (fun j => lpA (nr (t.leaps.getD j lp0))))]) (fun i : Nat => t.leaps.length - i) (fun i : Nat => i ≤ t.leaps.length) 0 (by omega) ?_ (fun i hi => ?_)
 ·exact Wk.mk ⟨Sub.of_eq rfl, Sub.of_eq (congrArg (fun n : Nat => I n) hl2), Sub.of_eq rfl, Sub.of_eq rfl, Sub.of_eq rfl, Sub.of_eq rfl, Sub.of_eq rfl, trivial⟩ ⟨⟨_, rfl, SubO.refl _⟩, ⟨_, rfl, SubO.refl _⟩, trivial⟩ rfl rfl (pin0 hX)
 have hs1 := sumAt_bd hL i hi
 repeat' (first | refine stp tab_ok rfl (by first | exact sideN | exact sideT (by omega)) ?_ | refine gT rfl rfl (by omega) ?_ | refine gF rfl rfl (by omega) ?_ | refine gNT rfl rfl (by omega) ?_ | refine gNF rfl rfl (by omega) ?_ | fail)
 by_cases hlt : i < t.leaps.length
 ·refine gT rfl rfl (by omega) ?_
  have hi2 : i < (recL t.leaps 0).length := by omega
  repeat' (first | refine stp tab_ok rfl (by first | exact sideN | exact sideT (by omega)) ?_ | refine gT rfl rfl (by omega) ?_ | refine gF rfl rfl (by omega) ?_ | refine gNT rfl rfl (by omega) ?_ | refine gNF rfl rfl (by omega) ?_ | fail)
  simp only [Int.toNat_natCast]
  rw [recL_at _ i hlt]
  dsimp only
  have hd := (hL i hlt).day
  have hst := (hL i hlt).step
  have hb := at_bd hL hlt
  have hs2 := sumAt_bd hL (i + 1) (by omega)
  have e : sumAt t.leaps (i + 1) - sumAt t.leaps i = (t.leaps.getD i lp0).step := by show sumAt t.leaps i + _ - _ = _; omega
  have e2 : atI t.leaps i - sumAt t.leaps i - min (t.leaps.getD i lp0).step 0 = ((t.leaps.getD i lp0).day + 1) * 86400 := by unfold atI; omega
  have e3 : ((t.leaps.getD i lp0).day + 1) * 86400 / 86400 = (t.leaps.getD i lp0).day + 1 := by omega
  have e4 : ((t.leaps.getD i lp0).day + 1) * 86400 % 86400 = 0 := by omega
  repeat' (first | refine stp tab_ok rfl (by first | exact sideN | exact sideT (by omega)) ?_ | refine gT rfl rfl (by omega) ?_ | refine gF rfl rfl (by omega) ?_ | refine gNT rfl rfl (by omega) ?_ | refine gNF rfl rfl (by omega) ?_ | fail)
  rw [e, e2]
  refine good_call rfl rfl rfl rfl rfl ent81 (numDiv_ac _ _ (by omega) (by omega) (by omega)) rfl ?_
  rw [e3, e4]
  repeat' (first | refine stp tab_ok rfl (by first | exact sideN | exact sideT (by omega)) ?_ | refine gT rfl rfl (by omega) ?_ | refine gF rfl rfl (by omega) ?_ | refine gNT rfl rfl (by omega) ?_ | refine gNF rfl rfl (by omega) ?_ | fail)
  refine good_swap 46 1000 rfl (swap0 hX) ?_
  refine good_again (i + 1) (by omega) (by omega) (Wk.mk ⟨Sub.of_eq rfl, Sub.of_eq rfl, Sub.of_eq rfl, Sub.of_eq rfl, Sub.of_eq rfl, Sub.of_eq rfl, Sub.of_eq rfl, trivial⟩ ⟨⟨_, rfl, SubO.refl _⟩, ⟨_, rfl, SubO.row rfl (fun j hj => ?_)⟩, trivial⟩ rfl rfl (pin0 hX))
  unfold catF
  split
  ·rfl
  ·obtain rfl : j = i := by omega
   rw [Nat.sub_self]
   show L3 (I ((t.leaps.getD j lp0).day + 1 - 1)) (I (t.leaps.getD j lp0).step) (B false) = _
   rw [Int.add_sub_cancel]
   rfl
 ·obtain rfl : i = t.leaps.length := by omega
  refine gF rfl rfl (by omega) ?_
  have ht := tot_bd hr
  unfold tot at ht
  have hR := rt_nr hr
  have hsub : Sub (.im 3 t.leaps.length (fun j => lpA (nr (t.leaps.getD j lp0)))) (leapsA (nrT t).leaps) := Sub.im (by simp [nrT]) (fun i _ => by rw [show (nrT t).leaps = t.leaps.map nr from rfl, getD_nr])
  cases hh : t.has with
  | true =>
   rw [if_pos hh] at hlen
   have hi := recs_hi t hh
   have hy := hr.yes hh
   repeat' (first | refine stp tab_ok rfl (by first | exact sideN | exact sideT (by omega)) ?_ | refine gT rfl rfl (by omega) ?_ | refine gF rfl rfl (by omega) ?_ | refine gNT rfl rfl (by omega) ?_ | refine gNF rfl rfl (by omega) ?_ | fail)
   simp only [Int.toNat_natCast]
   rw [hl2]
   simp only [hi]
   repeat' (first | refine stp tab_ok rfl (by first | exact sideN | exact sideT (by omega)) ?_ | refine gT rfl rfl (by omega) ?_ | refine gF rfl rfl (by omega) ?_ | refine gNT rfl rfl (by omega) ?_ | refine gNF rfl rfl (by omega) ?_ | fail)
   refine good_freeze 1000 rfl ?_
   have hsL : SubL (L3 (.im 3 t.leaps.length (fun j => lpA (nr (t.leaps.getD j lp0)))) (B (decide ((t.leaps.length : Int) < (recs t).length))) (I (t.exp + sumAt t.leaps t.leaps.length - sumAt t.leaps t.leaps.length))) (L3 (leapsA (nrT t).leaps) (B (nrT t).has) (I (nrT t).exp)) :=
    SubL.cons hsub (SubL.cons (Sub.of_eq (by rw [show (nrT t).has = t.has from rfl, hh, decide_eq_true (by omega)])) (SubL.cons (Sub.of_eq (by rw [Int.add_sub_cancel]; rfl)) (SubL.refl _)))
   refine good_call rfl rfl rfl rfl rfl ent26 ((right_ac (nrT t) (by have := rt_len hR; omega)).args (SubL.cons (Sub.agg hsL) (SubL.refl _))) rfl ?_
   rw [rt_iff.2 hR]
   repeat' (first | refine stp tab_ok rfl (by first | exact sideN | exact sideT (by omega)) ?_ | refine gT rfl rfl (by omega) ?_ | refine gF rfl rfl (by omega) ?_ | refine gNT rfl rfl (by omega) ?_ | refine gNF rfl rfl (by omega) ?_ | fail)
   exact good_ret tab_ok hX rfl (Sub.tup (SubL.cons (Sub.agg hsL) (SubL.refl _)))
  | false =>
   rw [hh, if_neg (by decide), Nat.add_zero] at hlen
   have hno := hr.no hh
   repeat' (first | refine stp tab_ok rfl (by first | exact sideN | exact sideT (by omega)) ?_ | refine gT rfl rfl (by omega) ?_ | refine gF rfl rfl (by omega) ?_ | refine gNT rfl rfl (by omega) ?_ | refine gNF rfl rfl (by omega) ?_ | fail)
   refine good_freeze 1000 rfl ?_
   rw [hl2]
   have hsL : SubL (L3 (.im 3 t.leaps.length (fun j => lpA (nr (t.leaps.getD j lp0)))) (B (decide ((t.leaps.length : Int) < (recs t).length))) (I 0)) (L3 (leapsA (nrT t).leaps) (B (nrT t).has) (I (nrT t).exp)) :=
    SubL.cons hsub (SubL.cons (Sub.of_eq (by rw [show (nrT t).has = t.has from rfl, hh, decide_eq_false (by omega)])) (SubL.cons (Sub.of_eq (by rw [show (nrT t).exp = t.exp from rfl, hno])) (SubL.refl _)))
   refine good_call rfl rfl rfl rfl rfl ent26 ((right_ac (nrT t) (by have := rt_len hR; omega)).args (SubL.cons (Sub.agg hsL) (SubL.refl _))) rfl ?_
   rw [rt_iff.2 hR]
   repeat' (first | refine stp tab_ok rfl (by first | exact sideN | exact sideT (by omega)) ?_ | refine gT rfl rfl (by omega) ?_ | refine gF rfl rfl (by omega) ?_ | refine gNT rfl rfl (by omega) ?_ | refine gNF rfl rfl (by omega) ?_ | fail)
   exact good_ret tab_ok hX rfl (Sub.tup (SubL.cons (Sub.agg hsL) (SubL.refl _)))
end Go.Proofs.YthjldemjipnmdaaGreatDoor.Sx
namespace Go.Proofs.YthjldemjipnmdaaGreatDoor.Sx
open Go.RowKit
set_option maxRecDepth 100000
theorem known_ac (t : Tbl) (hr : Rt t) : AC Tryz.prog 77 (L1 (corrA (recs t))) (B true) := by
 refine AC.enter Tryz.func77 Tryz.ntmps77 rfl rfl rfl (fun F hX => ?_)
 repeat' (first | refine stp tab_ok rfl (by first | exact sideN | exact sideT (by omega)) ?_ | refine gT rfl rfl (by omega) ?_ | refine gF rfl rfl (by omega) ?_ | refine gNT rfl rfl (by omega) ?_ | refine gNF rfl rfl (by omega) ?_ | fail)
 refine good_call rfl rfl rfl rfl rfl ent60 (rrightR_ac t hr) rfl ?_
 repeat' (first | refine stp tab_ok rfl (by first | exact sideN | exact sideT (by omega)) ?_ | refine gT rfl rfl (by omega) ?_ | refine gF rfl rfl (by omega) ?_ | refine gNT rfl rfl (by omega) ?_ | refine gNF rfl rfl (by omega) ?_ | fail)
 refine good_call rfl rfl rfl rfl rfl ent136 (table_ac t hr) rfl ?_
 repeat' (first | refine stp tab_ok rfl (by first | exact sideN | exact sideT (by omega)) ?_ | refine gT rfl rfl (by omega) ?_ | refine gF rfl rfl (by omega) ?_ | refine gNT rfl rfl (by omega) ?_ | refine gNF rfl rfl (by omega) ?_ | refine gS rfl rfl (fun _ => ?_) (fun _ => ?_) | refine gNS rfl rfl (fun _ => ?_) (fun _ => ?_) | refine gBS rfl rfl (fun _ => ?_) (fun _ => ?_) | refine gBN rfl rfl (fun _ => ?_) (fun _ => ?_) | refine good_ret tab_ok hX rfl (Sub.of_eq ?_) | refine good_end tab_ok hX rfl (Sub.of_eq ?_) | fail)
 rfl
def expiredB (t : Tbl) (at_ : Int) : Bool := t.has && decide (t.exp + tot t ≤ at_)
theorem expired_ac (t : Tbl) (hr : Rt t) (at_ : Int) : AC Tryz.prog 84 (L2 (corrA (recs t)) (I at_)) (B (expiredB t at_)) := by
 unfold expiredB
 refine AC.enter Tryz.func84 Tryz.ntmps84 rfl rfl rfl (fun F hX => ?_)
 repeat' (first | refine stp tab_ok rfl (by first | exact sideN | exact sideT (by omega)) ?_ | refine gT rfl rfl (by omega) ?_ | refine gF rfl rfl (by omega) ?_ | refine gNT rfl rfl (by omega) ?_ | refine gNF rfl rfl (by omega) ?_ | fail)
 refine good_call rfl rfl rfl rfl rfl ent61 (expiry_ac t hr) rfl ?_
 repeat' (first | refine stp tab_ok rfl (by first | exact sideN | exact sideT (by omega)) ?_ | refine gT rfl rfl (by omega) ?_ | refine gF rfl rfl (by omega) ?_ | refine gNT rfl rfl (by omega) ?_ | refine gNF rfl rfl (by omega) ?_ | fail)
 refine gBS rfl rfl (fun hh => ?_) (fun hh => ?_)
 ·repeat' (first | refine stp tab_ok rfl (by first | exact sideN | exact sideT (by omega)) ?_ | refine gT rfl rfl (by omega) ?_ | refine gF rfl rfl (by omega) ?_ | refine gNT rfl rfl (by omega) ?_ | refine gNF rfl rfl (by omega) ?_ | refine gS rfl rfl (fun _ => ?_) (fun _ => ?_) | refine gNS rfl rfl (fun _ => ?_) (fun _ => ?_) | refine gBS rfl rfl (fun _ => ?_) (fun _ => ?_) | refine gBN rfl rfl (fun _ => ?_) (fun _ => ?_) | refine good_ret tab_ok hX rfl (Sub.of_eq ?_) | refine good_end tab_ok hX rfl (Sub.of_eq ?_) | fail)
  simp [hh]
 ·repeat' (first | refine stp tab_ok rfl (by first | exact sideN | exact sideT (by omega)) ?_ | refine gT rfl rfl (by omega) ?_ | refine gF rfl rfl (by omega) ?_ | refine gNT rfl rfl (by omega) ?_ | refine gNF rfl rfl (by omega) ?_ | refine gS rfl rfl (fun _ => ?_) (fun _ => ?_) | refine gNS rfl rfl (fun _ => ?_) (fun _ => ?_) | refine gBS rfl rfl (fun _ => ?_) (fun _ => ?_) | refine gBN rfl rfl (fun _ => ?_) (fun _ => ?_) | refine good_ret tab_ok hX rfl (Sub.of_eq ?_) | refine good_end tab_ok hX rfl (Sub.of_eq ?_) | fail)
  simp [hh]
structure PlaceD (l : List Lp) (d : Int) (k : Nat) : Prop where
 le : k ≤ l.length
 lo : ∀ i, i < k → (l.getD i lp0).day < d
 hi : ∀ i, k ≤ i → i < l.length → d ≤ (l.getD i lp0).day
def stepD (l : List Lp) (k : Nat) (d : Int) : Int := if k < l.length ∧ (l.getD k lp0).day = d then (l.getD k lp0).step else 0
end Go.Proofs.YthjldemjipnmdaaGreatDoor.Sx
namespace Go.Proofs.YthjldemjipnmdaaGreatDoor.Sx
open Go.RowKit
set_option maxRecDepth 100000
end Go.Proofs.YthjldemjipnmdaaGreatDoor.Sx
namespace Go.Proofs.YthjldemjipnmdaaGreatDoor.Sx
open Go.RowKit
set_option maxRecDepth 100000
end Go.Proofs.YthjldemjipnmdaaGreatDoor.Sx
namespace Go.Proofs.YthjldemjipnmdaaGreatDoor.Sx
open Go.RowKit
set_option maxRecDepth 100000
theorem of_ac (d sec : Int) (hd : -719162 ≤ d ∧ d ≤ 2932896) (hs : 0 ≤ sec ∧ sec ≤ 86400) : AC Tryz.prog 86 (L2 (I d) (I sec)) (.tup (L2 (I (d * 86400 + min sec 86399)) (B true))) := by
 refine AC.enter Tryz.func86 Tryz.ntmps86 rfl rfl rfl (fun F hX => ?_)
 repeat' (first | refine stp tab_ok rfl (by first | exact sideN | exact sideT (by omega)) ?_ | refine gT rfl rfl (by omega) ?_ | refine gF rfl rfl (by omega) ?_ | refine gNT rfl rfl (by omega) ?_ | refine gNF rfl rfl (by omega) ?_ | refine gS rfl rfl (fun _ => ?_) (fun _ => ?_) | refine gNS rfl rfl (fun _ => ?_) (fun _ => ?_) | refine gBS rfl rfl (fun _ => ?_) (fun _ => ?_) | refine gBN rfl rfl (fun _ => ?_) (fun _ => ?_) | refine good_ret tab_ok hX rfl (Sub.of_eq ?_) | refine good_end tab_ok hX rfl (Sub.of_eq ?_) | fail)
 all_goals rfl
structure PlaceS (l : List Lp) (at_ : Int) (k : Nat) : Prop where
 le : k ≤ l.length
 lo : ∀ i, i < k → atI l i ≤ at_
 hi : ∀ i, k ≤ i → i < l.length → at_ < atI l i
structure PlaceA (l : List Lp) (at_ : Int) (k : Nat) : Prop where
 le : k ≤ l.length
 lo : ∀ i, i < k → atI l i < at_
 hi : ∀ i, k ≤ i → i < l.length → at_ ≤ atI l i
def utcF (t : Tbl) (k j : Nat) (s : Int) : Int × Int × Int :=
 if expiredB t (s + 63072000) = true then (0, 0, 10) else
 if 2932896 < (s + 63072000 - sumAt t.leaps k) / 86400 then (0, 0, 9) else
 ((s + 63072000 - sumAt t.leaps k) / 86400, (s + 63072000 - sumAt t.leaps k) % 86400 + (if 0 < stepAt t.leaps j (s + 63072000) then 1 else 0), 0)
theorem utcS_ac (t : Tbl) (hr : Rt t) (s : Int) (h0 : 0 ≤ s ∧ s ≤ 1000000000000) (k j : Nat) (hk : PlaceS t.leaps (s + 63072000) k) (hj : PlaceA t.leaps (s + 63072000) j) : AC Tryz.prog 85 (L2 (corrA (recs t)) (I s)) (.tup (L3 (I (utcF t k j s).1) (I (utcF t k j s).2.1) (I (utcF t k j s).2.2))) := by
 have hn := rt_len hr
 have hle := hk.le
 have hs := sumAt_bd (chkL_none hr.none) k hk.le
 unfold utcF
 refine AC.enter Tryz.func85 Tryz.ntmps85 rfl rfl rfl (fun F hX => ?_)
 repeat' (first | refine stp tab_ok rfl (by first | exact sideN | exact sideT (by omega)) ?_ | refine gT rfl rfl (by omega) ?_ | refine gF rfl rfl (by omega) ?_ | refine gNT rfl rfl (by omega) ?_ | refine gNF rfl rfl (by omega) ?_ | fail)
 refine good_call rfl rfl rfl rfl rfl ent69 (numAdd_ac _ _ (by omega) (by omega)) rfl ?_
 repeat' (first | refine stp tab_ok rfl (by first | exact sideN | exact sideT (by omega)) ?_ | refine gT rfl rfl (by omega) ?_ | refine gF rfl rfl (by omega) ?_ | refine gNT rfl rfl (by omega) ?_ | refine gNF rfl rfl (by omega) ?_ | fail)
 refine good_call rfl rfl rfl rfl rfl ent77 (known_ac t hr) rfl ?_
 repeat' (first | refine stp tab_ok rfl (by first | exact sideN | exact sideT (by omega)) ?_ | refine gT rfl rfl (by omega) ?_ | refine gF rfl rfl (by omega) ?_ | refine gNT rfl rfl (by omega) ?_ | refine gNF rfl rfl (by omega) ?_ | fail)
 refine good_callG rfl rfl rfl rfl rfl rfl rfl rfl rfl ent84 (expired_ac t hr _) rfl ?_
 repeat' (first | refine stp tab_ok rfl (by first | exact sideN | exact sideT (by omega)) ?_ | refine gT rfl rfl (by omega) ?_ | refine gF rfl rfl (by omega) ?_ | refine gNT rfl rfl (by omega) ?_ | refine gNF rfl rfl (by omega) ?_ | fail)
 refine gBS rfl rfl (fun he => ?_) (fun he => ?_)
 ·rw [if_pos he]
  repeat' (first | refine stp tab_ok rfl (by first | exact sideN | exact sideT (by omega)) ?_ | refine gT rfl rfl (by omega) ?_ | refine gF rfl rfl (by omega) ?_ | refine gNT rfl rfl (by omega) ?_ | refine gNF rfl rfl (by omega) ?_ | refine gS rfl rfl (fun _ => ?_) (fun _ => ?_) | refine gNS rfl rfl (fun _ => ?_) (fun _ => ?_) | refine gBS rfl rfl (fun _ => ?_) (fun _ => ?_) | refine gBN rfl rfl (fun _ => ?_) (fun _ => ?_) | refine good_ret tab_ok hX rfl (Sub.of_eq ?_) | refine good_end tab_ok hX rfl (Sub.of_eq ?_) | fail)
  rfl
 ·rw [if_neg (by rw [he]; decide)]
  repeat' (first | refine stp tab_ok rfl (by first | exact sideN | exact sideT (by omega)) ?_ | refine gT rfl rfl (by omega) ?_ | refine gF rfl rfl (by omega) ?_ | refine gNT rfl rfl (by omega) ?_ | refine gNF rfl rfl (by omega) ?_ | fail)
  refine good_call rfl rfl rfl rfl rfl ent138 (sum_ac t hr _ k hk.le hk.lo hk.hi) rfl ?_
  repeat' (first | refine stp tab_ok rfl (by first | exact sideN | exact sideT (by omega)) ?_ | refine gT rfl rfl (by omega) ?_ | refine gF rfl rfl (by omega) ?_ | refine gNT rfl rfl (by omega) ?_ | refine gNF rfl rfl (by omega) ?_ | fail)
  refine good_call rfl rfl rfl rfl rfl ent96 (numSub_ac _ _ (by omega) (by omega)) rfl ?_
  repeat' (first | refine stp tab_ok rfl (by first | exact sideN | exact sideT (by omega)) ?_ | refine gT rfl rfl (by omega) ?_ | refine gF rfl rfl (by omega) ?_ | refine gNT rfl rfl (by omega) ?_ | refine gNF rfl rfl (by omega) ?_ | fail)
  refine good_call rfl rfl rfl rfl rfl ent81 (numDiv_ac _ _ (by omega) (by omega) (by omega)) rfl ?_
  repeat' (first | refine stp tab_ok rfl (by first | exact sideN | exact sideT (by omega)) ?_ | refine gT rfl rfl (by omega) ?_ | refine gF rfl rfl (by omega) ?_ | refine gNT rfl rfl (by omega) ?_ | refine gNF rfl rfl (by omega) ?_ | fail)
  refine good_call rfl rfl rfl rfl rfl ent139 (step_ac t hr _ j hj.le hj.lo hj.hi) rfl ?_
  repeat' (first | refine stp tab_ok rfl (by first | exact sideN | exact sideT (by omega)) ?_ | refine gT rfl rfl (by omega) ?_ | refine gF rfl rfl (by omega) ?_ | refine gNT rfl rfl (by omega) ?_ | refine gNF rfl rfl (by omega) ?_ | refine gS rfl rfl (fun _ => ?_) (fun _ => ?_) | refine gNS rfl rfl (fun _ => ?_) (fun _ => ?_) | refine gBS rfl rfl (fun _ => ?_) (fun _ => ?_) | refine gBN rfl rfl (fun _ => ?_) (fun _ => ?_) | refine good_ret tab_ok hX rfl (Sub.of_eq ?_) | refine good_end tab_ok hX rfl (Sub.of_eq ?_) | fail)
  all_goals (rename_i ha hb; first | (rw [if_pos hb]; done) | (rw [if_neg hb, if_pos ha]; done) | (rw [if_neg hb, if_neg ha, Int.add_zero]; done))
def fromF (t : Tbl) (k j : Nat) (s : Int) : Int × Int := if (utcF t k j s).2.2 = 0 then ((utcF t k j s).1 * 86400 + min (utcF t k j s).2.1 86399, 0) else (0, (utcF t k j s).2.2)
theorem utcF_bd {t : Tbl} (hr : Rt t) {k j : Nat} {s : Int} (h0 : 0 ≤ s ∧ s ≤ 1000000000000) (hk : PlaceS t.leaps (s + 63072000) k) : (0 ≤ (utcF t k j s).1 ∧ (utcF t k j s).1 ≤ 2932896) ∧ (0 ≤ (utcF t k j s).2.1 ∧ (utcF t k j s).2.1 ≤ 86400) := by
 have hn := rt_len hr
 have hle := hk.le
 have hs := sumAt_bd (chkL_none hr.none) k hk.le
 unfold utcF
 split
 ·simp
 ·split
  ·simp
  ·simp only
   split <;> omega
theorem from_ac (t : Tbl) (hr : Rt t) (s : Int) (h0 : 0 ≤ s ∧ s ≤ 1000000000000) (k j : Nat) (hk : PlaceS t.leaps (s + 63072000) k) (hj : PlaceA t.leaps (s + 63072000) j) : AC Tryz.prog 41 (L2 (corrA (recs t)) (I s)) (.tup (L2 (I (fromF t k j s).1) (I (fromF t k j s).2))) := by
 have hb := utcF_bd (j := j) hr h0 hk
 unfold fromF
 by_cases h : (utcF t k j s).2.2 = 0
 ·rw [if_pos h]
  refine AC.enter Tryz.func41 Tryz.ntmps41 rfl rfl rfl (fun F hX => ?_)
  repeat' (first | refine stp tab_ok rfl (by first | exact sideN | exact sideT (by omega)) ?_ | refine gT rfl rfl (by omega) ?_ | refine gF rfl rfl (by omega) ?_ | refine gNT rfl rfl (by omega) ?_ | refine gNF rfl rfl (by omega) ?_ | fail)
  refine good_call rfl rfl rfl rfl rfl ent85 (utcS_ac t hr s h0 k j hk hj) rfl ?_
  repeat' (first | refine stp tab_ok rfl (by first | exact sideN | exact sideT (by omega)) ?_ | refine gT rfl rfl (by omega) ?_ | refine gF rfl rfl (by omega) ?_ | refine gNT rfl rfl (by omega) ?_ | refine gNF rfl rfl (by omega) ?_ | fail)
  refine good_call rfl rfl rfl rfl rfl ent86 (of_ac _ _ (by omega) (by omega)) rfl ?_
  repeat' (first | refine stp tab_ok rfl (by first | exact sideN | exact sideT (by omega)) ?_ | refine gT rfl rfl (by omega) ?_ | refine gF rfl rfl (by omega) ?_ | refine gNT rfl rfl (by omega) ?_ | refine gNF rfl rfl (by omega) ?_ | refine gS rfl rfl (fun _ => ?_) (fun _ => ?_) | refine gNS rfl rfl (fun _ => ?_) (fun _ => ?_) | refine gBS rfl rfl (fun _ => ?_) (fun _ => ?_) | refine gBN rfl rfl (fun _ => ?_) (fun _ => ?_) | refine good_ret tab_ok hX rfl (Sub.of_eq ?_) | refine good_end tab_ok hX rfl (Sub.of_eq ?_) | fail)
  rw [h]
 ·rw [if_neg h]
  refine AC.enter Tryz.func41 Tryz.ntmps41 rfl rfl rfl (fun F hX => ?_)
  repeat' (first | refine stp tab_ok rfl (by first | exact sideN | exact sideT (by omega)) ?_ | refine gT rfl rfl (by omega) ?_ | refine gF rfl rfl (by omega) ?_ | refine gNT rfl rfl (by omega) ?_ | refine gNF rfl rfl (by omega) ?_ | fail)
  refine good_call rfl rfl rfl rfl rfl ent85 (utcS_ac t hr s h0 k j hk hj) rfl ?_
  repeat' (first | refine stp tab_ok rfl (by first | exact sideN | exact sideT (by omega)) ?_ | refine gT rfl rfl (by omega) ?_ | refine gF rfl rfl (by omega) ?_ | refine gNT rfl rfl (by omega) ?_ | refine gNF rfl rfl (by omega) ?_ | refine gS rfl rfl (fun _ => ?_) (fun _ => ?_) | refine gNS rfl rfl (fun _ => ?_) (fun _ => ?_) | refine gBS rfl rfl (fun _ => ?_) (fun _ => ?_) | refine gBN rfl rfl (fun _ => ?_) (fun _ => ?_) | refine good_ret tab_ok hX rfl (Sub.of_eq ?_) | refine good_end tab_ok hX rfl (Sub.of_eq ?_) | fail)
  rfl
end Go.Proofs.YthjldemjipnmdaaGreatDoor.Sx
namespace Go.Proofs.YthjldemjipnmdaaGreatDoor.Sx
open Go.RowKit
set_option maxRecDepth 100000
def utc3 : ByteArray := ⟨#[85, 84, 67]⟩
def utc0 : ByteArray := ⟨#[85, 84, 67, 48]⟩
abbrev typesU : AV := .im 3 1 fun _ => L3 (I 0) (B false) (S utc3)
abbrev transU : AV := .im 2 0 fun _ => .nil
abbrev zoneL (l : List Cr) (v : Int) : AL := .cons typesU (.cons transU (L3 (corrA l) (S utc0) (I v)))
theorem lUtc_ac (t : Tbl) (hr : Rt t) (v s : Int) (h0 : 0 ≤ s ∧ s ≤ 1000000000000) (k j : Nat) (hk : PlaceS t.leaps (s + 63072000) k) (hj : PlaceA t.leaps (s + 63072000) j) : AC Tryz.prog 42 (L2 (.agg (zoneL (recs t) v)) (I s)) (.tup (L3 (I (utcF t k j s).1) (I (utcF t k j s).2.1) (I (utcF t k j s).2.2))) := by
 refine AC.enter Tryz.func42 Tryz.ntmps42 rfl rfl rfl (fun F hX => ?_)
 repeat' (first | refine stp tab_ok rfl (by first | exact sideN | exact sideT (by omega)) ?_ | refine gT rfl rfl (by omega) ?_ | refine gF rfl rfl (by omega) ?_ | refine gNT rfl rfl (by omega) ?_ | refine gNF rfl rfl (by omega) ?_ | fail)
 refine good_call rfl rfl rfl rfl rfl ent85 (utcS_ac t hr s h0 k j hk hj) rfl ?_
 repeat' (first | refine stp tab_ok rfl (by first | exact sideN | exact sideT (by omega)) ?_ | refine gT rfl rfl (by omega) ?_ | refine gF rfl rfl (by omega) ?_ | refine gNT rfl rfl (by omega) ?_ | refine gNF rfl rfl (by omega) ?_ | refine gS rfl rfl (fun _ => ?_) (fun _ => ?_) | refine gNS rfl rfl (fun _ => ?_) (fun _ => ?_) | refine gBS rfl rfl (fun _ => ?_) (fun _ => ?_) | refine gBN rfl rfl (fun _ => ?_) (fun _ => ?_) | refine good_ret tab_ok hX rfl (Sub.of_eq ?_) | refine good_end tab_ok hX rfl (Sub.of_eq ?_) | fail)
 rfl
theorem copy_ac (l : List Cr) (v : Int) (hl : l.length ≤ 1000000) : AC Tryz.prog 37 (L1 (.agg (zoneL l v))) (.agg (zoneL l v)) := by
 refine AC.enter Tryz.func37 Tryz.ntmps37 rfl rfl rfl (fun F hX => ?_)
 repeat' (first | refine stp tab_ok rfl (by first | exact sideN | exact sideT (by omega)) ?_ | refine gT rfl rfl (by omega) ?_ | refine gF rfl rfl (by omega) ?_ | refine gNT rfl rfl (by omega) ?_ | refine gNF rfl rfl (by omega) ?_ | fail)
 refine dg_start ?_
 repeat' (first | refine dgp tab_ok rfl (by first | exact sideN | exact sideT (by omega)) ?_ | refine dT rfl rfl (by omega) ?_ | refine dF rfl rfl (by omega) ?_ | refine dNT rfl rfl (by omega) ?_ | refine dNF rfl rfl (by omega) ?_ | fail)
 refine dg_call rfl rfl rfl rfl rfl ent78 ((cloneType_oc _ _ (by omega)).ac) rfl ?_
 repeat' (first | refine dgp tab_ok rfl (by first | exact sideN | exact sideT (by omega)) ?_ | refine dT rfl rfl (by omega) ?_ | refine dF rfl rfl (by omega) ?_ | refine dNT rfl rfl (by omega) ?_ | refine dNF rfl rfl (by omega) ?_ | fail)
 refine dg_call rfl rfl rfl rfl rfl ent79 ((cloneTrans_oc _ _ (by omega)).ac) rfl ?_
 repeat' (first | refine dgp tab_ok rfl (by first | exact sideN | exact sideT (by omega)) ?_ | refine dT rfl rfl (by omega) ?_ | refine dF rfl rfl (by omega) ?_ | refine dNT rfl rfl (by omega) ?_ | refine dNF rfl rfl (by omega) ?_ | fail)
 refine dg_call rfl rfl rfl rfl rfl ent80 ((cloneCorr_oc _ _ (by omega)).ac) rfl ?_
 repeat' (first | refine dgp tab_ok rfl (by first | exact sideN | exact sideT (by omega)) ?_ | refine dT rfl rfl (by omega) ?_ | refine dF rfl rfl (by omega) ?_ | refine dNT rfl rfl (by omega) ?_ | refine dNF rfl rfl (by omega) ?_ | fail)
 refine dg_end mixed rfl ?_
 repeat' (first | refine stp tab_ok rfl (by first | exact sideN | exact sideT (by omega)) ?_ | refine gT rfl rfl (by omega) ?_ | refine gF rfl rfl (by omega) ?_ | refine gNT rfl rfl (by omega) ?_ | refine gNF rfl rfl (by omega) ?_ | refine gS rfl rfl (fun _ => ?_) (fun _ => ?_) | refine gNS rfl rfl (fun _ => ?_) (fun _ => ?_) | refine gBS rfl rfl (fun _ => ?_) (fun _ => ?_) | refine gBN rfl rfl (fun _ => ?_) (fun _ => ?_) | refine good_ret tab_ok hX rfl (Sub.of_eq ?_) | refine good_end tab_ok hX rfl (Sub.of_eq ?_) | fail)
 rfl
end Go.Proofs.YthjldemjipnmdaaGreatDoor.Sx
namespace Go.Proofs.YthjldemjipnmdaaGreatDoor.Sx
open Go.RowKit
set_option maxRecDepth 100000
def clockF (sec : Int) : Int × Int × Int := if sec = 86400 then (23, 59, 60) else (sec / 3600, sec / 60 % 60, sec % 60)
theorem clock_ac (sec : Int) (hs : 0 ≤ sec ∧ sec ≤ 86400) : AC Tryz.prog 74 (L1 (I sec)) (.tup (L4 (I (clockF sec).1) (I (clockF sec).2.1) (I (clockF sec).2.2) (B true))) := by
 unfold clockF
 refine AC.enter Tryz.func74 Tryz.ntmps74 rfl rfl rfl (fun F hX => ?_)
 repeat' (first | refine stp tab_ok rfl (by first | exact sideN | exact sideT (by omega)) ?_ | refine gT rfl rfl (by omega) ?_ | refine gF rfl rfl (by omega) ?_ | refine gNT rfl rfl (by omega) ?_ | refine gNF rfl rfl (by omega) ?_ | refine gS rfl rfl (fun _ => ?_) (fun _ => ?_) | refine gNS rfl rfl (fun _ => ?_) (fun _ => ?_) | refine gBS rfl rfl (fun _ => ?_) (fun _ => ?_) | refine gBN rfl rfl (fun _ => ?_) (fun _ => ?_) | refine good_ret tab_ok hX rfl (Sub.of_eq ?_) | refine good_end tab_ok hX rfl (Sub.of_eq ?_) | fail)
 ·rename_i h; rw [if_pos h]
 ·rename_i h; rw [if_neg h]
end Go.Proofs.YthjldemjipnmdaaGreatDoor.Sx
namespace Go.Proofs.YthjldemjipnmdaaGreatDoor.Sx
open Go.RowKit
set_option maxRecDepth 100000
def shape19 : ByteArray := ⟨#[48, 48, 48, 48, 45, 48, 48, 45, 48, 48, 84, 48, 48, 58, 48, 48, 58, 48, 48]⟩
def u8Of (els : Nat → AL) (i : Nat) : Int := match els i with
 | .cons (.val (.int .u8 n)) .nil => n
 | _ => 0
theorem strF_congr {n : Nat} {f g : Nat → Int} (h : ∀ i, i < n → f i = g i) : strF n f = strF n g := by
 unfold strF
 congr 1
 exact List.map_congr_left fun i hi => h i (List.mem_range.1 hi)
theorem w8 {a b : Int} (h : a = b) (h0 : 0 ≤ b ∧ b < 256) : IntKind.u8.wrap a = b := by
 rw [h]
 exact wrap_in (by unfold inK; omega)
def fillD (y m d h n s : Int) : Nat → Int
 | 0 => 48 + y / 1000 % 10
 | 1 => 48 + y / 100 % 10
 | 2 => 48 + y / 10 % 10
 | 3 => 48 + y % 10
 | 4 => 45
 | 5 => 48 + m / 10 % 10
 | 6 => 48 + m % 10
 | 7 => 45
 | 8 => 48 + d / 10 % 10
 | 9 => 48 + d % 10
 | 10 => 84
 | 11 => 48 + h / 10 % 10
 | 12 => 48 + h % 10
 | 13 => 58
 | 14 => 48 + n / 10 % 10
 | 15 => 48 + n % 10
 | 16 => 58
 | 17 => 48 + s / 10 % 10
 | _ => 48 + s % 10
theorem ok_bytesStrU {P : Program} {F : Fr} {t : Tm} {h : Hp} {d : Option Tmp} {ty : TypeId} {ps : String} {af : Array Edge} {gd : Option (Nat × Bool)} (S T : Nat) (x : Operand) (n : Nat) (els : Nat → AL) (y ys ye : Ty) (e : Nat) (hx : readA h (ev t x) = some (1, n, els)) (hf : ∀ i, i < n → els i = .cons (.val (.int .u8 (u8Of els i))) .nil) (hys : TyOk P S ys) (hks : ys.kind = .slice e) (hy : TyOk P T y) (hk : y.kind = .string) (he : TyOk P e ye) (hke : ye.kind = .int .u8) :
  OpWp P F ⟨d, .convert S T x, ty, ps, af, gd⟩ t h (.val (.string (strF n (u8Of els)))) h := ok_bytesStr S T x n els (u8Of els) y ys ye e hx hf hys hks hy hk he hke
set_option maxHeartbeats 8000000 in
theorem fill_wc (y m d h n s : Int) (hy : 0 ≤ y ∧ y ≤ 100000) (hm : 0 ≤ m ∧ m ≤ 100000) (hd : 0 ≤ d ∧ d ≤ 100000) (hh : 0 ≤ h ∧ h ≤ 100000) (hn : 0 ≤ n ∧ n ≤ 100000) (hs : 0 ≤ s ∧ s ≤ 100000) : WC Tryz.prog 75 (L1 (S shape19)) 3 1 6 (elsOf [L1 (I y), L1 (I m), L1 (I d), L1 (I h), L1 (I n), L1 (I s)]) (S (strF 19 (fillD y m d h n s))) := by
 refine WC.enter 900 Tryz.func75 Tryz.ntmps75 rfl rfl rfl (fun F hX => ?_)
 iterate 7 (refine stp tab_ok rfl sideN ?_)
 refine good_by rfl (ok_strOwn 9 _ _ _ shape19 _ _ _ _ rfl (tab_ok _ _ rfl) rfl (tab_ok _ _ rfl) rfl (tab_ok _ _ rfl) rfl (by decide) rfl) rfl ?_
 simp only [show shape19.size = 19 from rfl]
 repeat' (first | refine stp tab_ok rfl (by first | exact sideN | exact sideT (by omega)) ?_ | refine gT rfl rfl (by omega) ?_ | refine gF rfl rfl (by omega) ?_ | refine gNT rfl rfl (by omega) ?_ | refine gNF rfl rfl (by omega) ?_ | fail)
 refine good_loopN 20 ?_
 repeat' (first | refine stp tab_ok rfl (by first | exact sideN | exact sideT (by omega)) ?_ | refine dg_start ?_ | refine dgp tab_ok rfl (by first | exact sideN | exact sideT (by omega)) ?_ | refine dg_end mixed rfl ?_ | fail)
 refine good_by rfl (ok_bytesStrU _ _ _ 19 _ _ _ _ _ rfl (fun i hi => ?_) (tab_ok _ _ rfl) rfl (tab_ok _ _ rfl) rfl (tab_ok _ _ rfl) rfl) rfl ?_
 ·have h19 : i = 0 ∨ i = 1 ∨ i = 2 ∨ i = 3 ∨ i = 4 ∨ i = 5 ∨ i = 6 ∨ i = 7 ∨ i = 8 ∨ i = 9 ∨ i = 10 ∨ i = 11 ∨ i = 12 ∨ i = 13 ∨ i = 14 ∨ i = 15 ∨ i = 16 ∨ i = 17 ∨ i = 18 := by omega
  rcases h19 with rfl | rfl | rfl | rfl | rfl | rfl | rfl | rfl | rfl | rfl | rfl | rfl | rfl | rfl | rfl | rfl | rfl | rfl | rfl <;> rfl
 repeat' (first | refine stp tab_ok rfl (by first | exact sideN | exact sideT (by omega)) ?_ | refine dg_start ?_ | refine dgp tab_ok rfl (by first | exact sideN | exact sideT (by omega)) ?_ | refine dg_end mixed rfl ?_ | fail)
 refine good_retW tab_ok hX rfl (Sub.of_eq ?_)
 refine congrArg (fun q => AV.val (.string q)) (strF_congr fun i hi => ?_)
 have h19 : i = 0 ∨ i = 1 ∨ i = 2 ∨ i = 3 ∨ i = 4 ∨ i = 5 ∨ i = 6 ∨ i = 7 ∨ i = 8 ∨ i = 9 ∨ i = 10 ∨ i = 11 ∨ i = 12 ∨ i = 13 ∨ i = 14 ∨ i = 15 ∨ i = 16 ∨ i = 17 ∨ i = 18 := by omega
 rcases h19 with rfl | rfl | rfl | rfl | rfl | rfl | rfl | rfl | rfl | rfl | rfl | rfl | rfl | rfl | rfl | rfl | rfl | rfl | rfl
 ·exact w8 (a := 48 + y / 10 / 10 / 10 % 10) (b := 48 + y / 1000 % 10) (by omega) (by omega)
 ·exact w8 (a := 48 + y / 10 / 10 % 10) (b := 48 + y / 100 % 10) (by omega) (by omega)
 ·exact w8 (a := 48 + y / 10 % 10) (b := 48 + y / 10 % 10) rfl (by omega)
 ·exact w8 (a := 48 + y % 10) (b := 48 + y % 10) rfl (by omega)
 ·rfl
 ·exact w8 (a := 48 + m / 10 % 10) (b := 48 + m / 10 % 10) rfl (by omega)
 ·exact w8 (a := 48 + m % 10) (b := 48 + m % 10) rfl (by omega)
 ·rfl
 ·exact w8 (a := 48 + d / 10 % 10) (b := 48 + d / 10 % 10) rfl (by omega)
 ·exact w8 (a := 48 + d % 10) (b := 48 + d % 10) rfl (by omega)
 ·rfl
 ·exact w8 (a := 48 + h / 10 % 10) (b := 48 + h / 10 % 10) rfl (by omega)
 ·exact w8 (a := 48 + h % 10) (b := 48 + h % 10) rfl (by omega)
 ·rfl
 ·exact w8 (a := 48 + n / 10 % 10) (b := 48 + n / 10 % 10) rfl (by omega)
 ·exact w8 (a := 48 + n % 10) (b := 48 + n % 10) rfl (by omega)
 ·rfl
 ·exact w8 (a := 48 + s / 10 % 10) (b := 48 + s / 10 % 10) rfl (by omega)
 ·exact w8 (a := 48 + s % 10) (b := 48 + s % 10) rfl (by omega)
end Go.Proofs.YthjldemjipnmdaaGreatDoor.Sx
namespace Go.Proofs.YthjldemjipnmdaaGreatDoor.Sx
open Go.RowKit
set_option maxRecDepth 100000
def secondF (h m s : Int) : Int × Bool := if h = 23 ∧ m = 59 ∧ s = 60 then (86400, true) else if h ≤ 23 ∧ m ≤ 59 ∧ s ≤ 59 then ((h * 60 + m) * 60 + s, true) else (0, false)
theorem second_ac (h m s : Int) (hh : 0 ≤ h ∧ h ≤ 1000) (hm : 0 ≤ m ∧ m ≤ 1000) (hs : 0 ≤ s ∧ s ≤ 1000) : AC Tryz.prog 237 (L3 (I h) (I m) (I s)) (.tup (L2 (I (secondF h m s).1) (B (secondF h m s).2))) := by
 unfold secondF
 refine AC.enter Tryz.func237 Tryz.ntmps237 rfl rfl rfl (fun F hX => ?_)
 by_cases h1 : h = 23 ∧ m = 59 ∧ s = 60
 ·rw [if_pos h1]
  obtain ⟨rfl, rfl, rfl⟩ := h1
  repeat' (first | refine stp tab_ok rfl (by first | exact sideN | exact sideT (by omega)) ?_ | refine gT rfl rfl (by omega) ?_ | refine gF rfl rfl (by omega) ?_ | refine gNT rfl rfl (by omega) ?_ | refine gNF rfl rfl (by omega) ?_ | fail)
  repeat' (first | refine stp tab_ok rfl (by first | exact sideN | exact sideT (by omega)) ?_ | refine gT rfl rfl (by omega) ?_ | refine gF rfl rfl (by omega) ?_ | refine gNT rfl rfl (by omega) ?_ | refine gNF rfl rfl (by omega) ?_ | refine gS rfl rfl (fun _ => ?_) (fun _ => ?_) | refine gNS rfl rfl (fun _ => ?_) (fun _ => ?_) | refine gBS rfl rfl (fun _ => ?_) (fun _ => ?_) | refine gBN rfl rfl (fun _ => ?_) (fun _ => ?_) | refine good_ret tab_ok hX rfl (Sub.of_eq ?_) | refine good_end tab_ok hX rfl (Sub.of_eq ?_) | fail)
  all_goals rfl
 ·rw [if_neg h1]
  by_cases h2 : h ≤ 23 ∧ m ≤ 59 ∧ s ≤ 59
  ·rw [if_pos h2]
   repeat' (first | refine stp tab_ok rfl (by first | exact sideN | exact sideT (by omega)) ?_ | refine gT rfl rfl (by omega) ?_ | refine gF rfl rfl (by omega) ?_ | refine gNT rfl rfl (by omega) ?_ | refine gNF rfl rfl (by omega) ?_ | refine gS rfl rfl (fun _ => ?_) (fun _ => ?_) | refine gNS rfl rfl (fun _ => ?_) (fun _ => ?_) | refine gBS rfl rfl (fun _ => ?_) (fun _ => ?_) | refine gBN rfl rfl (fun _ => ?_) (fun _ => ?_) | refine good_ret tab_ok hX rfl (Sub.of_eq ?_) | refine good_end tab_ok hX rfl (Sub.of_eq ?_) | fail)
   all_goals first | rfl | omega
  ·rw [if_neg h2]
   repeat' (first | refine stp tab_ok rfl (by first | exact sideN | exact sideT (by omega)) ?_ | refine gT rfl rfl (by omega) ?_ | refine gF rfl rfl (by omega) ?_ | refine gNT rfl rfl (by omega) ?_ | refine gNF rfl rfl (by omega) ?_ | refine gS rfl rfl (fun _ => ?_) (fun _ => ?_) | refine gNS rfl rfl (fun _ => ?_) (fun _ => ?_) | refine gBS rfl rfl (fun _ => ?_) (fun _ => ?_) | refine gBN rfl rfl (fun _ => ?_) (fun _ => ?_) | refine good_ret tab_ok hX rfl (Sub.of_eq ?_) | refine good_end tab_ok hX rfl (Sub.of_eq ?_) | fail)
   all_goals first | rfl | omega
theorem strF_size (n : Nat) (f : Nat → Int) : (strF n f).size = n := by
 unfold strF
 rw [strOfNums_size, List.length_map, List.length_range]
def stampF (d sec : Int) : ByteArray := strF 19 (fillD (dateY d) (dateM d) (dateD d) (clockF sec).1 (clockF sec).2.1 (clockF sec).2.2) ++ ⟨#[90]⟩
theorem lastD_le {y m : Int} (hm : 1 ≤ m ∧ m ≤ 12) : lastD y m ≤ 32 := (lastD_bd (y := y) hm).2
theorem clock_bd {sec : Int} (hs : 0 ≤ sec ∧ sec ≤ 86400) : (0 ≤ (clockF sec).1 ∧ (clockF sec).1 ≤ 23) ∧ (0 ≤ (clockF sec).2.1 ∧ (clockF sec).2.1 ≤ 59) ∧ (0 ≤ (clockF sec).2.2 ∧ (clockF sec).2.2 ≤ 60) := by
 unfold clockF
 split
 ·decide
 ·simp only
  omega
theorem text_ac (d sec : Int) (hd : -719162 ≤ d ∧ d ≤ 2932896) (hs : 0 ≤ sec ∧ sec ≤ 86400) : AC Tryz.prog 34 (L2 (I d) (I sec)) (.tup (L2 (S (stampF d sec)) (B true))) := by
 obtain ⟨p1, p2, p3, _⟩ := date_is d hd
 have p4 := lastD_le (y := dateY d) p2
 obtain ⟨q1, q2, q3⟩ := clock_bd hs
 refine AC.enter Tryz.func34 Tryz.ntmps34 rfl rfl rfl (fun F hX => ?_)
 repeat' (first | refine stp tab_ok rfl (by first | exact sideN | exact sideT (by omega)) ?_ | refine gT rfl rfl (by omega) ?_ | refine gF rfl rfl (by omega) ?_ | refine gNT rfl rfl (by omega) ?_ | refine gNF rfl rfl (by omega) ?_ | fail)
 refine good_call rfl rfl rfl rfl rfl ent72 (date_ac d hd (date_pre d)) rfl ?_
 repeat' (first | refine stp tab_ok rfl (by first | exact sideN | exact sideT (by omega)) ?_ | refine gT rfl rfl (by omega) ?_ | refine gF rfl rfl (by omega) ?_ | refine gNT rfl rfl (by omega) ?_ | refine gNF rfl rfl (by omega) ?_ | fail)
 refine good_call rfl rfl rfl rfl rfl ent74 (clock_ac sec hs) rfl ?_
 repeat' (first | refine stp tab_ok rfl (by first | exact sideN | exact sideT (by omega)) ?_ | refine gT rfl rfl (by omega) ?_ | refine gF rfl rfl (by omega) ?_ | refine gNT rfl rfl (by omega) ?_ | refine gNF rfl rfl (by omega) ?_ | fail)
 refine dg_start ?_
 refine dgp tab_ok rfl (sideT (by decide)) ?_
 repeat' (first | refine dgp tab_ok rfl (by first | exact sideN | exact sideT (by omega)) ?_ | fail)
 refine dg_callW rfl rfl rfl rfl rfl rfl rfl ent75 (fill_wc (dateY d) (dateM d) (dateD d) (clockF sec).1 (clockF sec).2.1 (clockF sec).2.2 (by omega) (by omega) (by omega) (by omega) (by omega) (by omega)) rfl rfl ?_
 refine dgp tab_ok rfl (sideT (by decide)) ?_
 refine dgp tab_ok rfl (sideT ?_) ?_
 ·rw [strF_size]
  decide
 repeat' (first | refine dgp tab_ok rfl (by first | exact sideN | exact sideT (by omega)) ?_ | fail)
 refine dg_end mixed rfl ?_
 repeat' (first | refine stp tab_ok rfl (by first | exact sideN | exact sideT (by omega)) ?_ | refine gT rfl rfl (by omega) ?_ | refine gF rfl rfl (by omega) ?_ | refine gNT rfl rfl (by omega) ?_ | refine gNF rfl rfl (by omega) ?_ | refine gS rfl rfl (fun _ => ?_) (fun _ => ?_) | refine gNS rfl rfl (fun _ => ?_) (fun _ => ?_) | refine gBS rfl rfl (fun _ => ?_) (fun _ => ?_) | refine gBN rfl rfl (fun _ => ?_) (fun _ => ?_) | refine good_ret tab_ok hX rfl (Sub.of_eq ?_) | refine good_end tab_ok hX rfl (Sub.of_eq ?_) | fail)
 rfl
end Go.Proofs.YthjldemjipnmdaaGreatDoor.Sx
namespace Go.Proofs.YthjldemjipnmdaaGreatDoor.Sx
open Go.RowKit
set_option maxRecDepth 100000
def cstampF (u : Int × Int × Int) : ByteArray × Int := if u.2.2 = 0 then (stampF u.1 u.2.1, 0) else (ByteArray.empty, u.2.2)
theorem cstamp_ac (t : Tbl) (hr : Rt t) (v s : Int) (h0 : 0 ≤ s ∧ s ≤ 1000000000000) (k j : Nat) (hk : PlaceS t.leaps (s + 63072000) k) (hj : PlaceA t.leaps (s + 63072000) j) (hb : (utcF t k j s).2.2 = 0 → (-719162 ≤ (utcF t k j s).1 ∧ (utcF t k j s).1 ≤ 2932896) ∧ 0 ≤ (utcF t k j s).2.1 ∧ (utcF t k j s).2.1 ≤ 86400) :
  AC Tryz.prog 19 (L2 (.pim (zoneL (recs t) v)) (I s)) (.tup (L2 (S (cstampF (utcF t k j s)).1) (I (cstampF (utcF t k j s)).2))) := by
 unfold cstampF
 refine AC.enter Tryz.func19 Tryz.ntmps19 rfl rfl rfl (fun F hX => ?_)
 repeat' (first | refine stp tab_ok rfl (by first | exact sideN | exact sideT (by omega)) ?_ | refine gT rfl rfl (by omega) ?_ | refine gF rfl rfl (by omega) ?_ | refine gNT rfl rfl (by omega) ?_ | refine gNF rfl rfl (by omega) ?_ | fail)
 refine good_call rfl rfl rfl rfl rfl ent42 (lUtc_ac t hr v s h0 k j hk hj) rfl ?_
 generalize utcF t k j s = u at *
 by_cases h : u.2.2 = 0
 ·have h1 := hb h
  rw [if_pos h]
  repeat' (first | refine stp tab_ok rfl (by first | exact sideN | exact sideT (by omega)) ?_ | refine gT rfl rfl (by omega) ?_ | refine gF rfl rfl (by omega) ?_ | refine gNT rfl rfl (by omega) ?_ | refine gNF rfl rfl (by omega) ?_ | fail)
  refine good_call rfl rfl rfl rfl rfl ent34 (text_ac _ _ h1.1 h1.2) rfl ?_
  repeat' (first | refine stp tab_ok rfl (by first | exact sideN | exact sideT (by omega)) ?_ | refine gT rfl rfl (by omega) ?_ | refine gF rfl rfl (by omega) ?_ | refine gNT rfl rfl (by omega) ?_ | refine gNF rfl rfl (by omega) ?_ | refine gS rfl rfl (fun _ => ?_) (fun _ => ?_) | refine gNS rfl rfl (fun _ => ?_) (fun _ => ?_) | refine gBS rfl rfl (fun _ => ?_) (fun _ => ?_) | refine gBN rfl rfl (fun _ => ?_) (fun _ => ?_) | refine good_ret tab_ok hX rfl (Sub.of_eq ?_) | refine good_end tab_ok hX rfl (Sub.of_eq ?_) | fail)
  rw [h]
 ·rw [if_neg h]
  repeat' (first | refine stp tab_ok rfl (by first | exact sideN | exact sideT (by omega)) ?_ | refine gT rfl rfl (by omega) ?_ | refine gF rfl rfl (by omega) ?_ | refine gNT rfl rfl (by omega) ?_ | refine gNF rfl rfl (by omega) ?_ | fail)
  repeat' (first | refine stp tab_ok rfl (by first | exact sideN | exact sideT (by omega)) ?_ | refine gT rfl rfl (by omega) ?_ | refine gF rfl rfl (by omega) ?_ | refine gNT rfl rfl (by omega) ?_ | refine gNF rfl rfl (by omega) ?_ | refine gS rfl rfl (fun _ => ?_) (fun _ => ?_) | refine gNS rfl rfl (fun _ => ?_) (fun _ => ?_) | refine gBS rfl rfl (fun _ => ?_) (fun _ => ?_) | refine gBN rfl rfl (fun _ => ?_) (fun _ => ?_) | refine good_ret tab_ok hX rfl (Sub.of_eq ?_) | refine good_end tab_ok hX rfl (Sub.of_eq ?_) | fail)
  rfl
end Go.Proofs.YthjldemjipnmdaaGreatDoor.Sx
namespace Go.Proofs.YthjldemjipnmdaaGreatDoor.Sx
open Go.RowKit
set_option maxRecDepth 100000
theorem numAdd_over (a b : Int) (ha : 0 ≤ a ∧ a ≤ 9223372036854775807) (hb : 0 < b ∧ b ≤ 1000) (hn : 9223372036854775807 < a + b) : AC Tryz.prog 69 (L2 (I a) (I b)) (.tup (L2 (I 0) (B false))) := by
 have hd : (decide (a < a + b - 18446744073709551616) != decide (0 < b)) = true := by
  rw [decide_eq_false (by omega), decide_eq_true hb.1]
  rfl
 refine AC.enter Tryz.func69 Tryz.ntmps69 rfl rfl rfl (fun F hX => ?_)
 repeat' (first | refine stp tab_ok rfl (by first | exact sideN | exact sideT (by omega)) ?_ | refine gT rfl rfl (by omega) ?_ | refine gF rfl rfl (by omega) ?_ | refine gNT rfl rfl (by omega) ?_ | refine gNF rfl rfl (by omega) ?_ | fail)
 refine good_by rfl (ok_wrap _ _ _ _ _ a b (a + b - 18446744073709551616) rfl rfl (congrArg some (by unfold wrap64; omega))) rfl ?_
 repeat' (first | refine stp tab_ok rfl (by first | exact sideN | exact sideT (by omega)) ?_ | refine gT rfl rfl (by omega) ?_ | refine gF rfl rfl (by omega) ?_ | refine gNT rfl rfl (by omega) ?_ | refine gNF rfl rfl (by omega) ?_ | fail)
 refine gB rfl rfl hd ?_
 repeat' (first | refine stp tab_ok rfl (by first | exact sideN | exact sideT (by omega)) ?_ | refine gT rfl rfl (by omega) ?_ | refine gF rfl rfl (by omega) ?_ | refine gNT rfl rfl (by omega) ?_ | refine gNF rfl rfl (by omega) ?_ | refine gS rfl rfl (fun _ => ?_) (fun _ => ?_) | refine gNS rfl rfl (fun _ => ?_) (fun _ => ?_) | refine gBS rfl rfl (fun _ => ?_) (fun _ => ?_) | refine gBN rfl rfl (fun _ => ?_) (fun _ => ?_) | refine good_ret tab_ok hX rfl (Sub.of_eq ?_) | refine good_end tab_ok hX rfl (Sub.of_eq ?_) | fail)
 rfl
theorem size_ac (n : Int) (hn : 0 ≤ n ∧ n ≤ 9223372036854775807) : AC Tryz.prog 253 (L1 (I n)) (.val (.int .u64 n)) := by
 refine AC.enter Tryz.func253 Tryz.ntmps253 rfl rfl rfl (fun F hX => ?_)
 repeat' (first | refine stp tab_ok rfl (by first | exact sideN | exact sideT (by omega)) ?_ | refine gT rfl rfl (by omega) ?_ | refine gF rfl rfl (by omega) ?_ | refine gNT rfl rfl (by omega) ?_ | refine gNF rfl rfl (by omega) ?_ | refine gS rfl rfl (fun _ => ?_) (fun _ => ?_) | refine gNS rfl rfl (fun _ => ?_) (fun _ => ?_) | refine gBS rfl rfl (fun _ => ?_) (fun _ => ?_) | refine gBN rfl rfl (fun _ => ?_) (fun _ => ?_) | refine good_ret tab_ok hX rfl (Sub.of_eq ?_) | refine good_end tab_ok hX rfl (Sub.of_eq ?_) | fail)
 rfl
theorem mul10_ac (x : Nat) (hx : x ≤ 9223372036854775807) : AC Tryz.prog 230 (L2 (I x) (I 10)) (.tup (L2 (I (if (x : Int) * 10 ≤ 9223372036854775807 then (x : Int) * 10 else 0)) (B (decide ((x : Int) * 10 ≤ 9223372036854775807))))) := by
 refine AC.enter Tryz.func230 Tryz.ntmps230 rfl rfl rfl (fun F hX => ?_)
 repeat' (first | refine stp tab_ok rfl (by first | exact sideN | exact sideT (by omega)) ?_ | refine gT rfl rfl (by omega) ?_ | refine gF rfl rfl (by omega) ?_ | refine gNT rfl rfl (by omega) ?_ | refine gNF rfl rfl (by omega) ?_ | fail)
 refine good_call rfl rfl rfl rfl rfl ent253 (size_ac x (by omega)) rfl ?_
 repeat' (first | refine stp tab_ok rfl (by first | exact sideN | exact sideT (by omega)) ?_ | refine gT rfl rfl (by omega) ?_ | refine gF rfl rfl (by omega) ?_ | refine gNT rfl rfl (by omega) ?_ | refine gNF rfl rfl (by omega) ?_ | fail)
 refine good_call rfl rfl rfl rfl rfl ent253 (size_ac 10 (by omega)) rfl ?_
 refine good_call rfl rfl rfl rfl rfl ent143 (mul64_ac x 10 (by omega) (by omega)) rfl ?_
 have h1 : ((x * 10 / 18446744073709551616 : Nat) : Int) = (x : Int) * 10 / 18446744073709551616 := by omega
 have h2 : ((x * 10 % 18446744073709551616 : Nat) : Int) = (x : Int) * 10 % 18446744073709551616 := by omega
 rw [h1, h2]
 by_cases h : (x : Int) * 10 ≤ 9223372036854775807
 ·rw [if_pos h, decide_eq_true h]
  have h3 : (x : Int) * 10 / 18446744073709551616 = 0 := by omega
  have h4 : (x : Int) * 10 % 18446744073709551616 = (x : Int) * 10 := by omega
  rw [h3, h4]
  repeat' (first | refine stp tab_ok rfl (by first | exact sideN | exact sideT (by omega)) ?_ | refine gT rfl rfl (by omega) ?_ | refine gF rfl rfl (by omega) ?_ | refine gNT rfl rfl (by omega) ?_ | refine gNF rfl rfl (by omega) ?_ | fail)
  repeat' (first | refine stp tab_ok rfl (by first | exact sideN | exact sideT (by omega)) ?_ | refine gT rfl rfl (by omega) ?_ | refine gF rfl rfl (by omega) ?_ | refine gNT rfl rfl (by omega) ?_ | refine gNF rfl rfl (by omega) ?_ | refine gS rfl rfl (fun _ => ?_) (fun _ => ?_) | refine gNS rfl rfl (fun _ => ?_) (fun _ => ?_) | refine gBS rfl rfl (fun _ => ?_) (fun _ => ?_) | refine gBN rfl rfl (fun _ => ?_) (fun _ => ?_) | refine good_ret tab_ok hX rfl (Sub.of_eq ?_) | refine good_end tab_ok hX rfl (Sub.of_eq ?_) | fail)
  rfl
 ·rw [if_neg h, decide_eq_false h]
  by_cases h3 : (x : Int) * 10 / 18446744073709551616 = 0
  ·have h4 : (x : Int) * 10 % 18446744073709551616 = (x : Int) * 10 := by omega
   rw [h3, h4]
   repeat' (first | refine stp tab_ok rfl (by first | exact sideN | exact sideT (by omega)) ?_ | refine gT rfl rfl (by omega) ?_ | refine gF rfl rfl (by omega) ?_ | refine gNT rfl rfl (by omega) ?_ | refine gNF rfl rfl (by omega) ?_ | fail)
   repeat' (first | refine stp tab_ok rfl (by first | exact sideN | exact sideT (by omega)) ?_ | refine gT rfl rfl (by omega) ?_ | refine gF rfl rfl (by omega) ?_ | refine gNT rfl rfl (by omega) ?_ | refine gNF rfl rfl (by omega) ?_ | refine gS rfl rfl (fun _ => ?_) (fun _ => ?_) | refine gNS rfl rfl (fun _ => ?_) (fun _ => ?_) | refine gBS rfl rfl (fun _ => ?_) (fun _ => ?_) | refine gBN rfl rfl (fun _ => ?_) (fun _ => ?_) | refine good_ret tab_ok hX rfl (Sub.of_eq ?_) | refine good_end tab_ok hX rfl (Sub.of_eq ?_) | fail)
   rfl
  ·repeat' (first | refine stp tab_ok rfl (by first | exact sideN | exact sideT (by omega)) ?_ | refine gT rfl rfl (by omega) ?_ | refine gF rfl rfl (by omega) ?_ | refine gNT rfl rfl (by omega) ?_ | refine gNF rfl rfl (by omega) ?_ | fail)
   repeat' (first | refine stp tab_ok rfl (by first | exact sideN | exact sideT (by omega)) ?_ | refine gT rfl rfl (by omega) ?_ | refine gF rfl rfl (by omega) ?_ | refine gNT rfl rfl (by omega) ?_ | refine gNF rfl rfl (by omega) ?_ | refine gS rfl rfl (fun _ => ?_) (fun _ => ?_) | refine gNS rfl rfl (fun _ => ?_) (fun _ => ?_) | refine gBS rfl rfl (fun _ => ?_) (fun _ => ?_) | refine gBN rfl rfl (fun _ => ?_) (fun _ => ?_) | refine good_ret tab_ok hX rfl (Sub.of_eq ?_) | refine good_end tab_ok hX rfl (Sub.of_eq ?_) | fail)
   rfl
end Go.Proofs.YthjldemjipnmdaaGreatDoor.Sx
namespace Go.Proofs.YthjldemjipnmdaaGreatDoor.Sx
open Go.RowKit
set_option maxRecDepth 100000
def numS : List UInt8 → Nat → Option Nat
 | [], n => some n
 | b :: r, n => if (48 ≤ b.toNat ∧ b.toNat ≤ 57) ∧ n * 10 + (b.toNat - 48) ≤ 9223372036854775807 then numS r (n * 10 + (b.toNat - 48)) else none
def numN (s : ByteArray) : Option Nat := if s.size = 0 then none else numS s.data.toList 0
def numR (o : Option Nat) : Int × Bool := match o with
 | some n => ((n : Int), true)
 | none => (0, false)
theorem numS_nil (n : Nat) : numS [] n = some n := rfl
theorem numS_cons (b : UInt8) (r : List UInt8) (n : Nat) : numS (b :: r) n = if (48 ≤ b.toNat ∧ b.toNat ≤ 57) ∧ n * 10 + (b.toNat - 48) ≤ 9223372036854775807 then numS r (n * 10 + (b.toNat - 48)) else none := rfl
theorem byte_cons {s : ByteArray} {k : Nat} (h : k < s.size) : ∃ b : UInt8, s.data.toList.drop k = b :: s.data.toList.drop (k + 1) ∧ byteAt s (k : Int) = (b.toNat : Int) ∧ b.toNat ≤ 255 := by
 have h' : k < s.data.toList.length := by rw [Array.length_toList]; exact h
 refine ⟨s.data.toList[k], List.drop_eq_getElem_cons h', ?_, by have := UInt8.toNat_lt s.data.toList[k]; omega⟩
 unfold byteAt
 rw [Int.toNat_natCast]
 congr 2
 simp only [List.getD]
 rw [List.getElem?_eq_getElem h']
 rfl
theorem lnum_ac (s : ByteArray) (hs : s.size ≤ 1000000) : AC Tryz.prog 194 (L1 (S s)) (.tup (L2 (I (numR (numN s)).1) (B (numR (numN s)).2))) := by
 refine AC.enter Tryz.func194 Tryz.ntmps194 rfl rfl rfl (fun F hX => ?_)
 repeat' (first | refine stp tab_ok rfl (by first | exact sideN | exact sideT (by omega)) ?_ | refine gT rfl rfl (by omega) ?_ | refine gF rfl rfl (by omega) ?_ | refine gNT rfl rfl (by omega) ?_ | refine gNF rfl rfl (by omega) ?_ | fail)
 refine good_rounds (fun x : Nat × Nat => [(11, .im 1 s.size (byteEls s)), (12, I s.size), (13, I x.1), (2, I x.2), (0, S s)]) (fun _ => []) (fun x : Nat × Nat => s.size - x.1) (fun x : Nat × Nat => x.1 ≤ s.size ∧ x.2 ≤ 9223372036854775807 ∧ numS (s.data.toList.drop x.1) x.2 = numS s.data.toList 0) (0, 0) ⟨by omega, by omega, rfl⟩ (Wk.mk ⟨Sub.of_eq rfl, Sub.of_eq rfl, Sub.of_eq rfl, Sub.of_eq rfl, Sub.of_eq rfl, trivial⟩ trivial rfl rfl (pin0 hX)) (fun x hx => ?_)
 obtain ⟨k, n⟩ := x
 obtain ⟨hk, hn, hN⟩ := hx
 simp only at hk hn hN
 by_cases hlt : k < s.size
 ·obtain ⟨b, h1, h2, h3⟩ := byte_cons hlt
  rw [h1] at hN
  repeat' (first | refine stp tab_ok rfl (by first | exact sideN | exact sideT (by omega)) ?_ | refine gT rfl rfl (by omega) ?_ | refine gF rfl rfl (by omega) ?_ | refine gNT rfl rfl (by omega) ?_ | refine gNF rfl rfl (by omega) ?_ | fail)
  simp only [Int.toNat_natCast]
  rw [h2]
  repeat' (first | refine stp tab_ok rfl (by first | exact sideN | exact sideT (by omega)) ?_ | refine gT rfl rfl (by omega) ?_ | refine gF rfl rfl (by omega) ?_ | refine gNT rfl rfl (by omega) ?_ | refine gNF rfl rfl (by omega) ?_ | fail)
  refine good_call rfl rfl rfl rfl rfl ent230 (mul10_ac n hn) rfl ?_
  repeat' (first | refine stp tab_ok rfl (by first | exact sideN | exact sideT (by omega)) ?_ | refine gT rfl rfl (by omega) ?_ | refine gF rfl rfl (by omega) ?_ | refine gNT rfl rfl (by omega) ?_ | refine gNF rfl rfl (by omega) ?_ | fail)
  by_cases c1 : (n : Int) * 10 ≤ 9223372036854775807
  ·rw [if_pos c1, decide_eq_true c1]
   by_cases c2 : (n : Int) * 10 + ((b.toNat : Int) - 48) ≤ 9223372036854775807
   ·refine good_call rfl rfl rfl rfl rfl ent69 (numAdd_ac ((n : Int) * 10) ((b.toNat : Int) - 48) (by omega) (by omega)) rfl ?_
    by_cases c3 : 48 ≤ b.toNat ∧ b.toNat ≤ 57
    ·repeat' (first | refine stp tab_ok rfl (by first | exact sideN | exact sideT (by omega)) ?_ | refine gT rfl rfl (by omega) ?_ | refine gF rfl rfl (by omega) ?_ | refine gNT rfl rfl (by omega) ?_ | refine gNF rfl rfl (by omega) ?_ | fail)
     have e : (n : Int) * 10 + ((b.toNat : Int) - 48) = ((n * 10 + (b.toNat - 48) : Nat) : Int) := by omega
     have e2 : (k : Int) + 1 = ((k + 1 : Nat) : Int) := by omega
     rw [e, e2]
     rw [numS_cons, if_pos ⟨c3, by omega⟩] at hN
     exact good_again (k + 1, n * 10 + (b.toNat - 48)) ⟨by omega, by omega, hN⟩ (by simp only; omega) (Wk.mk ⟨Sub.of_eq rfl, Sub.of_eq rfl, Sub.of_eq rfl, Sub.of_eq rfl, Sub.of_eq rfl, trivial⟩ trivial rfl rfl (pin0 hX))
    ·have hno : numN s = none := by
      unfold numN
      rw [if_neg (by omega), ← hN]
      rw [numS_cons, if_neg (fun h => c3 h.1)]
     rw [hno]
     repeat' (first | refine stp tab_ok rfl (by first | exact sideN | exact sideT (by omega)) ?_ | refine gT rfl rfl (by omega) ?_ | refine gF rfl rfl (by omega) ?_ | refine gNT rfl rfl (by omega) ?_ | refine gNF rfl rfl (by omega) ?_ | refine gS rfl rfl (fun _ => ?_) (fun _ => ?_) | refine gNS rfl rfl (fun _ => ?_) (fun _ => ?_) | refine gBS rfl rfl (fun _ => ?_) (fun _ => ?_) | refine gBN rfl rfl (fun _ => ?_) (fun _ => ?_) | refine good_ret tab_ok hX rfl (Sub.of_eq ?_) | refine good_end tab_ok hX rfl (Sub.of_eq ?_) | fail)
     all_goals first | rfl | omega
   ·have hno : numN s = none := by
     unfold numN
     rw [if_neg (by omega), ← hN]
     rw [numS_cons, if_neg (fun h => by omega)]
    rw [hno]
    refine good_call rfl rfl rfl rfl rfl ent69 (numAdd_over ((n : Int) * 10) ((b.toNat : Int) - 48) (by omega) (by omega) (by omega)) rfl ?_
    repeat' (first | refine stp tab_ok rfl (by first | exact sideN | exact sideT (by omega)) ?_ | refine gT rfl rfl (by omega) ?_ | refine gF rfl rfl (by omega) ?_ | refine gNT rfl rfl (by omega) ?_ | refine gNF rfl rfl (by omega) ?_ | refine gS rfl rfl (fun _ => ?_) (fun _ => ?_) | refine gNS rfl rfl (fun _ => ?_) (fun _ => ?_) | refine gBS rfl rfl (fun _ => ?_) (fun _ => ?_) | refine gBN rfl rfl (fun _ => ?_) (fun _ => ?_) | refine good_ret tab_ok hX rfl (Sub.of_eq ?_) | refine good_end tab_ok hX rfl (Sub.of_eq ?_) | fail)
    all_goals first | rfl | omega
  ·have hno : numN s = none := by
    unfold numN
    rw [if_neg (by omega), ← hN]
    rw [numS_cons, if_neg (fun h => by omega)]
   rw [hno, if_neg c1, decide_eq_false c1]
   refine good_call rfl rfl rfl rfl rfl ent69 (numAdd_ac 0 ((b.toNat : Int) - 48) (by omega) (by omega)) rfl ?_
   repeat' (first | refine stp tab_ok rfl (by first | exact sideN | exact sideT (by omega)) ?_ | refine gT rfl rfl (by omega) ?_ | refine gF rfl rfl (by omega) ?_ | refine gNT rfl rfl (by omega) ?_ | refine gNF rfl rfl (by omega) ?_ | refine gS rfl rfl (fun _ => ?_) (fun _ => ?_) | refine gNS rfl rfl (fun _ => ?_) (fun _ => ?_) | refine gBS rfl rfl (fun _ => ?_) (fun _ => ?_) | refine gBN rfl rfl (fun _ => ?_) (fun _ => ?_) | refine good_ret tab_ok hX rfl (Sub.of_eq ?_) | refine good_end tab_ok hX rfl (Sub.of_eq ?_) | fail)
   all_goals first | rfl | omega
 ·have hk2 : s.data.toList.drop k = [] := List.drop_eq_nil_of_le (by rw [Array.length_toList]; exact Nat.le_of_not_lt hlt)
  rw [hk2] at hN
  rw [numS_nil] at hN
  by_cases h0 : s.size = 0
  ·have : numN s = none := by unfold numN; rw [if_pos h0]
   rw [this]
   have : n = 0 := by
    have : s.data.toList = [] := List.eq_nil_of_length_eq_zero (by rw [Array.length_toList]; exact h0)
    rw [this] at hN
    rw [numS_nil] at hN
    exact Option.some.inj hN
   subst this
   repeat' (first | refine stp tab_ok rfl (by first | exact sideN | exact sideT (by omega)) ?_ | refine gT rfl rfl (by omega) ?_ | refine gF rfl rfl (by omega) ?_ | refine gNT rfl rfl (by omega) ?_ | refine gNF rfl rfl (by omega) ?_ | refine gS rfl rfl (fun _ => ?_) (fun _ => ?_) | refine gNS rfl rfl (fun _ => ?_) (fun _ => ?_) | refine gBS rfl rfl (fun _ => ?_) (fun _ => ?_) | refine gBN rfl rfl (fun _ => ?_) (fun _ => ?_) | refine good_ret tab_ok hX rfl (Sub.of_eq ?_) | refine good_end tab_ok hX rfl (Sub.of_eq ?_) | fail)
   rw [show decide ((0 : Int) < (s.size : Int)) = false from decide_eq_false (by omega)]
   rfl
  ·have : numN s = some n := by unfold numN; rw [if_neg h0, ← hN]
   rw [this]
   repeat' (first | refine stp tab_ok rfl (by first | exact sideN | exact sideT (by omega)) ?_ | refine gT rfl rfl (by omega) ?_ | refine gF rfl rfl (by omega) ?_ | refine gNT rfl rfl (by omega) ?_ | refine gNF rfl rfl (by omega) ?_ | refine gS rfl rfl (fun _ => ?_) (fun _ => ?_) | refine gNS rfl rfl (fun _ => ?_) (fun _ => ?_) | refine gBS rfl rfl (fun _ => ?_) (fun _ => ?_) | refine gBN rfl rfl (fun _ => ?_) (fun _ => ?_) | refine good_ret tab_ok hX rfl (Sub.of_eq ?_) | refine good_end tab_ok hX rfl (Sub.of_eq ?_) | fail)
   rw [show decide ((0 : Int) < (s.size : Int)) = true from decide_eq_true (by omega)]
   rfl
end Go.Proofs.YthjldemjipnmdaaGreatDoor.Sx
namespace Go.Proofs.YthjldemjipnmdaaGreatDoor.Sx
open Go.RowKit
set_option maxRecDepth 100000
def blankR (r : Nat) : Bool := decide (r = 32) || decide (r = 9)
def wordsR (s t : ByteArray) : Nat → Nat → Int → List ByteArray → List ByteArray
 | 0, _, _, out => out
 | f + 1, pos, from_, out => if pos < t.size then (match blankR (Utf8.decode t pos).1, decide (0 ≤ from_) with
   | true, true => wordsR s t f (pos + (Utf8.decode t pos).2) (-1) (out ++ [s.extract from_.toNat pos])
   | true, false => wordsR s t f (pos + (Utf8.decode t pos).2) from_ out
   | false, true => wordsR s t f (pos + (Utf8.decode t pos).2) from_ out
   | false, false => wordsR s t f (pos + (Utf8.decode t pos).2) pos out) else out
def blank1 : ByteArray := ⟨#[32]⟩
def wordsF (s : ByteArray) : List ByteArray := wordsR s (s ++ blank1) (s.size + 1) 0 (-1) []
theorem strEls_app (xs : List ByteArray) (x : ByteArray) (n : Nat) (els : Nat → AL) (he : els 0 = L1 (S x)) (hn : n = xs.length) : ∀ i, i < n + 1 → catF n (strEls xs) els i = strEls (xs ++ [x]) i := by
 intro i hi
 subst hn
 unfold catF strEls
 by_cases h : i < xs.length
 ·rw [if_pos h]
  simp only [List.getD]
  rw [List.getElem?_append_left h]
 ·rw [if_neg h]
  obtain rfl : i = xs.length := by omega
  rw [Nat.sub_self, he]
  simp [List.getD]
structure Wst where
 f : Nat
 pos : Nat
 from_ : Int
 out : List ByteArray
theorem words_ac (s : ByteArray) (hs : s.size ≤ 1000000) : AC Tryz.prog 52 (L1 (S s)) (.im 1 (wordsF s).length (strEls (wordsF s))) := by
 obtain ⟨t, ht⟩ : ∃ t, s ++ blank1 = t := ⟨_, rfl⟩
 have hts : t.size = s.size + 1 := by rw [← ht, ByteArray.size_append]; rfl
 have hW : wordsF s = wordsR s t (s.size + 1) 0 (-1) [] := by unfold wordsF; rw [ht]
 refine AC.enter Tryz.func52 Tryz.ntmps52 rfl rfl rfl (fun F hX => ?_)
 repeat' (first | refine stp tab_ok rfl (by first | exact sideN | exact sideT (by omega)) ?_ | refine gT rfl rfl (by omega) ?_ | refine gF rfl rfl (by omega) ?_ | refine gNT rfl rfl (by omega) ?_ | refine gNF rfl rfl (by omega) ?_ | fail)
 refine stp tab_ok rfl (sideT (by show s.size + 1 ≤ _; omega)) ?_
 rw [show s ++ (⟨#[32]⟩ : ByteArray) = t from ht]
 refine good_by rfl (ok_range 9 9 _ t rfl ((tab_ok 9 _ rfl).string rfl) rfl) rfl ?_
 repeat' (first | refine stp tab_ok rfl (by first | exact sideN | exact sideT (by omega)) ?_ | fail)
 refine good_adoptT 2 1000 9 1 (strEls []) rfl rfl ?_
 refine good_rounds (fun x : Wst => [(2, .own 1000), (3, I x.from_), (9, .ptr 9 0), (0, S s)]) (fun x : Wst => [(1000, .row 9 1 x.out.length (strEls x.out)), (9, .raw (.stringIter t x.pos))]) (fun x : Wst => x.f) (fun x : Wst => (t.size ≤ x.pos + x.f) ∧ (-1 ≤ x.from_ ∧ x.from_ ≤ x.pos) ∧ x.out.length ≤ x.pos ∧ wordsR s t x.f x.pos x.from_ x.out = wordsF s) ⟨s.size + 1, 0, -1, []⟩ ⟨by simp only; omega, by simp only; omega, by simp, hW.symm⟩ ?_ (fun x hx => ?_)
 ·exact Wk.mk ⟨Sub.of_eq rfl, Sub.of_eq rfl, Sub.of_eq rfl, Sub.of_eq rfl, trivial⟩ ⟨⟨_, rfl, SubO.row rfl (fun i hi => by omega)⟩, ⟨_, rfl, SubO.refl _⟩, trivial⟩ rfl rfl (pin0 hX)
 obtain ⟨f, pos, from_, out⟩ := x
 obtain ⟨hf, hfr, hlo, hw⟩ := hx
 simp only at hf hfr hlo hw ⊢
 by_cases hp : pos < t.size
 ·obtain ⟨f, rfl⟩ : ∃ g, f = g + 1 := ⟨f - 1, by omega⟩
  have hwd := Lib.width_pos t pos
  unfold wordsR at hw
  rw [if_pos hp] at hw
  repeat' (first | refine stp tab_ok rfl (by first | exact sideN | exact sideT (by omega)) ?_ | fail)
  refine good_by rfl (ok_next _ 9 pos t rfl rfl hp) rfl ?_
  generalize (Utf8.decode t pos).1 = R at *
  generalize (Utf8.decode t pos).2 = W at *
  by_cases hf0 : 0 ≤ from_
  ·rw [decide_eq_true hf0] at hw
   by_cases hb : R = 32 ∨ R = 9
   ·have hbl : blankR R = true := by unfold blankR; rcases hb with rfl | rfl <;> rfl
    rw [hbl] at hw
    simp only at hw
    rcases hb with rfl | rfl <;> (
     repeat' (first | refine stp tab_ok rfl (by first | exact sideN | exact sideT (by omega)) ?_ | refine gT rfl rfl (by omega) ?_ | refine gF rfl rfl (by omega) ?_ | refine gNT rfl rfl (by omega) ?_ | refine gNF rfl rfl (by omega) ?_ | fail)
     refine good_swap 32 1000 rfl (swap0 hX) ?_
     exact good_again ⟨f, pos + W, -1, out ++ [s.extract from_.toNat pos]⟩ ⟨by simp only; omega, by simp only; omega, by simp only [List.length_append, List.length_singleton]; omega, hw⟩ (by simp only; omega) (Wk.mk ⟨Sub.of_eq rfl, Sub.of_eq rfl, Sub.of_eq rfl, Sub.of_eq rfl, trivial⟩ ⟨⟨_, rfl, SubO.row (by simp) (strEls_app _ _ _ _ rfl rfl)⟩, ⟨_, rfl, SubO.refl _⟩, trivial⟩ rfl rfl (pin0 hX)))
   ·have hbl : blankR R = false := by unfold blankR; rw [decide_eq_false (by omega), decide_eq_false (by omega)]; rfl
    rw [hbl] at hw
    simp only at hw
    repeat' (first | refine stp tab_ok rfl (by first | exact sideN | exact sideT (by omega)) ?_ | refine gT rfl rfl (by omega) ?_ | refine gF rfl rfl (by omega) ?_ | refine gNT rfl rfl (by omega) ?_ | refine gNF rfl rfl (by omega) ?_ | fail)
    exact good_again ⟨f, pos + W, from_, out⟩ ⟨by simp only; omega, by simp only; omega, by simp only; omega, hw⟩ (by simp only; omega) (Wk.mk ⟨Sub.of_eq rfl, Sub.of_eq rfl, Sub.of_eq rfl, Sub.of_eq rfl, trivial⟩ ⟨⟨_, rfl, SubO.refl _⟩, ⟨_, rfl, SubO.refl _⟩, trivial⟩ rfl rfl (pin0 hX))
  ·rw [decide_eq_false hf0] at hw
   by_cases hb : R = 32 ∨ R = 9
   ·have hbl : blankR R = true := by unfold blankR; rcases hb with rfl | rfl <;> rfl
    rw [hbl] at hw
    simp only at hw
    rcases hb with rfl | rfl <;> (
     repeat' (first | refine stp tab_ok rfl (by first | exact sideN | exact sideT (by omega)) ?_ | refine gT rfl rfl (by omega) ?_ | refine gF rfl rfl (by omega) ?_ | refine gNT rfl rfl (by omega) ?_ | refine gNF rfl rfl (by omega) ?_ | fail)
     exact good_again ⟨f, pos + W, from_, out⟩ ⟨by simp only; omega, by simp only; omega, by simp only; omega, hw⟩ (by simp only; omega) (Wk.mk ⟨Sub.of_eq rfl, Sub.of_eq rfl, Sub.of_eq rfl, Sub.of_eq rfl, trivial⟩ ⟨⟨_, rfl, SubO.refl _⟩, ⟨_, rfl, SubO.refl _⟩, trivial⟩ rfl rfl (pin0 hX)))
   ·have hbl : blankR R = false := by unfold blankR; rw [decide_eq_false (by omega), decide_eq_false (by omega)]; rfl
    rw [hbl] at hw
    simp only at hw
    repeat' (first | refine stp tab_ok rfl (by first | exact sideN | exact sideT (by omega)) ?_ | refine gT rfl rfl (by omega) ?_ | refine gF rfl rfl (by omega) ?_ | refine gNT rfl rfl (by omega) ?_ | refine gNF rfl rfl (by omega) ?_ | fail)
    exact good_again ⟨f, pos + W, pos, out⟩ ⟨by simp only; omega, by simp only; omega, by simp only; omega, hw⟩ (by simp only; omega) (Wk.mk ⟨Sub.of_eq rfl, Sub.of_eq rfl, Sub.of_eq rfl, Sub.of_eq rfl, trivial⟩ ⟨⟨_, rfl, SubO.refl _⟩, ⟨_, rfl, SubO.refl _⟩, trivial⟩ rfl rfl (pin0 hX))
 ·have hr : out = wordsF s := by
   rw [← hw]
   cases f with
   | zero => rfl
   | succ g => unfold wordsR; rw [if_neg hp]
  rw [← hr]
  repeat' (first | refine stp tab_ok rfl (by first | exact sideN | exact sideT (by omega)) ?_ | fail)
  refine good_by rfl (ok_over _ 9 pos t rfl rfl hp) rfl ?_
  repeat' (first | refine stp tab_ok rfl (by first | exact sideN | exact sideT (by omega)) ?_ | refine gT rfl rfl (by omega) ?_ | refine gF rfl rfl (by omega) ?_ | refine gNT rfl rfl (by omega) ?_ | refine gNF rfl rfl (by omega) ?_ | refine gS rfl rfl (fun _ => ?_) (fun _ => ?_) | refine gNS rfl rfl (fun _ => ?_) (fun _ => ?_) | refine gBS rfl rfl (fun _ => ?_) (fun _ => ?_) | refine gBN rfl rfl (fun _ => ?_) (fun _ => ?_) | refine good_ret tab_ok hX rfl (Sub.of_eq ?_) | refine good_end tab_ok hX rfl (Sub.of_eq ?_) | fail)
  rfl
end Go.Proofs.YthjldemjipnmdaaGreatDoor.Sx
namespace Go.Proofs.YthjldemjipnmdaaGreatDoor.Sx
open Go.RowKit
set_option maxRecDepth 100000
def lf1 : ByteArray := ⟨#[10]⟩
def cr1 : ByteArray := ⟨#[13]⟩
def trimS (t : ByteArray) : ByteArray := ⟨(Lib.trimSuffix t.data.toList [13]).toArray⟩
def mixEls (ps : List ByteArray) (k : Nat) : Nat → AL := fun i => L1 (S (if i < k then trimS (ps.getD i ByteArray.empty) else ps.getD i ByteArray.empty))
theorem mixEls_step (ps : List ByteArray) (k j : Nat) : (if j = k then L1 (S ⟨(Lib.trimSuffix (ps.getD k ByteArray.empty).data.toList cr1.data.toList).toArray⟩) else mixEls ps k j) = mixEls ps (k + 1) j := by
 unfold mixEls
 by_cases h : j = k
 ·subst h
  rw [if_pos rfl, if_pos (Nat.lt_succ_self _)]
  rfl
 ·rw [if_neg h]
  by_cases h2 : j < k
  ·rw [if_pos h2, if_pos (by omega)]
  ·rw [if_neg h2, if_neg (by omega)]
def piecesF (s : ByteArray) : List ByteArray := Lib.splitB lf1 0 (Lib.countB s lf1) s
def splitF (s : ByteArray) : List ByteArray := if (piecesF s).getD (Lib.countB s lf1) ByteArray.empty = ByteArray.empty then ((piecesF s).take (Lib.countB s lf1)).map trimS else (piecesF s).map trimS
theorem splitB_size (sep : ByteArray) : ∀ (k : Nat) (s : ByteArray), ∀ p ∈ Lib.splitB sep 0 k s, p.size ≤ s.size
 | 0, s, p, hp => by
  rw [Lib.splitB_zero, List.mem_singleton] at hp
  rw [hp]
  exact Nat.le_refl _
 | k + 1, s, p, hp => by
  unfold Lib.splitB at hp
  split at hp
  ·rw [List.mem_singleton] at hp
   rw [hp]
   exact Nat.le_refl _
  ·rcases List.mem_cons.1 hp with h | h
   ·rw [h, ByteArray.size_extract]; omega
   ·have := splitB_size sep k _ p h
    rw [ByteArray.size_extract] at this
    omega
theorem pieces_len (s : ByteArray) : (piecesF s).length = Lib.countB s lf1 + 1 := Lib.splitB_all lf1 (by decide) 0 _ s rfl
theorem getD_mem {xs : List ByteArray} {i : Nat} (h : i < xs.length) : xs.getD i ByteArray.empty ∈ xs := by
 simp [List.getD, h]
theorem map_els (ps : List ByteArray) (m i : Nat) (hm : m ≤ ps.length) (hi : i < m) : mixEls ps m i = strEls ((ps.take m).map trimS) i := by
 have h1 : i < ps.length := by omega
 unfold mixEls strEls
 rw [if_pos hi]
 simp [List.getD, h1, hi]
theorem split_ac (s : ByteArray) (hs : s.size ≤ 1000000) : AC Tryz.prog 49 (L1 (S s)) (.im 1 (splitF s).length (strEls (splitF s))) := by
 have hle := Lib.countB_le lf1 (by decide) s.size s (Nat.le_refl _)
 have hlen := pieces_len s
 have hsz : ∀ i, i < (piecesF s).length → ((piecesF s).getD i ByteArray.empty).size ≤ s.size := fun i hi => splitB_size lf1 _ s _ (getD_mem hi)
 have hS : splitF s = if (piecesF s).getD (Lib.countB s lf1) ByteArray.empty = ByteArray.empty then ((piecesF s).take (Lib.countB s lf1)).map trimS else (piecesF s).map trimS := rfl
 have hoc : OC Tryz.prog 98 (L2 (S s) (S lf1)) 9 1 (Lib.countB s lf1 + 1) (strEls (piecesF s)) := split_oc s lf1 (by omega) (by decide)
 generalize Lib.countB s lf1 = c at *
 generalize piecesF s = ps at *
 generalize splitF s = res at *
 refine AC.enter Tryz.func49 Tryz.ntmps49 rfl rfl rfl (fun F hX => ?_)
 repeat' (first | refine stp tab_ok rfl (by first | exact sideN | exact sideT (by omega)) ?_ | refine gT rfl rfl (by omega) ?_ | refine gF rfl rfl (by omega) ?_ | refine gNT rfl rfl (by omega) ?_ | refine gNF rfl rfl (by omega) ?_ | fail)
 refine good_callO rfl rfl rfl rfl rfl rfl ent98 (hoc) rfl rfl ?_
 have ec : ((c + 1 : Nat) : Int) - 1 = (c : Int) := by omega
 repeat' (first | refine stp tab_ok rfl (by first | exact sideN | exact sideT (by omega)) ?_ | refine gT rfl rfl (by omega) ?_ | refine gF rfl rfl (by omega) ?_ | refine gNT rfl rfl (by omega) ?_ | refine gNF rfl rfl (by omega) ?_ | fail)
 simp only [ec]
 repeat' (first | refine stp tab_ok rfl (by first | exact sideN | exact sideT (by omega)) ?_ | refine gT rfl rfl (by omega) ?_ | refine gF rfl rfl (by omega) ?_ | refine gNT rfl rfl (by omega) ?_ | refine gNF rfl rfl (by omega) ?_ | fail)
 simp only [Int.toNat_natCast]
 repeat' (first | refine stp tab_ok rfl (by first | exact sideN | exact sideT (by omega)) ?_ | fail)
 by_cases hE : ps.getD c ByteArray.empty = ByteArray.empty
 ·refine gT rfl rfl hE ?_
  repeat' (first | refine stp tab_ok rfl (by first | exact sideN | exact sideT (by omega)) ?_ | fail)
  refine good_by rfl (ok_cutOwn 18 107 _ _ 7 9 1 _ _ (c : Int) _ _ _ rfl rfl rfl (tab_ok 107 _ rfl) rfl (tab_ok 9 _ rfl) (by omega) rfl) rfl ?_
  simp only [Int.toNat_natCast]
  repeat' (first | refine stp tab_ok rfl (by first | exact sideN | exact sideT (by omega)) ?_ | refine gT rfl rfl (by omega) ?_ | refine gF rfl rfl (by omega) ?_ | refine gNT rfl rfl (by omega) ?_ | refine gNF rfl rfl (by omega) ?_ | fail)
  refine good_swap 18 1000 rfl (swap0 hX) ?_
  refine good_rounds (fun i : Nat => [(3, .own 1000), (20, I c), (21, I i)]) (fun i : Nat => [(1000, .row 9 1 c (mixEls ps i))]) (fun i : Nat => c - i) (fun i : Nat => i ≤ c) 0 (Nat.zero_le _) (Wk.mk ⟨Sub.of_eq rfl, Sub.of_eq rfl, Sub.of_eq rfl, trivial⟩ ⟨⟨_, rfl, SubO.row rfl (fun i hi => rfl)⟩, trivial⟩ rfl rfl (pin0 hX)) (fun i hi => ?_)
  by_cases hlt : i < c
  ·have hii : i < ps.length := by omega
   repeat' (first | refine stp tab_ok rfl (by first | exact sideN | exact sideT (by omega)) ?_ | refine gT rfl rfl (by omega) ?_ | refine gF rfl rfl (by omega) ?_ | refine gNT rfl rfl (by omega) ?_ | refine gNF rfl rfl (by omega) ?_ | fail)
   simp only [Int.toNat_natCast]
   rw [if_neg (Nat.lt_irrefl i)]
   repeat' (first | refine stp tab_ok rfl (by first | exact sideN | exact sideT (by omega)) ?_ | refine gT rfl rfl (by omega) ?_ | refine gF rfl rfl (by omega) ?_ | refine gNT rfl rfl (by omega) ?_ | refine gNF rfl rfl (by omega) ?_ | fail)
   refine good_call rfl rfl rfl rfl rfl ent99 (trimSuffix_ac (ps.getD i ByteArray.empty) cr1 (Nat.le_trans (hsz i hii) (by omega))) rfl ?_
   repeat' (first | refine stp tab_ok rfl (by first | exact sideN | exact sideT (by omega)) ?_ | refine gT rfl rfl (by omega) ?_ | refine gF rfl rfl (by omega) ?_ | refine gNT rfl rfl (by omega) ?_ | refine gNF rfl rfl (by omega) ?_ | fail)
   exact good_again (i + 1) (by omega) (by omega) (Wk.mk ⟨Sub.of_eq rfl, Sub.of_eq rfl, Sub.of_eq rfl, trivial⟩ ⟨⟨_, rfl, SubO.row rfl (fun j hj => mixEls_step ps i j)⟩, trivial⟩ rfl rfl (pin0 hX))
  ·obtain rfl : i = c := by omega
   repeat' (first | refine stp tab_ok rfl (by first | exact sideN | exact sideT (by omega)) ?_ | refine gT rfl rfl (by omega) ?_ | refine gF rfl rfl (by omega) ?_ | refine gNT rfl rfl (by omega) ?_ | refine gNF rfl rfl (by omega) ?_ | fail)
   exact good_ret tab_ok hX rfl (Sub.im (by rw [hS, if_pos hE, List.length_map, List.length_take]; omega) (fun j hj => by rw [hS, if_pos hE]; exact map_els ps _ j (by omega) hj))
 ·refine gF rfl rfl hE ?_
  repeat' (first | refine stp tab_ok rfl (by first | exact sideN | exact sideT (by omega)) ?_ | refine gT rfl rfl (by omega) ?_ | refine gF rfl rfl (by omega) ?_ | refine gNT rfl rfl (by omega) ?_ | refine gNF rfl rfl (by omega) ?_ | fail)
  refine good_swap 7 1000 rfl (swap0 hX) ?_
  refine good_rounds (fun i : Nat => [(3, .own 1000), (20, I ((c + 1 : Nat) : Int)), (21, I i)]) (fun i : Nat => [(1000, .row 9 1 (c + 1) (mixEls ps i))]) (fun i : Nat => (c + 1) - i) (fun i : Nat => i ≤ (c + 1)) 0 (Nat.zero_le _) (Wk.mk ⟨Sub.of_eq rfl, Sub.of_eq rfl, Sub.of_eq rfl, trivial⟩ ⟨⟨_, rfl, SubO.row rfl (fun i hi => rfl)⟩, trivial⟩ rfl rfl (pin0 hX)) (fun i hi => ?_)
  by_cases hlt : i < (c + 1)
  ·have hii : i < ps.length := by omega
   repeat' (first | refine stp tab_ok rfl (by first | exact sideN | exact sideT (by omega)) ?_ | refine gT rfl rfl (by omega) ?_ | refine gF rfl rfl (by omega) ?_ | refine gNT rfl rfl (by omega) ?_ | refine gNF rfl rfl (by omega) ?_ | fail)
   simp only [Int.toNat_natCast]
   rw [if_neg (Nat.lt_irrefl i)]
   repeat' (first | refine stp tab_ok rfl (by first | exact sideN | exact sideT (by omega)) ?_ | refine gT rfl rfl (by omega) ?_ | refine gF rfl rfl (by omega) ?_ | refine gNT rfl rfl (by omega) ?_ | refine gNF rfl rfl (by omega) ?_ | fail)
   refine good_call rfl rfl rfl rfl rfl ent99 (trimSuffix_ac (ps.getD i ByteArray.empty) cr1 (Nat.le_trans (hsz i hii) (by omega))) rfl ?_
   repeat' (first | refine stp tab_ok rfl (by first | exact sideN | exact sideT (by omega)) ?_ | refine gT rfl rfl (by omega) ?_ | refine gF rfl rfl (by omega) ?_ | refine gNT rfl rfl (by omega) ?_ | refine gNF rfl rfl (by omega) ?_ | fail)
   exact good_again (i + 1) (by omega) (by omega) (Wk.mk ⟨Sub.of_eq rfl, Sub.of_eq rfl, Sub.of_eq rfl, trivial⟩ ⟨⟨_, rfl, SubO.row rfl (fun j hj => mixEls_step ps i j)⟩, trivial⟩ rfl rfl (pin0 hX))
  ·obtain rfl : i = (c + 1) := by omega
   repeat' (first | refine stp tab_ok rfl (by first | exact sideN | exact sideT (by omega)) ?_ | refine gT rfl rfl (by omega) ?_ | refine gF rfl rfl (by omega) ?_ | refine gNT rfl rfl (by omega) ?_ | refine gNF rfl rfl (by omega) ?_ | fail)
   exact good_ret tab_ok hX rfl (Sub.im (by rw [hS, if_neg hE, List.length_map]; omega) (fun j hj => by rw [hS, if_neg hE]; have := map_els ps (c + 1) j (by omega) hj; rw [List.take_of_length_le (by omega)] at this; exact this))
end Go.Proofs.YthjldemjipnmdaaGreatDoor.Sx
namespace Go.Proofs.YthjldemjipnmdaaGreatDoor.Sx
open Go.RowKit
set_option maxRecDepth 100000
def foldB (b : Int) : Int := if 65 ≤ b ∧ b ≤ 90 then b + 32 else b
def foldF (s : ByteArray) : ByteArray := strF s.size (fun i => foldB (byteAt s i))
def foldEls (s : ByteArray) (k : Nat) : Nat → AL := fun i => L1 (.val (.int .u8 (if i < k then foldB (byteAt s i) else byteAt s i)))
theorem byteAt_bd (s : ByteArray) (i : Int) : 0 ≤ byteAt s i ∧ byteAt s i ≤ 255 := by
 unfold byteAt
 have := UInt8.toNat_lt (s.data.toList.getD i.toNat 0)
 omega
theorem foldEls_step (s : ByteArray) (k j : Nat) (v : Int) (hv : v = foldB (byteAt s k)) : (if j = k then L1 (.val (.int .u8 v)) else foldEls s k j) = foldEls s (k + 1) j := by
 unfold foldEls
 by_cases h : j = k
 ·subst h
  rw [if_pos rfl, if_pos (Nat.lt_succ_self _), hv]
 ·rw [if_neg h]
  by_cases h2 : j < k
  ·rw [if_pos h2, if_pos (by omega)]
  ·rw [if_neg h2, if_neg (by omega)]
theorem foldEls_keep (s : ByteArray) (k j : Nat) (hv : byteAt s k = foldB (byteAt s k)) : foldEls s k j = foldEls s (k + 1) j := by
 rw [← foldEls_step s k j _ hv]
 by_cases h : j = k
 ·subst h
  rw [if_pos rfl]
  unfold foldEls
  rw [if_neg (Nat.lt_irrefl _)]
 ·rw [if_neg h]
theorem fold_ac (s : ByteArray) (hs : s.size ≤ 1000000) : AC Tryz.prog 153 (L1 (S s)) (S (foldF s)) := by
 refine AC.enter Tryz.func153 Tryz.ntmps153 rfl rfl rfl (fun F hX => ?_)
 iterate 7 (refine stp tab_ok rfl sideN ?_)
 refine good_by rfl (ok_strOwn 7 _ _ _ s _ _ _ _ rfl (tab_ok _ _ rfl) rfl (tab_ok _ _ rfl) rfl (tab_ok _ _ rfl) rfl hs rfl) rfl ?_
 repeat' (first | refine stp tab_ok rfl (by first | exact sideN | exact sideT (by omega)) ?_ | fail)
 refine good_rounds (fun k : Nat => [(3, .own 7), (8, .own 7), (9, I s.size), (10, I k)]) (fun k : Nat => [(7, .row mkT 1 s.size (foldEls s k))]) (fun k : Nat => s.size - k) (fun k : Nat => k ≤ s.size) 0 (Nat.zero_le _) (Wk.mk ⟨Sub.of_eq rfl, Sub.of_eq rfl, Sub.of_eq rfl, Sub.of_eq rfl, trivial⟩ ⟨⟨_, rfl, SubO.row rfl (fun i hi => rfl)⟩, trivial⟩ rfl rfl (pin0 hX)) (fun k hk => ?_)
 by_cases hlt : k < s.size
 ·have hb := byteAt_bd s k
  repeat' (first | refine stp tab_ok rfl (by first | exact sideN | exact sideT (by omega)) ?_ | refine gT rfl rfl (by omega) ?_ | refine gF rfl rfl (by omega) ?_ | refine gNT rfl rfl (by omega) ?_ | refine gNF rfl rfl (by omega) ?_ | fail)
  simp only [Int.toNat_natCast]
  rw [if_neg (Nat.lt_irrefl k)]
  by_cases hc : 65 ≤ byteAt s k ∧ byteAt s k ≤ 90
  ·have hv : byteAt s k + 32 = foldB (byteAt s k) := by unfold foldB; rw [if_pos hc]
   repeat' (first | refine stp tab_ok rfl (by first | exact sideN | exact sideT (by omega)) ?_ | refine gT rfl rfl (by omega) ?_ | refine gF rfl rfl (by omega) ?_ | refine gNT rfl rfl (by omega) ?_ | refine gNF rfl rfl (by omega) ?_ | fail)
   exact good_again (k + 1) (by omega) (by omega) (Wk.mk ⟨Sub.of_eq rfl, Sub.of_eq rfl, Sub.of_eq rfl, Sub.of_eq rfl, trivial⟩ ⟨⟨_, rfl, SubO.row rfl (fun j hj => foldEls_step s k j _ (by simp only [Int.toNat_natCast, Nat.lt_irrefl, if_false]; exact w8 hv (by omega)))⟩, trivial⟩ rfl rfl (pin0 hX))
  ·have hv : byteAt s k = foldB (byteAt s k) := by unfold foldB; rw [if_neg hc]
   by_cases h1 : 65 ≤ byteAt s k <;> (
    repeat' (first | refine stp tab_ok rfl (by first | exact sideN | exact sideT (by omega)) ?_ | refine gT rfl rfl (by omega) ?_ | refine gF rfl rfl (by omega) ?_ | refine gNT rfl rfl (by omega) ?_ | refine gNF rfl rfl (by omega) ?_ | fail)
    exact good_again (k + 1) (by omega) (by omega) (Wk.mk ⟨Sub.of_eq rfl, Sub.of_eq rfl, Sub.of_eq rfl, Sub.of_eq rfl, trivial⟩ ⟨⟨_, rfl, SubO.row rfl (fun j hj => foldEls_keep s k j hv)⟩, trivial⟩ rfl rfl (pin0 hX)))
 ·obtain rfl : k = s.size := by omega
  repeat' (first | refine stp tab_ok rfl (by first | exact sideN | exact sideT (by omega)) ?_ | refine gT rfl rfl (by omega) ?_ | refine gF rfl rfl (by omega) ?_ | refine gNT rfl rfl (by omega) ?_ | refine gNF rfl rfl (by omega) ?_ | fail)
  refine good_by rfl (ok_bytesStr _ _ _ s.size _ (fun i => foldB (byteAt s i)) _ _ _ _ rfl (fun i hi => by unfold foldEls; rw [if_pos hi]) (tab_ok _ _ rfl) rfl (tab_ok _ _ rfl) rfl (tab_ok _ _ rfl) rfl) rfl ?_
  repeat' (first | refine stp tab_ok rfl (by first | exact sideN | exact sideT (by omega)) ?_ | refine gT rfl rfl (by omega) ?_ | refine gF rfl rfl (by omega) ?_ | refine gNT rfl rfl (by omega) ?_ | refine gNF rfl rfl (by omega) ?_ | refine gS rfl rfl (fun _ => ?_) (fun _ => ?_) | refine gNS rfl rfl (fun _ => ?_) (fun _ => ?_) | refine gBS rfl rfl (fun _ => ?_) (fun _ => ?_) | refine gBN rfl rfl (fun _ => ?_) (fun _ => ?_) | refine good_ret tab_ok hX rfl (Sub.of_eq ?_) | refine good_end tab_ok hX rfl (Sub.of_eq ?_) | fail)
  rfl
end Go.Proofs.YthjldemjipnmdaaGreatDoor.Sx
namespace Go.Proofs.YthjldemjipnmdaaGreatDoor.Sx
open Go.RowKit
set_option maxRecDepth 100000
abbrev U4 (n : Int) : AV := .val (.int .u32 n)
def rotF (x k : Int) : Int := Go.bits .or .u32 (IntKind.u32.wrap (x * 2 ^ (min k.toNat 32))) (x.fdiv (2 ^ (min (32 - k).toNat 32)))
theorem rot5_ac (x : Int) : AC Tryz.prog 200 (L2 (U4 x) (I 5)) (U4 (rotF x 5)) := by
 refine AC.enter Tryz.func200 Tryz.ntmps200 rfl rfl rfl (fun F hX => ?_)
 repeat' (first | refine stp tab_ok rfl (by first | exact sideN | exact sideT (by omega)) ?_ | fail)
 rw [show Go.bits .and .u64 5 31 = 5 from by decide +kernel]
 repeat' (first | refine stp tab_ok rfl (by first | exact sideN | exact sideT (by omega)) ?_ | fail)
 rw [show IntKind.u64.wrap (32 - 5) = 27 from by decide +kernel]
 repeat' (first | refine stp tab_ok rfl (by first | exact sideN | exact sideT (by omega)) ?_ | refine gT rfl rfl (by omega) ?_ | refine gF rfl rfl (by omega) ?_ | refine gNT rfl rfl (by omega) ?_ | refine gNF rfl rfl (by omega) ?_ | refine gS rfl rfl (fun _ => ?_) (fun _ => ?_) | refine gNS rfl rfl (fun _ => ?_) (fun _ => ?_) | refine gBS rfl rfl (fun _ => ?_) (fun _ => ?_) | refine gBN rfl rfl (fun _ => ?_) (fun _ => ?_) | refine good_ret tab_ok hX rfl (Sub.of_eq ?_) | refine good_end tab_ok hX rfl (Sub.of_eq ?_) | fail)
 rfl
theorem rot30_ac (x : Int) : AC Tryz.prog 200 (L2 (U4 x) (I 30)) (U4 (rotF x 30)) := by
 refine AC.enter Tryz.func200 Tryz.ntmps200 rfl rfl rfl (fun F hX => ?_)
 repeat' (first | refine stp tab_ok rfl (by first | exact sideN | exact sideT (by omega)) ?_ | fail)
 rw [show Go.bits .and .u64 30 31 = 30 from by decide +kernel]
 repeat' (first | refine stp tab_ok rfl (by first | exact sideN | exact sideT (by omega)) ?_ | fail)
 rw [show IntKind.u64.wrap (32 - 30) = 2 from by decide +kernel]
 repeat' (first | refine stp tab_ok rfl (by first | exact sideN | exact sideT (by omega)) ?_ | refine gT rfl rfl (by omega) ?_ | refine gF rfl rfl (by omega) ?_ | refine gNT rfl rfl (by omega) ?_ | refine gNF rfl rfl (by omega) ?_ | refine gS rfl rfl (fun _ => ?_) (fun _ => ?_) | refine gNS rfl rfl (fun _ => ?_) (fun _ => ?_) | refine gBS rfl rfl (fun _ => ?_) (fun _ => ?_) | refine gBN rfl rfl (fun _ => ?_) (fun _ => ?_) | refine good_ret tab_ok hX rfl (Sub.of_eq ?_) | refine good_end tab_ok hX rfl (Sub.of_eq ?_) | fail)
 rfl
theorem rot1_ac (x : Int) : AC Tryz.prog 200 (L2 (U4 x) (I 1)) (U4 (rotF x 1)) := by
 refine AC.enter Tryz.func200 Tryz.ntmps200 rfl rfl rfl (fun F hX => ?_)
 repeat' (first | refine stp tab_ok rfl (by first | exact sideN | exact sideT (by omega)) ?_ | fail)
 rw [show Go.bits .and .u64 1 31 = 1 from by decide +kernel]
 repeat' (first | refine stp tab_ok rfl (by first | exact sideN | exact sideT (by omega)) ?_ | fail)
 rw [show IntKind.u64.wrap (32 - 1) = 31 from by decide +kernel]
 repeat' (first | refine stp tab_ok rfl (by first | exact sideN | exact sideT (by omega)) ?_ | refine gT rfl rfl (by omega) ?_ | refine gF rfl rfl (by omega) ?_ | refine gNT rfl rfl (by omega) ?_ | refine gNF rfl rfl (by omega) ?_ | refine gS rfl rfl (fun _ => ?_) (fun _ => ?_) | refine gNS rfl rfl (fun _ => ?_) (fun _ => ?_) | refine gBS rfl rfl (fun _ => ?_) (fun _ => ?_) | refine gBN rfl rfl (fun _ => ?_) (fun _ => ?_) | refine good_ret tab_ok hX rfl (Sub.of_eq ?_) | refine good_end tab_ok hX rfl (Sub.of_eq ?_) | fail)
 rfl
structure S5 where
 a : Int
 b : Int
 c : Int
 d : Int
 e : Int
def cells5 (s : S5) : AL := .cons (U4 s.a) (.cons (U4 s.b) (.cons (U4 s.c) (.cons (U4 s.d) (.cons (U4 s.e) .nil))))
def stepF (s : S5) (f k w : Int) : S5 := ⟨IntKind.u32.wrap (IntKind.u32.wrap (IntKind.u32.wrap (IntKind.u32.wrap (rotF s.a 5 + f) + s.e) + k) + w), s.a, rotF s.b 30, s.c, s.d⟩
set_option maxHeartbeats 4000000 in
theorem step_bc (s : S5) (f k w : Int) : BC Tryz.prog 201 239 (cells5 s) (L3 (U4 f) (U4 k) (U4 w)) .any (cells5 (stepF s f k w)) := by
 refine BC.enter 900 Tryz.func201 Tryz.ntmps201 rfl rfl rfl (fun F b hX hb => ?_)
 repeat' (first | refine stp tab_ok rfl (by first | exact sideN | exact sideT (by omega)) ?_ | fail)
 refine dg_start ?_
 repeat' (first | refine dgp tab_ok rfl (by first | exact sideN | exact sideT (by omega)) ?_ | fail)
 refine dg_call rfl rfl rfl rfl rfl ent200 (rot5_ac s.a) rfl ?_
 repeat' (first | refine dgp tab_ok rfl (by first | exact sideN | exact sideT (by omega)) ?_ | fail)
 refine dg_end mixed rfl ?_
 repeat' (first | refine stp tab_ok rfl (by first | exact sideN | exact sideT (by omega)) ?_ | fail)
 refine dg_start ?_
 repeat' (first | refine dgp tab_ok rfl (by first | exact sideN | exact sideT (by omega)) ?_ | fail)
 refine dg_call rfl rfl rfl rfl rfl ent200 (rot30_ac s.b) rfl ?_
 repeat' (first | refine dgp tab_ok rfl (by first | exact sideN | exact sideT (by omega)) ?_ | fail)
 refine dg_end mixed rfl ?_
 repeat' (first | refine stp tab_ok rfl (by first | exact sideN | exact sideT (by omega)) ?_ | fail)
 first | exact good_retB tab_ok hX rfl rfl (Sub.any _) (SubL.refl _) | exact good_endB tab_ok hX rfl rfl (Sub.any _) (SubL.refl _)
end Go.Proofs.YthjldemjipnmdaaGreatDoor.Sx
namespace Go.Proofs.YthjldemjipnmdaaGreatDoor.Sx
open Go.RowKit
section
variable {P : Program} {F : Fr} {t : Tm} {h : Hp} {d : Option Tmp} {ty : TypeId} {ps : String} {af : Array Edge} {gd : Option (Nat × Bool)}
theorem zero_at {m j : Nat} (h : j < m) : (Builtin.zeroCells (Value.cells (.int .u8 0)) m).toList[j]? = some (.int .u8 0) := by
 unfold Builtin.zeroCells
 rw [Array.getElem?_toList, Array.getElem?_map, Array.getElem?_range]
 rw [if_pos (by show j < m * 1; omega)]
 have : j % (Value.cells (Value.int .u8 0)).size = 0 := Nat.mod_one j
 simp only [Option.map_some, this]
 rfl
theorem zero_one {m : Nat} {u : Value} (hu : u ∈ (Builtin.zeroCells (Value.cells (.int .u8 0)) m).toList) : u.oneCell' = true := by
 obtain ⟨j, hj, e⟩ := List.getElem_of_mem hu
 have hl : (Builtin.zeroCells (Value.cells (.int .u8 0)) m).toList.length = m * 1 := by rw [Array.length_toList, size_zeroCells]; rfl
 have := zero_at (m := m) (j := j) (by omega)
 rw [List.getElem?_eq_getElem hj, e] at this
 rw [Option.some.inj this]
 rfl
theorem run_zeros_own {w : World} (T tn ty e : TypeId) (i : TypeInfo) (z : Value) (k kn : IntKind) (ht : P.underlying T = some (.slice e)) (htn : P.underlying tn = some (.int kn)) (hi : P.info? e = some i) (hz : i.zero = some z) (hs : i.size = 1) (hbt : i.bytes ≤ 64) (hzv : z = .int .u8 0)
  (V : Value) (n m : Nat) (xs : List Value) (hown : w.ownsRow 0 e 1 V n xs) (hmax : n + m ≤ 900000000) :
  ∃ V' w', (Builtin.append_ #[T, tn] ty #[V, .int k m]).run P w = .ok V' w' ∧ w'.ownsRow 0 e 1 V' (n + m) (xs ++ (Builtin.zeroCells z.cells m).toList) ∧ w.grownBy w' V.ownBlock ∧ (∀ b, V'.ownBlock = some b → V.ownBlock = some b ∨ w.heap.size ≤ b) := by
 have hzs : z.cells.size = 1 := by rw [hzv]; rfl
 have hz1 : ∀ u ∈ (Builtin.zeroCells z.cells m).toList, u.oneCell' = true := fun u hu => zero_one (m := m) (by rw [hzv] at hu; exact hu)
 have hl : (Builtin.zeroCells z.cells m).toList.length = m * 1 := by rw [Array.length_toList, size_zeroCells, hzs]
 have hlen : (xs ++ (Builtin.zeroCells z.cells m).toList).length = (n + m) * 1 := by rw [List.length_append, hown.1, hl, Nat.add_mul]
 have hw : IntKind.i64.wrap (m : Int) = m := by rw [IntKind.wrap_i64]; omega
 have hneg : ¬ ((m : Int) < 0) := by omega
 have hw0 : IntKind.i64.wrap 0 = 0 := by rw [IntKind.wrap_i64]; rfl
 have hb0 : m * i.bytes ≤ 57600000000 := Nat.le_trans (Nat.mul_le_mul (by omega : m ≤ 900000000) hbt) (by omega)
 have h48i : ¬ (281474976710656 < (m : Int) * (i.bytes : Int)) := by
  rw [← Int.natCast_mul]
  omega
 have grown : ∀ (old : Nat), old < n + m → ∀ (row : Option Nat),
   (w.drew.alloc (.cells (xs.toArray ++ Builtin.zeroCells z.cells m ++ Builtin.zeroCells z.cells (grownCap w (n + m) old e - (n + m))) e)).ownsRow 0 e 1
    (.slice (some ⟨w.heap.size, 0, none⟩) (n + m) (grownCap w (n + m) old e)) (n + m) (xs ++ (Builtin.zeroCells z.cells m).toList) ∧
   w.grownBy (w.drew.alloc (.cells (xs.toArray ++ Builtin.zeroCells z.cells m ++ Builtin.zeroCells z.cells (grownCap w (n + m) old e - (n + m))) e)) row := by
  intro old ho row
  have hge := grownCap_ge w (n + m) old e
  have hcm : grownCap w (n + m) old e ≤ maxLen := grownCap_le_maxLen w (n + m) old e (by unfold maxLen; omega)
  refine ⟨⟨hlen, .inr ⟨w.heap.size, _, _, rfl, Nat.zero_le _, heap_alloc_new w.drew _, hge, hcm, ?_, ?_⟩⟩, ⟨rfl, rfl, rfl, by simp, fun k hk _ => heap_alloc_old w.drew _ hk⟩⟩
  ·simp only [Array.size_append, List.size_toArray, size_zeroCells, hzs, hown.1, ← Nat.add_mul]
   congr 1
   omega
  ·simp only [Array.toList_append]
   rw [← hlen]
   exact List.take_left
 rcases hown.2 with ⟨rfl, rfl⟩ | ⟨g, cap, cur, rfl, hbg, hg, hnc, hcm, hcs, htake⟩
 ·have hx : xs = [] := List.eq_nil_of_length_eq_zero (by simpa using hown.1)
  subst hx
  by_cases hm : m = 0
  ·subst hm
   refine ⟨.slice none 0 0, w, ?_, ?_, ⟨rfl, rfl, rfl, Nat.le_refl _, fun _ _ _ => rfl⟩, fun b hb => by cases hb⟩
   ·simp [Builtin.append_, run_underlying ht, run_underlying htn, sizeOf, typeInfo, hi, asInt, asIntOf, hw0]
   ·have : (Builtin.zeroCells z.cells 0).toList = [] := List.eq_nil_of_length_eq_zero hl
    rw [this]
    exact World.ownsRow_nil w 0 e 1
  ·have hr := Lib.run_append_nil_zeros (P := P) w T tn ty e i z k kn ht htn hi hz m (by omega) (by omega) (by omega) (by omega)
   have hgr := grown 0 (by omega) (Value.ownBlock (.slice none 0 0))
   simp only [Nat.zero_add, List.nil_append, Array.empty_append] at hgr ⊢
   exact ⟨_, _, hr, hgr.1, hgr.2, fun b hb => by cases hb; exact .inr (Nat.le_refl _)⟩
 ·by_cases hroom : n + m ≤ cap
  ·have hfit : n * 1 + (Builtin.zeroCells z.cells m).toList.length ≤ cur.size := by rw [hl, hcs, ← Nat.add_mul]; exact Nat.mul_le_mul_right _ hroom
   have hst := run_storeCells_at P g (n * 1) e (Builtin.zeroCells z.cells m).toList 0 cur w hg (by simpa using hfit) hz1
   simp only [Nat.add_zero, Nat.mul_one] at hst
   have hr : (Builtin.append_ #[T, tn] ty #[.slice (some ⟨g, 0, none⟩) n cap, .int k m]).run P w = .ok (.slice (some ⟨g, 0, none⟩) (n + m) cap) (w.setRow g (cur.toList.take (n * 1) ++ (Builtin.zeroCells z.cells m).toList ++ cur.toList.drop (n * 1 + (Builtin.zeroCells z.cells m).toList.length)).toArray) := by
    by_cases hm : m = 0
    ·subst hm
     have e0 : (Builtin.zeroCells z.cells 0).toList = [] := List.eq_nil_of_length_eq_zero hl
     rw [e0] at hst ⊢
     simp at hst
     simp [Builtin.append_, run_underlying ht, run_underlying htn, sizeOf, typeInfo, hi, asInt, asIntOf, hw0, hnc, Addr.add_lit, hs, hst]
    ·simp at hst
     simp [Builtin.append_, run_underlying ht, run_underlying htn, sizeOf, typeInfo, zeroValue, hi, hz, asInt, asIntOf, hw, hneg, h48i, hroom, Addr.add_lit, hs, hm, hst]
   refine ⟨_, _, hr, ⟨hlen, .inr ⟨g, cap, _, rfl, hbg, setRow_heap w g cur _ e _ hg, hroom, hcm, ?_, ?_⟩⟩, ⟨rfl, rfl, rfl, by simp, fun k _ hk => setRow_other w g k _ (fun e => hk (by simp [Value.ownBlock, e]))⟩, fun b hb => .inl hb⟩
   ·simp only [List.size_toArray, List.length_append, List.length_take, List.length_drop, Array.length_toList, size_zeroCells, hzs]
    omega
   ·rw [htake, ← hlen]
    exact List.take_left
  ·have holds : ∀ j u, xs[j]? = some u → w.drew.cell? ((⟨g, 0, none⟩ : Addr).add j) = some u := hown.cells (g := g) rfl
   have hfo := run_firstCells_some (P := P) w.drew 1 n ⟨g, 0, none⟩ n cap xs hown.1 holds
   have hgr := grown cap (by omega) (Value.ownBlock (.slice (some ⟨g, 0, none⟩) n cap))
   have hm : m ≠ 0 := by omega
   have h63' : ¬ (9223372036854775807 < ((n : Int) + (m : Int))) := by omega
   have h48' : ¬ (281474976710656 < Builtin.nextslicecap (n + m) cap * i.bytes) := by
    have := growslice_fits (old := cap) (need := n + m) (bytes := i.bytes) (by omega) (by have := Nat.mul_le_mul (show n + m ≤ 900000000 from hmax) hbt; omega)
    omega
   refine ⟨_, _, ?_, hgr.1, hgr.2, fun b hb => by cases hb; exact .inr (Nat.le_refl _)⟩
   simp [Builtin.append_, run_underlying ht, run_underlying htn, sizeOf, typeInfo, zeroValue, hi, hz, asInt, asIntOf, hw, hneg, h48i, hs, hm, hroom, h63', h48', Question.forced, hfo, newRow, grownCap]
theorem ok_appendZ (s T tn : Nat) (x v : Operand) (g e n : Nat) (m : Nat) (els : Nat → AL) (k kn : IntKind) (mi : Int) (i : TypeInfo) (hx : ev t x = .own g) (hg : getH h g = some (.row e 1 n els)) (hv : ev t v = .val (.int k mi)) (hmi : mi = (m : Int)) (ht : P.underlying T = some (.slice e)) (htn : P.underlying tn = some (.int kn)) (hi : P.info? e = some i) (hz : i.zero = some (.int .u8 0)) (hs1 : i.size = 1) (hbt : i.bytes ≤ 64) (hs : freshH h s = true) (hmax : n + m ≤ 900000000) (hmk : e < mkT) :
  OpWp P F ⟨some s, .call { callee := .builtin .append, args := #[x, v], argTypes := #[T, tn] }, ty, ps, af, gd⟩ t h (.own s) ((s, .row e 1 (n + m) (catF n els (fun _ => .cons (.val (.int .u8 0)) .nil))) :: (g, .dead) :: h) :=
 OpWp.value fun r a w hr ht' => by
  subst hmi
  have hx' := VR_ev ht' x
  rw [hx] at hx'
  unfold VR at hx'
  obtain ⟨hV, _⟩ := hx'
  obtain ⟨xs, ho0, hel⟩ := hr.objs g _ _ hg hV
  have ho := ho0.own hmk
  obtain ⟨V', w', k1, k2, k3, k5⟩ := run_zeros_own (P := P) T tn ty e i _ k kn ht htn hi hz hs1 hbt rfl (a.eval x) n m xs ho hmax
  have hb : w.grownBy w' (blk (a.eval x)) := by rw [blk_own ho]; exact k3
  obtain ⟨g1, g2⟩ := hr.grow hg rfl hV (fresh_ok hs) hb (fun b hb' => by rw [blk_own k2] at hb'; rw [blk_own ho]; exact k5 b hb') (o' := .row e 1 (n + m) (catF n els (fun _ => .cons (.val (.int .u8 0)) .nil))) (fun E => ⟨_, rowOk.of k2, fun i hi => by
   unfold catF
   by_cases hin : i < n
   ·simp only [if_pos hin]
    obtain ⟨Us, a1, a2, a3⟩ := hel i hin
    refine ⟨Us, fun j U hj => ?_, a2, E.vrl0 a3⟩
    have hx0 := a1 j U hj
    rw [List.getElem?_append_left (List.getElem?_eq_some_iff.1 hx0).1]
    exact hx0
   ·simp only [if_neg hin]
    refine ⟨[.int .u8 0], fun j U hj => ?_, rfl, by unfold VRL VRL; exact ⟨fun _ => rfl, vr_val, trivial⟩⟩
    cases j with
    | succ j => simp at hj
    | zero =>
     simp only [List.getElem?_cons_zero, Option.some.injEq] at hj
     subst hj
     rw [List.getElem?_append_right (by rw [ho.1]; omega), ho.1]
     exact zero_at (by omega)⟩)
  refine ⟨V', w', _, ?_, g1, g2, ?_⟩
  ·have hev := VR_val ht' hv
   simp only [execOp, resolve, invoke, builtin, Sem.run_bind, Sem.run_pure, Result.andThen_ok, List.map_toArray, List.map_cons, List.map_nil, hev, k1]
  ·unfold VR
   exact ⟨by unfold updR; rw [if_pos rfl], .inl (own_slice k2)⟩
end
end Go.Proofs.YthjldemjipnmdaaGreatDoor.Sx
namespace Go.Proofs.YthjldemjipnmdaaGreatDoor.Sx
open Go.RowKit
set_option maxRecDepth 100000
theorem info5m : (Tryz.prog.info? 5).map (fun i => (i.zero, i.size, i.bytes)) = some (some (.int .u8 0), 1, 1) := by kernel_rfl
theorem info5 : ∃ i, Tryz.prog.info? 5 = some i ∧ i.zero = some (.int .u8 0) ∧ i.size = 1 ∧ i.bytes = 1 := by
 have h := info5m
 cases hi : Tryz.prog.info? 5 with
 | none => rw [hi] at h; cases h
 | some i =>
  rw [hi] at h
  simp only [Option.map_some, Option.some.injEq, Prod.mk.injEq] at h
  exact ⟨i, rfl, h.1, h.2.1, h.2.2⟩
theorem ok_capNil {P : Program} {F : Fr} {t : Tm} {h : Hp} {d : Option Tmp} {ty : TypeId} {ps : String} {af : Array Edge} {gd : Option (Nat × Bool)} (T e : Nat) (x : Operand) (hx : ev t x = .val (.slice none 0 0)) (ht : P.underlying T = some (.slice e)) :
  OpWp P F ⟨d, .call { callee := .builtin .cap, args := #[x], argTypes := #[T] }, ty, ps, af, gd⟩ t h (.val (.int .i64 0)) h :=
 OpWp.pure fun r a w hr ht' => by
  refine ⟨_, ?_, vr_val⟩
  simp [execOp, resolve, invoke, builtin, VR_val ht' hx, Builtin.cap_, run_underlying ht, goInt]
theorem grow_oc (n : Nat) (els : Nat → AL) (hn : n ≤ 100000000) : OC Tryz.prog 160 (L2 (.val (.slice none 0 0)) (I n)) 5 1 0 els := by
 obtain ⟨i, i1, i2, i3, i4⟩ := info5
 refine OC.enter Tryz.func160 Tryz.ntmps160 rfl rfl rfl (fun F hX => ?_)
 repeat' (first | refine stp tab_ok rfl (by first | exact sideN | exact sideT (by omega)) ?_ | refine gT rfl rfl (by omega) ?_ | refine gF rfl rfl (by omega) ?_ | refine gNT rfl rfl (by omega) ?_ | refine gNF rfl rfl (by omega) ?_ | fail)
 refine good_by rfl (ok_capNil 31 5 _ rfl ((tab_ok 31 _ rfl).slice rfl)) rfl ?_
 repeat' (first | refine stp tab_ok rfl (by first | exact sideN | exact sideT (by omega)) ?_ | refine gT rfl rfl (by omega) ?_ | refine gF rfl rfl (by omega) ?_ | refine gNT rfl rfl (by omega) ?_ | refine gNF rfl rfl (by omega) ?_ | fail)
 by_cases h0 : n = 0
 ·subst h0
  repeat' (first | refine stp tab_ok rfl (by first | exact sideN | exact sideT (by omega)) ?_ | refine gT rfl rfl (by omega) ?_ | refine gF rfl rfl (by omega) ?_ | refine gNT rfl rfl (by omega) ?_ | refine gNF rfl rfl (by omega) ?_ | fail)
  exact good_retOn tab_ok hX rfl
 ·repeat' (first | refine stp tab_ok rfl (by first | exact sideN | exact sideT (by omega)) ?_ | refine gT rfl rfl (by omega) ?_ | refine gF rfl rfl (by omega) ?_ | refine gNT rfl rfl (by omega) ?_ | refine gNF rfl rfl (by omega) ?_ | fail)
  refine good_by rfl (ok_capNil 31 5 _ rfl ((tab_ok 31 _ rfl).slice rfl)) rfl ?_
  repeat' (first | refine stp tab_ok rfl (by first | exact sideN | exact sideT (by omega)) ?_ | refine gT rfl rfl (by omega) ?_ | refine gF rfl rfl (by omega) ?_ | refine gNT rfl rfl (by omega) ?_ | refine gNF rfl rfl (by omega) ?_ | fail)
  refine good_adoptT 17 900 5 1 els rfl rfl ?_
  refine good_by rfl (ok_cutOwn 20 31 _ _ 900 5 1 _ _ 0 _ _ _ rfl rfl rfl (tab_ok 31 _ rfl) rfl (tab_ok 5 _ rfl) (by omega) rfl) rfl ?_
  repeat' (first | refine stp tab_ok rfl (by first | exact sideN | exact sideT (by omega)) ?_ | refine gT rfl rfl (by omega) ?_ | refine gF rfl rfl (by omega) ?_ | refine gNT rfl rfl (by omega) ?_ | refine gNF rfl rfl (by omega) ?_ | fail)
  refine good_by rfl (ok_appendZ 22 31 3 _ _ 20 5 _ n _ .i64 .i64 _ i rfl rfl rfl (by omega) ((tab_ok 31 _ rfl).slice rfl) ((tab_ok 3 _ rfl).int rfl) i1 i2 i3 (by omega) rfl (by simp; omega) (by decide)) rfl ?_
  repeat' (first | refine stp tab_ok rfl (by first | exact sideN | exact sideT (by omega)) ?_ | refine gT rfl rfl (by omega) ?_ | refine gF rfl rfl (by omega) ?_ | refine gNT rfl rfl (by omega) ?_ | refine gNF rfl rfl (by omega) ?_ | fail)
  refine good_by rfl (ok_cutOwn 25 31 _ _ 22 5 1 _ _ 0 _ _ _ rfl rfl rfl (tab_ok 31 _ rfl) rfl (tab_ok 5 _ rfl) (by omega) rfl) rfl ?_
  repeat' (first | refine stp tab_ok rfl (by first | exact sideN | exact sideT (by omega)) ?_ | refine gT rfl rfl (by omega) ?_ | refine gF rfl rfl (by omega) ?_ | refine gNT rfl rfl (by omega) ?_ | refine gNF rfl rfl (by omega) ?_ | fail)
  exact good_retO tab_ok hX rfl rfl rfl (fun i hi => by omega)
def catLen (len : Nat → Nat) : Nat → Nat
 | 0 => 0
 | n + 1 => catLen len n + len n
def catEls (len : Nat → Nat) (els : Nat → Nat → AL) : Nat → Nat → AL
 | 0 => fun _ => .nil
 | n + 1 => catF (catLen len n) (catEls len els n) (els n)
theorem catLen_le {len : Nat → Nat} {n k : Nat} (h : k ≤ n) : catLen len k ≤ catLen len n := by
 induction n with
 | zero =>
  obtain rfl : k = 0 := Nat.le_zero.1 h
  exact Nat.le_refl _
 | succ n ih =>
  by_cases e : k = n + 1
  ·rw [e]; exact Nat.le_refl _
  ·exact Nat.le_trans (ih (by omega)) (Nat.le_add_right _ _)
def partsA (np : Nat) (len : Nat → Nat) (els : Nat → Nat → AL) : AV := .im 1 np fun i => L1 (.im 1 (len i) (els i))
theorem concat_oc (np : Nat) (len : Nat → Nat) (els : Nat → Nat → AL) (hn : catLen len np ≤ 100000000) (hnp : np ≤ 1000000) : OC Tryz.prog 112 (L1 (partsA np len els)) 5 1 (catLen len np) (catEls len els np) := by
 refine OC.enter Tryz.func112 Tryz.ntmps112 rfl rfl rfl (fun F hX => ?_)
 repeat' (first | refine stp tab_ok rfl (by first | exact sideN | exact sideT (by omega)) ?_ | refine gT rfl rfl (by omega) ?_ | refine gF rfl rfl (by omega) ?_ | refine gNT rfl rfl (by omega) ?_ | refine gNF rfl rfl (by omega) ?_ | fail)
 refine good_rounds (fun k : Nat => [(3, I (catLen len k)), (9, partsA np len els), (10, I np), (11, I k), (0, partsA np len els)]) (fun _ => []) (fun k : Nat => np - k) (fun k : Nat => k ≤ np) 0 (Nat.zero_le _) (Wk.mk ⟨Sub.of_eq rfl, Sub.of_eq rfl, Sub.of_eq rfl, Sub.of_eq rfl, Sub.of_eq rfl, trivial⟩ trivial rfl rfl (pin0 hX)) (fun k hk => ?_)
 have hle := catLen_le (len := len) hk
 by_cases hlt : k < np
 ·have hle2 := catLen_le (len := len) (show k + 1 ≤ np by omega)
  have e1 : catLen len (k + 1) = catLen len k + len k := rfl
  repeat' (first | refine stp tab_ok rfl (by first | exact sideN | exact sideT (by omega)) ?_ | refine gT rfl rfl (by omega) ?_ | refine gF rfl rfl (by omega) ?_ | refine gNT rfl rfl (by omega) ?_ | refine gNF rfl rfl (by omega) ?_ | fail)
  simp only [Int.toNat_natCast]
  repeat' (first | refine stp tab_ok rfl (by first | exact sideN | exact sideT (by omega)) ?_ | refine gT rfl rfl (by omega) ?_ | refine gF rfl rfl (by omega) ?_ | refine gNT rfl rfl (by omega) ?_ | refine gNF rfl rfl (by omega) ?_ | fail)
  exact good_again (k + 1) (by omega) (by omega) (Wk.mk ⟨Sub.of_eq (by rw [e1, Int.natCast_add]; rfl), Sub.of_eq rfl, Sub.of_eq rfl, Sub.of_eq rfl, Sub.of_eq rfl, trivial⟩ trivial rfl rfl (pin0 hX))
 ·obtain rfl : k = np := by omega
  repeat' (first | refine stp tab_ok rfl (by first | exact sideN | exact sideT (by omega)) ?_ | refine gT rfl rfl (by omega) ?_ | refine gF rfl rfl (by omega) ?_ | refine gNT rfl rfl (by omega) ?_ | refine gNF rfl rfl (by omega) ?_ | fail)
  refine good_callO rfl rfl rfl rfl rfl rfl ent160 (grow_oc (catLen len k) (catEls len els 0) hn) rfl rfl ?_
  repeat' (first | refine stp tab_ok rfl (by first | exact sideN | exact sideT (by omega)) ?_ | refine gT rfl rfl (by omega) ?_ | refine gF rfl rfl (by omega) ?_ | refine gNT rfl rfl (by omega) ?_ | refine gNF rfl rfl (by omega) ?_ | fail)
  refine good_swap 24 1000 rfl (swap0 hX) ?_
  refine good_rounds (fun j : Nat => [(6, .own 1000), (25, partsA k len els), (26, I k), (27, I j)]) (fun j : Nat => [(1000, .row 5 1 (catLen len j) (catEls len els j))]) (fun j : Nat => k - j) (fun j : Nat => j ≤ k) 0 (Nat.zero_le _) (Wk.mk ⟨Sub.of_eq rfl, Sub.of_eq rfl, Sub.of_eq rfl, Sub.of_eq rfl, trivial⟩ ⟨⟨_, rfl, SubO.refl _⟩, trivial⟩ rfl rfl (pin0 hX)) (fun j hj => ?_)
  have hle := catLen_le (len := len) hj
  by_cases hlt : j < k
  ·have hle2 := catLen_le (len := len) (show j + 1 ≤ k by omega)
   have e1 : catLen len (j + 1) = catLen len j + len j := rfl
   repeat' (first | refine stp tab_ok rfl (by first | exact sideN | exact sideT (by omega)) ?_ | refine gT rfl rfl (by omega) ?_ | refine gF rfl rfl (by omega) ?_ | refine gNT rfl rfl (by omega) ?_ | refine gNF rfl rfl (by omega) ?_ | fail)
   simp only [Int.toNat_natCast]
   repeat' (first | refine stp tab_ok rfl (by first | exact sideN | exact sideT (by omega)) ?_ | refine gT rfl rfl (by omega) ?_ | refine gF rfl rfl (by omega) ?_ | refine gNT rfl rfl (by omega) ?_ | refine gNF rfl rfl (by omega) ?_ | fail)
   refine good_swap 33 1000 rfl (swap0 hX) ?_
   exact good_again (j + 1) (by omega) (by omega) (Wk.mk ⟨Sub.of_eq rfl, Sub.of_eq rfl, Sub.of_eq rfl, Sub.of_eq rfl, trivial⟩ ⟨⟨_, rfl, SubO.refl _⟩, trivial⟩ rfl rfl (pin0 hX))
  ·obtain rfl : j = k := by omega
   repeat' (first | refine stp tab_ok rfl (by first | exact sideN | exact sideT (by omega)) ?_ | refine gT rfl rfl (by omega) ?_ | refine gF rfl rfl (by omega) ?_ | refine gNT rfl rfl (by omega) ?_ | refine gNF rfl rfl (by omega) ?_ | fail)
   exact good_retO tab_ok hX rfl rfl rfl (fun i hi => rfl)
end Go.Proofs.YthjldemjipnmdaaGreatDoor.Sx
namespace Go.Proofs.YthjldemjipnmdaaGreatDoor.Sx
open Go.RowKit
set_option maxRecDepth 100000
section
variable {P : Program} {F : Fr} {N : Nat} {Q : Post} {k : List It} {t t' : Tm} {h : Hp} {all : Array Oper} {id : Nat} {t0 : Tm} {h0 : Hp} {Dr : List Dt} {l : List Oper} {o : Oper}
theorem dg_byK {rd : List Nat} {tx : Tm} {v : AV} (g : Nat) (hp : dpre N all.toList o t = some (rd, tx)) (hw : ∀ h5, getH h5 g = getH h g → OpWp P F o tx h5 v h5) (hN : updK N t o.dst v = some t') (H : DG P F N Q k id all t0 h0 (⟨o, rd, tx, v, false, [g], []⟩ :: Dr) t' h l) : DG P F N Q k id all t0 h0 Dr t h (o :: l) := by
 obtain ⟨h1, h2, h3, h4⟩ := dpre_ok hp
 exact dg_push (x := ⟨o, rd, tx, v, false, [g], []⟩) rfl ⟨h2, h3, h1, fun _ _ => rfl, fun _ => ⟨h4, fun h5 hk => ⟨h5, hw h5 (hk g (by simp)), (fun _ _ => rfl), (fun _ e => by cases e)⟩⟩, (fun e => by cases e)⟩ (updK_ok hN).2 H
theorem dg_byW {rd : List Nat} {tx : Tm} {v : AV} {q : MO} (g : Nat) (hp : dpre N all.toList o t = some (rd, tx)) (hw : ∀ h5, getH h5 g = getH h g → OpWp P F o tx h5 v ((g, q) :: h5)) (hN : updK N t o.dst v = some t') (H : DG P F N Q k id all t0 h0 (⟨o, rd, tx, v, false, [g], [g]⟩ :: Dr) t' ((g, q) :: h) l) : DG P F N Q k id all t0 h0 Dr t h (o :: l) := by
 obtain ⟨h1, h2, h3, h4⟩ := dpre_ok hp
 refine dg_push (x := ⟨o, rd, tx, v, false, [g], [g]⟩) rfl ⟨h2, h3, h1, fun g' e => ?_, fun _ => ⟨h4, fun h5 hk => ⟨(g, q) :: h5, hw h5 (hk g (by simp)), fun g' e => ?_, fun g' e => ?_⟩⟩, fun e => by cases e⟩ (updK_ok hN).2 H
 ·rw [getH_cons, if_neg (fun e2 => by subst e2; simp at e)]
 ·rw [getH_cons, if_neg (fun e2 => by subst e2; simp at e)]
 ·have : g' = g := by simpa using e
  subst this
  rw [getH_cons, getH_cons, if_pos rfl, if_pos rfl]
theorem ok_loadV {d : Option Tmp} {ty : TypeId} {ps : String} {af : Array Edge} {gd : Option (Nat × Bool)} (T : Nat) (x : Operand) (g j j' T' n : Nat) (f : Nat → AV) (y : Ty) (a : AV) (hx : ev t x = .ptr g j) (hj : j = j') (hg : getH h g = some (.box T' (alOf n f))) (hv : f j' = a) (hy : TyOk P T y) (hs : y.size = 1) (ha : y.isAgg = false) (hb : j' < n) :
  OpWp P F ⟨d, .load T x, ty, ps, af, gd⟩ t h a h := hv ▸ ok_loadAt T x g j j' T' n f y hx hj hg hy hs ha hb
end
def wst (acc b : Int) : Int := Go.bits .or .u32 (IntKind.u32.wrap (acc * 2 ^ 8)) b
def wordF (f : Nat → Int) (i : Nat) : Int := wst (wst (wst (wst 0 (f (4 * i))) (f (4 * i + 1))) (f (4 * i + 2))) (f (4 * i + 3))
def w1 (f : Nat → Int) (i k : Nat) : Int := if k < i then wordF f k else 0
def WW (f : Nat → Int) : Nat → Nat → Int
 | 0 => w1 f 16
 | n + 1 => fun k => if k = 16 + n then rotF (Go.bits .xor .u32 (Go.bits .xor .u32 (Go.bits .xor .u32 (WW f n (13 + n)) (WW f n (8 + n))) (WW f n (2 + n))) (WW f n n)) 1 else WW f n k
def fsel (n : Nat) (s : S5) : Int := if n < 20 then Go.bits .xor .u32 s.d (Go.bits .and .u32 s.b (Go.bits .xor .u32 s.c s.d)) else if n < 40 then Go.bits .xor .u32 (Go.bits .xor .u32 s.b s.c) s.d else if n < 60 then Go.bits .or .u32 (Go.bits .and .u32 s.b s.c) (Go.bits .and .u32 s.d (Go.bits .or .u32 s.b s.c)) else Go.bits .xor .u32 (Go.bits .xor .u32 s.b s.c) s.d
def ksel (n : Nat) : Int := if n < 20 then 1518500249 else if n < 40 then 1859775393 else if n < 60 then 2400959708 else 3395469782
def RR (w : Nat → Int) (s : S5) : Nat → S5
 | 0 => s
 | n + 1 => stepF (RR w s n) (fsel n (RR w s n)) (ksel n) (w n)
def addS (r s : S5) : S5 := ⟨IntKind.u32.wrap (r.a + s.a), IntKind.u32.wrap (r.b + s.b), IntKind.u32.wrap (r.c + s.c), IntKind.u32.wrap (r.d + s.d), IntKind.u32.wrap (r.e + s.e)⟩
def blockF (s : S5) (f : Nat → Int) : S5 := addS (RR (WW f 64) s 80) s
abbrev u8els (f : Nat → Int) : Nat → AL := fun i => L1 (.val (.int .u8 (f i)))
abbrev wA (w : Nat → Int) : MO := .box 280 (alOf 80 (fun k => U4 (w k)))
theorem shiftF_u8 (f : Nat → Int) (l : Nat) : shiftF (u8els f) l = u8els (fun j => f (j + l)) := by
 funext i
 rw [shiftF_eq]
theorem inK32 {n : Int} (h : 0 ≤ n ∧ n ≤ 255) : inK .u32 n := by unfold inK; omega
theorem subL_of {a b : AL} (h : a = b) : SubL a b := h ▸ SubL.refl a
theorem w1_step (f : Nat → Int) (i : Nat) : alOf 80 (fun k => if k = i then U4 (wst (wst (wst (wst 0 (f (0 + 4 * i))) (f (1 + 4 * i))) (f (2 + 4 * i))) (f (3 + 4 * i))) else if k = i then U4 (wst (wst (wst 0 (f (0 + 4 * i))) (f (1 + 4 * i))) (f (2 + 4 * i))) else if k = i then U4 (wst (wst 0 (f (0 + 4 * i))) (f (1 + 4 * i))) else if k = i then U4 (wst 0 (f (0 + 4 * i))) else U4 (w1 f i k)) = alOf 80 (fun k => U4 (w1 f (i + 1) k)) := by
 refine alOf_congr fun k hk => ?_
 by_cases h : k = i
 ·subst h
  rw [if_pos rfl]
  unfold w1 wordF
  rw [if_pos (Nat.lt_succ_self _), Nat.zero_add, Nat.add_comm 1, Nat.add_comm 2, Nat.add_comm 3]
 ·rw [if_neg h, if_neg h, if_neg h, if_neg h]
  unfold w1
  by_cases h2 : k < i
  ·rw [if_pos h2, if_pos (by omega)]
  ·rw [if_neg h2, if_neg (by omega)]
theorem WW_step (f : Nat → Int) (n : Nat) : alOf 80 (fun k => if k = 16 + n then U4 (rotF (Go.bits .xor .u32 (Go.bits .xor .u32 (Go.bits .xor .u32 (WW f n (13 + n)) (WW f n (8 + n))) (WW f n (2 + n))) (WW f n n)) 1) else U4 (WW f n k)) = alOf 80 (fun k => U4 (WW f (n + 1) k)) := by
 refine alOf_congr fun k hk => ?_
 show _ = U4 (if k = 16 + n then _ else WW f n k)
 by_cases h : k = 16 + n
 ·rw [if_pos h, if_pos h]
 ·rw [if_neg h, if_neg h]
set_option maxHeartbeats 4000000 in
theorem block_bc (s : S5) (f : Nat → Int) (hf : ∀ i, 0 ≤ f i ∧ f i ≤ 255) : BC Tryz.prog 151 239 (cells5 s) (L1 (.im 1 64 (u8els f))) .any (cells5 (blockF s f)) := by
 refine BC.enter 900 Tryz.func151 Tryz.ntmps151 rfl rfl rfl (fun F b hX hb => ?_)
 repeat' (first | refine stp tab_ok rfl (by first | exact sideN | exact sideT (by omega)) ?_ | fail)
 refine good_rounds (fun i : Nat => [(17, I i), (4, .ptr 4 0), (0, .ptr 900 0), (1, .im 1 64 (u8els f))]) (fun i : Nat => [(900, .box 239 (cells5 s)), (4, wA (w1 f i))]) (fun i : Nat => 16 - i) (fun i : Nat => i ≤ 16) 0 (Nat.zero_le _) (Wk.mk ⟨Sub.of_eq rfl, Sub.of_eq rfl, Sub.of_eq rfl, Sub.of_eq rfl, trivial⟩ ⟨⟨_, rfl, SubO.refl _⟩, ⟨_, rfl, SubO.refl _⟩, trivial⟩ rfl rfl (pin1 hX rfl)) (fun i hi => ?_)
 by_cases hlt : i < 16
 ·repeat' (first | refine stp tab_ok rfl (by first | exact sideN | exact sideT (by omega)) ?_ | refine gT rfl rfl (by omega) ?_ | refine gF rfl rfl (by omega) ?_ | refine gNT rfl rfl (by omega) ?_ | refine gNF rfl rfl (by omega) ?_ | fail)
  refine good_loopN 5 ?_
  rw [shiftF_u8 f, show ((4 : Int) * (i : Int)).toNat = 4 * i by omega]
  have hj : 0 + (i : Int).toNat * 1 = i := by omega
  repeat' (first | refine stp tab_ok rfl (by first | exact sideN | exact sideT (by omega)) ?_ | refine gT rfl rfl (by omega) ?_ | refine gF rfl rfl (by omega) ?_ | refine gNT rfl rfl (by omega) ?_ | refine gNF rfl rfl (by omega) ?_ | fail)
  refine good_by rfl (ok_loadV 86 _ 4 _ i 280 80 _ _ (U4 0) rfl hj rfl (by unfold w1; rw [if_neg (Nat.lt_irrefl i)]) (tab_ok 86 _ rfl) rfl rfl (by omega)) rfl ?_
  repeat' (first | refine stp tab_ok rfl (by first | exact sideN | exact sideT (by omega)) ?_ | refine gT rfl rfl (by omega) ?_ | refine gF rfl rfl (by omega) ?_ | refine gNT rfl rfl (by omega) ?_ | refine gNF rfl rfl (by omega) ?_ | fail)
  refine stp tab_ok rfl (sideT (inK32 (hf _))) ?_
  repeat' (first | refine stp tab_ok rfl (by first | exact sideN | exact sideT (by omega)) ?_ | refine gT rfl rfl (by omega) ?_ | refine gF rfl rfl (by omega) ?_ | refine gNT rfl rfl (by omega) ?_ | refine gNF rfl rfl (by omega) ?_ | fail)
  refine good_by rfl (ok_storeAt 86 _ _ 4 _ i 280 80 _ _ _ rfl hj rfl rfl rfl rfl (tab_ok 86 _ rfl) rfl (by omega)) rfl ?_
  repeat' (first | refine stp tab_ok rfl (by first | exact sideN | exact sideT (by omega)) ?_ | refine gT rfl rfl (by omega) ?_ | refine gF rfl rfl (by omega) ?_ | refine gNT rfl rfl (by omega) ?_ | refine gNF rfl rfl (by omega) ?_ | fail)
  refine good_by rfl (ok_loadV 86 _ 4 _ i 280 80 _ _ (_) rfl hj rfl (if_pos rfl) (tab_ok 86 _ rfl) rfl rfl (by omega)) rfl ?_
  repeat' (first | refine stp tab_ok rfl (by first | exact sideN | exact sideT (by omega)) ?_ | refine gT rfl rfl (by omega) ?_ | refine gF rfl rfl (by omega) ?_ | refine gNT rfl rfl (by omega) ?_ | refine gNF rfl rfl (by omega) ?_ | fail)
  refine stp tab_ok rfl (sideT (inK32 (hf _))) ?_
  repeat' (first | refine stp tab_ok rfl (by first | exact sideN | exact sideT (by omega)) ?_ | refine gT rfl rfl (by omega) ?_ | refine gF rfl rfl (by omega) ?_ | refine gNT rfl rfl (by omega) ?_ | refine gNF rfl rfl (by omega) ?_ | fail)
  refine good_by rfl (ok_storeAt 86 _ _ 4 _ i 280 80 _ _ _ rfl hj rfl rfl rfl rfl (tab_ok 86 _ rfl) rfl (by omega)) rfl ?_
  repeat' (first | refine stp tab_ok rfl (by first | exact sideN | exact sideT (by omega)) ?_ | refine gT rfl rfl (by omega) ?_ | refine gF rfl rfl (by omega) ?_ | refine gNT rfl rfl (by omega) ?_ | refine gNF rfl rfl (by omega) ?_ | fail)
  refine good_by rfl (ok_loadV 86 _ 4 _ i 280 80 _ _ (_) rfl hj rfl (if_pos rfl) (tab_ok 86 _ rfl) rfl rfl (by omega)) rfl ?_
  repeat' (first | refine stp tab_ok rfl (by first | exact sideN | exact sideT (by omega)) ?_ | refine gT rfl rfl (by omega) ?_ | refine gF rfl rfl (by omega) ?_ | refine gNT rfl rfl (by omega) ?_ | refine gNF rfl rfl (by omega) ?_ | fail)
  refine stp tab_ok rfl (sideT (inK32 (hf _))) ?_
  repeat' (first | refine stp tab_ok rfl (by first | exact sideN | exact sideT (by omega)) ?_ | refine gT rfl rfl (by omega) ?_ | refine gF rfl rfl (by omega) ?_ | refine gNT rfl rfl (by omega) ?_ | refine gNF rfl rfl (by omega) ?_ | fail)
  refine good_by rfl (ok_storeAt 86 _ _ 4 _ i 280 80 _ _ _ rfl hj rfl rfl rfl rfl (tab_ok 86 _ rfl) rfl (by omega)) rfl ?_
  repeat' (first | refine stp tab_ok rfl (by first | exact sideN | exact sideT (by omega)) ?_ | refine gT rfl rfl (by omega) ?_ | refine gF rfl rfl (by omega) ?_ | refine gNT rfl rfl (by omega) ?_ | refine gNF rfl rfl (by omega) ?_ | fail)
  refine good_by rfl (ok_loadV 86 _ 4 _ i 280 80 _ _ (_) rfl hj rfl (if_pos rfl) (tab_ok 86 _ rfl) rfl rfl (by omega)) rfl ?_
  repeat' (first | refine stp tab_ok rfl (by first | exact sideN | exact sideT (by omega)) ?_ | refine gT rfl rfl (by omega) ?_ | refine gF rfl rfl (by omega) ?_ | refine gNT rfl rfl (by omega) ?_ | refine gNF rfl rfl (by omega) ?_ | fail)
  refine stp tab_ok rfl (sideT (inK32 (hf _))) ?_
  repeat' (first | refine stp tab_ok rfl (by first | exact sideN | exact sideT (by omega)) ?_ | refine gT rfl rfl (by omega) ?_ | refine gF rfl rfl (by omega) ?_ | refine gNT rfl rfl (by omega) ?_ | refine gNF rfl rfl (by omega) ?_ | fail)
  refine good_by rfl (ok_storeAt 86 _ _ 4 _ i 280 80 _ _ _ rfl hj rfl rfl rfl rfl (tab_ok 86 _ rfl) rfl (by omega)) rfl ?_
  repeat' (first | refine stp tab_ok rfl (by first | exact sideN | exact sideT (by omega)) ?_ | refine gT rfl rfl (by omega) ?_ | refine gF rfl rfl (by omega) ?_ | refine gNT rfl rfl (by omega) ?_ | refine gNF rfl rfl (by omega) ?_ | fail)
  exact good_again (i + 1) (by omega) (by omega) (Wk.mk ⟨Sub.of_eq rfl, Sub.of_eq rfl, Sub.of_eq rfl, Sub.of_eq rfl, trivial⟩ ⟨⟨_, rfl, SubO.refl _⟩, ⟨_, rfl, SubO.box (subL_of (w1_step f i))⟩, trivial⟩ rfl rfl (pin1 hX rfl))
 ·obtain rfl : i = 16 := by omega
  repeat' (first | refine stp tab_ok rfl (by first | exact sideN | exact sideT (by omega)) ?_ | refine gT rfl rfl (by omega) ?_ | refine gF rfl rfl (by omega) ?_ | refine gNT rfl rfl (by omega) ?_ | refine gNF rfl rfl (by omega) ?_ | fail)
  refine good_rounds (fun n : Nat => [(8, I ((16 : Int) + (n : Int))), (4, .ptr 4 0), (0, .ptr 900 0)]) (fun n : Nat => [(900, .box 239 (cells5 s)), (4, wA (WW f n))]) (fun n : Nat => 64 - n) (fun n : Nat => n ≤ 64) 0 (Nat.zero_le _) (Wk.mk ⟨Sub.of_eq rfl, Sub.of_eq rfl, Sub.of_eq rfl, trivial⟩ ⟨⟨_, rfl, SubO.refl _⟩, ⟨_, rfl, SubO.refl _⟩, trivial⟩ rfl rfl (pin1 hX rfl)) (fun n hn => ?_)
  by_cases hlt : n < 64
  ·repeat' (first | refine stp tab_ok rfl (by first | exact sideN | exact sideT (by omega)) ?_ | refine gT rfl rfl (by omega) ?_ | refine gF rfl rfl (by omega) ?_ | refine gNT rfl rfl (by omega) ?_ | refine gNF rfl rfl (by omega) ?_ | fail)
   refine dg_start ?_
   repeat' (first | refine dgp tab_ok rfl (by first | exact sideN | exact sideT (by omega)) ?_ | fail)
   refine dg_byK 4 rfl (fun h5 e => ok_loadV 86 _ 4 _ (13 + n) 280 80 _ _ (U4 (WW f n (13 + n))) rfl (show 0 + _ * 1 = _ by omega) (e.trans rfl) rfl (tab_ok 86 _ rfl) rfl rfl (by omega)) rfl ?_
   repeat' (first | refine dgp tab_ok rfl (by first | exact sideN | exact sideT (by omega)) ?_ | fail)
   refine dg_byK 4 rfl (fun h5 e => ok_loadV 86 _ 4 _ (8 + n) 280 80 _ _ (U4 (WW f n (8 + n))) rfl (show 0 + _ * 1 = _ by omega) (e.trans rfl) rfl (tab_ok 86 _ rfl) rfl rfl (by omega)) rfl ?_
   repeat' (first | refine dgp tab_ok rfl (by first | exact sideN | exact sideT (by omega)) ?_ | fail)
   refine dg_byK 4 rfl (fun h5 e => ok_loadV 86 _ 4 _ (2 + n) 280 80 _ _ (U4 (WW f n (2 + n))) rfl (show 0 + _ * 1 = _ by omega) (e.trans rfl) rfl (tab_ok 86 _ rfl) rfl rfl (by omega)) rfl ?_
   repeat' (first | refine dgp tab_ok rfl (by first | exact sideN | exact sideT (by omega)) ?_ | fail)
   refine dg_byK 4 rfl (fun h5 e => ok_loadV 86 _ 4 _ n 280 80 _ _ (U4 (WW f n n)) rfl (show 0 + _ * 1 = _ by omega) (e.trans rfl) rfl (tab_ok 86 _ rfl) rfl rfl (by omega)) rfl ?_
   repeat' (first | refine dgp tab_ok rfl (by first | exact sideN | exact sideT (by omega)) ?_ | fail)
   refine dg_call rfl rfl rfl rfl rfl ent200 (rot1_ac _) rfl ?_
   repeat' (first | refine dgp tab_ok rfl (by first | exact sideN | exact sideT (by omega)) ?_ | fail)
   refine dg_byW 4 rfl (fun h5 e => ok_storeAt 86 _ _ 4 _ (16 + n) 280 80 _ _ _ rfl (show 0 + _ * 1 = _ by omega) (e.trans rfl) rfl rfl rfl (tab_ok 86 _ rfl) rfl (by omega)) rfl ?_
   refine dg_end mixed rfl ?_
   repeat' (first | refine stp tab_ok rfl (by first | exact sideN | exact sideT (by omega)) ?_ | refine gT rfl rfl (by omega) ?_ | refine gF rfl rfl (by omega) ?_ | refine gNT rfl rfl (by omega) ?_ | refine gNF rfl rfl (by omega) ?_ | fail)
   exact good_again (n + 1) (by omega) (by omega) (Wk.mk ⟨Sub.of_eq (congrArg (fun z => I z) (by omega)), Sub.of_eq rfl, Sub.of_eq rfl, trivial⟩ ⟨⟨_, rfl, SubO.refl _⟩, ⟨_, rfl, SubO.box (subL_of (WW_step f n))⟩, trivial⟩ rfl rfl (pin1 hX rfl))
  ·obtain rfl : n = 64 := by omega
   repeat' (first | refine stp tab_ok rfl (by first | exact sideN | exact sideT (by omega)) ?_ | refine gT rfl rfl (by omega) ?_ | refine gF rfl rfl (by omega) ?_ | refine gNT rfl rfl (by omega) ?_ | refine gNF rfl rfl (by omega) ?_ | fail)
   refine good_rounds (fun n : Nat => [(72, .agg (alOf 80 (fun k => U4 (WW f 64 k)))), (73, I n), (0, .ptr 900 0), (9, .ptr 9 0)]) (fun n : Nat => [(900, .box 239 (cells5 (RR (WW f 64) s n))), (9, .box 239 (cells5 s))]) (fun n : Nat => 80 - n) (fun n : Nat => n ≤ 80) 0 (Nat.zero_le _) (Wk.mk ⟨Sub.of_eq rfl, Sub.of_eq rfl, Sub.of_eq rfl, Sub.of_eq rfl, trivial⟩ ⟨⟨_, rfl, SubO.refl _⟩, ⟨_, rfl, SubO.refl _⟩, trivial⟩ rfl rfl (pin1 hX rfl)) (fun n hn => ?_)
   by_cases hlt : n < 80
   ·repeat' (first | refine stp tab_ok rfl (by first | exact sideN | exact sideT (by omega)) ?_ | fail)
    refine gT rfl rfl (by omega) ?_
    iterate 7 (refine stp tab_ok rfl sideN ?_)
    refine good_by rfl (ok_idxAt 280 _ _ 80 86 (fun k => U4 (WW f 64 k)) .i64 _ n _ _ rfl rfl rfl (tab_ok 280 _ rfl) rfl (tab_ok 86 _ rfl) rfl rfl hlt) rfl ?_
    repeat' (first | refine stp tab_ok rfl (by first | exact sideN | exact sideT (by omega)) ?_ | fail)
    refine dg_start ?_
    repeat' (first | refine dgp tab_ok rfl (by first | exact sideN | exact sideT (by omega)) ?_ | fail)
    refine dg_end mixed rfl ?_
    repeat' (first | refine stp tab_ok rfl (by first | exact sideN | exact sideT (by omega)) ?_ | fail)
    by_cases c1 : n < 20
    ·repeat' (first | refine stp tab_ok rfl (by first | exact sideN | exact sideT (by omega)) ?_ | refine gT rfl rfl (by omega) ?_ | refine gF rfl rfl (by omega) ?_ | refine gNT rfl rfl (by omega) ?_ | refine gNF rfl rfl (by omega) ?_ | fail)
     refine good_callB rfl rfl rfl rfl rfl rfl rfl ent201 (step_bc (RR (WW f 64) s n) _ _ _) rfl ?_
     repeat' (first | refine stp tab_ok rfl (by first | exact sideN | exact sideT (by omega)) ?_ | refine gT rfl rfl (by omega) ?_ | refine gF rfl rfl (by omega) ?_ | refine gNT rfl rfl (by omega) ?_ | refine gNF rfl rfl (by omega) ?_ | fail)
     have e : RR (WW f 64) s (n + 1) = stepF (RR (WW f 64) s n) (fsel n (RR (WW f 64) s n)) (ksel n) (WW f 64 n) := rfl
     unfold fsel ksel at e
     rw [if_pos c1, if_pos c1] at e
     exact good_again (n + 1) (by omega) (by omega) (Wk.mk ⟨Sub.of_eq rfl, Sub.of_eq rfl, Sub.of_eq rfl, Sub.of_eq rfl, trivial⟩ ⟨⟨_, rfl, SubO.box (subL_of (congrArg cells5 e.symm))⟩, ⟨_, rfl, SubO.refl _⟩, trivial⟩ rfl rfl (pin1 hX rfl))
    ·by_cases c2 : n < 40
     ·repeat' (first | refine stp tab_ok rfl (by first | exact sideN | exact sideT (by omega)) ?_ | refine gT rfl rfl (by omega) ?_ | refine gF rfl rfl (by omega) ?_ | refine gNT rfl rfl (by omega) ?_ | refine gNF rfl rfl (by omega) ?_ | fail)
      refine good_callB rfl rfl rfl rfl rfl rfl rfl ent201 (step_bc (RR (WW f 64) s n) _ _ _) rfl ?_
      repeat' (first | refine stp tab_ok rfl (by first | exact sideN | exact sideT (by omega)) ?_ | refine gT rfl rfl (by omega) ?_ | refine gF rfl rfl (by omega) ?_ | refine gNT rfl rfl (by omega) ?_ | refine gNF rfl rfl (by omega) ?_ | fail)
      have e : RR (WW f 64) s (n + 1) = stepF (RR (WW f 64) s n) (fsel n (RR (WW f 64) s n)) (ksel n) (WW f 64 n) := rfl
      unfold fsel ksel at e
      rw [if_neg c1, if_pos c2, if_neg c1, if_pos c2] at e
      exact good_again (n + 1) (by omega) (by omega) (Wk.mk ⟨Sub.of_eq rfl, Sub.of_eq rfl, Sub.of_eq rfl, Sub.of_eq rfl, trivial⟩ ⟨⟨_, rfl, SubO.box (subL_of (congrArg cells5 e.symm))⟩, ⟨_, rfl, SubO.refl _⟩, trivial⟩ rfl rfl (pin1 hX rfl))
     ·by_cases c3 : n < 60
      ·repeat' (first | refine stp tab_ok rfl (by first | exact sideN | exact sideT (by omega)) ?_ | refine gT rfl rfl (by omega) ?_ | refine gF rfl rfl (by omega) ?_ | refine gNT rfl rfl (by omega) ?_ | refine gNF rfl rfl (by omega) ?_ | fail)
       refine good_callB rfl rfl rfl rfl rfl rfl rfl ent201 (step_bc (RR (WW f 64) s n) _ _ _) rfl ?_
       repeat' (first | refine stp tab_ok rfl (by first | exact sideN | exact sideT (by omega)) ?_ | refine gT rfl rfl (by omega) ?_ | refine gF rfl rfl (by omega) ?_ | refine gNT rfl rfl (by omega) ?_ | refine gNF rfl rfl (by omega) ?_ | fail)
       have e : RR (WW f 64) s (n + 1) = stepF (RR (WW f 64) s n) (fsel n (RR (WW f 64) s n)) (ksel n) (WW f 64 n) := rfl
       unfold fsel ksel at e
       rw [if_neg c1, if_neg c2, if_pos c3, if_neg c1, if_neg c2, if_pos c3] at e
       exact good_again (n + 1) (by omega) (by omega) (Wk.mk ⟨Sub.of_eq rfl, Sub.of_eq rfl, Sub.of_eq rfl, Sub.of_eq rfl, trivial⟩ ⟨⟨_, rfl, SubO.box (subL_of (congrArg cells5 e.symm))⟩, ⟨_, rfl, SubO.refl _⟩, trivial⟩ rfl rfl (pin1 hX rfl))
      ·repeat' (first | refine stp tab_ok rfl (by first | exact sideN | exact sideT (by omega)) ?_ | refine gT rfl rfl (by omega) ?_ | refine gF rfl rfl (by omega) ?_ | refine gNT rfl rfl (by omega) ?_ | refine gNF rfl rfl (by omega) ?_ | fail)
       refine good_callB rfl rfl rfl rfl rfl rfl rfl ent201 (step_bc (RR (WW f 64) s n) _ _ _) rfl ?_
       repeat' (first | refine stp tab_ok rfl (by first | exact sideN | exact sideT (by omega)) ?_ | refine gT rfl rfl (by omega) ?_ | refine gF rfl rfl (by omega) ?_ | refine gNT rfl rfl (by omega) ?_ | refine gNF rfl rfl (by omega) ?_ | fail)
       have e : RR (WW f 64) s (n + 1) = stepF (RR (WW f 64) s n) (fsel n (RR (WW f 64) s n)) (ksel n) (WW f 64 n) := rfl
       unfold fsel ksel at e
       rw [if_neg c1, if_neg c2, if_neg c3, if_neg c1, if_neg c2, if_neg c3] at e
       exact good_again (n + 1) (by omega) (by omega) (Wk.mk ⟨Sub.of_eq rfl, Sub.of_eq rfl, Sub.of_eq rfl, Sub.of_eq rfl, trivial⟩ ⟨⟨_, rfl, SubO.box (subL_of (congrArg cells5 e.symm))⟩, ⟨_, rfl, SubO.refl _⟩, trivial⟩ rfl rfl (pin1 hX rfl))
   ·obtain rfl : n = 80 := by omega
    repeat' (first | refine stp tab_ok rfl (by first | exact sideN | exact sideT (by omega)) ?_ | refine gT rfl rfl (by omega) ?_ | refine gF rfl rfl (by omega) ?_ | refine gNT rfl rfl (by omega) ?_ | refine gNF rfl rfl (by omega) ?_ | fail)
    refine good_loopN 6 ?_
    repeat' (first | refine stp tab_ok rfl (by first | exact sideN | exact sideT (by omega)) ?_ | refine gT rfl rfl (by omega) ?_ | refine gF rfl rfl (by omega) ?_ | refine gNT rfl rfl (by omega) ?_ | refine gNF rfl rfl (by omega) ?_ | fail)
    repeat' (first | refine stp tab_ok rfl (by first | exact sideN | exact sideT (by omega)) ?_ | refine dg_start ?_ | refine dgp tab_ok rfl (by first | exact sideN | exact sideT (by omega)) ?_ | refine dg_end mixed rfl ?_ | fail)
    repeat' (first | refine stp tab_ok rfl (by first | exact sideN | exact sideT (by omega)) ?_ | refine gT rfl rfl (by omega) ?_ | refine gF rfl rfl (by omega) ?_ | refine gNT rfl rfl (by omega) ?_ | refine gNF rfl rfl (by omega) ?_ | fail)
    repeat' (first | refine stp tab_ok rfl (by first | exact sideN | exact sideT (by omega)) ?_ | refine dg_start ?_ | refine dgp tab_ok rfl (by first | exact sideN | exact sideT (by omega)) ?_ | refine dg_end mixed rfl ?_ | fail)
    repeat' (first | refine stp tab_ok rfl (by first | exact sideN | exact sideT (by omega)) ?_ | refine gT rfl rfl (by omega) ?_ | refine gF rfl rfl (by omega) ?_ | refine gNT rfl rfl (by omega) ?_ | refine gNF rfl rfl (by omega) ?_ | fail)
    repeat' (first | refine stp tab_ok rfl (by first | exact sideN | exact sideT (by omega)) ?_ | refine dg_start ?_ | refine dgp tab_ok rfl (by first | exact sideN | exact sideT (by omega)) ?_ | refine dg_end mixed rfl ?_ | fail)
    repeat' (first | refine stp tab_ok rfl (by first | exact sideN | exact sideT (by omega)) ?_ | refine gT rfl rfl (by omega) ?_ | refine gF rfl rfl (by omega) ?_ | refine gNT rfl rfl (by omega) ?_ | refine gNF rfl rfl (by omega) ?_ | fail)
    repeat' (first | refine stp tab_ok rfl (by first | exact sideN | exact sideT (by omega)) ?_ | refine dg_start ?_ | refine dgp tab_ok rfl (by first | exact sideN | exact sideT (by omega)) ?_ | refine dg_end mixed rfl ?_ | fail)
    repeat' (first | refine stp tab_ok rfl (by first | exact sideN | exact sideT (by omega)) ?_ | refine gT rfl rfl (by omega) ?_ | refine gF rfl rfl (by omega) ?_ | refine gNT rfl rfl (by omega) ?_ | refine gNF rfl rfl (by omega) ?_ | fail)
    repeat' (first | refine stp tab_ok rfl (by first | exact sideN | exact sideT (by omega)) ?_ | refine dg_start ?_ | refine dgp tab_ok rfl (by first | exact sideN | exact sideT (by omega)) ?_ | refine dg_end mixed rfl ?_ | fail)
    repeat' (first | refine stp tab_ok rfl (by first | exact sideN | exact sideT (by omega)) ?_ | refine gT rfl rfl (by omega) ?_ | refine gF rfl rfl (by omega) ?_ | refine gNT rfl rfl (by omega) ?_ | refine gNF rfl rfl (by omega) ?_ | fail)
    exact good_endB tab_ok hX rfl rfl (Sub.any _) (SubL.refl _)
end Go.Proofs.YthjldemjipnmdaaGreatDoor.Sx
namespace Go.Proofs.YthjldemjipnmdaaGreatDoor.Sx
open Go.RowKit
set_option maxRecDepth 100000
def psLen (ps : List ByteArray) (i : Nat) : Nat := (ps.getD i ByteArray.empty).size
def psEls (ps : List ByteArray) (i : Nat) : Nat → AL := byteEls (ps.getD i ByteArray.empty)
def catB (ps : List ByteArray) : Nat → Nat → Int
 | 0 => fun _ => 0
 | k + 1 => fun i => if i < catLen (psLen ps) k then catB ps k i else byteAt (ps.getD k ByteArray.empty) ((i - catLen (psLen ps) k : Nat) : Int)
theorem catB_bd (ps : List ByteArray) : ∀ k i, 0 ≤ catB ps k i ∧ catB ps k i ≤ 255
 | 0, _ => by unfold catB; omega
 | k + 1, i => by
  unfold catB
  split
  ·exact catB_bd ps k i
  ·exact byteAt_bd _ _
theorem cat_els (ps : List ByteArray) : ∀ k i, i < catLen (psLen ps) k → catEls (psLen ps) (psEls ps) k i = L1 (.val (.int .u8 (catB ps k i)))
 | 0, i, h => by unfold catLen at h; omega
 | k + 1, i, h => by
  unfold catEls catB catF
  by_cases h1 : i < catLen (psLen ps) k
  ·rw [if_pos h1, if_pos h1]
   exact cat_els ps k i h1
  ·rw [if_neg h1, if_neg h1]
   rfl
def padZ (n : Nat) : Nat := (184 - (n + 1) % 64) % 64
def lenB (n j : Nat) : Int := IntKind.u8.wrap ((IntKind.u64.wrap ((n : Int) * 2 ^ 3)).fdiv (2 ^ (min ((8 : Int) * (7 - (j : Int))).toNat 64)))
def padG (n : Nat) (b : Nat → Int) (i : Nat) : Int := if i < n then b i else if i = n then 128 else if i < n + 1 + padZ n then 0 else lenB n (i - (n + 1 + padZ n))
def padM (n : Nat) : Nat := (n + 1 + padZ n + 8) / 64
theorem padM_eq (n : Nat) : n + 1 + padZ n + 8 = 64 * padM n := by
 unfold padM padZ
 omega
def init5 : S5 := ⟨1732584193, 4023233417, 2562383102, 271733878, 3285377520⟩
def SS (g : Nat → Int) : Nat → S5
 | 0 => init5
 | k + 1 => blockF (SS g k) (fun i => g (i + 64 * k))
def get5 (s : S5) : Nat → Int
 | 0 => s.a
 | 1 => s.b
 | 2 => s.c
 | 3 => s.d
 | _ => s.e
def outB (s : S5) (k : Nat) : Int := IntKind.u8.wrap ((get5 s (k / 4)).fdiv (2 ^ (min (24 - (k : Int) % 4 * 8).toNat 32)))
def sumS (ps : List ByteArray) : S5 := SS (padG (catLen (psLen ps) ps.length) (catB ps ps.length)) (padM (catLen (psLen ps) ps.length))
def digF (ps : List ByteArray) : Nat → Int := outB (sumS ps)
abbrev digA (d : Nat → Int) : AV := .agg (alOf 20 (fun k => .val (.int .u8 (d k))))
theorem wrap8_bd (x : Int) : 0 ≤ IntKind.u8.wrap x ∧ IntKind.u8.wrap x ≤ 255 := by
 rw [IntKind.wrap_u8]
 omega
theorem lenB_bd (n j : Nat) : 0 ≤ lenB n j ∧ lenB n j ≤ 255 := wrap8_bd _
theorem padG_bd (n : Nat) (b : Nat → Int) (hb : ∀ i, 0 ≤ b i ∧ b i ≤ 255) (i : Nat) : 0 ≤ padG n b i ∧ padG n b i ≤ 255 := by
 unfold padG
 split
 ·exact hb i
 ·split
  ·omega
  ·split
   ·omega
   ·exact lenB_bd _ _
theorem pad_len (n : Nat) (cb : Nat → Int) (j i : Nat) (hi : i < n + 1 + padZ n + j + 1) (hj : j < 8) : catF (n + 1 + padZ n + j) (u8els (padG n cb)) (elsOf [L1 (.val (.int .u8 (IntKind.u8.wrap ((IntKind.u64.wrap ((n : Int) * 2 ^ 3)).fdiv (2 ^ (min ((8 : Int) * (7 - (j : Int))).toNat 64))))))]) i = L1 (.val (.int .u8 (padG n cb i))) := by
 unfold catF
 by_cases h : i < n + 1 + padZ n + j
 ·rw [if_pos h]
 ·rw [if_neg h]
  obtain rfl : i = n + 1 + padZ n + j := by omega
  rw [Nat.sub_self]
  unfold padG
  rw [if_neg (by omega), if_neg (by omega), if_neg (by omega), show n + 1 + padZ n + j - (n + 1 + padZ n) = j by omega]
  rfl
theorem pad_zero (n : Nat) (cb : Nat → Int) (els : Nat → AL) (hels : ∀ i, i < n → els i = L1 (.val (.int .u8 (cb i)))) (i : Nat) (hi : i < n + 1 + padZ n) : catF (n + 1) (catF n els (elsOf [AL.cons (AV.val (Value.int IntKind.u8 128)) AL.nil])) (fun _ => AL.cons (AV.val (Value.int IntKind.u8 0)) AL.nil) i = u8els (padG n cb) i := by
 unfold catF
 show _ = L1 (.val (.int .u8 (padG n cb i)))
 unfold padG
 by_cases h1 : i < n
 ·rw [if_pos (by omega), if_pos h1, if_pos h1]
  exact hels i h1
 ·rw [if_neg h1]
  by_cases h2 : i = n
  ·subst h2
   rw [if_pos (by omega), if_neg h1, if_pos rfl, Nat.sub_self]
   rfl
  ·rw [if_neg (show ¬ i < n + 1 by omega), if_neg h1, if_neg h2, if_pos hi]
theorem out_step (st : S5) (i : Nat) : alOf 20 (fun k => if k = i then AV.val (.int .u8 (IntKind.u8.wrap ((get5 st (i / 4)).fdiv (2 ^ (min (24 - (i : Int) % 4 * 8).toNat 32))))) else .val (.int .u8 (if k < i then outB st k else 0))) = alOf 20 (fun k => .val (.int .u8 (if k < i + 1 then outB st k else 0))) := by
 refine alOf_congr fun k hk => ?_
 by_cases h : k = i
 ·subst h
  rw [if_pos rfl, if_pos (Nat.lt_succ_self _)]
  rfl
 ·rw [if_neg h]
  by_cases h2 : k < i
  ·rw [if_pos h2, if_pos (by omega)]
  ·rw [if_neg h2, if_neg (by omega)]
set_option maxHeartbeats 4000000 in
theorem shaSum_ac (ps : List ByteArray) (hn : catLen (psLen ps) ps.length ≤ 99000000) (hp : ps.length ≤ 1000000) : AC Tryz.prog 100 (L1 (partsA ps.length (psLen ps) (psEls ps))) (digA (digF ps)) := by
 obtain ⟨i5, q1, q2, q3, q4⟩ := info5
 have hoc := concat_oc ps.length (psLen ps) (psEls ps) (by omega) hp
 have hels := cat_els ps ps.length
 have hbd := catB_bd ps ps.length
 have hD : digF ps = outB (SS (padG (catLen (psLen ps) ps.length) (catB ps ps.length)) (padM (catLen (psLen ps) ps.length))) := rfl
 rw [hD]
 clear hD
 generalize catEls (psLen ps) (psEls ps) ps.length = els at *
 generalize catB ps ps.length = cb at *
 generalize catLen (psLen ps) ps.length = n at *
 have hM := padM_eq n
 have hZ : padZ n = (184 - (n + 1) % 64) % 64 := rfl
 refine AC.enter Tryz.func100 Tryz.ntmps100 rfl rfl rfl (fun F hX => ?_)
 repeat' (first | refine stp tab_ok rfl (by first | exact sideN | exact sideT (by omega)) ?_ | refine gT rfl rfl (by omega) ?_ | refine gF rfl rfl (by omega) ?_ | refine gNT rfl rfl (by omega) ?_ | refine gNF rfl rfl (by omega) ?_ | fail)
 refine good_callO rfl rfl rfl rfl rfl rfl ent112 (hoc) rfl rfl ?_
 repeat' (first | refine stp tab_ok rfl (by first | exact sideN | exact sideT (by omega)) ?_ | refine gT rfl rfl (by omega) ?_ | refine gF rfl rfl (by omega) ?_ | refine gNT rfl rfl (by omega) ?_ | refine gNF rfl rfl (by omega) ?_ | fail)
 refine good_by rfl (ok_appendZ 23 31 3 _ _ 16 5 _ (padZ n) _ .i64 .i64 _ i5 rfl rfl rfl (by omega) ((tab_ok 31 _ rfl).slice rfl) ((tab_ok 3 _ rfl).int rfl) q1 q2 q3 (by omega) rfl (by omega) (by decide)) rfl ?_
 repeat' (first | refine stp tab_ok rfl (by first | exact sideN | exact sideT (by omega)) ?_ | refine gT rfl rfl (by omega) ?_ | refine gF rfl rfl (by omega) ?_ | refine gNT rfl rfl (by omega) ?_ | refine gNF rfl rfl (by omega) ?_ | fail)
 refine good_swap 23 1000 rfl (swap0 hX) ?_
 refine good_rounds (fun j : Nat => [(5, I ((7 : Int) - (j : Int))), (3, .own 1000), (4, .val (.int .u64 (IntKind.u64.wrap ((n : Int) * 2 ^ 3)))), (2, .ptr 2 0)]) (fun j : Nat => [(1000, .row 5 1 (n + 1 + padZ n + j) (u8els (padG n cb))), (2, .box 89 (alOf 20 (fun _ => .val (.int .u8 0))))]) (fun j : Nat => 8 - j) (fun j : Nat => j ≤ 8) 0 (Nat.zero_le _) (Wk.mk ⟨Sub.of_eq rfl, Sub.of_eq rfl, Sub.of_eq rfl, Sub.of_eq rfl, trivial⟩ ⟨⟨_, rfl, SubO.row rfl (fun i hi => ?_)⟩, ⟨_, rfl, SubO.refl _⟩, trivial⟩ rfl rfl (pin0 hX)) (fun j hj => ?_)
 ·exact pad_zero n cb els hels i hi
 by_cases hlt : j < 8
 ·repeat' (first | refine stp tab_ok rfl (by first | exact sideN | exact sideT (by omega)) ?_ | refine gT rfl rfl (by omega) ?_ | refine gF rfl rfl (by omega) ?_ | refine gNT rfl rfl (by omega) ?_ | refine gNF rfl rfl (by omega) ?_ | fail)
  refine good_by rfl (ok_convInt 230 5 _ .u8 .u64 _ _ _ rfl (tab_ok 230 _ rfl) rfl (tab_ok 5 _ rfl) rfl) rfl ?_
  repeat' (first | refine stp tab_ok rfl (by first | exact sideN | exact sideT (by omega)) ?_ | refine gT rfl rfl (by omega) ?_ | refine gF rfl rfl (by omega) ?_ | refine gNT rfl rfl (by omega) ?_ | refine gNF rfl rfl (by omega) ?_ | fail)
  refine good_swap 35 1000 rfl (swap0 hX) ?_
  exact good_again (j + 1) (by omega) (by omega) (Wk.mk ⟨Sub.of_eq (congrArg (fun z => I z) (by omega)), Sub.of_eq rfl, Sub.of_eq rfl, Sub.of_eq rfl, trivial⟩ ⟨⟨_, rfl, SubO.row rfl (fun i hi => pad_len n cb j i hi hlt)⟩, ⟨_, rfl, SubO.refl _⟩, trivial⟩ rfl rfl (pin0 hX))
 ·obtain rfl : j = 8 := by omega
  repeat' (first | refine stp tab_ok rfl (by first | exact sideN | exact sideT (by omega)) ?_ | refine gT rfl rfl (by omega) ?_ | refine gF rfl rfl (by omega) ?_ | refine gNT rfl rfl (by omega) ?_ | refine gNF rfl rfl (by omega) ?_ | fail)
  refine good_freeze 1000 rfl ?_
  rw [hM]
  have hG := padG_bd n cb hbd
  have hm : padM n ≤ 8000000 := by omega
  generalize padG n cb = G at *
  generalize padM n = m at *
  refine good_rounds (fun k : Nat => [(3, .im 1 (64 * m - 64 * k) (u8els (fun i => G (i + 64 * k)))), (6, .ptr 6 0), (2, .ptr 2 0)]) (fun k : Nat => [(6, .box 239 (cells5 (SS G k))), (2, .box 89 (alOf 20 (fun _ => .val (.int .u8 0))))]) (fun k : Nat => m - k) (fun k : Nat => k ≤ m) 0 (Nat.zero_le _) (Wk.mk ⟨Sub.im (by omega) (fun i hi => rfl), Sub.of_eq rfl, Sub.of_eq rfl, trivial⟩ ⟨⟨_, rfl, SubO.refl _⟩, ⟨_, rfl, SubO.refl _⟩, trivial⟩ rfl rfl (pin0 hX)) (fun k hk => ?_)
  by_cases hlt : k < m
  ·repeat' (first | refine stp tab_ok rfl (by first | exact sideN | exact sideT (by omega)) ?_ | refine gT rfl rfl (by omega) ?_ | refine gF rfl rfl (by omega) ?_ | refine gNT rfl rfl (by omega) ?_ | refine gNF rfl rfl (by omega) ?_ | fail)
   refine good_callB rfl rfl rfl rfl rfl rfl rfl ent151 (block_bc (SS G k) (fun i => G (i + 64 * k)) (fun i => hG _)) rfl ?_
   repeat' (first | refine stp tab_ok rfl (by first | exact sideN | exact sideT (by omega)) ?_ | refine gT rfl rfl (by omega) ?_ | refine gF rfl rfl (by omega) ?_ | refine gNT rfl rfl (by omega) ?_ | refine gNF rfl rfl (by omega) ?_ | fail)
   exact good_again (k + 1) (by omega) (by omega) (Wk.mk ⟨Sub.im (by omega) (fun i hi => by rw [shiftF_eq]; show L1 (.val (.int .u8 (G (i + 64 + 64 * k)))) = _; rw [show i + 64 + 64 * k = i + 64 * (k + 1) by omega]), Sub.of_eq rfl, Sub.of_eq rfl, trivial⟩ ⟨⟨_, rfl, SubO.refl _⟩, ⟨_, rfl, SubO.refl _⟩, trivial⟩ rfl rfl (pin0 hX))
  ·obtain rfl : k = m := by omega
   repeat' (first | refine stp tab_ok rfl (by first | exact sideN | exact sideT (by omega)) ?_ | refine gT rfl rfl (by omega) ?_ | refine gF rfl rfl (by omega) ?_ | refine gNT rfl rfl (by omega) ?_ | refine gNF rfl rfl (by omega) ?_ | fail)
   generalize SS G k = st at *
   refine good_rounds (fun i : Nat => [(45, I i), (2, .ptr 2 0), (6, .ptr 6 0)]) (fun i : Nat => [(2, .box 89 (alOf 20 (fun q => .val (.int .u8 (if q < i then outB st q else 0))))), (6, .box 239 (alOf 5 (fun q => U4 (get5 st q))))]) (fun i : Nat => 20 - i) (fun i : Nat => i ≤ 20) 0 (Nat.zero_le _) (Wk.mk ⟨Sub.of_eq rfl, Sub.of_eq rfl, Sub.of_eq rfl, trivial⟩ ⟨⟨_, rfl, SubO.refl _⟩, ⟨_, rfl, SubO.refl _⟩, trivial⟩ rfl rfl (pin0 hX)) (fun i hi => ?_)
   by_cases hlt : i < 20
   ·repeat' (first | refine stp tab_ok rfl (by first | exact sideN | exact sideT (by omega)) ?_ | refine gT rfl rfl (by omega) ?_ | refine gF rfl rfl (by omega) ?_ | refine gNT rfl rfl (by omega) ?_ | refine gNF rfl rfl (by omega) ?_ | fail)
    refine good_by rfl (ok_loadV 86 _ 6 _ (i / 4) 239 5 _ _ (U4 (get5 st (i / 4))) rfl (show 0 + _ * 1 = _ by omega) rfl rfl (tab_ok 86 _ rfl) rfl rfl (by omega)) rfl ?_
    repeat' (first | refine stp tab_ok rfl (by first | exact sideN | exact sideT (by omega)) ?_ | refine gT rfl rfl (by omega) ?_ | refine gF rfl rfl (by omega) ?_ | refine gNT rfl rfl (by omega) ?_ | refine gNF rfl rfl (by omega) ?_ | fail)
    refine good_by rfl (ok_convInt 86 5 _ .u8 .u32 _ _ _ rfl (tab_ok 86 _ rfl) rfl (tab_ok 5 _ rfl) rfl) rfl ?_
    repeat' (first | refine stp tab_ok rfl (by first | exact sideN | exact sideT (by omega)) ?_ | refine gT rfl rfl (by omega) ?_ | refine gF rfl rfl (by omega) ?_ | refine gNT rfl rfl (by omega) ?_ | refine gNF rfl rfl (by omega) ?_ | fail)
    refine good_by rfl (ok_storeAt 5 _ _ 2 _ i 89 20 _ _ _ rfl (show 0 + _ * 1 = _ by omega) rfl rfl rfl rfl (tab_ok 5 _ rfl) rfl (by omega)) rfl ?_
    repeat' (first | refine stp tab_ok rfl (by first | exact sideN | exact sideT (by omega)) ?_ | refine gT rfl rfl (by omega) ?_ | refine gF rfl rfl (by omega) ?_ | refine gNT rfl rfl (by omega) ?_ | refine gNF rfl rfl (by omega) ?_ | fail)
    exact good_again (i + 1) (by omega) (by omega) (Wk.mk ⟨Sub.of_eq rfl, Sub.of_eq rfl, Sub.of_eq rfl, trivial⟩ ⟨⟨_, rfl, SubO.box (subL_of (out_step st i))⟩, ⟨_, rfl, SubO.refl _⟩, trivial⟩ rfl rfl (pin0 hX))
   ·obtain rfl : i = 20 := by omega
    repeat' (first | refine stp tab_ok rfl (by first | exact sideN | exact sideT (by omega)) ?_ | refine gT rfl rfl (by omega) ?_ | refine gF rfl rfl (by omega) ?_ | refine gNT rfl rfl (by omega) ?_ | refine gNF rfl rfl (by omega) ?_ | fail)
    repeat' (first | refine stp tab_ok rfl (by first | exact sideN | exact sideT (by omega)) ?_ | refine gT rfl rfl (by omega) ?_ | refine gF rfl rfl (by omega) ?_ | refine gNT rfl rfl (by omega) ?_ | refine gNF rfl rfl (by omega) ?_ | refine gS rfl rfl (fun _ => ?_) (fun _ => ?_) | refine gNS rfl rfl (fun _ => ?_) (fun _ => ?_) | refine gBS rfl rfl (fun _ => ?_) (fun _ => ?_) | refine gBN rfl rfl (fun _ => ?_) (fun _ => ?_) | refine good_ret tab_ok hX rfl (Sub.of_eq ?_) | refine good_end tab_ok hX rfl (Sub.of_eq ?_) | fail)
    rfl
end Go.Proofs.YthjldemjipnmdaaGreatDoor.Sx
namespace Go.Proofs.YthjldemjipnmdaaGreatDoor.Sx
open Go.RowKit
set_option maxRecDepth 100000
def digN (r : Nat) : Option Nat :=
 if 48 ≤ r ∧ r ≤ 57 then some (r - 48) else if 97 ≤ r ∧ r ≤ 102 then some (r - 87) else if 65 ≤ r ∧ r ≤ 70 then some (r - 55) else none
abbrev U4x (n : Int) : AV := .val (.int .u32 n)
def digR : Option Nat → Int × Bool
 | some d => (d, true)
 | none => (0, false)
theorem digN_lt {r d : Nat} (h : digN r = some d) : d < 16 := by
 unfold digN at h
 split at h
 ·injection h; omega
 ·split at h
  ·injection h; omega
  ·split at h
   ·injection h; omega
   ·cases h
theorem w32i {a b : Int} (h : a = b) (h0 : 0 ≤ b ∧ b ≤ 2147483647) : IntKind.i32.wrap a = b := by
 rw [h]
 exact wrap_in (by unfold inK; omega)
theorem w32u {a b : Int} (h : a = b) (h0 : 0 ≤ b ∧ b ≤ 4294967295) : IntKind.u32.wrap a = b := by
 rw [h]
 exact wrap_in (by unfold inK; omega)
theorem digit_ac (r : Nat) (hr : r < 2147483648) : AC Tryz.prog 148 (L1 (.val (.int .i32 r))) (.tup (L2 (U4x (digR (digN r)).1) (B (digR (digN r)).2))) := by
 unfold digN
 refine AC.enter Tryz.func148 Tryz.ntmps148 rfl rfl rfl (fun F hX => ?_)
 by_cases h1 : 48 ≤ r ∧ r ≤ 57
 ·rw [if_pos h1]
  repeat' (first | refine stp tab_ok rfl (by first | exact sideN | exact sideT (by omega)) ?_ | refine gT rfl rfl (by omega) ?_ | refine gF rfl rfl (by omega) ?_ | refine gNT rfl rfl (by omega) ?_ | refine gNF rfl rfl (by omega) ?_ | fail)
  rw [w32i (b := ((r - 48 : Nat) : Int)) (by omega) (by omega)]
  repeat' (first | refine stp tab_ok rfl (by first | exact sideN | exact sideT (by omega)) ?_ | refine gT rfl rfl (by omega) ?_ | refine gF rfl rfl (by omega) ?_ | refine gNT rfl rfl (by omega) ?_ | refine gNF rfl rfl (by omega) ?_ | refine gS rfl rfl (fun _ => ?_) (fun _ => ?_) | refine gNS rfl rfl (fun _ => ?_) (fun _ => ?_) | refine gBS rfl rfl (fun _ => ?_) (fun _ => ?_) | refine gBN rfl rfl (fun _ => ?_) (fun _ => ?_) | refine good_ret tab_ok hX rfl (Sub.of_eq ?_) | refine good_end tab_ok hX rfl (Sub.of_eq ?_) | fail)
  rfl
 ·rw [if_neg h1]
  by_cases h2 : 97 ≤ r ∧ r ≤ 102
  ·rw [if_pos h2]
   repeat' (first | refine stp tab_ok rfl (by first | exact sideN | exact sideT (by omega)) ?_ | refine gT rfl rfl (by omega) ?_ | refine gF rfl rfl (by omega) ?_ | refine gNT rfl rfl (by omega) ?_ | refine gNF rfl rfl (by omega) ?_ | fail)
   rw [w32i (b := ((r - 97 : Nat) : Int)) (by omega) (by omega)]
   repeat' (first | refine stp tab_ok rfl (by first | exact sideN | exact sideT (by omega)) ?_ | refine gT rfl rfl (by omega) ?_ | refine gF rfl rfl (by omega) ?_ | refine gNT rfl rfl (by omega) ?_ | refine gNF rfl rfl (by omega) ?_ | fail)
   rw [w32u (a := ((r - 97 : Nat) : Int) + 10) (b := ((r - 87 : Nat) : Int)) (by omega) (by omega)]
   repeat' (first | refine stp tab_ok rfl (by first | exact sideN | exact sideT (by omega)) ?_ | refine gT rfl rfl (by omega) ?_ | refine gF rfl rfl (by omega) ?_ | refine gNT rfl rfl (by omega) ?_ | refine gNF rfl rfl (by omega) ?_ | refine gS rfl rfl (fun _ => ?_) (fun _ => ?_) | refine gNS rfl rfl (fun _ => ?_) (fun _ => ?_) | refine gBS rfl rfl (fun _ => ?_) (fun _ => ?_) | refine gBN rfl rfl (fun _ => ?_) (fun _ => ?_) | refine good_ret tab_ok hX rfl (Sub.of_eq ?_) | refine good_end tab_ok hX rfl (Sub.of_eq ?_) | fail)
   rfl
  ·rw [if_neg h2]
   by_cases h3 : 65 ≤ r ∧ r ≤ 70
   ·rw [if_pos h3]
    repeat' (first | refine stp tab_ok rfl (by first | exact sideN | exact sideT (by omega)) ?_ | refine gT rfl rfl (by omega) ?_ | refine gF rfl rfl (by omega) ?_ | refine gNT rfl rfl (by omega) ?_ | refine gNF rfl rfl (by omega) ?_ | fail)
    rw [w32i (b := ((r - 65 : Nat) : Int)) (by omega) (by omega)]
    repeat' (first | refine stp tab_ok rfl (by first | exact sideN | exact sideT (by omega)) ?_ | refine gT rfl rfl (by omega) ?_ | refine gF rfl rfl (by omega) ?_ | refine gNT rfl rfl (by omega) ?_ | refine gNF rfl rfl (by omega) ?_ | fail)
    rw [w32u (a := ((r - 65 : Nat) : Int) + 10) (b := ((r - 55 : Nat) : Int)) (by omega) (by omega)]
    repeat' (first | refine stp tab_ok rfl (by first | exact sideN | exact sideT (by omega)) ?_ | refine gT rfl rfl (by omega) ?_ | refine gF rfl rfl (by omega) ?_ | refine gNT rfl rfl (by omega) ?_ | refine gNF rfl rfl (by omega) ?_ | refine gS rfl rfl (fun _ => ?_) (fun _ => ?_) | refine gNS rfl rfl (fun _ => ?_) (fun _ => ?_) | refine gBS rfl rfl (fun _ => ?_) (fun _ => ?_) | refine gBN rfl rfl (fun _ => ?_) (fun _ => ?_) | refine good_ret tab_ok hX rfl (Sub.of_eq ?_) | refine good_end tab_ok hX rfl (Sub.of_eq ?_) | fail)
    rfl
   ·rw [if_neg h3]
    by_cases h4 : 48 ≤ r <;> by_cases h5 : 97 ≤ r <;> by_cases h6 : 65 ≤ r <;> (
     repeat' (first | refine stp tab_ok rfl (by first | exact sideN | exact sideT (by omega)) ?_ | refine gT rfl rfl (by omega) ?_ | refine gF rfl rfl (by omega) ?_ | refine gNT rfl rfl (by omega) ?_ | refine gNF rfl rfl (by omega) ?_ | fail)
     repeat' (first | refine stp tab_ok rfl (by first | exact sideN | exact sideT (by omega)) ?_ | refine gT rfl rfl (by omega) ?_ | refine gF rfl rfl (by omega) ?_ | refine gNT rfl rfl (by omega) ?_ | refine gNF rfl rfl (by omega) ?_ | refine gS rfl rfl (fun _ => ?_) (fun _ => ?_) | refine gNS rfl rfl (fun _ => ?_) (fun _ => ?_) | refine gBS rfl rfl (fun _ => ?_) (fun _ => ?_) | refine gBN rfl rfl (fun _ => ?_) (fun _ => ?_) | refine good_ret tab_ok hX rfl (Sub.of_eq ?_) | refine good_end tab_ok hX rfl (Sub.of_eq ?_) | fail)
     first | rfl | (exfalso; omega))
def wordG (s : ByteArray) : Nat → Nat → Nat → Option Nat
 | 0, _, n => some n
 | f + 1, pos, n => if pos < s.size then (match digN (Utf8.decode s pos).1 with
   | some d => wordG s f (pos + (Utf8.decode s pos).2) (n * 16 + d)
   | none => none) else some n
def wordH (s : ByteArray) : Option Nat := if s.size = 0 ∨ 8 < s.size then none else wordG s s.size 0 0
theorem pow_room {n d pos : Nat} (hp : pos < 8) (hn : n < 16 ^ pos) (hd : d < 16) : n * 16 < 4294967296 ∧ n * 16 + d < 4294967296 ∧ n * 16 + d < 16 ^ (pos + 1) := by
 have h1 : 16 ^ (pos + 1) ≤ 16 ^ 8 := Nat.pow_le_pow_right (by decide) (by omega)
 rw [Nat.pow_succ] at h1
 rw [Nat.pow_succ]
 generalize 16 ^ pos = p at *
 omega
theorem rune_lt (t : ByteArray) (pos : Nat) : (Utf8.decode t pos).1 < 2147483648 := by
 have hd := Lib.decode_at t pos
 have h0 : (t.get! pos).toNat < 256 := UInt8.toNat_lt _
 have h1 : (t.get! (pos + 1)).toNat < 256 := UInt8.toNat_lt _
 have h2 : (t.get! (pos + 2)).toNat < 256 := UInt8.toNat_lt _
 have h3 : (t.get! (pos + 3)).toNat < 256 := UInt8.toNat_lt _
 have hcases := Lib.decodeN_shape (t.size - pos) (t.get! pos).toNat (t.get! (pos + 1)).toNat (t.get! (pos + 2)).toNat (t.get! (pos + 3)).toNat
 rw [← hd] at hcases
 rcases hcases with ⟨_, he⟩ | ⟨_, _, _, _, he⟩ | ⟨_, _, _, _, _, _, he⟩ | ⟨_, _, _, _, _, _, _, he⟩ | he <;> rw [he] <;> simp only <;> omega
theorem empty_iff (s : ByteArray) : s = ⟨#[]⟩ ↔ s.size = 0 := by
 constructor
 ·rintro rfl; rfl
 ·intro h
  have : s.data = #[] := Array.eq_empty_of_size_eq_zero h
  cases s
  simp only at this
  rw [this]
theorem word_ac (s : ByteArray) : AC Tryz.prog 97 (L1 (S s)) (.tup (L2 (U4x (digR (wordH s)).1) (B (digR (wordH s)).2))) := by
 unfold wordH
 refine AC.enter Tryz.func97 Tryz.ntmps97 rfl rfl rfl (fun F hX => ?_)
 by_cases h0 : s.size = 0 ∨ 8 < s.size
 ·rw [if_pos h0]
  by_cases h1 : s = ⟨#[]⟩
  ·repeat' (first | refine stp tab_ok rfl (by first | exact sideN | exact sideT (by omega)) ?_ | refine gT rfl rfl (by omega) ?_ | refine gF rfl rfl (by omega) ?_ | refine gNT rfl rfl (by omega) ?_ | refine gNF rfl rfl (by omega) ?_ | refine gS rfl rfl (fun _ => ?_) (fun _ => ?_) | refine gNS rfl rfl (fun _ => ?_) (fun _ => ?_) | refine gBS rfl rfl (fun _ => ?_) (fun _ => ?_) | refine gBN rfl rfl (fun _ => ?_) (fun _ => ?_) | refine good_ret tab_ok hX rfl (Sub.of_eq ?_) | refine good_end tab_ok hX rfl (Sub.of_eq ?_) | fail)
   all_goals first | rfl | (exfalso; omega)
  ·have := mt (empty_iff s).2 h1
   repeat' (first | refine stp tab_ok rfl (by first | exact sideN | exact sideT (by omega)) ?_ | refine gT rfl rfl (by omega) ?_ | refine gF rfl rfl (by omega) ?_ | refine gNT rfl rfl (by omega) ?_ | refine gNF rfl rfl (by omega) ?_ | refine gS rfl rfl (fun _ => ?_) (fun _ => ?_) | refine gNS rfl rfl (fun _ => ?_) (fun _ => ?_) | refine gBS rfl rfl (fun _ => ?_) (fun _ => ?_) | refine gBN rfl rfl (fun _ => ?_) (fun _ => ?_) | refine good_ret tab_ok hX rfl (Sub.of_eq ?_) | refine good_end tab_ok hX rfl (Sub.of_eq ?_) | fail)
   all_goals first | rfl | (exfalso; omega) | trace_state
 ·rw [if_neg h0]
  have h1 : s ≠ ⟨#[]⟩ := fun e => h0 (.inl ((empty_iff s).1 e))
  obtain ⟨res, hres⟩ : ∃ res, wordG s s.size 0 0 = res := ⟨_, rfl⟩
  rw [hres]
  repeat' (first | refine stp tab_ok rfl (by first | exact sideN | exact sideT (by omega)) ?_ | refine gT rfl rfl (by omega) ?_ | refine gF rfl rfl (by omega) ?_ | refine gNT rfl rfl (by omega) ?_ | refine gNF rfl rfl (by omega) ?_ | fail)
  refine good_by rfl (ok_range 16 9 _ s rfl ((tab_ok 9 _ rfl).string rfl) rfl) rfl ?_
  repeat' (first | refine stp tab_ok rfl (by first | exact sideN | exact sideT (by omega)) ?_ | fail)
  refine good_rounds (fun x : Nat × Nat × Nat => [(2, U4x (x.2.2 : Int)), (16, .ptr 16 0)]) (fun x : Nat × Nat × Nat => [(16, .raw (.stringIter s x.2.1))]) (fun x : Nat × Nat × Nat => x.1) (fun x : Nat × Nat × Nat => s.size ≤ x.2.1 + x.1 ∧ x.2.2 < 16 ^ x.2.1 ∧ wordG s x.1 x.2.1 x.2.2 = res) (s.size, 0, 0) ⟨by simp only; omega, by simp only; decide, hres⟩ (Wk.mk ⟨Sub.of_eq rfl, Sub.of_eq rfl, trivial⟩ ⟨⟨_, rfl, SubO.refl _⟩, trivial⟩ rfl rfl (pin0 hX)) (fun x hx => ?_)
  obtain ⟨f, pos, n⟩ := x
  obtain ⟨hf, hn, hw⟩ := hx
  simp only at hf hn hw ⊢
  by_cases hp : pos < s.size
  ·obtain ⟨f, rfl⟩ : ∃ g, f = g + 1 := ⟨f - 1, by omega⟩
   have hwd := Lib.width_pos s pos
   have hrl := rune_lt s pos
   unfold wordG at hw
   rw [if_pos hp] at hw
   repeat' (first | refine stp tab_ok rfl (by first | exact sideN | exact sideT (by omega)) ?_ | fail)
   refine good_by rfl (ok_next _ 16 pos s rfl rfl hp) rfl ?_
   generalize (Utf8.decode s pos).1 = R at *
   generalize (Utf8.decode s pos).2 = W at *
   repeat' (first | refine stp tab_ok rfl (by first | exact sideN | exact sideT (by omega)) ?_ | refine gT rfl rfl (by omega) ?_ | refine gF rfl rfl (by omega) ?_ | refine gNT rfl rfl (by omega) ?_ | refine gNF rfl rfl (by omega) ?_ | fail)
   refine good_call rfl rfl rfl rfl rfl ent148 (digit_ac R hrl) rfl ?_
   cases hd : digN R with
   | none =>
    rw [hd] at hw
    simp only at hw
    subst hw
    repeat' (first | refine stp tab_ok rfl (by first | exact sideN | exact sideT (by omega)) ?_ | refine gT rfl rfl (by omega) ?_ | refine gF rfl rfl (by omega) ?_ | refine gNT rfl rfl (by omega) ?_ | refine gNF rfl rfl (by omega) ?_ | fail)
    repeat' (first | refine stp tab_ok rfl (by first | exact sideN | exact sideT (by omega)) ?_ | refine gT rfl rfl (by omega) ?_ | refine gF rfl rfl (by omega) ?_ | refine gNT rfl rfl (by omega) ?_ | refine gNF rfl rfl (by omega) ?_ | refine gS rfl rfl (fun _ => ?_) (fun _ => ?_) | refine gNS rfl rfl (fun _ => ?_) (fun _ => ?_) | refine gBS rfl rfl (fun _ => ?_) (fun _ => ?_) | refine gBN rfl rfl (fun _ => ?_) (fun _ => ?_) | refine good_ret tab_ok hX rfl (Sub.of_eq ?_) | refine good_end tab_ok hX rfl (Sub.of_eq ?_) | fail)
    rfl
   | some d =>
    rw [hd] at hw
    simp only at hw
    have hdl := digN_lt hd
    obtain ⟨q1, q2, q3⟩ := pow_room (pos := pos) (n := n) (d := d) (by omega) hn hdl
    have q4 : n * 16 + d < 16 ^ (pos + W) := Nat.lt_of_lt_of_le q3 (Nat.pow_le_pow_right (by decide) (by omega))
    repeat' (first | refine stp tab_ok rfl (by first | exact sideN | exact sideT (by omega)) ?_ | refine gT rfl rfl (by omega) ?_ | refine gF rfl rfl (by omega) ?_ | refine gNT rfl rfl (by omega) ?_ | refine gNF rfl rfl (by omega) ?_ | fail)
    rw [w32u (a := (n : Int) * 16) (b := ((n * 16 : Nat) : Int)) (by omega) (by omega)]
    repeat' (first | refine stp tab_ok rfl (by first | exact sideN | exact sideT (by omega)) ?_ | refine gT rfl rfl (by omega) ?_ | refine gF rfl rfl (by omega) ?_ | refine gNT rfl rfl (by omega) ?_ | refine gNF rfl rfl (by omega) ?_ | fail)
    rw [w32u (b := ((n * 16 + d : Nat) : Int)) (by simp only [digR]; omega) (by omega)]
    repeat' (first | refine stp tab_ok rfl (by first | exact sideN | exact sideT (by omega)) ?_ | refine gT rfl rfl (by omega) ?_ | refine gF rfl rfl (by omega) ?_ | refine gNT rfl rfl (by omega) ?_ | refine gNF rfl rfl (by omega) ?_ | fail)
    exact good_again (f, pos + W, n * 16 + d) ⟨by simp only; omega, q4, hw⟩ (by simp only; omega) (Wk.mk ⟨Sub.of_eq rfl, Sub.of_eq rfl, trivial⟩ ⟨⟨_, rfl, SubO.refl _⟩, trivial⟩ rfl rfl (pin0 hX))
  ·have hr : res = some n := by
    rw [← hw]
    cases f with
    | zero => rfl
    | succ g => unfold wordG; rw [if_neg hp]
   rw [hr]
   repeat' (first | refine stp tab_ok rfl (by first | exact sideN | exact sideT (by omega)) ?_ | fail)
   refine good_by rfl (ok_over _ 16 pos s rfl rfl hp) rfl ?_
   repeat' (first | refine stp tab_ok rfl (by first | exact sideN | exact sideT (by omega)) ?_ | refine gT rfl rfl (by omega) ?_ | refine gF rfl rfl (by omega) ?_ | refine gNT rfl rfl (by omega) ?_ | refine gNF rfl rfl (by omega) ?_ | refine gS rfl rfl (fun _ => ?_) (fun _ => ?_) | refine gNS rfl rfl (fun _ => ?_) (fun _ => ?_) | refine gBS rfl rfl (fun _ => ?_) (fun _ => ?_) | refine gBN rfl rfl (fun _ => ?_) (fun _ => ?_) | refine good_ret tab_ok hX rfl (Sub.of_eq ?_) | refine good_end tab_ok hX rfl (Sub.of_eq ?_) | fail)
   rfl
end Go.Proofs.YthjldemjipnmdaaGreatDoor.Sx
namespace Go.Proofs.YthjldemjipnmdaaGreatDoor.Sx
open Go.RowKit
set_option maxRecDepth 100000
def wo (d : Nat → Int) : Nat → Nat → Int
 | 0 => fun _ => 0
 | i + 1 => fun q => if q = i / 4 then wst (wo d i (i / 4)) (d i) else wo d i q
abbrev hashA (h : Nat → Int) : AV := .agg (alOf 5 (fun k => U4 (h k)))
theorem wo_step (d : Nat → Int) (i : Nat) : alOf 5 (fun k => if k = i / 4 then U4 (wst (wo d i (i / 4)) (d i)) else U4 (wo d i k)) = alOf 5 (fun k => U4 (wo d (i + 1) k)) := by
 refine alOf_congr fun k hk => ?_
 show _ = U4 (if k = i / 4 then _ else wo d i k)
 by_cases h : k = i / 4
 ·rw [if_pos h, if_pos h]
 ·rw [if_neg h, if_neg h]
theorem shaWords_ac (d : Nat → Int) (hd : ∀ i, 0 ≤ d i ∧ d i ≤ 255) : AC Tryz.prog 31 (L1 (digA d)) (hashA (wo d 20)) := by
 refine AC.enter Tryz.func31 Tryz.ntmps31 rfl rfl rfl (fun F hX => ?_)
 repeat' (first | refine stp tab_ok rfl (by first | exact sideN | exact sideT (by omega)) ?_ | refine gT rfl rfl (by omega) ?_ | refine gF rfl rfl (by omega) ?_ | refine gNT rfl rfl (by omega) ?_ | refine gNF rfl rfl (by omega) ?_ | fail)
 refine good_rounds (fun i : Nat => [(5, digA d), (6, I i), (2, .ptr 2 0)]) (fun i : Nat => [(2, .box 87 (alOf 5 (fun q => U4 (wo d i q))))]) (fun i : Nat => 20 - i) (fun i : Nat => i ≤ 20) 0 (Nat.zero_le _) (Wk.mk ⟨Sub.of_eq rfl, Sub.of_eq rfl, Sub.of_eq rfl, trivial⟩ ⟨⟨_, rfl, SubO.refl _⟩, trivial⟩ rfl rfl (pin0 hX)) (fun i hi => ?_)
 by_cases hlt : i < 20
 ·repeat' (first | refine stp tab_ok rfl (by first | exact sideN | exact sideT (by omega)) ?_ | fail)
  refine gT rfl rfl (by omega) ?_
  iterate 7 (refine stp tab_ok rfl sideN ?_)
  refine good_by rfl (ok_idxAt 89 _ _ 20 5 (fun k => .val (.int .u8 (d k))) .i64 _ i _ _ rfl rfl rfl (tab_ok 89 _ rfl) rfl (tab_ok 5 _ rfl) rfl rfl hlt) rfl ?_
  repeat' (first | refine stp tab_ok rfl (by first | exact sideN | exact sideT (by omega)) ?_ | refine gT rfl rfl (by omega) ?_ | refine gF rfl rfl (by omega) ?_ | refine gNT rfl rfl (by omega) ?_ | refine gNF rfl rfl (by omega) ?_ | fail)
  refine good_by rfl (ok_loadV 86 _ 2 _ (i / 4) 87 5 _ _ (U4 (wo d i (i / 4))) rfl (show 0 + _ * 1 = _ by omega) rfl rfl (tab_ok 86 _ rfl) rfl rfl (by omega)) rfl ?_
  repeat' (first | refine stp tab_ok rfl (by first | exact sideN | exact sideT (by omega)) ?_ | refine gT rfl rfl (by omega) ?_ | refine gF rfl rfl (by omega) ?_ | refine gNT rfl rfl (by omega) ?_ | refine gNF rfl rfl (by omega) ?_ | fail)
  refine stp tab_ok rfl (sideT (inK32 (hd _))) ?_
  repeat' (first | refine stp tab_ok rfl (by first | exact sideN | exact sideT (by omega)) ?_ | refine gT rfl rfl (by omega) ?_ | refine gF rfl rfl (by omega) ?_ | refine gNT rfl rfl (by omega) ?_ | refine gNF rfl rfl (by omega) ?_ | fail)
  refine good_by rfl (ok_storeAt 86 _ _ 2 _ (i / 4) 87 5 _ _ _ rfl (show 0 + _ * 1 = _ by omega) rfl rfl rfl rfl (tab_ok 86 _ rfl) rfl (by omega)) rfl ?_
  repeat' (first | refine stp tab_ok rfl (by first | exact sideN | exact sideT (by omega)) ?_ | refine gT rfl rfl (by omega) ?_ | refine gF rfl rfl (by omega) ?_ | refine gNT rfl rfl (by omega) ?_ | refine gNF rfl rfl (by omega) ?_ | fail)
  exact good_again (i + 1) (by omega) (by omega) (Wk.mk ⟨Sub.of_eq rfl, Sub.of_eq rfl, Sub.of_eq rfl, trivial⟩ ⟨⟨_, rfl, SubO.box (subL_of (wo_step d i))⟩, trivial⟩ rfl rfl (pin0 hX))
 ·obtain rfl : i = 20 := by omega
  repeat' (first | refine stp tab_ok rfl (by first | exact sideN | exact sideT (by omega)) ?_ | refine gT rfl rfl (by omega) ?_ | refine gF rfl rfl (by omega) ?_ | refine gNT rfl rfl (by omega) ?_ | refine gNF rfl rfl (by omega) ?_ | fail)
  repeat' (first | refine stp tab_ok rfl (by first | exact sideN | exact sideT (by omega)) ?_ | refine gT rfl rfl (by omega) ?_ | refine gF rfl rfl (by omega) ?_ | refine gNT rfl rfl (by omega) ?_ | refine gNF rfl rfl (by omega) ?_ | refine gS rfl rfl (fun _ => ?_) (fun _ => ?_) | refine gNS rfl rfl (fun _ => ?_) (fun _ => ?_) | refine gBS rfl rfl (fun _ => ?_) (fun _ => ?_) | refine gBN rfl rfl (fun _ => ?_) (fun _ => ?_) | refine good_ret tab_ok hX rfl (Sub.of_eq ?_) | refine good_end tab_ok hX rfl (Sub.of_eq ?_) | fail)
  rfl
theorem posix_ac (n : Int) (hn : 0 ≤ n ∧ n ≤ 9223372036854775807) : AC Tryz.prog 47 (L1 (I n)) (.tup (L2 (I (n - 2208988800)) (B true))) := by
 refine AC.enter Tryz.func47 Tryz.ntmps47 rfl rfl rfl (fun F hX => ?_)
 repeat' (first | refine stp tab_ok rfl (by first | exact sideN | exact sideT (by omega)) ?_ | refine gT rfl rfl (by omega) ?_ | refine gF rfl rfl (by omega) ?_ | refine gNT rfl rfl (by omega) ?_ | refine gNF rfl rfl (by omega) ?_ | fail)
 refine good_call rfl rfl rfl rfl rfl ent96 (numSub_ac n 2208988800 (by omega) (by omega)) rfl ?_
 repeat' (first | refine stp tab_ok rfl (by first | exact sideN | exact sideT (by omega)) ?_ | refine gT rfl rfl (by omega) ?_ | refine gF rfl rfl (by omega) ?_ | refine gNT rfl rfl (by omega) ?_ | refine gNF rfl rfl (by omega) ?_ | refine gS rfl rfl (fun _ => ?_) (fun _ => ?_) | refine gNS rfl rfl (fun _ => ?_) (fun _ => ?_) | refine gBS rfl rfl (fun _ => ?_) (fun _ => ?_) | refine gBN rfl rfl (fun _ => ?_) (fun _ => ?_) | refine good_ret tab_ok hX rfl (Sub.of_eq ?_) | refine good_end tab_ok hX rfl (Sub.of_eq ?_) | fail)
 rfl
theorem ntp_ac (p : Int) (hp : 0 ≤ p ∧ p ≤ 9000000000000000000) : AC Tryz.prog 28 (L1 (I p)) (.tup (L2 (I (p + 2208988800)) (B true))) := by
 refine AC.enter Tryz.func28 Tryz.ntmps28 rfl rfl rfl (fun F hX => ?_)
 repeat' (first | refine stp tab_ok rfl (by first | exact sideN | exact sideT (by omega)) ?_ | refine gT rfl rfl (by omega) ?_ | refine gF rfl rfl (by omega) ?_ | refine gNT rfl rfl (by omega) ?_ | refine gNF rfl rfl (by omega) ?_ | fail)
 refine good_call rfl rfl rfl rfl rfl ent69 (numAdd_ac p 2208988800 (by omega) (by omega)) rfl ?_
 repeat' (first | refine stp tab_ok rfl (by first | exact sideN | exact sideT (by omega)) ?_ | refine gT rfl rfl (by omega) ?_ | refine gF rfl rfl (by omega) ?_ | refine gNT rfl rfl (by omega) ?_ | refine gNF rfl rfl (by omega) ?_ | refine gS rfl rfl (fun _ => ?_) (fun _ => ?_) | refine gNS rfl rfl (fun _ => ?_) (fun _ => ?_) | refine gBS rfl rfl (fun _ => ?_) (fun _ => ?_) | refine gBN rfl rfl (fun _ => ?_) (fun _ => ?_) | refine good_ret tab_ok hX rfl (Sub.of_eq ?_) | refine good_end tab_ok hX rfl (Sub.of_eq ?_) | fail)
 all_goals first | rfl | omega
def hashK (X : List ByteArray) : Nat → Nat → Int
 | 0 => fun _ => 0
 | k + 1 => fun q => if q = k then (digR (wordH (X.getD k ByteArray.empty))).1 else hashK X k q
def hashOk (X : List ByteArray) : Nat → Bool
 | 0 => true
 | k + 1 => hashOk X k && (digR (wordH (X.getD k ByteArray.empty))).2
def hashV (s : ByteArray) : (Nat → Int) × Bool := if (wordsF s).length = 5 ∧ hashOk (wordsF s) 5 = true then (hashK (wordsF s) 5, true) else (fun _ => 0, false)
theorem hashK_step (X : List ByteArray) (k : Nat) : alOf 5 (fun q => if q = k then U4 (digR (wordH (X.getD k ByteArray.empty))).1 else U4 (hashK X k q)) = alOf 5 (fun q => U4 (hashK X (k + 1) q)) := by
 refine alOf_congr fun q hq => ?_
 show _ = U4 (if q = k then _ else hashK X k q)
 by_cases h : q = k
 ·rw [if_pos h, if_pos h]
 ·rw [if_neg h, if_neg h]
theorem hashOk_no {X : List ByteArray} {k : Nat} (h : (digR (wordH (X.getD k ByteArray.empty))).2 = false) : ∀ {n : Nat}, k < n → hashOk X n = false
 | 0, hn => by omega
 | n + 1, hn => by
  unfold hashOk
  by_cases e : k = n
  ·subst e; rw [h, Bool.and_false]
  ·rw [hashOk_no h (show k < n by omega), Bool.false_and]
theorem hash_ac (s : ByteArray) (hs : s.size ≤ 1000000) : AC Tryz.prog 48 (L1 (S s)) (.tup (L2 (hashA (hashV s).1) (B (hashV s).2))) := by
 have hw := words_ac s hs
 unfold hashV
 generalize wordsF s = X at *
 refine AC.enter Tryz.func48 Tryz.ntmps48 rfl rfl rfl (fun F hX => ?_)
 repeat' (first | refine stp tab_ok rfl (by first | exact sideN | exact sideT (by omega)) ?_ | refine gT rfl rfl (by omega) ?_ | refine gF rfl rfl (by omega) ?_ | refine gNT rfl rfl (by omega) ?_ | refine gNF rfl rfl (by omega) ?_ | fail)
 refine good_call rfl rfl rfl rfl rfl ent52 (hw) rfl ?_
 repeat' (first | refine stp tab_ok rfl (by first | exact sideN | exact sideT (by omega)) ?_ | refine gT rfl rfl (by omega) ?_ | refine gF rfl rfl (by omega) ?_ | refine gNT rfl rfl (by omega) ?_ | refine gNF rfl rfl (by omega) ?_ | fail)
 by_cases h5 : X.length = 5
 ·repeat' (first | refine stp tab_ok rfl (by first | exact sideN | exact sideT (by omega)) ?_ | refine gT rfl rfl (by omega) ?_ | refine gF rfl rfl (by omega) ?_ | refine gNT rfl rfl (by omega) ?_ | refine gNF rfl rfl (by omega) ?_ | fail)
  refine good_rounds (fun k : Nat => [(13, .im 1 X.length (strEls X)), (14, I X.length), (15, I k), (2, .ptr 2 0)]) (fun k : Nat => [(2, .box 87 (alOf 5 (fun q => U4 (hashK X k q))))]) (fun k : Nat => 5 - k) (fun k : Nat => k ≤ 5 ∧ hashOk X k = true) 0 ⟨Nat.zero_le _, rfl⟩ (Wk.mk ⟨Sub.of_eq rfl, Sub.of_eq rfl, Sub.of_eq rfl, Sub.of_eq rfl, trivial⟩ ⟨⟨_, rfl, SubO.refl _⟩, trivial⟩ rfl rfl (pin0 hX)) (fun k hk => ?_)
  obtain ⟨hk, hok⟩ := hk
  by_cases hlt : k < 5
  ·repeat' (first | refine stp tab_ok rfl (by first | exact sideN | exact sideT (by omega)) ?_ | refine gT rfl rfl (by omega) ?_ | refine gF rfl rfl (by omega) ?_ | refine gNT rfl rfl (by omega) ?_ | refine gNF rfl rfl (by omega) ?_ | fail)
   simp only [Int.toNat_natCast]
   repeat' (first | refine stp tab_ok rfl (by first | exact sideN | exact sideT (by omega)) ?_ | refine gT rfl rfl (by omega) ?_ | refine gF rfl rfl (by omega) ?_ | refine gNT rfl rfl (by omega) ?_ | refine gNF rfl rfl (by omega) ?_ | fail)
   refine good_call rfl rfl rfl rfl rfl ent97 (word_ac (X.getD k ByteArray.empty)) rfl ?_
   repeat' (first | refine stp tab_ok rfl (by first | exact sideN | exact sideT (by omega)) ?_ | refine gT rfl rfl (by omega) ?_ | refine gF rfl rfl (by omega) ?_ | refine gNT rfl rfl (by omega) ?_ | refine gNF rfl rfl (by omega) ?_ | fail)
   refine good_by rfl (ok_storeAt 86 _ _ 2 _ k 87 5 _ _ _ rfl (show 0 + _ * 1 = _ by omega) rfl rfl rfl rfl (tab_ok 86 _ rfl) rfl (by omega)) rfl ?_
   repeat' (first | refine stp tab_ok rfl (by first | exact sideN | exact sideT (by omega)) ?_ | fail)
   cases hd : (digR (wordH (X.getD k ByteArray.empty))).2 with
   | true =>
    repeat' (first | refine stp tab_ok rfl (by first | exact sideN | exact sideT (by omega)) ?_ | refine gT rfl rfl (by omega) ?_ | refine gF rfl rfl (by omega) ?_ | refine gNT rfl rfl (by omega) ?_ | refine gNF rfl rfl (by omega) ?_ | fail)
    exact good_again (k + 1) ⟨by omega, by unfold hashOk; rw [hok, hd]; rfl⟩ (by omega) (Wk.mk ⟨Sub.of_eq rfl, Sub.of_eq rfl, Sub.of_eq rfl, Sub.of_eq rfl, trivial⟩ ⟨⟨_, rfl, SubO.box (subL_of (hashK_step X k))⟩, trivial⟩ rfl rfl (pin0 hX))
   | false =>
    rw [if_neg (fun e => by rw [hashOk_no hd hlt] at e; cases e.2)]
    repeat' (first | refine stp tab_ok rfl (by first | exact sideN | exact sideT (by omega)) ?_ | refine gT rfl rfl (by omega) ?_ | refine gF rfl rfl (by omega) ?_ | refine gNT rfl rfl (by omega) ?_ | refine gNF rfl rfl (by omega) ?_ | fail)
    repeat' (first | refine stp tab_ok rfl (by first | exact sideN | exact sideT (by omega)) ?_ | refine gT rfl rfl (by omega) ?_ | refine gF rfl rfl (by omega) ?_ | refine gNT rfl rfl (by omega) ?_ | refine gNF rfl rfl (by omega) ?_ | refine gS rfl rfl (fun _ => ?_) (fun _ => ?_) | refine gNS rfl rfl (fun _ => ?_) (fun _ => ?_) | refine gBS rfl rfl (fun _ => ?_) (fun _ => ?_) | refine gBN rfl rfl (fun _ => ?_) (fun _ => ?_) | refine good_ret tab_ok hX rfl (Sub.of_eq ?_) | refine good_end tab_ok hX rfl (Sub.of_eq ?_) | fail)
    rfl
  ·obtain rfl : k = 5 := by omega
   rw [if_pos ⟨h5, hok⟩]
   repeat' (first | refine stp tab_ok rfl (by first | exact sideN | exact sideT (by omega)) ?_ | refine gT rfl rfl (by omega) ?_ | refine gF rfl rfl (by omega) ?_ | refine gNT rfl rfl (by omega) ?_ | refine gNF rfl rfl (by omega) ?_ | fail)
   repeat' (first | refine stp tab_ok rfl (by first | exact sideN | exact sideT (by omega)) ?_ | refine gT rfl rfl (by omega) ?_ | refine gF rfl rfl (by omega) ?_ | refine gNT rfl rfl (by omega) ?_ | refine gNF rfl rfl (by omega) ?_ | refine gS rfl rfl (fun _ => ?_) (fun _ => ?_) | refine gNS rfl rfl (fun _ => ?_) (fun _ => ?_) | refine gBS rfl rfl (fun _ => ?_) (fun _ => ?_) | refine gBN rfl rfl (fun _ => ?_) (fun _ => ?_) | refine good_ret tab_ok hX rfl (Sub.of_eq ?_) | refine good_end tab_ok hX rfl (Sub.of_eq ?_) | fail)
   rfl
 ·rw [if_neg (fun e => h5 e.1)]
  repeat' (first | refine stp tab_ok rfl (by first | exact sideN | exact sideT (by omega)) ?_ | refine gT rfl rfl (by omega) ?_ | refine gF rfl rfl (by omega) ?_ | refine gNT rfl rfl (by omega) ?_ | refine gNF rfl rfl (by omega) ?_ | fail)
  repeat' (first | refine stp tab_ok rfl (by first | exact sideN | exact sideT (by omega)) ?_ | refine gT rfl rfl (by omega) ?_ | refine gF rfl rfl (by omega) ?_ | refine gNT rfl rfl (by omega) ?_ | refine gNF rfl rfl (by omega) ?_ | refine gS rfl rfl (fun _ => ?_) (fun _ => ?_) | refine gNS rfl rfl (fun _ => ?_) (fun _ => ?_) | refine gBS rfl rfl (fun _ => ?_) (fun _ => ?_) | refine gBN rfl rfl (fun _ => ?_) (fun _ => ?_) | refine good_ret tab_ok hX rfl (Sub.of_eq ?_) | refine good_end tab_ok hX rfl (Sub.of_eq ?_) | fail)
  rfl
end Go.Proofs.YthjldemjipnmdaaGreatDoor.Sx
namespace Go.Proofs.YthjldemjipnmdaaGreatDoor.Sx
open Go.RowKit
set_option maxRecDepth 100000
def hexS : ByteArray := ⟨#[48, 49, 50, 51, 52, 53, 54, 55, 56, 57, 97, 98, 99, 100, 101, 102]⟩
def hi4 (c : Int) : Int := c.fdiv (2 ^ (min (Int.toNat 4) 8))
def lo4 (c : Int) : Int := Go.bits .and .u8 c 15
theorem hi4_eq (c : Int) : hi4 c = c / 16 := by
 unfold hi4
 rw [show ((2 : Int) ^ (min (Int.toNat 4) 8)) = 16 from by decide, Int.fdiv_eq_ediv_of_nonneg _ (by omega)]
theorem lo4_all : ∀ c : Nat, c < 256 → lo4 (c : Int) = (c : Int) % 16 := by decide +kernel
theorem lo4_eq {c : Int} (h : 0 ≤ c ∧ c ≤ 255) : lo4 c = c % 16 := by
 obtain ⟨n, rfl⟩ : ∃ n : Nat, c = (n : Int) := ⟨c.toNat, by omega⟩
 exact lo4_all n (by omega)
def hexD (d : Nat → Int) (p : Nat) : Int := if p % 2 = 0 then byteAt hexS (hi4 (d (p / 2))) else byteAt hexS (lo4 (d (p / 2)))
theorem hex_step (d : Nat → Int) (i p : Nat) (hp : p < 2 * i + 2) : catF (2 * i) (u8els (hexD d)) (elsOf [L1 (.val (.int .u8 (byteAt hexS (hi4 (d i))))), L1 (.val (.int .u8 (byteAt hexS (lo4 (d i)))))]) p = u8els (hexD d) p := by
 unfold catF
 by_cases h : p < 2 * i
 ·rw [if_pos h]
 ·rw [if_neg h]
  show _ = L1 (.val (.int .u8 (hexD d p)))
  unfold hexD
  by_cases h2 : p = 2 * i
  ·subst h2
   rw [Nat.sub_self, if_pos (by omega), show 2 * i / 2 = i by omega]
   rfl
  ·obtain rfl : p = 2 * i + 1 := by omega
   rw [show 2 * i + 1 - 2 * i = 1 by omega, if_neg (by omega), show (2 * i + 1) / 2 = i by omega]
   rfl
theorem hex_ac (d : Nat → Int) (hd : ∀ i, 0 ≤ d i ∧ d i ≤ 255) : AC Tryz.prog 70 (L1 (digA d)) (S (strF 40 (hexD d))) := by
 refine AC.enter Tryz.func70 Tryz.ntmps70 rfl rfl rfl (fun F hX => ?_)
 repeat' (first | refine stp tab_ok rfl (by first | exact sideN | exact sideT (by omega)) ?_ | refine gT rfl rfl (by omega) ?_ | refine gF rfl rfl (by omega) ?_ | refine gNT rfl rfl (by omega) ?_ | refine gNF rfl rfl (by omega) ?_ | fail)
 refine good_adoptT 3 1000 5 1 (u8els (hexD d)) rfl rfl ?_
 refine good_rounds (fun i : Nat => [(6, digA d), (7, I i), (3, .own 1000)]) (fun i : Nat => [(1000, .row 5 1 (2 * i) (u8els (hexD d)))]) (fun i : Nat => 20 - i) (fun i : Nat => i ≤ 20) 0 (Nat.zero_le _) (Wk.mk ⟨Sub.of_eq rfl, Sub.of_eq rfl, Sub.of_eq rfl, trivial⟩ ⟨⟨_, rfl, SubO.refl _⟩, trivial⟩ rfl rfl (pin0 hX)) (fun i hi => ?_)
 by_cases hlt : i < 20
 ·repeat' (first | refine stp tab_ok rfl (by first | exact sideN | exact sideT (by omega)) ?_ | fail)
  refine gT rfl rfl (by omega) ?_
  iterate 6 (refine stp tab_ok rfl sideN ?_)
  refine good_by rfl (ok_idxAt 89 _ _ 20 5 (fun k => .val (.int .u8 (d k))) .i64 _ i _ _ rfl rfl rfl (tab_ok 89 _ rfl) rfl (tab_ok 5 _ rfl) rfl rfl hlt) rfl ?_
  have h1 := hd i
  have e1 := hi4_eq (d i)
  have e2 := lo4_eq h1
  have h2 : 0 ≤ hi4 (d i) ∧ hi4 (d i) < (hexS.size : Int) := by rw [e1]; show _ ∧ _ < (16 : Int); omega
  have h3 : 0 ≤ lo4 (d i) ∧ lo4 (d i) < (hexS.size : Int) := by rw [e2]; show _ ∧ _ < (16 : Int); omega
  repeat' (first | refine stp tab_ok rfl (by first | exact sideN | exact sideT (by omega)) ?_ | fail)
  refine dg_start ?_
  repeat' (first | refine dgp tab_ok rfl (by first | exact sideN | exact sideT (by omega)) ?_ | fail)
  refine dgp tab_ok rfl (sideT h2) ?_
  repeat' (first | refine dgp tab_ok rfl (by first | exact sideN | exact sideT (by omega)) ?_ | fail)
  refine dgp tab_ok rfl (sideT h3) ?_
  repeat' (first | refine dgp tab_ok rfl (by first | exact sideN | exact sideT (by omega)) ?_ | fail)
  refine dg_end mixed rfl ?_
  repeat' (first | refine stp tab_ok rfl (by first | exact sideN | exact sideT (by omega)) ?_ | refine gT rfl rfl (by omega) ?_ | refine gF rfl rfl (by omega) ?_ | refine gNT rfl rfl (by omega) ?_ | refine gNF rfl rfl (by omega) ?_ | fail)
  refine good_swap 18 1000 rfl (swap0 hX) ?_
  exact good_again (i + 1) (by omega) (by omega) (Wk.mk ⟨Sub.of_eq rfl, Sub.of_eq rfl, Sub.of_eq rfl, trivial⟩ ⟨⟨_, rfl, SubO.row (by omega) (fun p hp => hex_step d i p hp)⟩, trivial⟩ rfl rfl (pin0 hX))
 ·obtain rfl : i = 20 := by omega
  repeat' (first | refine stp tab_ok rfl (by first | exact sideN | exact sideT (by omega)) ?_ | fail)
  refine good_by rfl (ok_bytesStr _ _ _ 40 _ (hexD d) _ _ _ _ rfl (fun i hi => rfl) (tab_ok _ _ rfl) rfl (tab_ok _ _ rfl) rfl (tab_ok _ _ rfl) rfl) rfl ?_
  repeat' (first | refine stp tab_ok rfl (by first | exact sideN | exact sideT (by omega)) ?_ | refine gT rfl rfl (by omega) ?_ | refine gF rfl rfl (by omega) ?_ | refine gNT rfl rfl (by omega) ?_ | refine gNF rfl rfl (by omega) ?_ | refine gS rfl rfl (fun _ => ?_) (fun _ => ?_) | refine gNS rfl rfl (fun _ => ?_) (fun _ => ?_) | refine gBS rfl rfl (fun _ => ?_) (fun _ => ?_) | refine gBN rfl rfl (fun _ => ?_) (fun _ => ?_) | refine good_ret tab_ok hX rfl (Sub.of_eq ?_) | refine good_end tab_ok hX rfl (Sub.of_eq ?_) | fail)
  rfl
def unwB (h : Nat → Int) (k : Nat) : Int := IntKind.u8.wrap ((h (k / 4)).fdiv (2 ^ (min (24 - (k : Int) % 4 * 8).toNat 32)))
theorem unw_step (h : Nat → Int) (i : Nat) : alOf 20 (fun k => if k = i then AV.val (.int .u8 (IntKind.u8.wrap ((h (i / 4)).fdiv (2 ^ (min (24 - (i : Int) % 4 * 8).toNat 32))))) else .val (.int .u8 (if k < i then unwB h k else 0))) = alOf 20 (fun k => .val (.int .u8 (if k < i + 1 then unwB h k else 0))) := by
 refine alOf_congr fun k hk => ?_
 by_cases h : k = i
 ·subst h
  rw [if_pos rfl, if_pos (Nat.lt_succ_self _)]
  rfl
 ·rw [if_neg h]
  by_cases h2 : k < i
  ·rw [if_pos h2, if_pos (by omega)]
  ·rw [if_neg h2, if_neg (by omega)]
def hexT (h : Nat → Int) : ByteArray := strF 40 (hexD (unwB h))
def wordT (h : Nat → Int) (k : Nat) : ByteArray := (hexT h).extract (8 * k) (8 * k + 8)
def textL (h : Nat → Int) : List ByteArray := [wordT h 0, wordT h 1, wordT h 2, wordT h 3, wordT h 4]
def textH (h : Nat → Int) : ByteArray := ⟨(Lib.join ((textL h).map (·.data.toList)) blank1.data.toList).toArray⟩
def wEls (h : Nat → Int) (k : Nat) : Nat → AL := fun i => L1 (S (if i < k then wordT h i else ByteArray.empty))
theorem wEls_step (h : Nat → Int) (k j : Nat) : (if j = k then L1 (S (wordT h k)) else wEls h k j) = wEls h (k + 1) j := by
 unfold wEls
 by_cases e : j = k
 ·subst e
  rw [if_pos rfl, if_pos (Nat.lt_succ_self _)]
 ·rw [if_neg e]
  by_cases h2 : j < k
  ·rw [if_pos h2, if_pos (by omega)]
  ·rw [if_neg h2, if_neg (by omega)]
theorem wEls_all (h : Nat → Int) (i : Nat) (hi : i < 5) : wEls h 5 i = strEls (textL h) i := by
 have : i = 0 ∨ i = 1 ∨ i = 2 ∨ i = 3 ∨ i = 4 := by omega
 rcases this with rfl | rfl | rfl | rfl | rfl <;> rfl
theorem join5_len (a b c d e x : List UInt8) : (Lib.join [a, b, c, d, e] x).length = a.length + b.length + c.length + d.length + e.length + 4 * x.length := by
 unfold Lib.join List.intercalate
 simp [List.intersperse, List.flatten]
 omega
theorem textJ_len (h : Nat → Int) : (Lib.join ((textL h).map (·.data.toList)) blank1.data.toList).length ≤ 1000000000 := by
 have e : ∀ k, k < 5 → (wordT h k).data.toList.length = 8 := by
  intro k hk
  have h1 : (hexT h).size = 40 := strF_size _ _
  have h2 : (wordT h k).size = 8 := by
   unfold wordT
   rw [ByteArray.size_extract, h1]
   omega
  exact h2
 have e0 := e 0 (by omega)
 have e1 := e 1 (by omega)
 have e2 := e 2 (by omega)
 have e3 := e 3 (by omega)
 have e4 := e 4 (by omega)
 have hb : blank1.data.toList.length = 1 := rfl
 show (Lib.join [(wordT h 0).data.toList, (wordT h 1).data.toList, (wordT h 2).data.toList, (wordT h 3).data.toList, (wordT h 4).data.toList] blank1.data.toList).length ≤ _
 rw [join5_len, e0, e1, e2, e3, e4, hb]
 decide
theorem ntpText_ac (h : Nat → Int) : AC Tryz.prog 30 (L1 (hashA h)) (S (textH h)) := by
 refine AC.enter Tryz.func30 Tryz.ntmps30 rfl rfl rfl (fun F hX => ?_)
 repeat' (first | refine stp tab_ok rfl (by first | exact sideN | exact sideT (by omega)) ?_ | refine gT rfl rfl (by omega) ?_ | refine gF rfl rfl (by omega) ?_ | refine gNT rfl rfl (by omega) ?_ | refine gNF rfl rfl (by omega) ?_ | fail)
 refine good_rounds (fun i : Nat => [(8, I i), (1, .ptr 1 0), (3, .ptr 3 0)]) (fun i : Nat => [(3, .box 89 (alOf 20 (fun q => .val (.int .u8 (if q < i then unwB h q else 0))))), (1, .box 87 (alOf 5 (fun q => U4 (h q))))]) (fun i : Nat => 20 - i) (fun i : Nat => i ≤ 20) 0 (Nat.zero_le _) (Wk.mk ⟨Sub.of_eq rfl, Sub.of_eq rfl, Sub.of_eq rfl, trivial⟩ ⟨⟨_, rfl, SubO.refl _⟩, ⟨_, rfl, SubO.refl _⟩, trivial⟩ rfl rfl (pin0 hX)) (fun i hi => ?_)
 by_cases hlt : i < 20
 ·repeat' (first | refine stp tab_ok rfl (by first | exact sideN | exact sideT (by omega)) ?_ | refine gT rfl rfl (by omega) ?_ | refine gF rfl rfl (by omega) ?_ | refine gNT rfl rfl (by omega) ?_ | refine gNF rfl rfl (by omega) ?_ | fail)
  refine good_by rfl (ok_loadV 86 _ 1 _ (i / 4) 87 5 _ _ (U4 (h (i / 4))) rfl (show 0 + _ * 1 = _ by omega) rfl rfl (tab_ok 86 _ rfl) rfl rfl (by omega)) rfl ?_
  repeat' (first | refine stp tab_ok rfl (by first | exact sideN | exact sideT (by omega)) ?_ | refine gT rfl rfl (by omega) ?_ | refine gF rfl rfl (by omega) ?_ | refine gNT rfl rfl (by omega) ?_ | refine gNF rfl rfl (by omega) ?_ | fail)
  refine good_by rfl (ok_convInt 86 5 _ .u8 .u32 _ _ _ rfl (tab_ok 86 _ rfl) rfl (tab_ok 5 _ rfl) rfl) rfl ?_
  repeat' (first | refine stp tab_ok rfl (by first | exact sideN | exact sideT (by omega)) ?_ | refine gT rfl rfl (by omega) ?_ | refine gF rfl rfl (by omega) ?_ | refine gNT rfl rfl (by omega) ?_ | refine gNF rfl rfl (by omega) ?_ | fail)
  refine good_by rfl (ok_storeAt 5 _ _ 3 _ i 89 20 _ _ _ rfl (show 0 + _ * 1 = _ by omega) rfl rfl rfl rfl (tab_ok 5 _ rfl) rfl (by omega)) rfl ?_
  repeat' (first | refine stp tab_ok rfl (by first | exact sideN | exact sideT (by omega)) ?_ | refine gT rfl rfl (by omega) ?_ | refine gF rfl rfl (by omega) ?_ | refine gNT rfl rfl (by omega) ?_ | refine gNF rfl rfl (by omega) ?_ | fail)
  exact good_again (i + 1) (by omega) (by omega) (Wk.mk ⟨Sub.of_eq rfl, Sub.of_eq rfl, Sub.of_eq rfl, trivial⟩ ⟨⟨_, rfl, SubO.box (subL_of (unw_step h i))⟩, ⟨_, rfl, SubO.refl _⟩, trivial⟩ rfl rfl (pin0 hX))
 ·obtain rfl : i = 20 := by omega
  have h40 : (hexT h).size = 40 := strF_size _ _
  repeat' (first | refine stp tab_ok rfl (by first | exact sideN | exact sideT (by omega)) ?_ | refine gT rfl rfl (by omega) ?_ | refine gF rfl rfl (by omega) ?_ | refine gNT rfl rfl (by omega) ?_ | refine gNF rfl rfl (by omega) ?_ | fail)
  refine good_call rfl rfl rfl rfl rfl ent70 (hex_ac (unwB h) (fun i => wrap8_bd _)) rfl ?_
  rw [show strF 40 (hexD (unwB h)) = hexT h from rfl]
  repeat' (first | refine stp tab_ok rfl (by first | exact sideN | exact sideT (by omega)) ?_ | refine gT rfl rfl (by omega) ?_ | refine gF rfl rfl (by omega) ?_ | refine gNT rfl rfl (by omega) ?_ | refine gNF rfl rfl (by omega) ?_ | fail)
  refine good_rounds (fun k : Nat => [(6, .own 26), (28, I 5), (29, I k), (5, S (hexT h))]) (fun k : Nat => [(26, .row 9 1 5 (wEls h k))]) (fun k : Nat => 5 - k) (fun k : Nat => k ≤ 5) 0 (Nat.zero_le _) (Wk.mk ⟨Sub.of_eq rfl, Sub.of_eq rfl, Sub.of_eq rfl, Sub.of_eq rfl, trivial⟩ ⟨⟨_, rfl, SubO.row rfl (fun i hi => rfl)⟩, trivial⟩ rfl rfl (pin0 hX)) (fun k hk => ?_)
  by_cases hlt : k < 5
  ·repeat' (first | refine stp tab_ok rfl (by first | exact sideN | exact sideT (by omega)) ?_ | refine gT rfl rfl (by omega) ?_ | refine gF rfl rfl (by omega) ?_ | refine gNT rfl rfl (by omega) ?_ | refine gNF rfl rfl (by omega) ?_ | fail)
   rw [show ((8 : Int) * (k : Int)).toNat = 8 * k by omega, show ((8 : Int) * (k : Int) + 8).toNat = 8 * k + 8 by omega]
   repeat' (first | refine stp tab_ok rfl (by first | exact sideN | exact sideT (by omega)) ?_ | refine gT rfl rfl (by omega) ?_ | refine gF rfl rfl (by omega) ?_ | refine gNT rfl rfl (by omega) ?_ | refine gNF rfl rfl (by omega) ?_ | fail)
   exact good_again (k + 1) (by omega) (by omega) (Wk.mk ⟨Sub.of_eq rfl, Sub.of_eq rfl, Sub.of_eq rfl, Sub.of_eq rfl, trivial⟩ ⟨⟨_, rfl, SubO.row rfl (fun j hj => wEls_step h k j)⟩, trivial⟩ rfl rfl (pin0 hX))
  ·obtain rfl : k = 5 := by omega
   repeat' (first | refine stp tab_ok rfl (by first | exact sideN | exact sideT (by omega)) ?_ | refine gT rfl rfl (by omega) ?_ | refine gF rfl rfl (by omega) ?_ | refine gNT rfl rfl (by omega) ?_ | refine gNF rfl rfl (by omega) ?_ | fail)
   refine good_freeze 26 rfl ?_
   refine good_call rfl rfl rfl rfl rfl ent71 (join_ac (textL h) blank1 5 (wEls h 5) rfl (wEls_all h) (textJ_len h) (by show 5 ≤ _; decide)) rfl ?_
   repeat' (first | refine stp tab_ok rfl (by first | exact sideN | exact sideT (by omega)) ?_ | refine gT rfl rfl (by omega) ?_ | refine gF rfl rfl (by omega) ?_ | refine gNT rfl rfl (by omega) ?_ | refine gNF rfl rfl (by omega) ?_ | refine gS rfl rfl (fun _ => ?_) (fun _ => ?_) | refine gNS rfl rfl (fun _ => ?_) (fun _ => ?_) | refine gBS rfl rfl (fun _ => ?_) (fun _ => ?_) | refine gBN rfl rfl (fun _ => ?_) (fun _ => ?_) | refine good_ret tab_ok hX rfl (Sub.of_eq ?_) | refine good_end tab_ok hX rfl (Sub.of_eq ?_) | fail)
   rfl
end Go.Proofs.YthjldemjipnmdaaGreatDoor.Sx
namespace Go.Proofs.YthjldemjipnmdaaGreatDoor.Sx
open Go.RowKit
set_option maxRecDepth 100000
theorem wordsR_size (s t : ByteArray) (n : Nat) : ∀ (f pos : Nat) (from_ : Int) (out : List ByteArray), out.length ≤ n → (∀ p ∈ out, p.size ≤ s.size) → (wordsR s t f pos from_ out).length ≤ n + f ∧ ∀ p ∈ wordsR s t f pos from_ out, p.size ≤ s.size
 | 0, _, _, out, h1, h2 => ⟨by unfold wordsR; omega, by unfold wordsR; exact h2⟩
 | f + 1, pos, from_, out, h1, h2 => by
  unfold wordsR
  split
  ·split
   ·have h3 : (out ++ [s.extract from_.toNat pos]).length ≤ n + 1 := by simp; omega
    have h4 : ∀ p ∈ out ++ [s.extract from_.toNat pos], p.size ≤ s.size := fun p hp => by
     rcases List.mem_append.1 hp with hp | hp
     ·exact h2 p hp
     ·rw [List.mem_singleton.1 hp, ByteArray.size_extract]; omega
    have := wordsR_size s t (n + 1) f (pos + (Utf8.decode t pos).2) (-1) _ h3 h4
    exact ⟨by omega, this.2⟩
   ·have := wordsR_size s t n f (pos + (Utf8.decode t pos).2) from_ out h1 h2; exact ⟨by omega, this.2⟩
   ·have := wordsR_size s t n f (pos + (Utf8.decode t pos).2) from_ out h1 h2; exact ⟨by omega, this.2⟩
   ·have := wordsR_size s t n f (pos + (Utf8.decode t pos).2) pos out h1 h2; exact ⟨by omega, this.2⟩
  ·exact ⟨by omega, h2⟩
theorem words_size (s : ByteArray) (hs : s.size ≤ 1000000) : (wordsF s).length ≤ 1000001 ∧ ∀ p ∈ wordsF s, p.size ≤ 1000000 := by
 have := wordsR_size s (s ++ blank1) 0 (s.size + 1) 0 (-1) [] (Nat.le_refl _) (fun p hp => by cases hp)
 unfold wordsF
 exact ⟨by omega, fun p hp => Nat.le_trans (this.2 p hp) hs⟩
structure LRow where
 kind : ByteArray
 words : List ByteArray
 nums : List Int
 right : Bool
def intEls (xs : List Int) : Nat → AL := fun i => L1 (I (xs.getD i 0))
abbrev strA (xs : List ByteArray) : AV := .im 1 xs.length (strEls xs)
abbrev intA (xs : List Int) : AV := .im 1 xs.length (intEls xs)
def rowL (r : LRow) : AL := L4 (S r.kind) (strA r.words) (intA r.nums) (B r.right)
def wNum (w : ByteArray) : Int := (numR (numN w)).1
def wOk (w : ByteArray) : Bool := (numR (numN w)).2
def okK (ws : List ByteArray) : Nat → Bool
 | 0 => true
 | k + 1 => okK ws k && wOk (ws.getD k ByteArray.empty)
def numbersF (kind s : ByteArray) (many : Nat) : LRow := match okK (wordsF s) (wordsF s).length && decide ((wordsF s).length = many) with
 | true => ⟨kind, wordsF s, (wordsF s).map wNum, true⟩
 | false => ⟨kind, [], (wordsF s).map wNum, false⟩
theorem intEls_app (xs : List Int) (x : Int) (n : Nat) (els : Nat → AL) (he : els 0 = L1 (I x)) (hn : n = xs.length) : ∀ i, i < n + 1 → catF n (intEls xs) els i = intEls (xs ++ [x]) i := by
 intro i hi
 subst hn
 unfold catF intEls
 by_cases h : i < xs.length
 ·rw [if_pos h]
  simp only [List.getD]
  rw [List.getElem?_append_left h]
 ·rw [if_neg h]
  obtain rfl : i = xs.length := by omega
  rw [Nat.sub_self, he]
  simp [List.getD]
theorem take_succ_map (ws : List ByteArray) (k : Nat) (hk : k < ws.length) : ((ws.map wNum).take k) ++ [wNum (ws.getD k ByteArray.empty)] = (ws.map wNum).take (k + 1) := by
 rw [List.take_add_one, List.getElem?_map]
 simp [List.getD, hk]
theorem numbers_ac (kind s : ByteArray) (many : Nat) (hs : s.size ≤ 1000000) : AC Tryz.prog 145 (L3 (S kind) (S s) (I many)) (.agg (rowL (numbersF kind s many))) := by
 have hw := words_ac s hs
 have hws := words_size s hs
 unfold numbersF
 generalize wordsF s = ws at *
 refine AC.enter Tryz.func145 Tryz.ntmps145 rfl rfl rfl (fun F hX => ?_)
 repeat' (first | refine stp tab_ok rfl (by first | exact sideN | exact sideT (by omega)) ?_ | refine gT rfl rfl (by omega) ?_ | refine gF rfl rfl (by omega) ?_ | refine gNT rfl rfl (by omega) ?_ | refine gNF rfl rfl (by omega) ?_ | fail)
 refine good_call rfl rfl rfl rfl rfl ent52 (hw) rfl ?_
 repeat' (first | refine stp tab_ok rfl (by first | exact sideN | exact sideT (by omega)) ?_ | refine gT rfl rfl (by omega) ?_ | refine gF rfl rfl (by omega) ?_ | refine gNT rfl rfl (by omega) ?_ | refine gNF rfl rfl (by omega) ?_ | fail)
 refine good_adoptB 7 2 1000 3 1 (intEls []) rfl rfl rfl rfl ?_
 refine good_rounds (fun k : Nat => [(17, strA ws), (18, I ws.length), (19, I k), (7, .ptr 7 0), (2, I many), (6, .ptr 6 0)]) (fun k : Nat => [(7, .box 110 (L4 (S kind) (strA ws) (.own 1000) (B (okK ws k)))), (1000, .row 3 1 k (intEls ((ws.map wNum).take k))), (6, .box 110 (L4 (S ByteArray.empty) (.val (.slice none 0 0)) (.val (.slice none 0 0)) (B false)))]) (fun k : Nat => ws.length - k) (fun k : Nat => k ≤ ws.length) 0 (Nat.zero_le _) (Wk.mk ⟨Sub.of_eq rfl, Sub.of_eq rfl, Sub.of_eq rfl, Sub.of_eq rfl, Sub.of_eq rfl, Sub.of_eq rfl, trivial⟩ ⟨⟨_, rfl, SubO.refl _⟩, ⟨_, rfl, SubO.refl _⟩, ⟨_, rfl, SubO.refl _⟩, trivial⟩ rfl rfl (pin0 hX)) (fun k hk => ?_)
 by_cases hlt : k < ws.length
 ·have hsz := hws.2 (ws.getD k ByteArray.empty) (getD_mem hlt)
  have hl := hws.1
  repeat' (first | refine stp tab_ok rfl (by first | exact sideN | exact sideT (by omega)) ?_ | refine gT rfl rfl (by omega) ?_ | refine gF rfl rfl (by omega) ?_ | refine gNT rfl rfl (by omega) ?_ | refine gNF rfl rfl (by omega) ?_ | fail)
  simp only [Int.toNat_natCast]
  repeat' (first | refine stp tab_ok rfl (by first | exact sideN | exact sideT (by omega)) ?_ | refine gT rfl rfl (by omega) ?_ | refine gF rfl rfl (by omega) ?_ | refine gNT rfl rfl (by omega) ?_ | refine gNF rfl rfl (by omega) ?_ | fail)
  refine good_call rfl rfl rfl rfl rfl ent194 (lnum_ac (ws.getD k ByteArray.empty) (by omega)) rfl ?_
  have hels : ∀ j, j < k + 1 → catF k (intEls ((ws.map wNum).take k)) (elsOf [L1 (I (wNum (ws.getD k ByteArray.empty)))]) j = intEls ((ws.map wNum).take (k + 1)) j := fun j hj => by
   rw [intEls_app _ (wNum (ws.getD k ByteArray.empty)) k _ rfl (by rw [List.length_take, List.length_map]; omega) j hj, take_succ_map ws k hlt]
  cases hok : okK ws k with
  | true =>
   have e2 : okK ws (k + 1) = wOk (ws.getD k ByteArray.empty) := by unfold okK; rw [hok, Bool.true_and]
   repeat' (first | refine stp tab_ok rfl (by first | exact sideN | exact sideT (by omega)) ?_ | refine dg_start ?_ | refine dgp tab_ok rfl (by first | exact sideN | exact sideT (by omega)) ?_ | refine dg_end mixed rfl ?_ | fail)
   repeat' (first | refine stp tab_ok rfl (by first | exact sideN | exact sideT (by omega)) ?_ | refine gT rfl rfl (by omega) ?_ | refine gF rfl rfl (by omega) ?_ | refine gNT rfl rfl (by omega) ?_ | refine gNF rfl rfl (by omega) ?_ | fail)
   refine good_swap 32 1000 rfl (swap0 hX) ?_
   exact good_again (k + 1) (by omega) (by omega) (Wk.mk ⟨Sub.of_eq rfl, Sub.of_eq rfl, Sub.of_eq rfl, Sub.of_eq rfl, Sub.of_eq rfl, Sub.of_eq rfl, trivial⟩ ⟨⟨_, rfl, SubO.box (subL_of (by rw [e2]; rfl))⟩, ⟨_, rfl, SubO.row rfl (fun j hj => hels j hj)⟩, ⟨_, rfl, SubO.refl _⟩, trivial⟩ rfl rfl (pin0 hX))
  | false =>
   have e2 : okK ws (k + 1) = false := by unfold okK; rw [hok, Bool.false_and]
   repeat' (first | refine stp tab_ok rfl (by first | exact sideN | exact sideT (by omega)) ?_ | refine dg_start ?_ | refine dgp tab_ok rfl (by first | exact sideN | exact sideT (by omega)) ?_ | refine dg_end mixed rfl ?_ | fail)
   repeat' (first | refine stp tab_ok rfl (by first | exact sideN | exact sideT (by omega)) ?_ | refine gT rfl rfl (by omega) ?_ | refine gF rfl rfl (by omega) ?_ | refine gNT rfl rfl (by omega) ?_ | refine gNF rfl rfl (by omega) ?_ | fail)
   refine good_swap 32 1000 rfl (swap0 hX) ?_
   exact good_again (k + 1) (by omega) (by omega) (Wk.mk ⟨Sub.of_eq rfl, Sub.of_eq rfl, Sub.of_eq rfl, Sub.of_eq rfl, Sub.of_eq rfl, Sub.of_eq rfl, trivial⟩ ⟨⟨_, rfl, SubO.box (subL_of (by rw [e2]; rfl))⟩, ⟨_, rfl, SubO.row rfl (fun j hj => hels j hj)⟩, ⟨_, rfl, SubO.refl _⟩, trivial⟩ rfl rfl (pin0 hX))
 ·obtain rfl : k = ws.length := by omega
  have hnum : Sub (.im 1 ws.length (intEls ((ws.map wNum).take ws.length))) (intA (ws.map wNum)) := Sub.im (by rw [List.length_map]) (fun i hi => by rw [List.take_of_length_le (by rw [List.length_map]; exact Nat.le_refl _)])
  cases hok : okK ws ws.length with
  | true =>
   by_cases hmm : ws.length = many
   ·rw [decide_eq_true hmm]
    repeat' (first | refine stp tab_ok rfl (by first | exact sideN | exact sideT (by omega)) ?_ | refine gT rfl rfl (by omega) ?_ | refine gF rfl rfl (by omega) ?_ | refine gNT rfl rfl (by omega) ?_ | refine gNF rfl rfl (by omega) ?_ | fail)
    repeat' (first | refine stp tab_ok rfl (by first | exact sideN | exact sideT (by omega)) ?_ | refine dg_start ?_ | refine dgp tab_ok rfl (by first | exact sideN | exact sideT (by omega)) ?_ | refine dg_end mixed rfl ?_ | fail)
    repeat' (first | refine stp tab_ok rfl (by first | exact sideN | exact sideT (by omega)) ?_ | refine gT rfl rfl (by omega) ?_ | refine gF rfl rfl (by omega) ?_ | refine gNT rfl rfl (by omega) ?_ | refine gNF rfl rfl (by omega) ?_ | fail)
    exact good_ret tab_ok hX rfl (Sub.agg (SubL.cons (Sub.refl _) (SubL.cons (Sub.refl _) (SubL.cons hnum (SubL.cons (Sub.of_eq (congrArg (fun b => B b) (decide_eq_true (by omega)))) (SubL.refl _))))))
   ·rw [decide_eq_false hmm]
    repeat' (first | refine stp tab_ok rfl (by first | exact sideN | exact sideT (by omega)) ?_ | refine gT rfl rfl (by omega) ?_ | refine gF rfl rfl (by omega) ?_ | refine gNT rfl rfl (by omega) ?_ | refine gNF rfl rfl (by omega) ?_ | fail)
    repeat' (first | refine stp tab_ok rfl (by first | exact sideN | exact sideT (by omega)) ?_ | refine dg_start ?_ | refine dgp tab_ok rfl (by first | exact sideN | exact sideT (by omega)) ?_ | refine dg_end mixed rfl ?_ | fail)
    repeat' (first | refine stp tab_ok rfl (by first | exact sideN | exact sideT (by omega)) ?_ | refine gT rfl rfl (by omega) ?_ | refine gF rfl rfl (by omega) ?_ | refine gNT rfl rfl (by omega) ?_ | refine gNF rfl rfl (by omega) ?_ | fail)
    exact good_ret tab_ok hX rfl (Sub.agg (SubL.cons (Sub.refl _) (SubL.cons Sub.nilIm (SubL.cons hnum (SubL.cons (Sub.of_eq (congrArg (fun b => B b) (decide_eq_false (by omega)))) (SubL.refl _))))))
  | false =>
   repeat' (first | refine stp tab_ok rfl (by first | exact sideN | exact sideT (by omega)) ?_ | refine gT rfl rfl (by omega) ?_ | refine gF rfl rfl (by omega) ?_ | refine gNT rfl rfl (by omega) ?_ | refine gNF rfl rfl (by omega) ?_ | fail)
   repeat' (first | refine stp tab_ok rfl (by first | exact sideN | exact sideT (by omega)) ?_ | refine dg_start ?_ | refine dgp tab_ok rfl (by first | exact sideN | exact sideT (by omega)) ?_ | refine dg_end mixed rfl ?_ | fail)
   repeat' (first | refine stp tab_ok rfl (by first | exact sideN | exact sideT (by omega)) ?_ | refine gT rfl rfl (by omega) ?_ | refine gF rfl rfl (by omega) ?_ | refine gNT rfl rfl (by omega) ?_ | refine gNF rfl rfl (by omega) ?_ | fail)
   exact good_ret tab_ok hX rfl (Sub.agg (SubL.cons (Sub.refl _) (SubL.cons Sub.nilIm (SubL.cons hnum (SubL.cons (Sub.of_eq (congrArg (fun b => B b) rfl)) (SubL.refl _))))))
end Go.Proofs.YthjldemjipnmdaaGreatDoor.Sx
namespace Go.Proofs.YthjldemjipnmdaaGreatDoor.Sx
open Go.RowKit
set_option maxRecDepth 100000
def kStamp : ByteArray := ⟨#[35, 36]⟩
def kExp : ByteArray := ⟨#[35, 64]⟩
def kHash : ByteArray := ⟨#[35, 104]⟩
def kRem : ByteArray := ⟨#[35]⟩
def kData : ByteArray := ⟨#[]⟩
def remRow : LRow := ⟨kRem, [], [], true⟩
def kindOf (s : ByteArray) : ByteArray := s.extract 0 (min 2 s.size)
def restOf (s : ByteArray) : ByteArray := s.extract 2 s.size
def cutRem (s : ByteArray) : ByteArray := ⟨(Lib.cut s.data.toList kRem.data.toList).1.toArray⟩
def readF (s : ByteArray) : LRow :=
 if (wordsF s).length = 0 then remRow
 else if kindOf s = kStamp then numbersF kStamp (restOf s) 1
 else if kindOf s = kExp then numbersF kExp (restOf s) 1
 else if kindOf s = kHash then ⟨kHash, [], [], (hashV (restOf s)).2⟩
 else if Lib.hasPrefix ((wordsF s).getD 0 ByteArray.empty).data.toList kRem.data.toList = true then remRow
 else numbersF kData (cutRem s) 2
theorem cut1_le (l p : List UInt8) : (Lib.cut l p).1.length ≤ l.length := by
 unfold Lib.cut
 split
 ·rw [List.length_take]
  omega
 ·exact Nat.le_refl _
theorem kind2 {s k : ByteArray} (h : kindOf s = k) (hk : k.size = 2) : 2 ≤ s.size := by
 have := congrArg ByteArray.size h
 unfold kindOf at this
 rw [ByteArray.size_extract, hk] at this
 omega
theorem rem_sub : Sub (.agg (L4 (S kRem) (.val (.slice none 0 0)) (.val (.slice none 0 0)) (B true))) (.agg (rowL remRow)) := Sub.agg (SubL.cons (Sub.refl _) (SubL.cons Sub.nilIm (SubL.cons Sub.nilIm (SubL.refl _))))
theorem hash_sub (b : Bool) : Sub (.agg (L4 (S kHash) (.val (.slice none 0 0)) (.val (.slice none 0 0)) (B b))) (.agg (rowL ⟨kHash, [], [], b⟩)) := Sub.agg (SubL.cons (Sub.refl _) (SubL.cons Sub.nilIm (SubL.cons Sub.nilIm (SubL.refl _))))
set_option maxHeartbeats 2000000 in
theorem read_ac (s : ByteArray) (hs : s.size ≤ 1000000) : AC Tryz.prog 94 (L1 (S s)) (.agg (rowL (readF s))) := by
 have hw := words_ac s hs
 have hrs : (restOf s).size ≤ 1000000 := by unfold restOf; rw [ByteArray.size_extract]; omega
 have hcs : (cutRem s).size ≤ 1000000 := Nat.le_trans (cut1_le _ _) hs
 unfold readF
 generalize hws : wordsF s = ws at *
 refine AC.enter Tryz.func94 Tryz.ntmps94 rfl rfl rfl (fun F hX => ?_)
 repeat' (first | refine stp tab_ok rfl (by first | exact sideN | exact sideT (by omega)) ?_ | refine gT rfl rfl (by omega) ?_ | refine gF rfl rfl (by omega) ?_ | refine gNT rfl rfl (by omega) ?_ | refine gNF rfl rfl (by omega) ?_ | fail)
 refine good_call rfl rfl rfl rfl rfl ent52 (hw) rfl ?_
 repeat' (first | refine stp tab_ok rfl (by first | exact sideN | exact sideT (by omega)) ?_ | refine gT rfl rfl (by omega) ?_ | refine gF rfl rfl (by omega) ?_ | refine gNT rfl rfl (by omega) ?_ | refine gNF rfl rfl (by omega) ?_ | fail)
 by_cases h0 : ws.length = 0
 ·rw [if_pos h0]
  repeat' (first | refine stp tab_ok rfl (by first | exact sideN | exact sideT (by omega)) ?_ | refine gT rfl rfl (by omega) ?_ | refine gF rfl rfl (by omega) ?_ | refine gNT rfl rfl (by omega) ?_ | refine gNF rfl rfl (by omega) ?_ | fail)
  exact good_ret tab_ok hX rfl rem_sub
 ·rw [if_neg h0]
  repeat' (first | refine stp tab_ok rfl (by first | exact sideN | exact sideT (by omega)) ?_ | refine gT rfl rfl (by omega) ?_ | refine gF rfl rfl (by omega) ?_ | refine gNT rfl rfl (by omega) ?_ | refine gNF rfl rfl (by omega) ?_ | fail)
  rw [show (min (2 : Int) (s.size : Int)).toNat = min 2 s.size by omega, show s.extract (Int.toNat 0) (min 2 s.size) = kindOf s from rfl]
  repeat' (first | refine stp tab_ok rfl (by first | exact sideN | exact sideT (by omega)) ?_ | fail)
  by_cases h1 : kindOf s = kStamp
  ·have h2 := kind2 h1 rfl
   rw [h1, if_pos rfl]
   repeat' (first | refine stp tab_ok rfl (by first | exact sideN | exact sideT (by omega)) ?_ | refine gT rfl rfl (by omega) ?_ | refine gF rfl rfl (by omega) ?_ | refine gNT rfl rfl (by omega) ?_ | refine gNF rfl rfl (by omega) ?_ | fail)
   refine good_call rfl rfl rfl rfl rfl ent145 (numbers_ac kStamp (restOf s) 1 hrs) rfl ?_
   repeat' (first | refine stp tab_ok rfl (by first | exact sideN | exact sideT (by omega)) ?_ | refine gT rfl rfl (by omega) ?_ | refine gF rfl rfl (by omega) ?_ | refine gNT rfl rfl (by omega) ?_ | refine gNF rfl rfl (by omega) ?_ | fail)
   exact good_ret tab_ok hX rfl (Sub.refl _)
  ·rw [if_neg h1]
   refine gF rfl rfl h1 ?_
   repeat' (first | refine stp tab_ok rfl (by first | exact sideN | exact sideT (by omega)) ?_ | fail)
   by_cases h2 : kindOf s = kExp
   ·have h3 := kind2 h2 rfl
    rw [h2, if_pos rfl]
    repeat' (first | refine stp tab_ok rfl (by first | exact sideN | exact sideT (by omega)) ?_ | refine gT rfl rfl (by omega) ?_ | refine gF rfl rfl (by omega) ?_ | refine gNT rfl rfl (by omega) ?_ | refine gNF rfl rfl (by omega) ?_ | fail)
    refine good_call rfl rfl rfl rfl rfl ent145 (numbers_ac kExp (restOf s) 1 hrs) rfl ?_
    repeat' (first | refine stp tab_ok rfl (by first | exact sideN | exact sideT (by omega)) ?_ | refine gT rfl rfl (by omega) ?_ | refine gF rfl rfl (by omega) ?_ | refine gNT rfl rfl (by omega) ?_ | refine gNF rfl rfl (by omega) ?_ | fail)
    exact good_ret tab_ok hX rfl (Sub.refl _)
   ·rw [if_neg h2]
    refine gF rfl rfl h2 ?_
    repeat' (first | refine stp tab_ok rfl (by first | exact sideN | exact sideT (by omega)) ?_ | fail)
    by_cases h3 : kindOf s = kHash
    ·have h4 := kind2 h3 rfl
     rw [h3, if_pos rfl]
     repeat' (first | refine stp tab_ok rfl (by first | exact sideN | exact sideT (by omega)) ?_ | refine gT rfl rfl (by omega) ?_ | refine gF rfl rfl (by omega) ?_ | refine gNT rfl rfl (by omega) ?_ | refine gNF rfl rfl (by omega) ?_ | fail)
     refine good_call rfl rfl rfl rfl rfl ent48 (hash_ac (restOf s) hrs) rfl ?_
     repeat' (first | refine stp tab_ok rfl (by first | exact sideN | exact sideT (by omega)) ?_ | refine gT rfl rfl (by omega) ?_ | refine gF rfl rfl (by omega) ?_ | refine gNT rfl rfl (by omega) ?_ | refine gNF rfl rfl (by omega) ?_ | fail)
     exact good_ret tab_ok hX rfl (hash_sub _)
    ·rw [if_neg h3]
     refine gF rfl rfl h3 ?_
     repeat' (first | refine stp tab_ok rfl (by first | exact sideN | exact sideT (by omega)) ?_ | refine gT rfl rfl (by omega) ?_ | refine gF rfl rfl (by omega) ?_ | refine gNT rfl rfl (by omega) ?_ | refine gNF rfl rfl (by omega) ?_ | fail)
     refine good_call rfl rfl rfl rfl rfl ent146 (hasPrefix_ac (ws.getD 0 ByteArray.empty) kRem) rfl ?_
     cases hp : Lib.hasPrefix (ws.getD 0 ByteArray.empty).data.toList kRem.data.toList with
     | true =>
      rw [if_pos rfl]
      repeat' (first | refine stp tab_ok rfl (by first | exact sideN | exact sideT (by omega)) ?_ | refine gT rfl rfl (by omega) ?_ | refine gF rfl rfl (by omega) ?_ | refine gNT rfl rfl (by omega) ?_ | refine gNF rfl rfl (by omega) ?_ | fail)
      exact good_ret tab_ok hX rfl rem_sub
     | false =>
      rw [if_neg (by decide)]
      repeat' (first | refine stp tab_ok rfl (by first | exact sideN | exact sideT (by omega)) ?_ | refine gT rfl rfl (by omega) ?_ | refine gF rfl rfl (by omega) ?_ | refine gNT rfl rfl (by omega) ?_ | refine gNF rfl rfl (by omega) ?_ | fail)
      refine good_call rfl rfl rfl rfl rfl ent51 (cut_ac s kRem (by omega)) rfl ?_
      rw [show (⟨(Lib.cut s.data.toList kRem.data.toList).1.toArray⟩ : ByteArray) = cutRem s from rfl]
      repeat' (first | refine stp tab_ok rfl (by first | exact sideN | exact sideT (by omega)) ?_ | refine gT rfl rfl (by omega) ?_ | refine gF rfl rfl (by omega) ?_ | refine gNT rfl rfl (by omega) ?_ | refine gNF rfl rfl (by omega) ?_ | fail)
      refine good_call rfl rfl rfl rfl rfl ent145 (numbers_ac kData (cutRem s) 2 hcs) rfl ?_
      repeat' (first | refine stp tab_ok rfl (by first | exact sideN | exact sideT (by omega)) ?_ | refine gT rfl rfl (by omega) ?_ | refine gF rfl rfl (by omega) ?_ | refine gNT rfl rfl (by omega) ?_ | refine gNF rfl rfl (by omega) ?_ | fail)
      exact good_ret tab_ok hX rfl (Sub.refl _)
def rowsF (s : ByteArray) : List LRow := (splitF s).map readF
def row0 : LRow := ⟨kData, [], [], false⟩
def rowEls (l : List LRow) : Nat → AL := fun i => rowL (l.getD i row0)
abbrev rowsA (l : List LRow) : AV := .im 4 l.length (rowEls l)
theorem split_size (s : ByteArray) : (splitF s).length ≤ s.size + 1 ∧ ∀ p ∈ splitF s, p.size ≤ s.size := by
 have hle := Lib.countB_le lf1 (by decide) s.size s (Nat.le_refl _)
 have hlen := pieces_len s
 have ht : ∀ q : ByteArray, (trimS q).size ≤ q.size := fun q => by
  unfold trimS Lib.trimSuffix
  show (ite _ _ _ : List UInt8).length ≤ _
  split
  ·rw [List.length_take]
   show _ ≤ q.data.toList.length
   omega
  ·exact Nat.le_refl _
 have hm : ∀ p ∈ (piecesF s).map trimS, p.size ≤ s.size := fun p hp => by
  obtain ⟨q, hq, rfl⟩ := List.mem_map.1 hp
  exact Nat.le_trans (ht q) (splitB_size lf1 _ s q hq)
 unfold splitF
 split
 ·refine ⟨by rw [List.length_map, List.length_take]; omega, fun p hp => ?_⟩
  obtain ⟨q, hq, rfl⟩ := List.mem_map.1 hp
  exact Nat.le_trans (ht q) (splitB_size lf1 _ s q (List.mem_of_mem_take hq))
 ·exact ⟨by rw [List.length_map]; omega, hm⟩
theorem rowEls_step (l : List ByteArray) (k j : Nat) (hk : k < l.length) (hj : j < k + 1) : catF k (rowEls (l.map readF)) (elsOf [rowL (readF (l.getD k ByteArray.empty))]) j = rowEls (l.map readF) j := by
 unfold catF
 by_cases h : j < k
 ·rw [if_pos h]
 ·rw [if_neg h]
  obtain rfl : j = k := by omega
  rw [Nat.sub_self]
  unfold rowEls
  simp [List.getD, hk, elsOf]
theorem rows_ac (s : ByteArray) (hs : s.size ≤ 900000) : AC Tryz.prog 45 (L1 (S s)) (rowsA (rowsF s)) := by
 have hsp := split_ac s (by omega)
 have hss := split_size s
 unfold rowsF
 generalize splitF s = l at *
 refine AC.enter Tryz.func45 Tryz.ntmps45 rfl rfl rfl (fun F hX => ?_)
 repeat' (first | refine stp tab_ok rfl (by first | exact sideN | exact sideT (by omega)) ?_ | refine gT rfl rfl (by omega) ?_ | refine gF rfl rfl (by omega) ?_ | refine gNT rfl rfl (by omega) ?_ | refine gNF rfl rfl (by omega) ?_ | fail)
 refine good_call rfl rfl rfl rfl rfl ent49 (hsp) rfl ?_
 repeat' (first | refine stp tab_ok rfl (by first | exact sideN | exact sideT (by omega)) ?_ | refine gT rfl rfl (by omega) ?_ | refine gF rfl rfl (by omega) ?_ | refine gNT rfl rfl (by omega) ?_ | refine gNF rfl rfl (by omega) ?_ | fail)
 refine good_adoptT 2 1000 110 4 (rowEls (l.map readF)) rfl rfl ?_
 refine good_rounds (fun k : Nat => [(2, .own 1000), (6, strA l), (7, I l.length), (8, I k)]) (fun k : Nat => [(1000, .row 110 4 k (rowEls (l.map readF)))]) (fun k : Nat => l.length - k) (fun k : Nat => k ≤ l.length) 0 (Nat.zero_le _) (Wk.mk ⟨Sub.of_eq rfl, Sub.of_eq rfl, Sub.of_eq rfl, Sub.of_eq rfl, trivial⟩ ⟨⟨_, rfl, SubO.refl _⟩, trivial⟩ rfl rfl (pin0 hX)) (fun k hk => ?_)
 by_cases hlt : k < l.length
 ·have hb := hss.2 _ (getD_mem hlt)
  have hl := hss.1
  repeat' (first | refine stp tab_ok rfl (by first | exact sideN | exact sideT (by omega)) ?_ | refine gT rfl rfl (by omega) ?_ | refine gF rfl rfl (by omega) ?_ | refine gNT rfl rfl (by omega) ?_ | refine gNF rfl rfl (by omega) ?_ | fail)
  simp only [Int.toNat_natCast]
  repeat' (first | refine stp tab_ok rfl (by first | exact sideN | exact sideT (by omega)) ?_ | refine gT rfl rfl (by omega) ?_ | refine gF rfl rfl (by omega) ?_ | refine gNT rfl rfl (by omega) ?_ | refine gNF rfl rfl (by omega) ?_ | fail)
  refine good_call rfl rfl rfl rfl rfl ent94 (read_ac (l.getD k ByteArray.empty) (by omega)) rfl ?_
  repeat' (first | refine stp tab_ok rfl (by first | exact sideN | exact sideT (by omega)) ?_ | refine gT rfl rfl (by omega) ?_ | refine gF rfl rfl (by omega) ?_ | refine gNT rfl rfl (by omega) ?_ | refine gNF rfl rfl (by omega) ?_ | fail)
  refine good_swap 16 1000 rfl (swap0 hX) ?_
  exact good_again (k + 1) (by omega) (by omega) (Wk.mk ⟨Sub.of_eq rfl, Sub.of_eq rfl, Sub.of_eq rfl, Sub.of_eq rfl, trivial⟩ ⟨⟨_, rfl, SubO.row rfl (fun j hj => rowEls_step l k j hlt hj)⟩, trivial⟩ rfl rfl (pin0 hX))
 ·obtain rfl : k = l.length := by omega
  repeat' (first | refine stp tab_ok rfl (by first | exact sideN | exact sideT (by omega)) ?_ | refine gT rfl rfl (by omega) ?_ | refine gF rfl rfl (by omega) ?_ | refine gNT rfl rfl (by omega) ?_ | refine gNF rfl rfl (by omega) ?_ | fail)
  exact good_ret tab_ok hX rfl (Sub.im (by rw [List.length_map]) (fun i hi => rfl))
end Go.Proofs.YthjldemjipnmdaaGreatDoor.Sx
namespace Go.Proofs.YthjldemjipnmdaaGreatDoor.Sx
open Go.RowKit
set_option maxRecDepth 100000
def joinW (r : LRow) : ByteArray := ⟨(Lib.join (r.words.map (·.data.toList)) kData.data.toList).toArray⟩
def partsK (kd : ByteArray) : List LRow → List ByteArray
 | [] => []
 | r :: l => if r.kind = kd then joinW r :: partsK kd l else partsK kd l
theorem partsK_app (kd : ByteArray) : ∀ (l m : List LRow), partsK kd (l ++ m) = partsK kd l ++ partsK kd m
 | [], m => rfl
 | r :: l, m => by
  have h := partsK_app kd l m
  show (if r.kind = kd then joinW r :: partsK kd (l ++ m) else partsK kd (l ++ m)) = (if r.kind = kd then joinW r :: partsK kd l else partsK kd l) ++ _
  rw [h]
  split <;> rfl
theorem partsK_take (kd : ByteArray) (l : List LRow) (k : Nat) (hk : k < l.length) : partsK kd (l.take (k + 1)) = if (l.getD k row0).kind = kd then partsK kd (l.take k) ++ [joinW (l.getD k row0)] else partsK kd (l.take k) := by
 rw [List.take_add_one, partsK_app]
 have : l[k]?.toList = [l.getD k row0] := by simp [List.getD, hk]
 rw [this]
 show partsK kd (l.take k) ++ (if _ then _ else _) = _
 split
 ·rfl
 ·exact List.append_nil _
theorem partsK_len (kd : ByteArray) : ∀ (l : List LRow), (partsK kd l).length ≤ l.length
 | [] => Nat.le_refl _
 | r :: l => by
  have := partsK_len kd l
  show (if r.kind = kd then joinW r :: partsK kd l else partsK kd l).length ≤ _
  split
  ·simp only [List.length_cons]; omega
  ·simp only [List.length_cons]; omega
def partsF (l : List LRow) : List ByteArray := partsK kStamp l ++ (partsK kExp l ++ partsK kData l)
def psA (ps : List ByteArray) : Nat → AL := fun i => L1 (.im 1 (psLen ps i) (psEls ps i))
theorem psA_app (xs : List ByteArray) (x : ByteArray) (n : Nat) (els : Nat → AL) (he : els 0 = L1 (.im 1 x.size (byteEls x))) (hn : n = xs.length) : ∀ i, i < n + 1 → catF n (psA xs) els i = psA (xs ++ [x]) i := by
 intro i hi
 subst hn
 unfold catF psA psLen psEls
 by_cases h : i < xs.length
 ·rw [if_pos h]
  simp only [List.getD]
  rw [List.getElem?_append_left h]
 ·rw [if_neg h]
  obtain rfl : i = xs.length := by omega
  rw [Nat.sub_self, he]
  simp [List.getD]
def RowsOk (l : List LRow) : Prop := ∀ i, i < l.length → (l.getD i row0).words.length ≤ 1000 ∧ (joinW (l.getD i row0)).size ≤ 1000000
def hashedD (l : List LRow) : Nat → Int := digF (partsF l)
abbrev kindsE : Nat → AL := elsOf [L1 (S kStamp), L1 (S kExp), L1 (S kData)]
set_option maxHeartbeats 4000000 in
theorem hashed_ac (l : List LRow) (hr : RowsOk l) (hl : l.length ≤ 100000) (hn : catLen (psLen (partsF l)) (partsF l).length ≤ 99000000) (hp : (partsF l).length ≤ 1000000) : AC Tryz.prog 50 (L1 (rowsA l)) (digA (hashedD l)) := by
 have hsum := shaSum_ac (partsF l) hn hp
 refine AC.enter Tryz.func50 Tryz.ntmps50 rfl rfl rfl (fun F hX => ?_)
 repeat' (first | refine stp tab_ok rfl (by first | exact sideN | exact sideT (by omega)) ?_ | refine gT rfl rfl (by omega) ?_ | refine gF rfl rfl (by omega) ?_ | refine gNT rfl rfl (by omega) ?_ | refine gNF rfl rfl (by omega) ?_ | fail)
 refine good_adoptT 3 1000 31 1 (psA []) rfl rfl ?_
 refine good_loopN 4 ?_
 repeat' (first | refine stp tab_ok rfl (by first | exact sideN | exact sideT (by omega)) ?_ | refine gT rfl rfl (by omega) ?_ | refine gF rfl rfl (by omega) ?_ | refine gNT rfl rfl (by omega) ?_ | refine gNF rfl rfl (by omega) ?_ | fail)
 refine good_rounds (fun k : Nat => [(3, .own 1000), (2, .ptr 2 0), (8, .own 8), (9, I 3), (10, I 0), (5, S kStamp), (0, rowsA l), (14, rowsA l), (15, I l.length), (16, I k)]) (fun k : Nat => [(1000, .row 31 1 (([] : List ByteArray) ++ partsK kStamp (l.take k)).length (psA (([] : List ByteArray) ++ partsK kStamp (l.take k)))), (8, .row 9 1 3 kindsE), (2, .box 89 (alOf 20 (fun _ => .val (.int .u8 0))))]) (fun k : Nat => l.length - k) (fun k : Nat => k ≤ l.length) 0 (Nat.zero_le _) (Wk.mk ⟨Sub.of_eq rfl, Sub.of_eq rfl, Sub.of_eq rfl, Sub.of_eq rfl, Sub.of_eq rfl, Sub.of_eq rfl, Sub.of_eq rfl, Sub.of_eq rfl, Sub.of_eq rfl, Sub.of_eq rfl, trivial⟩ ⟨⟨_, rfl, SubO.row rfl (fun i hi => rfl)⟩, ⟨_, rfl, SubO.refl _⟩, ⟨_, rfl, SubO.refl _⟩, trivial⟩ rfl rfl (pin0 hX)) (fun k hk => ?_)
 by_cases hlt : k < l.length
 ·have htk := partsK_take kStamp l k hlt
  have hro := hr k hlt
  have hlen : (([] : List ByteArray) ++ partsK kStamp (l.take k)).length ≤ 300000 := by
   have h1 := partsK_len kStamp (l.take k)
   have h2 := partsK_len kStamp l
   have h3 := partsK_len kExp l
   have h4 : (l.take k).length ≤ l.length := by rw [List.length_take]; omega
   simp only [List.length_append, List.length_nil]
   omega
  repeat' (first | refine stp tab_ok rfl (by first | exact sideN | exact sideT (by omega)) ?_ | refine gT rfl rfl (by omega) ?_ | refine gF rfl rfl (by omega) ?_ | refine gNT rfl rfl (by omega) ?_ | refine gNF rfl rfl (by omega) ?_ | fail)
  simp only [Int.toNat_natCast]
  repeat' (first | refine stp tab_ok rfl (by first | exact sideN | exact sideT (by omega)) ?_ | refine gT rfl rfl (by omega) ?_ | refine gF rfl rfl (by omega) ?_ | refine gNT rfl rfl (by omega) ?_ | refine gNF rfl rfl (by omega) ?_ | fail)
  by_cases hkd : (l.getD k row0).kind = kStamp
  ·rw [if_pos hkd] at htk
   refine gT rfl rfl hkd ?_
   repeat' (first | refine stp tab_ok rfl (by first | exact sideN | exact sideT (by omega)) ?_ | refine gT rfl rfl (by omega) ?_ | refine gF rfl rfl (by omega) ?_ | refine gNT rfl rfl (by omega) ?_ | refine gNF rfl rfl (by omega) ?_ | fail)
   refine good_call rfl rfl rfl rfl rfl ent71 (join_ac (l.getD k row0).words kData _ _ rfl (fun i hi => rfl) (Nat.le_trans hro.2 (by decide)) (by omega)) rfl ?_
   repeat' (first | refine stp tab_ok rfl (by first | exact sideN | exact sideT (by omega)) ?_ | refine gT rfl rfl (by omega) ?_ | refine gF rfl rfl (by omega) ?_ | refine gNT rfl rfl (by omega) ?_ | refine gNF rfl rfl (by omega) ?_ | fail)
   refine good_swap 30 1000 rfl (swap0 hX) ?_
   exact good_again (k + 1) (by omega) (by omega) (Wk.mk ⟨Sub.of_eq rfl, Sub.of_eq rfl, Sub.of_eq rfl, Sub.of_eq rfl, Sub.of_eq rfl, Sub.of_eq rfl, Sub.of_eq rfl, Sub.of_eq rfl, Sub.of_eq rfl, Sub.of_eq rfl, trivial⟩ ⟨⟨_, rfl, SubO.row (by rw [htk, ← List.append_assoc, List.length_append (bs := [joinW (l.getD k row0)])]; rfl) (fun i hi => by rw [htk, ← List.append_assoc]; exact psA_app _ (joinW (l.getD k row0)) _ _ rfl rfl i hi)⟩, ⟨_, rfl, SubO.refl _⟩, ⟨_, rfl, SubO.refl _⟩, trivial⟩ rfl rfl (pin0 hX))
  ·rw [if_neg hkd] at htk
   refine gF rfl rfl hkd ?_
   repeat' (first | refine stp tab_ok rfl (by first | exact sideN | exact sideT (by omega)) ?_ | refine gT rfl rfl (by omega) ?_ | refine gF rfl rfl (by omega) ?_ | refine gNT rfl rfl (by omega) ?_ | refine gNF rfl rfl (by omega) ?_ | fail)
   exact good_again (k + 1) (by omega) (by omega) (Wk.mk ⟨Sub.of_eq rfl, Sub.of_eq rfl, Sub.of_eq rfl, Sub.of_eq rfl, Sub.of_eq rfl, Sub.of_eq rfl, Sub.of_eq rfl, Sub.of_eq rfl, Sub.of_eq rfl, Sub.of_eq rfl, trivial⟩ ⟨⟨_, rfl, SubO.row (by rw [htk]) (fun i hi => by rw [htk])⟩, ⟨_, rfl, SubO.refl _⟩, ⟨_, rfl, SubO.refl _⟩, trivial⟩ rfl rfl (pin0 hX))
 obtain rfl : k = l.length := by omega
 rw [List.take_length]
 repeat' (first | refine stp tab_ok rfl (by first | exact sideN | exact sideT (by omega)) ?_ | refine gT rfl rfl (by omega) ?_ | refine gF rfl rfl (by omega) ?_ | refine gNT rfl rfl (by omega) ?_ | refine gNF rfl rfl (by omega) ?_ | fail)
 refine good_rounds (fun k : Nat => [(3, .own 1000), (2, .ptr 2 0), (8, .own 8), (9, I 3), (10, I 1), (5, S kExp), (0, rowsA l), (14, rowsA l), (15, I l.length), (16, I k)]) (fun k : Nat => [(1000, .row 31 1 (partsK kStamp l ++ partsK kExp (l.take k)).length (psA (partsK kStamp l ++ partsK kExp (l.take k)))), (8, .row 9 1 3 kindsE), (2, .box 89 (alOf 20 (fun _ => .val (.int .u8 0))))]) (fun k : Nat => l.length - k) (fun k : Nat => k ≤ l.length) 0 (Nat.zero_le _) (Wk.mk ⟨Sub.of_eq rfl, Sub.of_eq rfl, Sub.of_eq rfl, Sub.of_eq rfl, Sub.of_eq rfl, Sub.of_eq rfl, Sub.of_eq rfl, Sub.of_eq rfl, Sub.of_eq rfl, Sub.of_eq rfl, trivial⟩ ⟨⟨_, rfl, SubO.row (by rw [List.nil_append]; exact (congrArg List.length (List.append_nil _)).symm) (fun i hi => (by rw [List.nil_append]; exact congrFun (congrArg psA (List.append_nil _).symm) i))⟩, ⟨_, rfl, SubO.refl _⟩, ⟨_, rfl, SubO.refl _⟩, trivial⟩ rfl rfl (pin0 hX)) (fun k hk => ?_)
 by_cases hlt : k < l.length
 ·have htk := partsK_take kExp l k hlt
  have hro := hr k hlt
  have hlen : (partsK kStamp l ++ partsK kExp (l.take k)).length ≤ 300000 := by
   have h1 := partsK_len kExp (l.take k)
   have h2 := partsK_len kStamp l
   have h3 := partsK_len kExp l
   have h4 : (l.take k).length ≤ l.length := by rw [List.length_take]; omega
   simp only [List.length_append]
   omega
  repeat' (first | refine stp tab_ok rfl (by first | exact sideN | exact sideT (by omega)) ?_ | refine gT rfl rfl (by omega) ?_ | refine gF rfl rfl (by omega) ?_ | refine gNT rfl rfl (by omega) ?_ | refine gNF rfl rfl (by omega) ?_ | fail)
  simp only [Int.toNat_natCast]
  repeat' (first | refine stp tab_ok rfl (by first | exact sideN | exact sideT (by omega)) ?_ | refine gT rfl rfl (by omega) ?_ | refine gF rfl rfl (by omega) ?_ | refine gNT rfl rfl (by omega) ?_ | refine gNF rfl rfl (by omega) ?_ | fail)
  by_cases hkd : (l.getD k row0).kind = kExp
  ·rw [if_pos hkd] at htk
   refine gT rfl rfl hkd ?_
   repeat' (first | refine stp tab_ok rfl (by first | exact sideN | exact sideT (by omega)) ?_ | refine gT rfl rfl (by omega) ?_ | refine gF rfl rfl (by omega) ?_ | refine gNT rfl rfl (by omega) ?_ | refine gNF rfl rfl (by omega) ?_ | fail)
   refine good_call rfl rfl rfl rfl rfl ent71 (join_ac (l.getD k row0).words kData _ _ rfl (fun i hi => rfl) (Nat.le_trans hro.2 (by decide)) (by omega)) rfl ?_
   repeat' (first | refine stp tab_ok rfl (by first | exact sideN | exact sideT (by omega)) ?_ | refine gT rfl rfl (by omega) ?_ | refine gF rfl rfl (by omega) ?_ | refine gNT rfl rfl (by omega) ?_ | refine gNF rfl rfl (by omega) ?_ | fail)
   refine good_swap 30 1000 rfl (swap0 hX) ?_
   exact good_again (k + 1) (by omega) (by omega) (Wk.mk ⟨Sub.of_eq rfl, Sub.of_eq rfl, Sub.of_eq rfl, Sub.of_eq rfl, Sub.of_eq rfl, Sub.of_eq rfl, Sub.of_eq rfl, Sub.of_eq rfl, Sub.of_eq rfl, Sub.of_eq rfl, trivial⟩ ⟨⟨_, rfl, SubO.row (by rw [htk, ← List.append_assoc, List.length_append (bs := [joinW (l.getD k row0)])]; rfl) (fun i hi => by rw [htk, ← List.append_assoc]; exact psA_app _ (joinW (l.getD k row0)) _ _ rfl rfl i hi)⟩, ⟨_, rfl, SubO.refl _⟩, ⟨_, rfl, SubO.refl _⟩, trivial⟩ rfl rfl (pin0 hX))
  ·rw [if_neg hkd] at htk
   refine gF rfl rfl hkd ?_
   repeat' (first | refine stp tab_ok rfl (by first | exact sideN | exact sideT (by omega)) ?_ | refine gT rfl rfl (by omega) ?_ | refine gF rfl rfl (by omega) ?_ | refine gNT rfl rfl (by omega) ?_ | refine gNF rfl rfl (by omega) ?_ | fail)
   exact good_again (k + 1) (by omega) (by omega) (Wk.mk ⟨Sub.of_eq rfl, Sub.of_eq rfl, Sub.of_eq rfl, Sub.of_eq rfl, Sub.of_eq rfl, Sub.of_eq rfl, Sub.of_eq rfl, Sub.of_eq rfl, Sub.of_eq rfl, Sub.of_eq rfl, trivial⟩ ⟨⟨_, rfl, SubO.row (by rw [htk]) (fun i hi => by rw [htk])⟩, ⟨_, rfl, SubO.refl _⟩, ⟨_, rfl, SubO.refl _⟩, trivial⟩ rfl rfl (pin0 hX))
 obtain rfl : k = l.length := by omega
 rw [List.take_length]
 repeat' (first | refine stp tab_ok rfl (by first | exact sideN | exact sideT (by omega)) ?_ | refine gT rfl rfl (by omega) ?_ | refine gF rfl rfl (by omega) ?_ | refine gNT rfl rfl (by omega) ?_ | refine gNF rfl rfl (by omega) ?_ | fail)
 refine good_rounds (fun k : Nat => [(3, .own 1000), (2, .ptr 2 0), (8, .own 8), (9, I 3), (10, I 2), (5, S kData), (0, rowsA l), (14, rowsA l), (15, I l.length), (16, I k)]) (fun k : Nat => [(1000, .row 31 1 ((partsK kStamp l ++ partsK kExp l) ++ partsK kData (l.take k)).length (psA ((partsK kStamp l ++ partsK kExp l) ++ partsK kData (l.take k)))), (8, .row 9 1 3 kindsE), (2, .box 89 (alOf 20 (fun _ => .val (.int .u8 0))))]) (fun k : Nat => l.length - k) (fun k : Nat => k ≤ l.length) 0 (Nat.zero_le _) (Wk.mk ⟨Sub.of_eq rfl, Sub.of_eq rfl, Sub.of_eq rfl, Sub.of_eq rfl, Sub.of_eq rfl, Sub.of_eq rfl, Sub.of_eq rfl, Sub.of_eq rfl, Sub.of_eq rfl, Sub.of_eq rfl, trivial⟩ ⟨⟨_, rfl, SubO.row (congrArg List.length (List.append_nil _)).symm (fun i hi => (congrFun (congrArg psA (List.append_nil _).symm) i))⟩, ⟨_, rfl, SubO.refl _⟩, ⟨_, rfl, SubO.refl _⟩, trivial⟩ rfl rfl (pin0 hX)) (fun k hk => ?_)
 by_cases hlt : k < l.length
 ·have htk := partsK_take kData l k hlt
  have hro := hr k hlt
  have hlen : ((partsK kStamp l ++ partsK kExp l) ++ partsK kData (l.take k)).length ≤ 300000 := by
   have h1 := partsK_len kData (l.take k)
   have h2 := partsK_len kStamp l
   have h3 := partsK_len kExp l
   have h4 : (l.take k).length ≤ l.length := by rw [List.length_take]; omega
   simp only [List.length_append]
   omega
  repeat' (first | refine stp tab_ok rfl (by first | exact sideN | exact sideT (by omega)) ?_ | refine gT rfl rfl (by omega) ?_ | refine gF rfl rfl (by omega) ?_ | refine gNT rfl rfl (by omega) ?_ | refine gNF rfl rfl (by omega) ?_ | fail)
  simp only [Int.toNat_natCast]
  repeat' (first | refine stp tab_ok rfl (by first | exact sideN | exact sideT (by omega)) ?_ | refine gT rfl rfl (by omega) ?_ | refine gF rfl rfl (by omega) ?_ | refine gNT rfl rfl (by omega) ?_ | refine gNF rfl rfl (by omega) ?_ | fail)
  by_cases hkd : (l.getD k row0).kind = kData
  ·rw [if_pos hkd] at htk
   refine gT rfl rfl hkd ?_
   repeat' (first | refine stp tab_ok rfl (by first | exact sideN | exact sideT (by omega)) ?_ | refine gT rfl rfl (by omega) ?_ | refine gF rfl rfl (by omega) ?_ | refine gNT rfl rfl (by omega) ?_ | refine gNF rfl rfl (by omega) ?_ | fail)
   refine good_call rfl rfl rfl rfl rfl ent71 (join_ac (l.getD k row0).words kData _ _ rfl (fun i hi => rfl) (Nat.le_trans hro.2 (by decide)) (by omega)) rfl ?_
   repeat' (first | refine stp tab_ok rfl (by first | exact sideN | exact sideT (by omega)) ?_ | refine gT rfl rfl (by omega) ?_ | refine gF rfl rfl (by omega) ?_ | refine gNT rfl rfl (by omega) ?_ | refine gNF rfl rfl (by omega) ?_ | fail)
   refine good_swap 30 1000 rfl (swap0 hX) ?_
   exact good_again (k + 1) (by omega) (by omega) (Wk.mk ⟨Sub.of_eq rfl, Sub.of_eq rfl, Sub.of_eq rfl, Sub.of_eq rfl, Sub.of_eq rfl, Sub.of_eq rfl, Sub.of_eq rfl, Sub.of_eq rfl, Sub.of_eq rfl, Sub.of_eq rfl, trivial⟩ ⟨⟨_, rfl, SubO.row (by rw [htk, ← List.append_assoc, List.length_append (bs := [joinW (l.getD k row0)])]; rfl) (fun i hi => by rw [htk, ← List.append_assoc]; exact psA_app _ (joinW (l.getD k row0)) _ _ rfl rfl i hi)⟩, ⟨_, rfl, SubO.refl _⟩, ⟨_, rfl, SubO.refl _⟩, trivial⟩ rfl rfl (pin0 hX))
  ·rw [if_neg hkd] at htk
   refine gF rfl rfl hkd ?_
   repeat' (first | refine stp tab_ok rfl (by first | exact sideN | exact sideT (by omega)) ?_ | refine gT rfl rfl (by omega) ?_ | refine gF rfl rfl (by omega) ?_ | refine gNT rfl rfl (by omega) ?_ | refine gNF rfl rfl (by omega) ?_ | fail)
   exact good_again (k + 1) (by omega) (by omega) (Wk.mk ⟨Sub.of_eq rfl, Sub.of_eq rfl, Sub.of_eq rfl, Sub.of_eq rfl, Sub.of_eq rfl, Sub.of_eq rfl, Sub.of_eq rfl, Sub.of_eq rfl, Sub.of_eq rfl, Sub.of_eq rfl, trivial⟩ ⟨⟨_, rfl, SubO.row (by rw [htk]) (fun i hi => by rw [htk])⟩, ⟨_, rfl, SubO.refl _⟩, ⟨_, rfl, SubO.refl _⟩, trivial⟩ rfl rfl (pin0 hX))
 obtain rfl : k = l.length := by omega
 rw [List.take_length]
 repeat' (first | refine stp tab_ok rfl (by first | exact sideN | exact sideT (by omega)) ?_ | refine gT rfl rfl (by omega) ?_ | refine gF rfl rfl (by omega) ?_ | refine gNT rfl rfl (by omega) ?_ | refine gNF rfl rfl (by omega) ?_ | fail)
 rw [show partsK kStamp l ++ partsK kExp l ++ partsK kData l = partsF l from List.append_assoc _ _ _]
 refine good_freeze 1000 rfl ?_
 refine good_call rfl rfl rfl rfl rfl ent100 (hsum) rfl ?_
 repeat' (first | refine stp tab_ok rfl (by first | exact sideN | exact sideT (by omega)) ?_ | refine gT rfl rfl (by omega) ?_ | refine gF rfl rfl (by omega) ?_ | refine gNT rfl rfl (by omega) ?_ | refine gNF rfl rfl (by omega) ?_ | refine gS rfl rfl (fun _ => ?_) (fun _ => ?_) | refine gNS rfl rfl (fun _ => ?_) (fun _ => ?_) | refine gBS rfl rfl (fun _ => ?_) (fun _ => ?_) | refine gBN rfl rfl (fun _ => ?_) (fun _ => ?_) | refine good_ret tab_ok hX rfl (Sub.of_eq ?_) | refine good_end tab_ok hX rfl (Sub.of_eq ?_) | fail)
 rfl
end Go.Proofs.YthjldemjipnmdaaGreatDoor.Sx
namespace Go.Proofs.YthjldemjipnmdaaGreatDoor.Sx
open Go.RowKit
section
variable {P : Program} {F : Fr} {N : Nat} {Q : Post} {k k' : List It} {t t' : Tm} {h h' : Hp} {Tb : Tab}
theorem ownV_of {w : World} {one : Bool} {r : Rho} {M : Cond} : ∀ {l : AL} {j : Nat} {Us : List Value} {g : Nat}, getL l j = .own g → VRL w l one r M Us → ∃ v, VR w (.own g) r M v ∧ VRL w (setC l j (.val v)) one r M Us
 | .nil, j, _, _, e, _ => by cases j <;> cases e
 | .cons x l, 0, [], _, _, hv => by unfold VRL at hv; exact hv.elim
 | .cons x l, 0, U :: Us, g, e, hv => by
  unfold VRL at hv
  obtain rfl : x = .own g := e
  refine ⟨U, hv.2.1, ?_⟩
  show VRL w (.cons (.val U) l) one r M (U :: Us)
  unfold VRL
  exact ⟨hv.1, vr_val, hv.2.2⟩
 | .cons x l, j + 1, [], _, _, hv => by unfold VRL at hv; exact hv.elim
 | .cons x l, j + 1, U :: Us, g, e, hv => by
  unfold VRL at hv
  obtain ⟨v, h1, h2⟩ := ownV_of (l := l) (j := j) e hv.2.2
  refine ⟨v, h1, ?_⟩
  show VRL w (.cons x (setC l j (.val v))) one r M (U :: Us)
  unfold VRL
  exact ⟨hv.1, hv.2.1, h2⟩
theorem call_wpBv {o : Oper} {c : Call} {x : Operand} {f g T j m : Nat} {cs args cs' cs2 : AL} {res : AV} (ho : o.op = .call c) (hc : c.callee = .value x) (ha : argsA t x c.args.toList = some (f, .cons (.ptr g 0) args)) (hcl : clL args = true) (hg : getH h g = some (.box T cs)) (hj : getL cs j = .own m) (hcs : ∀ v, clL (setC cs j (.val v)) = true) (hE : Ent P f) (A : ∀ v, BC P f T (setC cs j (.val v)) args res (setC cs' j (.val v))) (hj2 : ∀ v, getL (setC cs' j (.val v)) j = .val v) (h2 : ∀ v, setC (setC cs' j (.val v)) j (.own m) = cs2) : OpWp P F o t h res ((g, .box T cs2) :: h) := by
 intro r a w hr ht next Q hn
 obtain ⟨caps, e, hv⟩ := args_ok ht ha
 have hrun : (execOp a.eval o).run P w = .ok (.enter f ((c.args.map a.eval) ++ caps)) w := by
  have := hE (c.args.map a.eval ++ caps) w
  simp [execOp, ho, resolve, hc, e, Deferred.ofValue, invoke, this]
 unfold Oper.wp
 rw [hrun, Oper.upon_enter]
 have e2 : (c.args.map a.eval ++ caps) = (c.args.toList.map a.eval ++ caps.toList).toArray := by
  apply Array.ext'
  simp
 rw [e2]
 generalize c.args.toList.map a.eval ++ caps.toList = Vs at hv
 match Vs, hv with
 | [], hv => unfold VRL at hv; exact hv.elim
 | V0 :: Vs, hv =>
  unfold VRL at hv
  obtain ⟨_, h1, h3⟩ := hv
  unfold VR at h1
  obtain ⟨b, hV, rfl⟩ := h1
  obtain ⟨b', cc, e3, k1, k2⟩ := hr.objs g _ _ hg hV
  cases e3
  obtain ⟨v, hvm, k2⟩ := ownV_of hj k2
  have hMb : Mut F.M0 r h b := .inr ⟨g, _, _, hg, rfl, hV, rfl⟩
  have hM1 : ∀ j, (Mut F.M0 r h j ∧ j ≠ b) ∨ j = b → Mut F.M0 r h j := by
   rintro j (h1 | h1)
   ·exact h1.1
   ·exact h1 ▸ hMb
  have hM2 : ∀ j, Mut F.M0 r h j → (Mut F.M0 r h j ∧ j ≠ b) ∨ j = b := fun j hj => by
   by_cases e : j = b
   ·exact .inr e
   ·exact .inl ⟨hj, e⟩
  have mono : ∀ {l : AL} {one : Bool} {Us : List Value}, clL l = true → VRL w l one r (Mut F.M0 r h) Us → VRL w l one r0 (fun k => (Mut F.M0 r h k ∧ k ≠ b) ∨ k = b) Us := fun hc hv =>
   VRL.closed _ hc (VRL.mono (Nat.le_refl _) (fun j _ hj => ⟨rfl, fun h => hj (hM1 j h)⟩) _ (fun _ _ h => h) hv)
  refine (A v w (fun k => Mut F.M0 r h k ∧ k ≠ b) b cc Vs ⟨fun j hj => hr.lt hj.1, hr.gl⟩ ⟨fun hj => hj.2 rfl, hr.four hg rfl hV rfl⟩ k1 (mono (hcs v) k2) (mono hcl h3)).mono ?_
  rintro _ w' ⟨V, c', rfl, q1, q2, q3, q4, q5, q6, q7, q8⟩
  have hsub : ∀ j, Mut F.M0 r ((g, MO.box T cs2) :: h) j → Mut F.M0 r h j := by
   rintro j (hm | ⟨g', o', V', a1, a2, a3, a4⟩)
   ·exact .inl hm
   ·rw [getH_cons] at a1
    split at a1
    ·rename_i e4
     subst e4
     cases a1
     exact .inr ⟨g, _, V', hg, rfl, a3, a4⟩
    ·exact .inr ⟨g', o', V', a1, a2, a3, a4⟩
  obtain ⟨u1, u2⟩ := hr.set (w' := w') hg rfl hV (b := b) rfl q4 q5 q6 q7 q8 (o' := .box T cs2) (fun E => ⟨b, c', rfl, q2, by
   have q3' := (VRL.mono (M' := Mut F.M0 r ((g, MO.box T cs2) :: h)) (Nat.le_refl _) (fun j _ hj => ⟨rfl, fun h => hj (hM2 j (hsub j h))⟩) _ (fun _ _ h => h) q3).lift (r := r)
   have hvm' := E.vr hvm
   have := VRL.setC hvm' (hj2 v) q3'
   rw [h2 v] at this
   exact this⟩)
  exact hn V w' r u1 u2 (VR.mono (Nat.le_refl _) (fun j _ hj => ⟨rfl, fun h => hj (hM2 j (hsub j h))⟩) _ (fun _ _ h => h) q1).lift
theorem dg_callBv {id : Nat} {all : Array Oper} {t0 : Tm} {h0 : Hp} {Dr : List Dt} {l : List Oper} {o : Oper} {rd : List Nat} {tx : Tm} {c : Call} {y : Operand} {f g T j m : Nat} {cs args cs' cs2 : AL} {res : AV} (hp : dpre N all.toList o t = some (rd, tx)) (ho : o.op = .call c) (hc : c.callee = .value y) (ha : argsA tx y c.args.toList = some (f, .cons (.ptr g 0) args)) (hcl : clL args = true) (hg : getH h g = some (.box T cs)) (hj : getL cs j = .own m) (hcs : ∀ v, clL (setC cs j (.val v)) = true) (hE : Ent P f) (A : ∀ v, BC P f T (setC cs j (.val v)) args res (setC cs' j (.val v))) (hj2 : ∀ v, getL (setC cs' j (.val v)) j = .val v) (h2 : ∀ v, setC (setC cs' j (.val v)) j (.own m) = cs2) (hN : updK N t o.dst res = some t')
  (H : DG P F N Q k id all t0 h0 (⟨o, rd, tx, res, false, [g], [g]⟩ :: Dr) t' ((g, .box T cs2) :: h) l) : DG P F N Q k id all t0 h0 Dr t h (o :: l) := by
 obtain ⟨h1, h3, h4, h5⟩ := dpre_ok hp
 refine dg_push (x := ⟨o, rd, tx, res, false, [g], [g]⟩) rfl ⟨h3, h4, h1, fun g' e => ?_, fun _ => ⟨h5, fun h6 hk => ⟨(g, .box T cs2) :: h6, call_wpBv ho hc ha hcl ((hk g (by simp)).trans hg) hj hcs hE A hj2 h2, fun g' e => ?_, fun g' e => ?_⟩⟩, fun e => by cases e⟩ (updK_ok hN).2 H
 ·rw [getH_cons, if_neg (fun e2 => by subst e2; simp at e)]
 ·rw [getH_cons, if_neg (fun e2 => by subst e2; simp at e)]
 ·have : g' = g := by simpa using e
  subst this
  rw [getH_cons, getH_cons, if_pos rfl, if_pos rfl]
end
end Go.Proofs.YthjldemjipnmdaaGreatDoor.Sx
namespace Go.Proofs.YthjldemjipnmdaaGreatDoor.Sx
open Go.RowKit
set_option maxRecDepth 100000
structure LSt where
 tbl : Tbl
 off : Int
 begun : Bool
 at_ : List (ByteArray × Int)
def mapEs (m : List (ByteArray × Int)) : List MapEntry := m.mapIdx fun i p => { key := .string p.1, val := .int .i64 p.2, born := i }
def mapO (m : List (ByteArray × Int)) : Obj := .map (mapEs m).toArray m.length
def lstL (st : LSt) : AL := .cons (leapsA st.tbl.leaps) (.cons (B st.tbl.has) (.cons (I st.tbl.exp) (.cons (I st.off) (.cons (B st.begun) (.cons (.own 2014) .nil)))))
abbrev zT : AL := L3 (.val (.slice none 0 0)) (B false) (I 0)
abbrev zF : AL := L2 (I 0) (I 0)
def lstH (st : LSt) : Hp := [(2005, .box 104 (lstL st)), (2014, .raw (mapO st.at_)), (2002, .box 25 zT), (2003, .box 28 zF)]
def dataF (st : LSt) (n off : Int) : LSt × Int :=
 if st.begun = false ∧ (n - 2208988800 ≠ 63072000 ∨ off ≠ 10) then (st, 9)
 else if st.begun = false then ({ st with begun := true, off := off }, 0)
 else if (n - 2208988800) % 86400 ≠ 0 then (st, 5)
 else if off - st.off ≠ 1 ∧ off - st.off ≠ -1 then (st, 6)
 else ({ st with tbl := (addF st.tbl ⟨(n - 2208988800) / 86400 - 1, off - st.off, false⟩).1, off := off }, (addF st.tbl ⟨(n - 2208988800) / 86400 - 1, off - st.off, false⟩).2)
theorem fresh_same {h h' : Hp} (e : h.map (·.1) = h'.map (·.1)) (g : Nat) : freshH h g = freshH h' g := by
 induction h generalizing h' with
 | nil =>
  cases h' with
  | nil => rfl
  | cons p q => cases e
 | cons p q ih =>
  cases h' with
  | nil => cases e
  | cons p' q' =>
   simp only [List.map_cons, List.cons.injEq] at e
   have := ih e.2
   unfold freshH at *
   obtain ⟨a, b⟩ := p
   obtain ⟨a', b'⟩ := p'
   obtain rfl : a = a' := e.1
   rw [getH_cons, getH_cons]
   by_cases h1 : a = g
   ·rw [if_pos h1, if_pos h1]
   ·rw [if_neg h1, if_neg h1]; exact this
def lstV (st : LSt) (v : AV) : AL := .cons (leapsA st.tbl.leaps) (.cons (B st.tbl.has) (.cons (I st.tbl.exp) (.cons (I st.off) (.cons (B st.begun) (.cons v .nil)))))
theorem data_bc (st : LSt) (v : Value) (n off : Int) (hn : 0 ≤ n ∧ n ≤ 9223372036854775807) (ho : 0 ≤ off ∧ off ≤ 9223372036854775807) (hs : 0 ≤ st.off ∧ st.off ≤ 9223372036854775807) (hl : st.tbl.leaps.length ≤ 90000) :
  BC Tryz.prog 95 104 (lstV st (.val v)) (L2 (I n) (I off)) (I (dataF st n off).2) (lstV (dataF st n off).1 (.val v)) := by
 refine BC.enter 900 Tryz.func95 Tryz.ntmps95 rfl rfl rfl (fun F b hX hb => ?_)
 repeat' (first | refine stp tab_ok rfl (by first | exact sideN | exact sideT (by omega)) ?_ | refine gT rfl rfl (by omega) ?_ | refine gF rfl rfl (by omega) ?_ | refine gNT rfl rfl (by omega) ?_ | refine gNF rfl rfl (by omega) ?_ | fail)
 refine good_call rfl rfl rfl rfl rfl ent47 (posix_ac n hn) rfl ?_
 repeat' (first | refine stp tab_ok rfl (by first | exact sideN | exact sideT (by omega)) ?_ | refine gT rfl rfl (by omega) ?_ | refine gF rfl rfl (by omega) ?_ | refine gNT rfl rfl (by omega) ?_ | refine gNF rfl rfl (by omega) ?_ | fail)
 refine good_call rfl rfl rfl rfl rfl ent81 (numDiv_ac _ _ (by omega) (by omega) (by omega)) rfl ?_
 obtain ⟨⟨leaps, has, exp⟩, off0, begun, at_⟩ := st
 simp only at hs hl
 unfold dataF
 simp only
 cases begun with
 | false =>
  by_cases h1 : n - 2208988800 ≠ 63072000 ∨ off ≠ 10
  ·rw [if_pos ⟨rfl, h1⟩]
   by_cases h2 : n - 2208988800 = 63072000
   ·repeat' (first | refine stp tab_ok rfl (by first | exact sideN | exact sideT (by omega)) ?_ | refine gT rfl rfl (by omega) ?_ | refine gF rfl rfl (by omega) ?_ | refine gNT rfl rfl (by omega) ?_ | refine gNF rfl rfl (by omega) ?_ | fail)
    exact good_retB tab_ok hX rfl rfl (Sub.refl _) (SubL.refl _)
   ·repeat' (first | refine stp tab_ok rfl (by first | exact sideN | exact sideT (by omega)) ?_ | refine gT rfl rfl (by omega) ?_ | refine gF rfl rfl (by omega) ?_ | refine gNT rfl rfl (by omega) ?_ | refine gNF rfl rfl (by omega) ?_ | fail)
    exact good_retB tab_ok hX rfl rfl (Sub.refl _) (SubL.refl _)
  ·rw [if_neg (fun h => h1 h.2), if_pos rfl]
   repeat' (first | refine stp tab_ok rfl (by first | exact sideN | exact sideT (by omega)) ?_ | refine gT rfl rfl (by omega) ?_ | refine gF rfl rfl (by omega) ?_ | refine gNT rfl rfl (by omega) ?_ | refine gNF rfl rfl (by omega) ?_ | fail)
   exact good_retB tab_ok hX rfl rfl (Sub.refl _) (SubL.refl _)
 | true =>
  rw [if_neg (fun h => by cases h.1), if_neg (by decide)]
  by_cases h1 : (n - 2208988800) % 86400 ≠ 0
  ·rw [if_pos h1]
   repeat' (first | refine stp tab_ok rfl (by first | exact sideN | exact sideT (by omega)) ?_ | refine gT rfl rfl (by omega) ?_ | refine gF rfl rfl (by omega) ?_ | refine gNT rfl rfl (by omega) ?_ | refine gNF rfl rfl (by omega) ?_ | fail)
   exact good_retB tab_ok hX rfl rfl (Sub.refl _) (SubL.refl _)
  ·rw [if_neg h1]
   by_cases h2 : off - off0 ≠ 1 ∧ off - off0 ≠ -1
   ·rw [if_pos h2]
    repeat' (first | refine stp tab_ok rfl (by first | exact sideN | exact sideT (by omega)) ?_ | refine gT rfl rfl (by omega) ?_ | refine gF rfl rfl (by omega) ?_ | refine gNT rfl rfl (by omega) ?_ | refine gNF rfl rfl (by omega) ?_ | fail)
    exact good_retB tab_ok hX rfl rfl (Sub.refl _) (SubL.refl _)
   ·rw [if_neg h2]
    have hx := add_ac ⟨leaps, has, exp⟩ ⟨(n - 2208988800) / 86400 - 1, off - off0, false⟩ hl
    by_cases h3 : off - off0 = 1
    ·repeat' (first | refine stp tab_ok rfl (by first | exact sideN | exact sideT (by omega)) ?_ | refine gT rfl rfl (by omega) ?_ | refine gF rfl rfl (by omega) ?_ | refine gNT rfl rfl (by omega) ?_ | refine gNF rfl rfl (by omega) ?_ | fail)
     refine good_call rfl rfl rfl rfl rfl ent147 (hx) rfl ?_
     repeat' (first | refine stp tab_ok rfl (by first | exact sideN | exact sideT (by omega)) ?_ | refine gT rfl rfl (by omega) ?_ | refine gF rfl rfl (by omega) ?_ | refine gNT rfl rfl (by omega) ?_ | refine gNF rfl rfl (by omega) ?_ | fail)
     exact good_retB tab_ok hX rfl rfl (Sub.refl _) (SubL.refl _)
    ·repeat' (first | refine stp tab_ok rfl (by first | exact sideN | exact sideT (by omega)) ?_ | refine gT rfl rfl (by omega) ?_ | refine gF rfl rfl (by omega) ?_ | refine gNT rfl rfl (by omega) ?_ | refine gNF rfl rfl (by omega) ?_ | fail)
     refine good_call rfl rfl rfl rfl rfl ent147 (hx) rfl ?_
     repeat' (first | refine stp tab_ok rfl (by first | exact sideN | exact sideT (by omega)) ?_ | refine gT rfl rfl (by omega) ?_ | refine gF rfl rfl (by omega) ?_ | refine gNT rfl rfl (by omega) ?_ | refine gNF rfl rfl (by omega) ?_ | fail)
     exact good_retB tab_ok hX rfl rfl (Sub.refl _) (SubL.refl _)
end Go.Proofs.YthjldemjipnmdaaGreatDoor.Sx
namespace Go.Proofs.YthjldemjipnmdaaGreatDoor.Sx
open Go.RowKit Go.MapKept
set_option maxRecDepth 100000
theorem und102 : Tryz.prog.underlying 102 = some (.map 9 3) := by kernel_rfl
theorem info3m : (Tryz.prog.info? 3).map (fun i => i.zero) = some (some (.int .i64 0)) := by kernel_rfl
theorem zero3 (w : World) : (zeroValue 3).run Tryz.prog w = .ok (.int .i64 0) w := by
 have h := info3m
 cases hi : Tryz.prog.info? 3 with
 | none => rw [hi] at h; cases h
 | some i =>
  rw [hi] at h
  simp only [Option.map_some, Option.some.injEq] at h
  simp [zeroValue, typeInfo, hi, h]
def atF (m : List (ByteArray × Int)) (k : ByteArray) : Int := match Instr.findNow .string (.string k) (mapEs m) 0 with
 | some (some (_, .int _ n)) => n
 | _ => 0
theorem mapEs_get (m : List (ByteArray × Int)) (j : Nat) (e : MapEntry) (h : (mapEs m)[j]? = some e) : ∃ p, m[j]? = some p ∧ e.key = .string p.1 ∧ e.val = .int .i64 p.2 := by
 unfold mapEs at h
 rw [List.getElem?_mapIdx] at h
 cases hm : m[j]? with
 | none => rw [hm] at h; cases h
 | some p =>
  rw [hm] at h
  simp only [Option.map_some, Option.some.injEq] at h
  subst h
  exact ⟨p, rfl, rfl, rfl⟩
theorem at_cases (m : List (ByteArray × Int)) (k : ByteArray) (hM : ∀ p ∈ m, 0 < p.2) : (Instr.findNow .string (.string k) (mapEs m) 0 = some none ∧ atF m k = 0) ∨ ∃ (i : Nat) (n : Int), Instr.findNow .string (.string k) (mapEs m) 0 = some (some (i, .int .i64 n)) ∧ atF m k = n ∧ 0 < n ∧ (k, n) ∈ m := by
 have hks : ∀ x ∈ mapEs m, IsKey .string x.key := fun x hx => by
  obtain ⟨j, hj⟩ := List.mem_iff_getElem?.1 hx
  obtain ⟨p, _, p2, _⟩ := mapEs_get m j x hj
  rw [p2]
  trivial
 rcases findNow_spec (d := .string) (k := .string k) trivial (mapEs m) 0 hks with ⟨h1, _⟩ | ⟨j, e, h1, h2, h3⟩
 ·refine .inl ⟨h1, ?_⟩
  unfold atF
  rw [h1]
 ·obtain ⟨p, p1, p2, p3⟩ := mapEs_get m j e h2
  rw [p2] at h3
  have hk : p.1 = k := by injection h3
  rw [p3] at h1
  refine .inr ⟨_, p.2, h1, ?_, hM p (List.mem_of_getElem? p1), ?_⟩
  ·unfold atF
   rw [h1]
  ·rw [← hk]
   exact List.mem_of_getElem? p1
theorem SubO.raw {o o' : Obj} (h : o = o') : SubO (.raw o) (.raw o') := h
theorem mapO_push (m : List (ByteArray × Int)) (k : ByteArray) (n : Int) : putE (mapEs m).toArray m.length (.string k) (.int .i64 n) none = mapO (m ++ [(k, n)]) := by
 unfold putE mapO mapEs
 rw [List.mapIdx_append]
 simp
theorem dataF_at (st : LSt) (n off : Int) : (dataF st n off).1.at_ = st.at_ := by
 unfold dataF
 split
 ·rfl
 ·split
  ·rfl
  ·split
   ·rfl
   ·split
    ·rfl
    ·rfl
def lineF (st : LSt) (no : Int) (r : LRow) : LSt × Int :=
 if r.right = false then (st, 2)
 else if r.kind = kStamp ∨ r.kind = kExp ∨ r.kind = kHash then (if 0 < atF st.at_ r.kind then (st, 2) else ({ st with at_ := st.at_ ++ [(r.kind, no)] }, 0))
 else if r.kind = kData then dataF st (r.nums.getD 0 0) (r.nums.getD 1 0)
 else (st, 0)
theorem line_hc (st : LSt) (r : LRow) (no : Int) (hM : ∀ p ∈ st.at_, 0 < p.2) (hd : r.right = true → r.kind = kData → 2 ≤ r.nums.length ∧ (0 ≤ r.nums.getD 0 0 ∧ r.nums.getD 0 0 ≤ 9223372036854775807) ∧ (0 ≤ r.nums.getD 1 0 ∧ r.nums.getD 1 0 ≤ 9223372036854775807)) (hs : 0 ≤ st.off ∧ st.off ≤ 9223372036854775807) (hl : st.tbl.leaps.length ≤ 90000) :
  HC Tryz.prog 46 (L3 (.ptr 2005 0) (I no) (.agg (rowL r))) (lstH st) (I (lineF st no r).2) (lstH (lineF st no r).1) := by
 have e12 : kStamp ≠ kExp := by decide
 have e13 : kStamp ≠ kHash := by decide
 have e23 : kExp ≠ kHash := by decide
 obtain ⟨kind, words, nums, right⟩ := r
 unfold lineF
 simp only at hd ⊢
 refine HC.enter Tryz.func46 Tryz.ntmps46 rfl rfl rfl (fun F hP => ?_)
 cases right with
 | false =>
  rw [if_pos rfl]
  repeat' (first | refine stp tab_ok rfl (by first | exact sideN | exact sideT (by omega)) ?_ | refine gT rfl rfl (by omega) ?_ | refine gF rfl rfl (by omega) ?_ | refine gNT rfl rfl (by omega) ?_ | refine gNF rfl rfl (by omega) ?_ | fail)
  refine good_weak (t' := [(6, I 2)]) (h' := lstH st) (Wk.mk ⟨Sub.of_eq rfl, trivial⟩ ⟨⟨_, rfl, SubO.refl _⟩, ⟨_, rfl, SubO.refl _⟩, ⟨_, rfl, SubO.refl _⟩, ⟨_, rfl, SubO.refl _⟩, trivial⟩ rfl rfl (fun g V e => (fresh_same (by rfl) g).trans (hP g V e))) ?_
  exact good_retH tab_ok rfl (Sub.refl _)
 | true =>
  rw [if_neg (by decide)]
  repeat' (first | refine stp tab_ok rfl (by first | exact sideN | exact sideT (by omega)) ?_ | fail)
  by_cases h1 : kind = kStamp
  ·refine gT rfl rfl h1 ?_
   repeat' (first | refine stp tab_ok rfl (by first | exact sideN | exact sideT (by omega)) ?_ | refine gT rfl rfl (by omega) ?_ | refine gF rfl rfl (by omega) ?_ | refine gNT rfl rfl (by omega) ?_ | refine gNF rfl rfl (by omega) ?_ | fail)
   rw [if_pos (.inl h1)]
   rcases at_cases st.at_ kind hM with ⟨hf, ha⟩ | ⟨i, n, hf, ha, hn, _⟩
   ·rw [if_neg (by omega)]
    repeat' (first | refine stp tab_ok rfl (by first | exact sideN | exact sideT (by omega)) ?_ | fail)
    refine dg_start ?_
    repeat' (first | refine dgp tab_ok rfl (by first | exact sideN | exact sideT (by omega)) ?_ | fail)
    refine dg_byK 2014 rfl (fun h5 e => ok_lookup 102 9 3 2014 _ _ false (mapEs st.at_).toArray st.at_.length (.string kind) (.int .i64 0) .string none rfl (e.trans rfl) rfl und102 ((tab_ok 9 _ rfl).string rfl) trivial hf zero3) rfl ?_
    repeat' (first | refine dgp tab_ok rfl (by first | exact sideN | exact sideT (by omega)) ?_ | fail)
    refine dg_end mixed rfl ?_
    repeat' (first | refine stp tab_ok rfl (by first | exact sideN | exact sideT (by omega)) ?_ | fail)
    refine dg_start ?_
    repeat' (first | refine dgp tab_ok rfl (by first | exact sideN | exact sideT (by omega)) ?_ | fail)
    refine dg_byW 2014 rfl (fun h5 e => ok_update 102 9 3 2014 _ _ _ (mapEs st.at_).toArray st.at_.length (.string kind) (.int .i64 no) .string none rfl (e.trans rfl) rfl rfl und102 ((tab_ok 9 _ rfl).string rfl) trivial hf (fun i u e => by cases e) _ (.inl rfl)) rfl ?_
    repeat' (first | refine dgp tab_ok rfl (by first | exact sideN | exact sideT (by omega)) ?_ | fail)
    refine dg_end mixed rfl ?_
    repeat' (first | refine stp tab_ok rfl (by first | exact sideN | exact sideT (by omega)) ?_ | fail)
    refine good_weak (t' := [(6, I 0)]) (h' := lstH { st with at_ := st.at_ ++ [(kind, no)] }) (Wk.mk ⟨Sub.of_eq rfl, trivial⟩ ⟨⟨_, rfl, SubO.refl _⟩, ⟨_, rfl, SubO.raw (mapO_push st.at_ kind no)⟩, ⟨_, rfl, SubO.refl _⟩, ⟨_, rfl, SubO.refl _⟩, trivial⟩ rfl rfl (fun g V e => (fresh_same (by rfl) g).trans (hP g V e))) ?_
    exact good_retH tab_ok rfl (Sub.refl _)
   ·rw [if_pos (by omega)]
    repeat' (first | refine stp tab_ok rfl (by first | exact sideN | exact sideT (by omega)) ?_ | fail)
    refine dg_start ?_
    repeat' (first | refine dgp tab_ok rfl (by first | exact sideN | exact sideT (by omega)) ?_ | fail)
    refine dg_byK 2014 rfl (fun h5 e => ok_lookup 102 9 3 2014 _ _ false (mapEs st.at_).toArray st.at_.length (.string kind) (.int .i64 0) .string (some (i, .int .i64 n)) rfl (e.trans rfl) rfl und102 ((tab_ok 9 _ rfl).string rfl) trivial hf zero3) rfl ?_
    repeat' (first | refine dgp tab_ok rfl (by first | exact sideN | exact sideT (by omega)) ?_ | fail)
    refine dg_end mixed rfl ?_
    repeat' (first | refine stp tab_ok rfl (by first | exact sideN | exact sideT (by omega)) ?_ | refine gT rfl rfl (by omega) ?_ | refine gF rfl rfl (by omega) ?_ | refine gNT rfl rfl (by omega) ?_ | refine gNF rfl rfl (by omega) ?_ | fail)
    refine good_weak (t' := [(6, I 2)]) (h' := lstH st) (Wk.mk ⟨Sub.of_eq rfl, trivial⟩ ⟨⟨_, rfl, SubO.refl _⟩, ⟨_, rfl, SubO.refl _⟩, ⟨_, rfl, SubO.refl _⟩, ⟨_, rfl, SubO.refl _⟩, trivial⟩ rfl rfl (fun g V e => (fresh_same (by rfl) g).trans (hP g V e))) ?_
    exact good_retH tab_ok rfl (Sub.refl _)
  ·refine gF rfl rfl h1 ?_
   repeat' (first | refine stp tab_ok rfl (by first | exact sideN | exact sideT (by omega)) ?_ | fail)
   by_cases h2 : kind = kExp
   ·refine gT rfl rfl h2 ?_
    repeat' (first | refine stp tab_ok rfl (by first | exact sideN | exact sideT (by omega)) ?_ | refine gT rfl rfl (by omega) ?_ | refine gF rfl rfl (by omega) ?_ | refine gNT rfl rfl (by omega) ?_ | refine gNF rfl rfl (by omega) ?_ | fail)
    rw [if_pos (.inr (.inl h2))]
    rcases at_cases st.at_ kind hM with ⟨hf, ha⟩ | ⟨i, n, hf, ha, hn, _⟩
    ·rw [if_neg (by omega)]
     repeat' (first | refine stp tab_ok rfl (by first | exact sideN | exact sideT (by omega)) ?_ | fail)
     refine dg_start ?_
     repeat' (first | refine dgp tab_ok rfl (by first | exact sideN | exact sideT (by omega)) ?_ | fail)
     refine dg_byK 2014 rfl (fun h5 e => ok_lookup 102 9 3 2014 _ _ false (mapEs st.at_).toArray st.at_.length (.string kind) (.int .i64 0) .string none rfl (e.trans rfl) rfl und102 ((tab_ok 9 _ rfl).string rfl) trivial hf zero3) rfl ?_
     repeat' (first | refine dgp tab_ok rfl (by first | exact sideN | exact sideT (by omega)) ?_ | fail)
     refine dg_end mixed rfl ?_
     repeat' (first | refine stp tab_ok rfl (by first | exact sideN | exact sideT (by omega)) ?_ | fail)
     refine dg_start ?_
     repeat' (first | refine dgp tab_ok rfl (by first | exact sideN | exact sideT (by omega)) ?_ | fail)
     refine dg_byW 2014 rfl (fun h5 e => ok_update 102 9 3 2014 _ _ _ (mapEs st.at_).toArray st.at_.length (.string kind) (.int .i64 no) .string none rfl (e.trans rfl) rfl rfl und102 ((tab_ok 9 _ rfl).string rfl) trivial hf (fun i u e => by cases e) _ (.inl rfl)) rfl ?_
     repeat' (first | refine dgp tab_ok rfl (by first | exact sideN | exact sideT (by omega)) ?_ | fail)
     refine dg_end mixed rfl ?_
     repeat' (first | refine stp tab_ok rfl (by first | exact sideN | exact sideT (by omega)) ?_ | fail)
     refine good_weak (t' := [(6, I 0)]) (h' := lstH { st with at_ := st.at_ ++ [(kind, no)] }) (Wk.mk ⟨Sub.of_eq rfl, trivial⟩ ⟨⟨_, rfl, SubO.refl _⟩, ⟨_, rfl, SubO.raw (mapO_push st.at_ kind no)⟩, ⟨_, rfl, SubO.refl _⟩, ⟨_, rfl, SubO.refl _⟩, trivial⟩ rfl rfl (fun g V e => (fresh_same (by rfl) g).trans (hP g V e))) ?_
     exact good_retH tab_ok rfl (Sub.refl _)
    ·rw [if_pos (by omega)]
     repeat' (first | refine stp tab_ok rfl (by first | exact sideN | exact sideT (by omega)) ?_ | fail)
     refine dg_start ?_
     repeat' (first | refine dgp tab_ok rfl (by first | exact sideN | exact sideT (by omega)) ?_ | fail)
     refine dg_byK 2014 rfl (fun h5 e => ok_lookup 102 9 3 2014 _ _ false (mapEs st.at_).toArray st.at_.length (.string kind) (.int .i64 0) .string (some (i, .int .i64 n)) rfl (e.trans rfl) rfl und102 ((tab_ok 9 _ rfl).string rfl) trivial hf zero3) rfl ?_
     repeat' (first | refine dgp tab_ok rfl (by first | exact sideN | exact sideT (by omega)) ?_ | fail)
     refine dg_end mixed rfl ?_
     repeat' (first | refine stp tab_ok rfl (by first | exact sideN | exact sideT (by omega)) ?_ | refine gT rfl rfl (by omega) ?_ | refine gF rfl rfl (by omega) ?_ | refine gNT rfl rfl (by omega) ?_ | refine gNF rfl rfl (by omega) ?_ | fail)
     refine good_weak (t' := [(6, I 2)]) (h' := lstH st) (Wk.mk ⟨Sub.of_eq rfl, trivial⟩ ⟨⟨_, rfl, SubO.refl _⟩, ⟨_, rfl, SubO.refl _⟩, ⟨_, rfl, SubO.refl _⟩, ⟨_, rfl, SubO.refl _⟩, trivial⟩ rfl rfl (fun g V e => (fresh_same (by rfl) g).trans (hP g V e))) ?_
     exact good_retH tab_ok rfl (Sub.refl _)
   ·refine gF rfl rfl h2 ?_
    repeat' (first | refine stp tab_ok rfl (by first | exact sideN | exact sideT (by omega)) ?_ | fail)
    by_cases h3 : kind = kHash
    ·refine gT rfl rfl h3 ?_
     repeat' (first | refine stp tab_ok rfl (by first | exact sideN | exact sideT (by omega)) ?_ | refine gT rfl rfl (by omega) ?_ | refine gF rfl rfl (by omega) ?_ | refine gNT rfl rfl (by omega) ?_ | refine gNF rfl rfl (by omega) ?_ | fail)
     rw [if_pos (.inr (.inr h3))]
     rcases at_cases st.at_ kind hM with ⟨hf, ha⟩ | ⟨i, n, hf, ha, hn, _⟩
     ·rw [if_neg (by omega)]
      repeat' (first | refine stp tab_ok rfl (by first | exact sideN | exact sideT (by omega)) ?_ | fail)
      refine dg_start ?_
      repeat' (first | refine dgp tab_ok rfl (by first | exact sideN | exact sideT (by omega)) ?_ | fail)
      refine dg_byK 2014 rfl (fun h5 e => ok_lookup 102 9 3 2014 _ _ false (mapEs st.at_).toArray st.at_.length (.string kind) (.int .i64 0) .string none rfl (e.trans rfl) rfl und102 ((tab_ok 9 _ rfl).string rfl) trivial hf zero3) rfl ?_
      repeat' (first | refine dgp tab_ok rfl (by first | exact sideN | exact sideT (by omega)) ?_ | fail)
      refine dg_end mixed rfl ?_
      repeat' (first | refine stp tab_ok rfl (by first | exact sideN | exact sideT (by omega)) ?_ | fail)
      refine dg_start ?_
      repeat' (first | refine dgp tab_ok rfl (by first | exact sideN | exact sideT (by omega)) ?_ | fail)
      refine dg_byW 2014 rfl (fun h5 e => ok_update 102 9 3 2014 _ _ _ (mapEs st.at_).toArray st.at_.length (.string kind) (.int .i64 no) .string none rfl (e.trans rfl) rfl rfl und102 ((tab_ok 9 _ rfl).string rfl) trivial hf (fun i u e => by cases e) _ (.inl rfl)) rfl ?_
      repeat' (first | refine dgp tab_ok rfl (by first | exact sideN | exact sideT (by omega)) ?_ | fail)
      refine dg_end mixed rfl ?_
      repeat' (first | refine stp tab_ok rfl (by first | exact sideN | exact sideT (by omega)) ?_ | fail)
      refine good_weak (t' := [(6, I 0)]) (h' := lstH { st with at_ := st.at_ ++ [(kind, no)] }) (Wk.mk ⟨Sub.of_eq rfl, trivial⟩ ⟨⟨_, rfl, SubO.refl _⟩, ⟨_, rfl, SubO.raw (mapO_push st.at_ kind no)⟩, ⟨_, rfl, SubO.refl _⟩, ⟨_, rfl, SubO.refl _⟩, trivial⟩ rfl rfl (fun g V e => (fresh_same (by rfl) g).trans (hP g V e))) ?_
      exact good_retH tab_ok rfl (Sub.refl _)
     ·rw [if_pos (by omega)]
      repeat' (first | refine stp tab_ok rfl (by first | exact sideN | exact sideT (by omega)) ?_ | fail)
      refine dg_start ?_
      repeat' (first | refine dgp tab_ok rfl (by first | exact sideN | exact sideT (by omega)) ?_ | fail)
      refine dg_byK 2014 rfl (fun h5 e => ok_lookup 102 9 3 2014 _ _ false (mapEs st.at_).toArray st.at_.length (.string kind) (.int .i64 0) .string (some (i, .int .i64 n)) rfl (e.trans rfl) rfl und102 ((tab_ok 9 _ rfl).string rfl) trivial hf zero3) rfl ?_
      repeat' (first | refine dgp tab_ok rfl (by first | exact sideN | exact sideT (by omega)) ?_ | fail)
      refine dg_end mixed rfl ?_
      repeat' (first | refine stp tab_ok rfl (by first | exact sideN | exact sideT (by omega)) ?_ | refine gT rfl rfl (by omega) ?_ | refine gF rfl rfl (by omega) ?_ | refine gNT rfl rfl (by omega) ?_ | refine gNF rfl rfl (by omega) ?_ | fail)
      refine good_weak (t' := [(6, I 2)]) (h' := lstH st) (Wk.mk ⟨Sub.of_eq rfl, trivial⟩ ⟨⟨_, rfl, SubO.refl _⟩, ⟨_, rfl, SubO.refl _⟩, ⟨_, rfl, SubO.refl _⟩, ⟨_, rfl, SubO.refl _⟩, trivial⟩ rfl rfl (fun g V e => (fresh_same (by rfl) g).trans (hP g V e))) ?_
      exact good_retH tab_ok rfl (Sub.refl _)
    ·rw [if_neg (fun h => by rcases h with h | h | h; exact h1 h; exact h2 h; exact h3 h)]
     refine gF rfl rfl h3 ?_
     repeat' (first | refine stp tab_ok rfl (by first | exact sideN | exact sideT (by omega)) ?_ | fail)
     by_cases h4 : kind = kData
     ·rw [if_pos h4]
      refine gT rfl rfl h4 ?_
      obtain ⟨q1, q2, q3⟩ := hd rfl h4
      repeat' (first | refine stp tab_ok rfl (by first | exact sideN | exact sideT (by omega)) ?_ | fail)
      refine dg_start ?_
      repeat' (first | refine dgp tab_ok rfl (by first | exact sideN | exact sideT (by omega)) ?_ | fail)
      refine dgp tab_ok rfl (sideT ⟨by decide, by show (_ : Int) < (nums.length : Int); omega⟩) ?_
      repeat' (first | refine dgp tab_ok rfl (by first | exact sideN | exact sideT (by omega)) ?_ | fail)
      refine dgp tab_ok rfl (sideT ⟨by decide, by show (_ : Int) < (nums.length : Int); omega⟩) ?_
      repeat' (first | refine dgp tab_ok rfl (by first | exact sideN | exact sideT (by omega)) ?_ | fail)
      refine dg_callBv (j := 5) (m := 2014) (cs' := lstL (dataF st (nums.getD 0 0) (nums.getD 1 0)).1) (cs2 := lstL (dataF st (nums.getD 0 0) (nums.getD 1 0)).1) rfl rfl rfl rfl rfl rfl rfl (fun v => rfl) ent95 (fun v => data_bc st v _ _ q2 q3 hs hl) (fun v => rfl) (fun v => rfl) rfl ?_
      repeat' (first | refine dgp tab_ok rfl (by first | exact sideN | exact sideT (by omega)) ?_ | fail)
      refine dg_end mixed rfl ?_
      refine good_weak (t' := [(6, I (dataF st (nums.getD 0 0) (nums.getD 1 0)).2)]) (h' := lstH (dataF st (nums.getD 0 0) (nums.getD 1 0)).1) (Wk.mk ⟨Sub.of_eq rfl, trivial⟩ ⟨⟨_, rfl, SubO.refl _⟩, ⟨_, rfl, SubO.raw (congrArg mapO (dataF_at st _ _).symm)⟩, ⟨_, rfl, SubO.refl _⟩, ⟨_, rfl, SubO.refl _⟩, trivial⟩ rfl rfl (fun g V e => (fresh_same (by rfl) g).trans (hP g V e))) ?_
      exact good_retH tab_ok rfl (Sub.refl _)
     ·rw [if_neg h4]
      refine gF rfl rfl h4 ?_
      repeat' (first | refine stp tab_ok rfl (by first | exact sideN | exact sideT (by omega)) ?_ | fail)
      refine good_weak (t' := [(6, I 0)]) (h' := lstH st) (Wk.mk ⟨Sub.of_eq rfl, trivial⟩ ⟨⟨_, rfl, SubO.refl _⟩, ⟨_, rfl, SubO.refl _⟩, ⟨_, rfl, SubO.refl _⟩, ⟨_, rfl, SubO.refl _⟩, trivial⟩ rfl rfl (fun g V e => (fresh_same (by rfl) g).trans (hP g V e))) ?_
      exact good_retH tab_ok rfl (Sub.refl _)
end Go.Proofs.YthjldemjipnmdaaGreatDoor.Sx
namespace Go.Proofs.YthjldemjipnmdaaGreatDoor.Sx
open Go.RowKit
set_option maxRecDepth 100000
def u5 (f : Nat → Int) : Value := .agg #[.int .u32 (f 0), .int .u32 (f 1), .int .u32 (f 2), .int .u32 (f 3), .int .u32 (f 4)]
def eqH (f g : Nat → Int) : Bool := f 0 == g 0 && (f 1 == g 1 && (f 2 == g 2 && (f 3 == g 3 && f 4 == g 4)))
theorem eq5 (f g : Nat → Int) (w : World) : (Op.equalIn 10000 87 (u5 f) (u5 g)).run Tryz.prog w = .ok (eqH f g) w := by
 have u3 := Tryz.underlying86
 have a3 := Tryz.isAgg86
 have z3 := Tryz.sizeOf86
 unfold u5 eqH
 generalize f 0 = a0
 generalize f 1 = a1
 generalize f 2 = a2
 generalize f 3 = a3
 generalize f 4 = a4
 generalize g 0 = b0
 generalize g 1 = b1
 generalize g 2 = b2
 generalize g 3 = b3
 generalize g 4 = b4
 rw [show (10000 : Nat) = 9999 + 1 from rfl, Op.equalIn]
 simp only [Sem.run_bind, run_underlying Tryz.underlying87, Result.andThen_ok]
 simp only [Std.Legacy.Range.forIn_eq_forIn_range', Std.Legacy.Range.size, Nat.sub_zero, Nat.add_sub_cancel, Nat.div_one, List.range'_succ, List.range'_zero, List.forIn_cons, List.forIn_nil]
 by_cases h0 : a0 = b0
 ·subst h0
  by_cases h1 : a1 = b1
  ·subst h1
   by_cases h2 : a2 = b2
   ·subst h2
    by_cases h3 : a3 = b3
    ·subst h3
     by_cases h4 : a4 = b4
     ·subst h4
      go_simp
     ·go_simp
    ·go_simp
   ·go_simp
  ·go_simp
 ·go_simp
theorem ok_neH {F : Fr} {t : Tm} {h : Hp} {d : Option Tmp} {ty : TypeId} {ps : String} {af : Array Edge} {gd : Option (Nat × Bool)} (T' : Nat) (x y : Operand) (f g : Nat → Int) (hx : ev t x = hashA f) (hy : ev t y = hashA g) :
  OpWp Tryz.prog F ⟨d, .binOp .neq 87 x y T', ty, ps, af, gd⟩ t h (.val (.bool (!eqH f g))) h :=
 OpWp.pure fun r a w hr ht => by
  have key : ∀ (f : Nat → Int) (V : Value), VR w (hashA f) r (Mut F.M0 r h) V → V = u5 f := by
   intro f V hv
   unfold VR at hv
   obtain ⟨A, rfl, hv⟩ := hv
   have := vals_inv (Us := [.int .u32 (f 0), .int .u32 (f 1), .int .u32 (f 2), .int .u32 (f 3), .int .u32 (f 4)]) hv
   rw [arr_of this]
   rfl
  have h1 := key f _ (hx ▸ VR_ev ht x)
  have h2 := key g _ (hy ▸ VR_ev ht y)
  refine ⟨_, ?_, vr_val⟩
  have h3 := eq5 f g w
  have hg : (eqGuard .neq 87 x y (u5 f) (u5 g)).run Tryz.prog w = .ok () w := by
   unfold eqGuard u5
   simp
  have hb : (binOp .neq 87 (u5 f) (u5 g)).run Tryz.prog w = .ok (.bool (!eqH f g)) w := by
   have e : binOp .neq 87 (u5 f) (u5 g) = (do pure (.bool (!(← Op.equal 87 (u5 f) (u5 g))))) := rfl
   rw [e]
   simp only [Op.equal, Op.maxDepth, Sem.run_bind, h3, Result.andThen, Sem.run_pure]
  simp only [execOp, h1, h2, Sem.run_bind, hg, hb, Result.andThen, Sem.run_pure]
end Go.Proofs.YthjldemjipnmdaaGreatDoor.Sx
namespace Go.Proofs.YthjldemjipnmdaaGreatDoor.Sx
open Go.RowKit
set_option maxRecDepth 100000
theorem numS_le : ∀ (l : List UInt8) (n m : Nat), n ≤ 9223372036854775807 → numS l n = some m → m ≤ 9223372036854775807
 | [], n, m, hn, h => by
  rw [numS_nil] at h
  cases h
  exact hn
 | b :: l, n, m, hn, h => by
  rw [numS_cons] at h
  split at h
  ·rename_i hc
   exact numS_le l _ m hc.2 h
  ·cases h
theorem wNum_bd (w : ByteArray) : 0 ≤ wNum w ∧ wNum w ≤ 9223372036854775807 := by
 unfold wNum
 cases h : numN w with
 | none => decide
 | some n =>
  unfold numN at h
  split at h
  ·cases h
  ·have := numS_le _ _ _ (by omega) h
   show 0 ≤ (n : Int) ∧ (n : Int) ≤ _
   omega
structure RowP (n : Nat) (r : LRow) : Prop where
 data : r.right = true → r.kind = kData → 2 ≤ r.nums.length ∧ (0 ≤ r.nums.getD 0 0 ∧ r.nums.getD 0 0 ≤ 9223372036854775807) ∧ (0 ≤ r.nums.getD 1 0 ∧ r.nums.getD 1 0 ≤ 9223372036854775807)
 exp : r.right = true → r.kind = kExp → 1 ≤ r.nums.length ∧ (0 ≤ r.nums.getD 0 0 ∧ r.nums.getD 0 0 ≤ 9223372036854775807)
 words : r.words.length ≤ 2
 size : (joinW r).size ≤ 2 * n
theorem joinW_size (r : LRow) (n : Nat) (h : r.words.length ≤ 2) (hs : ∀ p ∈ r.words, p.size ≤ n) : (joinW r).size ≤ 2 * n := by
 obtain ⟨kind, words, nums, right⟩ := r
 simp only at h hs
 show ((Lib.join (words.map (·.data.toList)) []).toArray).size ≤ _
 match words, h, hs with
 | [], _, _ => exact Nat.zero_le _
 | [a], _, hs =>
  have h1 : a.size ≤ n := hs a (by simp)
  simp [Lib.join, List.intercalate]
  omega
 | [a, b], _, hs =>
  have h1 : a.size ≤ n := hs a (by simp)
  have h3 : b.size ≤ n := hs b (by simp)
  simp [Lib.join, List.intercalate, List.intersperse]
  omega
 | _ :: _ :: _ :: _, h, _ => simp at h
theorem nums_getD (ws : List ByteArray) (i : Nat) : 0 ≤ (ws.map wNum).getD i 0 ∧ (ws.map wNum).getD i 0 ≤ 9223372036854775807 := by
 simp only [List.getD, List.getElem?_map]
 cases ws[i]? with
 | none => decide
 | some w => exact wNum_bd w
theorem words_le (s : ByteArray) : ∀ p ∈ wordsF s, p.size ≤ s.size := (wordsR_size s (s ++ blank1) 0 (s.size + 1) 0 (-1) [] (Nat.le_refl _) (fun p hp => by cases hp)).2
theorem numbers_p (kind s : ByteArray) (many n : Nat) (hm : many ≤ 2) (hk : kind = kData → many = 2) (hk2 : kind = kExp → many = 1) (hs : s.size ≤ n) : RowP n (numbersF kind s many) := by
 have hw := words_le s
 unfold numbersF
 cases h : okK (wordsF s) (wordsF s).length && decide ((wordsF s).length = many) with
 | true =>
  rw [Bool.and_eq_true, decide_eq_true_eq] at h
  refine ⟨fun _ e => ?_, fun _ e => ?_, by simp only; omega, joinW_size _ _ (by simp only; omega) (fun p hp => Nat.le_trans (hw p hp) hs)⟩
  ·have := hk e
   simp only [List.length_map]
   exact ⟨by omega, nums_getD _ _, nums_getD _ _⟩
  ·have := hk2 e
   simp only [List.length_map]
   exact ⟨by omega, nums_getD _ _⟩
 | false => exact ⟨fun e => (by cases e), fun e => (by cases e), Nat.zero_le _, joinW_size _ _ (Nat.zero_le _) (fun p hp => by cases hp)⟩
theorem read_p (s : ByteArray) (n : Nat) (hs : s.size ≤ n) : RowP n (readF s) := by
 have hr : (restOf s).size ≤ n := by unfold restOf; rw [ByteArray.size_extract]; omega
 have hc : (cutRem s).size ≤ n := Nat.le_trans (cut1_le _ _) hs
 have hrem : RowP n remRow := ⟨fun _ e => absurd e (by decide), fun _ e => absurd e (by decide), Nat.zero_le _, joinW_size _ _ (Nat.zero_le _) (fun p hp => by cases hp)⟩
 unfold readF
 split
 ·exact hrem
 ·split
  ·exact numbers_p _ _ _ _ (by decide) (fun e => absurd e (by decide)) (fun _ => rfl) hr
  ·split
   ·exact numbers_p _ _ _ _ (by decide) (fun e => absurd e (by decide)) (fun _ => rfl) hr
   ·split
    ·exact ⟨fun _ e => absurd e (by show kHash ≠ kData; decide), fun _ e => absurd e (by show kHash ≠ kExp; decide), Nat.zero_le _, joinW_size _ _ (Nat.zero_le _) (fun p hp => by cases hp)⟩
    ·split
     ·exact hrem
     ·exact numbers_p _ _ _ _ (by decide) (fun _ => rfl) (fun e => absurd e (by decide)) hc
theorem read_hash (s : ByteArray) (h : (readF s).kind = kHash) : 2 ≤ s.size := by
 have hn : ∀ (kind t : ByteArray) (m : Nat), (numbersF kind t m).kind = kind := fun kind t m => by
  unfold numbersF
  split <;> rfl
 unfold readF at h
 split at h
 ·exact absurd h (by decide)
 ·split at h
  ·rw [hn] at h; exact absurd h (by decide)
  ·split at h
   ·rw [hn] at h; exact absurd h (by decide)
   ·split at h
    ·rename_i h3; exact kind2 h3 rfl
    ·split at h
     ·exact absurd h (by decide)
     ·rw [hn] at h; exact absurd h (by decide)
theorem rows_p (s : ByteArray) : ∀ i, i < (rowsF s).length → RowP s.size ((rowsF s).getD i row0) ∧ (rowsF s).getD i row0 = readF ((splitF s).getD i ByteArray.empty) := by
 intro i hi
 have hs := (split_size s).2
 unfold rowsF at *
 rw [List.length_map] at hi
 have e : ((splitF s).map readF).getD i row0 = readF ((splitF s).getD i ByteArray.empty) := by simp [List.getD, hi]
 rw [e]
 exact ⟨read_p _ _ (hs _ (getD_mem hi)), rfl⟩
theorem parts_mem (kd : ByteArray) : ∀ (l : List LRow) (n : Nat), (∀ i, i < l.length → (joinW (l.getD i row0)).size ≤ n) → ∀ p ∈ partsK kd l, p.size ≤ n
 | [], _, _, p, hp => by cases hp
 | r :: l, n, h, p, hp => by
  have ih := parts_mem kd l n (fun i hi => h (i + 1) (by simp only [List.length_cons]; omega))
  have h0 : (joinW r).size ≤ n := h 0 (by simp only [List.length_cons]; omega)
  unfold partsK at hp
  split at hp
  ·rcases List.mem_cons.1 hp with e | e
   ·rw [e]; exact h0
   ·exact ih p e
  ·exact ih p hp
theorem catLen_bd (ps : List ByteArray) (n : Nat) (h : ∀ p ∈ ps, p.size ≤ n) : ∀ k, k ≤ ps.length → catLen (psLen ps) k ≤ k * n
 | 0, _ => by unfold catLen; omega
 | k + 1, hk => by
  have h1 := catLen_bd ps n h k (by omega)
  have h2 : psLen ps k ≤ n := h _ (getD_mem hk)
  unfold catLen
  rw [Nat.add_mul, Nat.one_mul]
  omega
theorem parts_few (l : List LRow) : (partsF l).length ≤ l.length := by
 unfold partsF
 simp only [List.length_append]
 induction l with
 | nil => exact Nat.le_refl _
 | cons r l ih =>
  have e : ∀ kd, partsK kd (r :: l) = if r.kind = kd then joinW r :: partsK kd l else partsK kd l := fun _ => rfl
  rw [e, e, e]
  simp only [List.length_cons]
  by_cases h1 : r.kind = kStamp
  ·rw [if_pos h1, if_neg (fun h => absurd (h1.symm.trans h) (by decide)), if_neg (fun h => absurd (h1.symm.trans h) (by decide))]
   simp only [List.length_cons]
   omega
  ·rw [if_neg h1]
   by_cases h2 : r.kind = kExp
   ·rw [if_pos h2, if_neg (fun h => absurd (h2.symm.trans h) (by decide))]
    simp only [List.length_cons]
    omega
   ·rw [if_neg h2]
    by_cases h3 : r.kind = kData
    ·rw [if_pos h3]
     simp only [List.length_cons]
     omega
    ·rw [if_neg h3]
     omega
theorem rowsF_len (s : ByteArray) : (rowsF s).length ≤ s.size + 1 := by
 unfold rowsF
 rw [List.length_map]
 exact (split_size s).1
theorem hashedF_ac (s : ByteArray) (hs : s.size ≤ 7000) : AC Tryz.prog 50 (L1 (rowsA (rowsF s))) (digA (hashedD (rowsF s))) := by
 have hr := rows_p s
 have hl := rowsF_len s
 have hp := parts_few (rowsF s)
 have hm : ∀ p ∈ partsF (rowsF s), p.size ≤ 2 * s.size := by
  intro p hp
  have hsz : ∀ i, i < (rowsF s).length → (joinW ((rowsF s).getD i row0)).size ≤ 2 * s.size := fun i hi => (hr i hi).1.size
  unfold partsF at hp
  rcases List.mem_append.1 hp with h | h
  ·exact parts_mem _ _ _ hsz p h
  ·rcases List.mem_append.1 h with h | h
   ·exact parts_mem _ _ _ hsz p h
   ·exact parts_mem _ _ _ hsz p h
 have hc := catLen_bd _ _ hm (partsF (rowsF s)).length (Nat.le_refl _)
 have hmul : (partsF (rowsF s)).length * (2 * s.size) ≤ 7001 * 14000 := Nat.mul_le_mul (by omega) (by omega)
 exact hashed_ac _ (fun i hi => ⟨by have := (hr i hi).1.words; omega, by have := (hr i hi).1.size; omega⟩) (by omega) (by omega) (by omega)
end Go.Proofs.YthjldemjipnmdaaGreatDoor.Sx
