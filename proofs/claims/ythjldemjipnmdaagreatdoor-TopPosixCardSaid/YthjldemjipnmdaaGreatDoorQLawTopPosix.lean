/- TopPosix: of each source that compiles, and each POSIX second that is known: turned into a day and a second, and back, it is the same, and two seconds share one just at an inserted second; no condition. Texts laid together, without what none of them names (wip/block/prune.py): Sw4, Sw5, Sw6, Sw7, Sw8, Sw9, Tx1, Tx2, Tx3, Ty1, Ty2, Ty3, Tw1, LawTopPosix. -/
import Derived.Test.YthjldemjipnmdaaGreatDoorQ4
import Derived.WalkSpells
import Derived.RegionTactic
import Derived.Test.YthjldemjipnmdaaGreatDoorRows
import Derived.Test.YthjldemjipnmdaaGreatDoorQ1
import Derived.Lib.LaidTab
import Derived.LaidLaws
import Derived.LaidSub
import Derived.Stop.LaidErr
import Derived.ProofKit
import Derived.Test.YthjldemjipnmdaaGreatDoorCards
import Derived.Test.YthjldemjipnmdaaGreatDoorTie
import Derived.Deep.DeepHandedRow
import Derived.WalkKit
import Derived.OpenShut
import Derived.ShutString
import Derived.ChangeOld
import Derived.Below
import Derived.SizedLaws
import Derived.ChangeSlices
namespace Go.Proofs.YthjldemjipnmdaaGreatDoor.Sx
open Go.RowKit
set_option maxRecDepth 100000
abbrev U8 (c : Int) : AV := .val (.int .u8 c)
theorem used0_ac : AC Tryz.prog 162 (L1 (U8 0)) (B false) := by
 refine AC.enter Tryz.func162 Tryz.ntmps162 rfl rfl rfl (fun F hX => ?_)
 repeat' (first | refine stp tab2_ok rfl (by first | exact sideN | exact sideT (by omega)) ?_ | refine gT rfl rfl (by omega) ?_ | refine gF rfl rfl (by omega) ?_ | refine gNT rfl rfl (by omega) ?_ | refine gNF rfl rfl (by omega) ?_ | fail)
 repeat' (first | refine stp tab2_ok rfl (by first | exact sideN | exact sideT (by omega)) ?_ | refine gT rfl rfl (by omega) ?_ | refine gF rfl rfl (by omega) ?_ | refine gNT rfl rfl (by omega) ?_ | refine gNF rfl rfl (by omega) ?_ | refine gS rfl rfl (fun _ => ?_) (fun _ => ?_) | refine gNS rfl rfl (fun _ => ?_) (fun _ => ?_) | refine gBS rfl rfl (fun _ => ?_) (fun _ => ?_) | refine gBN rfl rfl (fun _ => ?_) (fun _ => ?_) | refine good_ret tab2_ok hX rfl (Sub.of_eq ?_) | refine good_end tab2_ok hX rfl (Sub.of_eq ?_) | fail)
 rfl
theorem idxU_ac (n : Nat) (hn : n ≤ 100000) : AC Tryz.prog 212 (L2 (.im 1 n zB) (.fn 162 .nil)) (I (-1)) := by
 refine AC.enter Tryz.func212 Tryz.ntmps212 rfl rfl rfl (fun F hX => ?_)
 repeat' (first | refine stp tab2_ok rfl (by first | exact sideN | exact sideT (by omega)) ?_ | refine gT rfl rfl (by omega) ?_ | refine gF rfl rfl (by omega) ?_ | refine gNT rfl rfl (by omega) ?_ | refine gNF rfl rfl (by omega) ?_ | fail)
 refine good_rounds (fun k : Nat => [(0, .im 1 n zB), (0 + 1, .fn 162 .nil), (7, I n), (8, I k)]) (fun _ => []) (fun k : Nat => n - k) (fun k : Nat => k ≤ n) 0 (Nat.zero_le _) (Wk.mk ⟨Sub.of_eq rfl, Sub.of_eq rfl, Sub.of_eq rfl, Sub.of_eq rfl, trivial⟩ trivial rfl rfl (pin0 hX)) (fun k hk => ?_)
 by_cases hlt : k < n
 ·repeat' (first | refine stp tab2_ok rfl (by first | exact sideN | exact sideT (by omega)) ?_ | refine gT rfl rfl (by omega) ?_ | refine gF rfl rfl (by omega) ?_ | refine gNT rfl rfl (by omega) ?_ | refine gNF rfl rfl (by omega) ?_ | fail)
  refine good_call rfl rfl rfl rfl rfl ent162 (used0_ac) rfl ?_
  repeat' (first | refine stp tab2_ok rfl (by first | exact sideN | exact sideT (by omega)) ?_ | refine gT rfl rfl (by omega) ?_ | refine gF rfl rfl (by omega) ?_ | refine gNT rfl rfl (by omega) ?_ | refine gNF rfl rfl (by omega) ?_ | fail)
  exact good_again (k + 1) (by omega) (by omega) (Wk.mk ⟨Sub.of_eq rfl, Sub.of_eq rfl, Sub.of_eq rfl, Sub.of_eq rfl, trivial⟩ trivial rfl rfl (pin0 hX))
 ·obtain rfl : k = n := by omega
  repeat' (first | refine stp tab2_ok rfl (by first | exact sideN | exact sideT (by omega)) ?_ | refine gT rfl rfl (by omega) ?_ | refine gF rfl rfl (by omega) ?_ | refine gNT rfl rfl (by omega) ?_ | refine gNF rfl rfl (by omega) ?_ | fail)
  repeat' (first | refine stp tab2_ok rfl (by first | exact sideN | exact sideT (by omega)) ?_ | refine gT rfl rfl (by omega) ?_ | refine gF rfl rfl (by omega) ?_ | refine gNT rfl rfl (by omega) ?_ | refine gNF rfl rfl (by omega) ?_ | refine gS rfl rfl (fun _ => ?_) (fun _ => ?_) | refine gNS rfl rfl (fun _ => ?_) (fun _ => ?_) | refine gBS rfl rfl (fun _ => ?_) (fun _ => ?_) | refine gBN rfl rfl (fun _ => ?_) (fun _ => ?_) | refine good_ret tab2_ok hX rfl (Sub.of_eq ?_) | refine good_end tab2_ok hX rfl (Sub.of_eq ?_) | fail)
  rfl
theorem idxM_ac (els : Nat → AL) : AC Tryz.prog 212 (L2 (.im 1 0 els) (.fn 168 .nil)) (I (-1)) := by
 refine AC.enter Tryz.func212 Tryz.ntmps212 rfl rfl rfl (fun F hX => ?_)
 repeat' (first | refine stp tab2_ok rfl (by first | exact sideN | exact sideT (by omega)) ?_ | refine gT rfl rfl (by omega) ?_ | refine gF rfl rfl (by omega) ?_ | refine gNT rfl rfl (by omega) ?_ | refine gNF rfl rfl (by omega) ?_ | fail)
 refine good_loopN 3 ?_
 repeat' (first | refine stp tab2_ok rfl (by first | exact sideN | exact sideT (by omega)) ?_ | refine gT rfl rfl (by omega) ?_ | refine gF rfl rfl (by omega) ?_ | refine gNT rfl rfl (by omega) ?_ | refine gNF rfl rfl (by omega) ?_ | fail)
 repeat' (first | refine stp tab2_ok rfl (by first | exact sideN | exact sideT (by omega)) ?_ | refine gT rfl rfl (by omega) ?_ | refine gF rfl rfl (by omega) ?_ | refine gNT rfl rfl (by omega) ?_ | refine gNF rfl rfl (by omega) ?_ | refine gS rfl rfl (fun _ => ?_) (fun _ => ?_) | refine gNS rfl rfl (fun _ => ?_) (fun _ => ?_) | refine gBS rfl rfl (fun _ => ?_) (fun _ => ?_) | refine gBN rfl rfl (fun _ => ?_) (fun _ => ?_) | refine good_ret tab2_ok hX rfl (Sub.of_eq ?_) | refine good_end tab2_ok hX rfl (Sub.of_eq ?_) | fail)
 rfl
theorem conU_ac (n : Nat) (hn : n ≤ 100000) : AC Tryz.prog 164 (L2 (.im 1 n zB) (.fn 162 .nil)) (B false) := by
 refine AC.enter Tryz.func164 Tryz.ntmps164 rfl rfl rfl (fun F hX => ?_)
 repeat' (first | refine stp tab2_ok rfl (by first | exact sideN | exact sideT (by omega)) ?_ | refine gT rfl rfl (by omega) ?_ | refine gF rfl rfl (by omega) ?_ | refine gNT rfl rfl (by omega) ?_ | refine gNF rfl rfl (by omega) ?_ | fail)
 refine good_call rfl rfl rfl rfl rfl ent212 (idxU_ac n hn) rfl ?_
 repeat' (first | refine stp tab2_ok rfl (by first | exact sideN | exact sideT (by omega)) ?_ | refine gT rfl rfl (by omega) ?_ | refine gF rfl rfl (by omega) ?_ | refine gNT rfl rfl (by omega) ?_ | refine gNF rfl rfl (by omega) ?_ | fail)
 repeat' (first | refine stp tab2_ok rfl (by first | exact sideN | exact sideT (by omega)) ?_ | refine gT rfl rfl (by omega) ?_ | refine gF rfl rfl (by omega) ?_ | refine gNT rfl rfl (by omega) ?_ | refine gNF rfl rfl (by omega) ?_ | refine gS rfl rfl (fun _ => ?_) (fun _ => ?_) | refine gNS rfl rfl (fun _ => ?_) (fun _ => ?_) | refine gBS rfl rfl (fun _ => ?_) (fun _ => ?_) | refine gBN rfl rfl (fun _ => ?_) (fun _ => ?_) | refine good_ret tab2_ok hX rfl (Sub.of_eq ?_) | refine good_end tab2_ok hX rfl (Sub.of_eq ?_) | fail)
 rfl
theorem conM_ac (els : Nat → AL) : AC Tryz.prog 164 (L2 (.im 1 0 els) (.fn 168 .nil)) (B false) := by
 refine AC.enter Tryz.func164 Tryz.ntmps164 rfl rfl rfl (fun F hX => ?_)
 repeat' (first | refine stp tab2_ok rfl (by first | exact sideN | exact sideT (by omega)) ?_ | refine gT rfl rfl (by omega) ?_ | refine gF rfl rfl (by omega) ?_ | refine gNT rfl rfl (by omega) ?_ | refine gNF rfl rfl (by omega) ?_ | fail)
 refine good_call rfl rfl rfl rfl rfl ent212 (idxM_ac els) rfl ?_
 repeat' (first | refine stp tab2_ok rfl (by first | exact sideN | exact sideT (by omega)) ?_ | refine gT rfl rfl (by omega) ?_ | refine gF rfl rfl (by omega) ?_ | refine gNT rfl rfl (by omega) ?_ | refine gNF rfl rfl (by omega) ?_ | fail)
 repeat' (first | refine stp tab2_ok rfl (by first | exact sideN | exact sideT (by omega)) ?_ | refine gT rfl rfl (by omega) ?_ | refine gF rfl rfl (by omega) ?_ | refine gNT rfl rfl (by omega) ?_ | refine gNF rfl rfl (by omega) ?_ | refine gS rfl rfl (fun _ => ?_) (fun _ => ?_) | refine gNS rfl rfl (fun _ => ?_) (fun _ => ?_) | refine gBS rfl rfl (fun _ => ?_) (fun _ => ?_) | refine gBN rfl rfl (fun _ => ?_) (fun _ => ?_) | refine good_ret tab2_ok hX rfl (Sub.of_eq ?_) | refine good_end tab2_ok hX rfl (Sub.of_eq ?_) | fail)
 rfl
theorem marked_ac (e1 e2 : Nat → AL) : AC Tryz.prog 120 (L2 (.im 1 0 e1) (.im 1 0 e2)) (B true) := by
 refine AC.enter Tryz.func120 Tryz.ntmps120 rfl rfl rfl (fun F hX => ?_)
 repeat' (first | refine stp tab2_ok rfl (by first | exact sideN | exact sideT (by omega)) ?_ | refine gT rfl rfl (by omega) ?_ | refine gF rfl rfl (by omega) ?_ | refine gNT rfl rfl (by omega) ?_ | refine gNF rfl rfl (by omega) ?_ | fail)
 refine good_loopN 3 ?_
 repeat' (first | refine stp tab2_ok rfl (by first | exact sideN | exact sideT (by omega)) ?_ | refine gT rfl rfl (by omega) ?_ | refine gF rfl rfl (by omega) ?_ | refine gNT rfl rfl (by omega) ?_ | refine gNF rfl rfl (by omega) ?_ | fail)
 refine good_call rfl rfl rfl rfl rfl ent164 (conM_ac e1) rfl ?_
 repeat' (first | refine stp tab2_ok rfl (by first | exact sideN | exact sideT (by omega)) ?_ | refine gT rfl rfl (by omega) ?_ | refine gF rfl rfl (by omega) ?_ | refine gNT rfl rfl (by omega) ?_ | refine gNF rfl rfl (by omega) ?_ | fail)
 refine good_callG rfl rfl rfl rfl rfl rfl rfl rfl rfl ent164 (conM_ac e2) rfl ?_
 repeat' (first | refine stp tab2_ok rfl (by first | exact sideN | exact sideT (by omega)) ?_ | refine gT rfl rfl (by omega) ?_ | refine gF rfl rfl (by omega) ?_ | refine gNT rfl rfl (by omega) ?_ | refine gNF rfl rfl (by omega) ?_ | fail)
 repeat' (first | refine stp tab2_ok rfl (by first | exact sideN | exact sideT (by omega)) ?_ | refine gT rfl rfl (by omega) ?_ | refine gF rfl rfl (by omega) ?_ | refine gNT rfl rfl (by omega) ?_ | refine gNF rfl rfl (by omega) ?_ | refine gS rfl rfl (fun _ => ?_) (fun _ => ?_) | refine gNS rfl rfl (fun _ => ?_) (fun _ => ?_) | refine gBS rfl rfl (fun _ => ?_) (fun _ => ?_) | refine gBN rfl rfl (fun _ => ?_) (fun _ => ?_) | refine good_ret tab2_ok hX rfl (Sub.of_eq ?_) | refine good_end tab2_ok hX rfl (Sub.of_eq ?_) | fail)
 rfl
theorem version_ac (v : Int) (hv : 2 ≤ v ∧ v ≤ 4) : AC Tryz.prog 161 (L1 (I (48 + v))) (I v) := by
 refine AC.enter Tryz.func161 Tryz.ntmps161 rfl rfl rfl (fun F hX => ?_)
 repeat' (first | refine stp tab2_ok rfl (by first | exact sideN | exact sideT (by omega)) ?_ | refine gT rfl rfl (by omega) ?_ | refine gF rfl rfl (by omega) ?_ | refine gNT rfl rfl (by omega) ?_ | refine gNF rfl rfl (by omega) ?_ | fail)
 repeat' (first | refine stp tab2_ok rfl (by first | exact sideN | exact sideT (by omega)) ?_ | refine gT rfl rfl (by omega) ?_ | refine gF rfl rfl (by omega) ?_ | refine gNT rfl rfl (by omega) ?_ | refine gNF rfl rfl (by omega) ?_ | refine gS rfl rfl (fun _ => ?_) (fun _ => ?_) | refine gNS rfl rfl (fun _ => ?_) (fun _ => ?_) | refine gBS rfl rfl (fun _ => ?_) (fun _ => ?_) | refine gBN rfl rfl (fun _ => ?_) (fun _ => ?_) | refine good_ret tab2_ok hX rfl (Sub.of_eq ?_) | refine good_end tab2_ok hX rfl (Sub.of_eq ?_) | fail)
 exact congrArg (fun q => AV.val (.int .i64 q)) (by omega)
theorem rok_bc (n : Nat) (els : Nat → AL) : BC Tryz.prog 163 256 (rdA n els) .nil (B true) (rdA n els) := by
 refine BC.enter 900 Tryz.func163 Tryz.ntmps163 rfl rfl rfl (fun F b hX hb => ?_)
 repeat' (first | refine stp tab2_ok rfl (by first | exact sideN | exact sideT (by omega)) ?_ | refine gT rfl rfl (by omega) ?_ | refine gF rfl rfl (by omega) ?_ | refine gNT rfl rfl (by omega) ?_ | refine gNF rfl rfl (by omega) ?_ | fail)
 exact good_retB tab2_ok hX rfl rfl (Sub.refl _) (SubL.refl _)
set_option maxHeartbeats 4000000 in
theorem hdecode_ac (n : Nat) (els : Nat → AL) (v leap char : Int) (hv : 2 ≤ v ∧ v ≤ 4) (hl : 0 ≤ leap ∧ leap ≤ 201) (hc : 1 ≤ char ∧ char ≤ 256) (hn : 44 ≤ n ∧ n ≤ 100000) (he : ∀ i, i < 44 → els i = headE v leap char i) : AC Tryz.prog 114 (L1 (.im 1 n els)) (.tup (L2 (.agg (headL v leap 1 char)) (B true))) := by
 refine AC.enter Tryz.func114 Tryz.ntmps114 rfl rfl rfl (fun F hX => ?_)
 have h1 : ∀ i, i < 4 → els i = byteEls tzif4 i := fun i hi => by
  rw [he i (by omega)]
  rcases (show i = 0 ∨ i = 1 ∨ i = 2 ∨ i = 3 by omega) with rfl | rfl | rfl | rfl <;> rfl
 have h2 : ∀ i, i < 1 → shiftF els 4 i = putZ (48 + v) 1 i := fun i hi => by
  obtain rfl : i = 0 := Nat.lt_one_iff.1 hi
  have e : putAt (48 + v) 1 0 = 48 + v := by
   unfold putAt
   rw [wrap8_eq, fdivP]
   show (48 + v) / ((2 ^ 0 : Nat) : Int) % 256 = 48 + v
   omega
  show els (0 + 4) = _
  rw [he 4 (by omega)]
  unfold putZ
  rw [e]
  rfl
 have h3 : ∀ i, i < 15 → shiftF (shiftF els 4) 1 i = zB i := fun i hi => by
  show els (i + 1 + 4) = _
  rw [he _ (by omega)]
  rcases (show i = 0 ∨ i = 1 ∨ i = 2 ∨ i = 3 ∨ i = 4 ∨ i = 5 ∨ i = 6 ∨ i = 7 ∨ i = 8 ∨ i = 9 ∨ i = 10 ∨ i = 11 ∨ i = 12 ∨ i = 13 ∨ i = 14 by omega) with rfl | rfl | rfl | rfl | rfl | rfl | rfl | rfl | rfl | rfl | rfl | rfl | rfl | rfl | rfl <;> rfl
 have g0 : ∀ i, i < 4 → (shiftF (shiftF (shiftF els 4) 1) 15) i = putZ 0 4 i := fun i hi => by
  show els (i + 15 + 1 + 4) = _
  rw [he _ (by omega)]
  rcases (show i = 0 ∨ i = 1 ∨ i = 2 ∨ i = 3 by omega) with rfl | rfl | rfl | rfl <;> rfl
 have g1 : ∀ i, i < 4 → (shiftF (shiftF (shiftF (shiftF els 4) 1) 15) 4) i = putZ 0 4 i := fun i hi => by
  show els (i + 4 + 15 + 1 + 4) = _
  rw [he _ (by omega)]
  rcases (show i = 0 ∨ i = 1 ∨ i = 2 ∨ i = 3 by omega) with rfl | rfl | rfl | rfl <;> rfl
 have g2 : ∀ i, i < 4 → (shiftF (shiftF (shiftF (shiftF (shiftF els 4) 1) 15) 4) 4) i = putZ leap 4 i := fun i hi => by
  show els (i + 4 + 4 + 15 + 1 + 4) = _
  rw [he _ (by omega)]
  rcases (show i = 0 ∨ i = 1 ∨ i = 2 ∨ i = 3 by omega) with rfl | rfl | rfl | rfl <;> rfl
 have g3 : ∀ i, i < 4 → (shiftF (shiftF (shiftF (shiftF (shiftF (shiftF els 4) 1) 15) 4) 4) 4) i = putZ 0 4 i := fun i hi => by
  show els (i + 4 + 4 + 4 + 15 + 1 + 4) = _
  rw [he _ (by omega)]
  rcases (show i = 0 ∨ i = 1 ∨ i = 2 ∨ i = 3 by omega) with rfl | rfl | rfl | rfl <;> rfl
 have g4 : ∀ i, i < 4 → (shiftF (shiftF (shiftF (shiftF (shiftF (shiftF (shiftF els 4) 1) 15) 4) 4) 4) 4) i = putZ 1 4 i := fun i hi => by
  show els (i + 4 + 4 + 4 + 4 + 15 + 1 + 4) = _
  rw [he _ (by omega)]
  rcases (show i = 0 ∨ i = 1 ∨ i = 2 ∨ i = 3 by omega) with rfl | rfl | rfl | rfl <;> rfl
 have g5 : ∀ i, i < 4 → (shiftF (shiftF (shiftF (shiftF (shiftF (shiftF (shiftF (shiftF els 4) 1) 15) 4) 4) 4) 4) 4) i = putZ char 4 i := fun i hi => by
  show els (i + 4 + 4 + 4 + 4 + 4 + 15 + 1 + 4) = _
  rw [he _ (by omega)]
  rcases (show i = 0 ∨ i = 1 ∨ i = 2 ∨ i = 3 by omega) with rfl | rfl | rfl | rfl <;> rfl
 have ho : strF 4 (fun i => byteAt tzif4 i) = tzif4 := by decide
 iterate 6 (refine stp tab2_ok rfl sideN ?_)
 refine good_pin 2 125 _ rfl rfl (fun p => ?_)
 repeat' (first | refine stp tab2_ok rfl (by first | exact sideN | exact sideT (by omega)) ?_ | refine gT rfl rfl (by omega) ?_ | refine gF rfl rfl (by omega) ?_ | refine gNT rfl rfl (by omega) ?_ | refine gNF rfl rfl (by omega) ?_ | fail)
 refine good_by rfl (call_wpPt (s := 11) rfl rfl rfl rfl ent115 (open_pc n els hn.2) rfl rfl) rfl ?_
 repeat' (first | refine stp tab2_ok rfl (by first | exact sideN | exact sideT (by omega)) ?_ | refine gT rfl rfl (by omega) ?_ | refine gF rfl rfl (by omega) ?_ | refine gNT rfl rfl (by omega) ?_ | refine gNF rfl rfl (by omega) ?_ | fail)
 refine good_callB rfl rfl rfl rfl rfl rfl rfl ent118 (take_bc n 4 els (byteEls tzif4) (by omega) hn.2 h1) rfl ?_
 refine good_by rfl (ok_bytesStr _ _ _ 4 _ (fun i => byteAt tzif4 i) _ _ _ _ rfl (fun i hi => rfl) (tab2_ok _ _ rfl) rfl (tab2_ok _ _ rfl) rfl (tab2_ok _ _ rfl) rfl) rfl ?_
 rw [ho]
 repeat' (first | refine stp tab2_ok rfl (by first | exact sideN | exact sideT (by omega)) ?_ | refine gT rfl rfl (by omega) ?_ | refine gF rfl rfl (by omega) ?_ | refine gNT rfl rfl (by omega) ?_ | refine gNF rfl rfl (by omega) ?_ | fail)
 refine good_callB rfl rfl rfl rfl rfl rfl rfl ent116 (num_bc (n - 4) 1 (shiftF els 4) (48 + v) (by omega) (.inl ⟨rfl, by omega, by omega⟩) h2) rfl ?_
 repeat' (first | refine stp tab2_ok rfl (by first | exact sideN | exact sideT (by omega)) ?_ | refine gT rfl rfl (by omega) ?_ | refine gF rfl rfl (by omega) ?_ | refine gNT rfl rfl (by omega) ?_ | refine gNF rfl rfl (by omega) ?_ | fail)
 refine good_call rfl rfl rfl rfl rfl ent161 (version_ac v hv) rfl ?_
 repeat' (first | refine stp tab2_ok rfl (by first | exact sideN | exact sideT (by omega)) ?_ | refine gT rfl rfl (by omega) ?_ | refine gF rfl rfl (by omega) ?_ | refine gNT rfl rfl (by omega) ?_ | refine gNF rfl rfl (by omega) ?_ | fail)
 refine good_callB rfl rfl rfl rfl rfl rfl rfl ent118 (take_bc (n - 4 - 1) 15 (shiftF (shiftF els 4) 1) zB (by omega) (by omega) h3) rfl ?_
 repeat' (first | refine stp tab2_ok rfl (by first | exact sideN | exact sideT (by omega)) ?_ | refine gT rfl rfl (by omega) ?_ | refine gF rfl rfl (by omega) ?_ | refine gNT rfl rfl (by omega) ?_ | refine gNF rfl rfl (by omega) ?_ | fail)
 refine good_asVal 21 rfl pinF_at ?_
 refine good_asVal 22 rfl pinF_at ?_
 refine good_asVal 23 rfl pinF_at ?_
 refine good_asVal 24 rfl pinF_at ?_
 refine good_asVal 25 rfl pinF_at ?_
 refine good_asVal 26 rfl pinF_at ?_
 repeat' (first | refine stp tab2_ok rfl (by first | exact sideN | exact sideT (by omega)) ?_ | refine gT rfl rfl (by omega) ?_ | refine gF rfl rfl (by omega) ?_ | refine gNT rfl rfl (by omega) ?_ | refine gNF rfl rfl (by omega) ?_ | fail)
 refine good_loopN 8 ?_
 repeat' (first | refine stp tab2_ok rfl (by first | exact sideN | exact sideT (by omega)) ?_ | refine gT rfl rfl (by omega) ?_ | refine gF rfl rfl (by omega) ?_ | refine gNT rfl rfl (by omega) ?_ | refine gNF rfl rfl (by omega) ?_ | fail)
 refine good_callB rfl rfl rfl rfl rfl rfl rfl ent116 (num_bc (n - 4 - 1 - 15) 4 (shiftF (shiftF (shiftF els 4) 1) 15) 0 (by omega) (.inr (.inl ⟨rfl, by omega, by omega⟩)) g0) rfl ?_
 refine good_asPtr 33 rfl pinF_at ?_
 repeat' (first | refine stp tab2_ok rfl (by first | exact sideN | exact sideT (by omega)) ?_ | refine gT rfl rfl (by omega) ?_ | refine gF rfl rfl (by omega) ?_ | refine gNT rfl rfl (by omega) ?_ | refine gNF rfl rfl (by omega) ?_ | fail)
 refine good_callB rfl rfl rfl rfl rfl rfl rfl ent116 (num_bc (n - 4 - 1 - 15 - 4) 4 (shiftF (shiftF (shiftF (shiftF els 4) 1) 15) 4) 0 (by omega) (.inr (.inl ⟨rfl, by omega, by omega⟩)) g1) rfl ?_
 refine good_asPtr 33 rfl pinF_at ?_
 repeat' (first | refine stp tab2_ok rfl (by first | exact sideN | exact sideT (by omega)) ?_ | refine gT rfl rfl (by omega) ?_ | refine gF rfl rfl (by omega) ?_ | refine gNT rfl rfl (by omega) ?_ | refine gNF rfl rfl (by omega) ?_ | fail)
 refine good_callB rfl rfl rfl rfl rfl rfl rfl ent116 (num_bc (n - 4 - 1 - 15 - 4 - 4) 4 (shiftF (shiftF (shiftF (shiftF (shiftF els 4) 1) 15) 4) 4) leap (by omega) (.inr (.inl ⟨rfl, by omega, by omega⟩)) g2) rfl ?_
 refine good_asPtr 33 rfl pinF_at ?_
 repeat' (first | refine stp tab2_ok rfl (by first | exact sideN | exact sideT (by omega)) ?_ | refine gT rfl rfl (by omega) ?_ | refine gF rfl rfl (by omega) ?_ | refine gNT rfl rfl (by omega) ?_ | refine gNF rfl rfl (by omega) ?_ | fail)
 refine good_callB rfl rfl rfl rfl rfl rfl rfl ent116 (num_bc (n - 4 - 1 - 15 - 4 - 4 - 4) 4 (shiftF (shiftF (shiftF (shiftF (shiftF (shiftF els 4) 1) 15) 4) 4) 4) 0 (by omega) (.inr (.inl ⟨rfl, by omega, by omega⟩)) g3) rfl ?_
 refine good_asPtr 33 rfl pinF_at ?_
 repeat' (first | refine stp tab2_ok rfl (by first | exact sideN | exact sideT (by omega)) ?_ | refine gT rfl rfl (by omega) ?_ | refine gF rfl rfl (by omega) ?_ | refine gNT rfl rfl (by omega) ?_ | refine gNF rfl rfl (by omega) ?_ | fail)
 refine good_callB rfl rfl rfl rfl rfl rfl rfl ent116 (num_bc (n - 4 - 1 - 15 - 4 - 4 - 4 - 4) 4 (shiftF (shiftF (shiftF (shiftF (shiftF (shiftF (shiftF els 4) 1) 15) 4) 4) 4) 4) 1 (by omega) (.inr (.inl ⟨rfl, by omega, by omega⟩)) g4) rfl ?_
 refine good_asPtr 33 rfl pinF_at ?_
 repeat' (first | refine stp tab2_ok rfl (by first | exact sideN | exact sideT (by omega)) ?_ | refine gT rfl rfl (by omega) ?_ | refine gF rfl rfl (by omega) ?_ | refine gNT rfl rfl (by omega) ?_ | refine gNF rfl rfl (by omega) ?_ | fail)
 refine good_callB rfl rfl rfl rfl rfl rfl rfl ent116 (num_bc (n - 4 - 1 - 15 - 4 - 4 - 4 - 4 - 4) 4 (shiftF (shiftF (shiftF (shiftF (shiftF (shiftF (shiftF (shiftF els 4) 1) 15) 4) 4) 4) 4) 4) char (by omega) (.inr (.inl ⟨rfl, by omega, by omega⟩)) g5) rfl ?_
 refine good_asPtr 33 rfl pinF_at ?_
 repeat' (first | refine stp tab2_ok rfl (by first | exact sideN | exact sideT (by omega)) ?_ | refine gT rfl rfl (by omega) ?_ | refine gF rfl rfl (by omega) ?_ | refine gNT rfl rfl (by omega) ?_ | refine gNF rfl rfl (by omega) ?_ | fail)
 have hX2 : (pinF F 2 p).X = (fun _ => False) ∧ (pinF F 2 p).R0 = updR r0 2 (.pointer (some ⟨p, 0, none⟩)) := ⟨hX.1, by show updR F.R0 2 _ = _; rw [hX.2]⟩
 refine good_weak (t' := [(38, .ptr 11 0), (5, S tzif4), (6, .im 1 15 zB), (9, .fn 162 .nil), (2, .ptr 2 0)]) (h' := [(11, .box 256 (rdA (n - 4 - 1 - 15 - 4 - 4 - 4 - 4 - 4 - 4) (shiftF (shiftF (shiftF (shiftF (shiftF (shiftF (shiftF (shiftF (shiftF els 4) 1) 15) 4) 4) 4) 4) 4) 4))), (2, .box 125 (headL v leap 1 char))]) (Wk.mk ⟨Sub.of_eq rfl, Sub.of_eq rfl, Sub.of_eq rfl, Sub.of_eq rfl, Sub.of_eq rfl, trivial⟩ ⟨⟨_, rfl, SubO.refl _⟩, ⟨_, rfl, SubO.refl _⟩, trivial⟩ rfl rfl (pin1 hX2 rfl)) ?_
 generalize (shiftF (shiftF (shiftF (shiftF (shiftF (shiftF (shiftF (shiftF (shiftF els 4) 1) 15) 4) 4) 4) 4) 4) 4) = e9
 generalize (n - 4 - 1 - 15 - 4 - 4 - 4 - 4 - 4 - 4) = n9
 refine good_callB rfl rfl rfl rfl rfl rfl rfl ent163 (rok_bc n9 e9) rfl ?_
 iterate 5 (refine stp tab2_ok rfl (by first | exact sideN | exact sideT (by omega)) ?_)
 rw [show decide (tzif4 ≠ (⟨#[84, 90, 105, 102]⟩ : ByteArray)) = false from by decide]
 repeat' (first | refine stp tab2_ok rfl (by first | exact sideN | exact sideT (by omega)) ?_ | refine gT rfl rfl (by omega) ?_ | refine gF rfl rfl (by omega) ?_ | refine gNT rfl rfl (by omega) ?_ | refine gNF rfl rfl (by omega) ?_ | fail)
 refine good_callG rfl rfl rfl rfl rfl rfl rfl rfl rfl ent164 (conU_ac 15 (by decide)) rfl ?_
 repeat' (first | refine stp tab2_ok rfl (by first | exact sideN | exact sideT (by omega)) ?_ | refine gT rfl rfl (by omega) ?_ | refine gF rfl rfl (by omega) ?_ | refine gNT rfl rfl (by omega) ?_ | refine gNF rfl rfl (by omega) ?_ | fail)
 refine good_callG rfl rfl rfl rfl rfl rfl rfl rfl rfl ent125 (headR_ac v leap char (by omega) hl hc) rfl ?_
 repeat' (first | refine stp tab2_ok rfl (by first | exact sideN | exact sideT (by omega)) ?_ | refine gT rfl rfl (by omega) ?_ | refine gF rfl rfl (by omega) ?_ | refine gNT rfl rfl (by omega) ?_ | refine gNF rfl rfl (by omega) ?_ | fail)
 exact good_retP tab2_ok hX rfl (Sub.of_eq rfl)
end Go.Proofs.YthjldemjipnmdaaGreatDoor.Sx
namespace Go.Proofs.YthjldemjipnmdaaGreatDoor.Sx
open Go.RowKit
set_option maxRecDepth 100000
theorem shiftF_at (els : Nat → AL) (l i : Nat) : shiftF els l i = els (i + l) := by
 cases l with
 | zero => rfl
 | succ l => rfl
theorem cut_tz_ac (n sz : Nat) (els : Nat → AL) (v leap char size : Int) (hv : 2 ≤ v ∧ v ≤ 4) (hl : 0 ≤ leap ∧ leap ≤ 201) (hc : 1 ≤ char ∧ char ≤ 256) (hs : size = 4 ∨ size = 8) (hsz : (sz : Int) = 6 + char + leap * (size + 4)) (hn : 44 + sz ≤ n ∧ n ≤ 100000) (he : ∀ i, i < 44 → els i = headE v leap char i) : AC Tryz.prog 56 (L2 (.im 1 n els) (I size)) (.tup (L4 (.agg (headL v leap 1 char)) (.im 1 sz (shiftF els 44)) (.im 1 (n - 44 - sz) (shiftF (shiftF els 44) sz)) (B true))) := by
 have hd := hdecode_ac n els v leap char hv hl hc (by omega) he
 have hz := headS_ac v leap char size (by omega) hl hc hs
 rw [← hsz] at hz
 refine AC.enter Tryz.func56 Tryz.ntmps56 rfl rfl rfl (fun F hX => ?_)
 repeat' (first | refine stp tab2_ok rfl (by first | exact sideN | exact sideT (by omega)) ?_ | refine gT rfl rfl (by omega) ?_ | refine gF rfl rfl (by omega) ?_ | refine gNT rfl rfl (by omega) ?_ | refine gNF rfl rfl (by omega) ?_ | fail)
 refine good_call rfl rfl rfl rfl rfl ent114 (hd) rfl ?_
 repeat' (first | refine stp tab2_ok rfl (by first | exact sideN | exact sideT (by omega)) ?_ | refine gT rfl rfl (by omega) ?_ | refine gF rfl rfl (by omega) ?_ | refine gNT rfl rfl (by omega) ?_ | refine gNF rfl rfl (by omega) ?_ | fail)
 refine good_call rfl rfl rfl rfl rfl ent113 (hz) rfl ?_
 repeat' (first | refine stp tab2_ok rfl (by first | exact sideN | exact sideT (by omega)) ?_ | refine gT rfl rfl (by omega) ?_ | refine gF rfl rfl (by omega) ?_ | refine gNT rfl rfl (by omega) ?_ | refine gNF rfl rfl (by omega) ?_ | fail)
 refine dg_start ?_
 repeat' (first | refine dgp tab2_ok rfl (by first | exact sideN | exact sideT (by omega)) ?_ | fail)
 refine dg_end mixed rfl ?_
 refine good_ret tab2_ok hX rfl (Sub.tup (SubL.cons (Sub.of_eq rfl) (SubL.cons (Sub.im (by omega) (fun i _ => rfl)) (SubL.cons (Sub.im (by omega) (fun i _ => by simp only [Int.toNat_natCast]; rfl)) (SubL.refl _)))))
def footM : ByteArray := ⟨#[85, 84, 67, 48, 10]⟩
theorem cfoot_ac (n : Nat) (els : Nat → AL) (hn : n = 6) (he : ∀ i, i < 6 → els i = byteEls footT i) : AC Tryz.prog 58 (L1 (.im 1 n els)) (.tup (L2 (S utc0) (B true))) := by
 subst hn
 have ho : strF 6 (fun i => byteAt footT i) = footT := by decide
 have h1 := cutPrefix_ac footT ⟨#[10]⟩
 rw [show (⟨(Lib.trimPrefix footT.data.toList (⟨#[10]⟩ : ByteArray).data.toList).toArray⟩ : ByteArray) = footM from by decide, show Lib.hasPrefix footT.data.toList (⟨#[10]⟩ : ByteArray).data.toList = true from by decide] at h1
 have h2 := cutSuffix_ac footM ⟨#[10]⟩ (by decide)
 rw [show (⟨(Lib.trimSuffix footM.data.toList (⟨#[10]⟩ : ByteArray).data.toList).toArray⟩ : ByteArray) = utc0 from by decide, show Lib.hasSuffix footM.data.toList (⟨#[10]⟩ : ByteArray).data.toList = true from by decide] at h2
 have hs := (Sub.im (sz := 1) (n := 6) (els := els) (els' := byteEls footT) rfl he)
 refine AC.args (args := L1 (.im 1 6 (byteEls footT))) ?_ (SubL.cons hs (SubL.refl _))
 refine AC.enter Tryz.func58 Tryz.ntmps58 rfl rfl rfl (fun F hX => ?_)
 repeat' (first | refine stp tab2_ok rfl (by first | exact sideN | exact sideT (by omega)) ?_ | refine gT rfl rfl (by omega) ?_ | refine gF rfl rfl (by omega) ?_ | refine gNT rfl rfl (by omega) ?_ | refine gNF rfl rfl (by omega) ?_ | fail)
 refine good_by rfl (ok_bytesStr _ _ _ 6 _ (fun i => byteAt footT i) _ _ _ _ rfl (fun i hi => rfl) (tab2_ok _ _ rfl) rfl (tab2_ok _ _ rfl) rfl (tab2_ok _ _ rfl) rfl) rfl ?_
 rw [ho]
 repeat' (first | refine stp tab2_ok rfl (by first | exact sideN | exact sideT (by omega)) ?_ | refine gT rfl rfl (by omega) ?_ | refine gF rfl rfl (by omega) ?_ | refine gNT rfl rfl (by omega) ?_ | refine gNF rfl rfl (by omega) ?_ | fail)
 refine good_call rfl rfl rfl rfl rfl ent121 (h1) rfl ?_
 repeat' (first | refine stp tab2_ok rfl (by first | exact sideN | exact sideT (by omega)) ?_ | refine gT rfl rfl (by omega) ?_ | refine gF rfl rfl (by omega) ?_ | refine gNT rfl rfl (by omega) ?_ | refine gNF rfl rfl (by omega) ?_ | fail)
 refine good_call rfl rfl rfl rfl rfl ent122 (h2) rfl ?_
 repeat' (first | refine stp tab2_ok rfl (by first | exact sideN | exact sideT (by omega)) ?_ | refine gT rfl rfl (by omega) ?_ | refine gF rfl rfl (by omega) ?_ | refine gNT rfl rfl (by omega) ?_ | refine gNF rfl rfl (by omega) ?_ | fail)
 have h3 := contains1_ac utc0 10
 rw [show decide (0 ≤ Lib.indexByte utc0.data.toList 10) = false from by decide] at h3
 refine good_callG rfl rfl rfl rfl rfl rfl rfl rfl rfl ent123 (h3) rfl ?_
 repeat' (first | refine stp tab2_ok rfl (by first | exact sideN | exact sideT (by omega)) ?_ | refine gT rfl rfl (by omega) ?_ | refine gF rfl rfl (by omega) ?_ | refine gNT rfl rfl (by omega) ?_ | refine gNF rfl rfl (by omega) ?_ | fail)
 repeat' (first | refine stp tab2_ok rfl (by first | exact sideN | exact sideT (by omega)) ?_ | refine gT rfl rfl (by omega) ?_ | refine gF rfl rfl (by omega) ?_ | refine gNT rfl rfl (by omega) ?_ | refine gNF rfl rfl (by omega) ?_ | refine gS rfl rfl (fun _ => ?_) (fun _ => ?_) | refine gNS rfl rfl (fun _ => ?_) (fun _ => ?_) | refine gBS rfl rfl (fun _ => ?_) (fun _ => ?_) | refine gBN rfl rfl (fun _ => ?_) (fun _ => ?_) | refine good_ret tab2_ok hX rfl (Sub.of_eq ?_) | refine good_end tab2_ok hX rfl (Sub.of_eq ?_) | fail)
 rfl
end Go.Proofs.YthjldemjipnmdaaGreatDoor.Sx
namespace Go.Proofs.YthjldemjipnmdaaGreatDoor.Sx
open Go.RowKit
set_option maxRecDepth 100000
def zoneE (v : Int) : AL := .cons (.val (.slice none 0 0)) (.cons transU (.cons (.val (.slice none 0 0)) (.cons (S noS) (.cons (I v) .nil))))
def zone0 : AL := .cons (.val (.slice none 0 0)) (.cons (.val (.slice none 0 0)) (.cons (.val (.slice none 0 0)) (.cons (S noS) (.cons (I 0) .nil))))
def dH (n : Nat) (els : Nat → AL) (v leap : Int) : Hp := [(1009, .box 256 (rdA n els)), (1010, .box 38 (zoneE v)), (1006, .box 38 zone0), (1003, .box 125 (headL v leap 1 4))]
def tyRow (s : ByteArray) : Nat → AL := fun _ => L3 (I 0) (B false) (S s)
def dK (n : Nat) (els : Nat → AL) (v leap : Int) : Hp := [(1009, .box 256 (rdA n els)), (1031, .row 75 3 1 (tyRow noS)), (1010, .box 38 (zoneE v)), (1006, .box 38 zone0), (1003, .box 125 (headL v leap 1 4))]
theorem dH_fresh {n : Nat} {els : Nat → AL} {v leap : Int} {g : Nat} (h : freshH (dH n els v leap) g = false) : g = 1009 ∨ g = 1010 ∨ g = 1006 ∨ g = 1003 := by
 unfold freshH dH at h
 rw [getH_cons, getH_cons, getH_cons, getH_cons] at h
 by_cases h1 : 1009 = g
 ·omega
 ·rw [if_neg h1] at h
  by_cases h2 : 1010 = g
  ·omega
  ·rw [if_neg h2] at h
   by_cases h3 : 1006 = g
   ·omega
   ·rw [if_neg h3] at h
    by_cases h4 : 1003 = g
    ·omega
    ·rw [if_neg h4] at h
     cases h
set_option maxHeartbeats 2000000 in
theorem types_hc (n : Nat) (els : Nat → AL) (v leap : Int) (hn : 6 ≤ n ∧ n ≤ 100000) (h1 : ∀ i, i < 4 → els i = putZ 0 4 i) (h2 : ∀ i, i < 1 → shiftF els 4 i = putZ 0 1 i) (h3 : ∀ i, i < 1 → shiftF (shiftF els 4) 1 i = putZ 0 1 i) : HC Tryz.prog 117 (L2 (.ptr 1009 0) (I 1)) (dH n els v leap) (.tup (L3 (.own 1031) (.im 1 1 (fun _ => .cons (I 0) .nil)) (B true))) (dK (n - 4 - 1 - 1) (shiftF (shiftF (shiftF els 4) 1) 1) v leap) := by
 refine HC.enter Tryz.func117 Tryz.ntmps117 rfl rfl rfl (fun F hP => ?_)
 repeat' (first | refine stp tab2_ok rfl (by first | exact sideN | exact sideT (by omega)) ?_ | refine gT rfl rfl (by omega) ?_ | refine gF rfl rfl (by omega) ?_ | refine gNT rfl rfl (by omega) ?_ | refine gNF rfl rfl (by omega) ?_ | fail)
 refine good_loopN 3 ?_
 repeat' (first | refine stp tab2_ok rfl (by first | exact sideN | exact sideT (by omega)) ?_ | refine gT rfl rfl (by omega) ?_ | refine gF rfl rfl (by omega) ?_ | refine gNT rfl rfl (by omega) ?_ | refine gNF rfl rfl (by omega) ?_ | fail)
 refine good_callB rfl rfl rfl rfl rfl rfl rfl ent116 (num_bc n 4 els 0 (by omega) (.inr (.inl ⟨rfl, by decide, by decide⟩)) h1) rfl ?_
 repeat' (first | refine stp tab2_ok rfl (by first | exact sideN | exact sideT (by omega)) ?_ | refine gT rfl rfl (by omega) ?_ | refine gF rfl rfl (by omega) ?_ | refine gNT rfl rfl (by omega) ?_ | refine gNF rfl rfl (by omega) ?_ | fail)
 refine good_callB rfl rfl rfl rfl rfl rfl rfl ent116 (num_bc (n - 4) 1 (shiftF els 4) 0 (by omega) (.inl ⟨rfl, by decide, by decide⟩) h2) rfl ?_
 repeat' (first | refine stp tab2_ok rfl (by first | exact sideN | exact sideT (by omega)) ?_ | refine gT rfl rfl (by omega) ?_ | refine gF rfl rfl (by omega) ?_ | refine gNT rfl rfl (by omega) ?_ | refine gNF rfl rfl (by omega) ?_ | fail)
 refine good_callB rfl rfl rfl rfl rfl rfl rfl ent116 (num_bc (n - 4 - 1) 1 (shiftF (shiftF els 4) 1) 0 (by omega) (.inl ⟨rfl, by decide, by decide⟩) h3) rfl ?_
 repeat' (first | refine stp tab2_ok rfl (by first | exact sideN | exact sideT (by omega)) ?_ | refine gT rfl rfl (by omega) ?_ | refine gF rfl rfl (by omega) ?_ | refine gNT rfl rfl (by omega) ?_ | refine gNF rfl rfl (by omega) ?_ | fail)
 refine good_freeze 28 rfl ?_
 refine good_swap 23 1031 rfl (fun g V e => by have := dH_fresh (hP g V e); omega) ?_
 refine good_weak (t' := [(4, .own 1031), (5, .im 1 1 (fun _ => .cons (I 0) .nil)), (6, B true)]) (h' := dK (n - 4 - 1 - 1) (shiftF (shiftF (shiftF els 4) 1) 1) v leap) (Wk.mk ⟨Sub.of_eq rfl, im1 rfl, Sub.of_eq rfl, trivial⟩ ⟨⟨_, rfl, SubO.refl _⟩, ⟨_, rfl, SubO.row rfl (fun i hi => by obtain rfl : i = 0 := Nat.lt_one_iff.1 hi; rfl)⟩, ⟨_, rfl, SubO.refl _⟩, ⟨_, rfl, SubO.refl _⟩, ⟨_, rfl, SubO.refl _⟩, trivial⟩ rfl rfl (fun g V e => ?_)) ?_
 ·have := dH_fresh (hP g V e)
  rcases this with rfl | rfl | rfl | rfl <;> rfl
 exact good_retH tab2_ok rfl (Sub.refl _)
end Go.Proofs.YthjldemjipnmdaaGreatDoor.Sx
namespace Go.Proofs.YthjldemjipnmdaaGreatDoor.Sx
open Go.RowKit
set_option maxRecDepth 100000
theorem encR_lo (l : List Cr) : ∀ (m k i : Nat), k < m → i < 8 → encR l m (10 + 12 * k + i) = putZ (l.getD k cr0).at_ 8 i
 | 0, k, i, h, _ => by omega
 | m + 1, k, i, h, hi => by
  show catF (10 + 12 * m + 8) (catF (10 + 12 * m) (encR l m) (putZ (l.getD m cr0).at_ 8)) (putZ (l.getD m cr0).corr 4) (10 + 12 * k + i) = _
  unfold catF
  rw [if_pos (by omega)]
  by_cases e : k = m
  ·subst e
   rw [if_neg (by omega), show 10 + 12 * k + i - (10 + 12 * k) = i by omega]
  ·rw [if_pos (by omega)]
   exact encR_lo l m k i (by omega) hi
theorem encR_hi (l : List Cr) : ∀ (m k i : Nat), k < m → i < 4 → encR l m (10 + 12 * k + 8 + i) = putZ (l.getD k cr0).corr 4 i
 | 0, k, i, h, _ => by omega
 | m + 1, k, i, h, hi => by
  show catF (10 + 12 * m + 8) (catF (10 + 12 * m) (encR l m) (putZ (l.getD m cr0).at_ 8)) (putZ (l.getD m cr0).corr 4) (10 + 12 * k + 8 + i) = _
  unfold catF
  by_cases e : k = m
  ·subst e
   rw [if_neg (by omega), show 10 + 12 * k + 8 + i - (10 + 12 * k + 8) = i by omega]
  ·rw [if_pos (by omega), if_pos (by omega)]
   exact encR_hi l m k i (by omega) hi
theorem encR_T (l : List Cr) : ∀ (m i : Nat), i < 10 → encR l m i = encT i
 | 0, i, _ => rfl
 | m + 1, i, hi => by
  show catF (10 + 12 * m + 8) (catF (10 + 12 * m) (encR l m) (putZ (l.getD m cr0).at_ 8)) (putZ (l.getD m cr0).corr 4) i = _
  unfold catF
  rw [if_pos (by omega), if_pos (by omega)]
  exact encR_T l m i hi
def zoneN (l : List Cr) (v : Int) : AL := .cons typesU (.cons transU (L3 (corrA l) (S noS) (I v)))
def leftE (e : Nat → AL) (k : Nat) : Nat → AL := fun i => e (10 + 12 * k + i)
set_option maxHeartbeats 4000000 in
theorem bdecode_ac (l : List Cr) (v : Int) (n : Nat) (els : Nat → AL) (hv : 2 ≤ v ∧ v ≤ 4) (hl : l.length ≤ 201) (hn : n = 10 + 12 * l.length) (he : ∀ i, i < n → els i = encR l l.length i) (hr : ∀ i, i < l.length → (0 ≤ (l.getD i cr0).at_ ∧ (l.getD i cr0).at_ < 36028797018963968) ∧ -100000 ≤ (l.getD i cr0).corr ∧ (l.getD i cr0).corr ≤ 100000) :
  AC Tryz.prog 57 (L3 (.agg (headL v l.length 1 4)) (.im 1 n els) (I 8)) (.tup (L2 (.agg (zoneN l v)) (B true))) := by
 have hE : ∀ i, i < 10 → els i = encT i := fun i hi => by rw [he i (by omega), encR_T l _ i hi]
 have h1 : ∀ i, i < 4 → els i = putZ 0 4 i := fun i hi => by
  rw [hE i (by omega)]
  rcases (show i = 0 ∨ i = 1 ∨ i = 2 ∨ i = 3 by omega) with rfl | rfl | rfl | rfl <;> rfl
 have h2 : ∀ i, i < 1 → shiftF els 4 i = putZ 0 1 i := fun i hi => by
  obtain rfl : i = 0 := Nat.lt_one_iff.1 hi
  show els (0 + 4) = _
  rw [hE 4 (by omega)]
  rfl
 have h3 : ∀ i, i < 1 → shiftF (shiftF els 4) 1 i = putZ 0 1 i := fun i hi => by
  obtain rfl : i = 0 := Nat.lt_one_iff.1 hi
  show els (0 + 1 + 4) = _
  rw [hE 5 (by omega)]
  rfl
 have h4 : ∀ i, i < 4 → shiftF (shiftF (shiftF els 4) 1) 1 i = byteEls pool1 i := fun i hi => by
  show els (i + 1 + 1 + 4) = _
  rw [hE _ (by omega)]
  rcases (show i = 0 ∨ i = 1 ∨ i = 2 ∨ i = 3 by omega) with rfl | rfl | rfl | rfl <;> rfl
 have hp : strF 4 (fun i => byteAt pool1 i) = pool1 := by decide
 have hz := headS_ac v l.length 4 8 (by omega) (by omega) (by decide) (.inr rfl)
 refine AC.enter Tryz.func57 Tryz.ntmps57 rfl rfl rfl (fun F hX => ?_)
 repeat' (first | refine stp tab2_ok rfl (by first | exact sideN | exact sideT (by omega)) ?_ | refine gT rfl rfl (by omega) ?_ | refine gF rfl rfl (by omega) ?_ | refine gNT rfl rfl (by omega) ?_ | refine gNF rfl rfl (by omega) ?_ | fail)
 refine good_call rfl rfl rfl rfl rfl ent113 (hz) rfl ?_
 repeat' (first | refine stp tab2_ok rfl (by first | exact sideN | exact sideT (by omega)) ?_ | refine gT rfl rfl (by omega) ?_ | refine gF rfl rfl (by omega) ?_ | refine gNT rfl rfl (by omega) ?_ | refine gNF rfl rfl (by omega) ?_ | fail)
 refine good_by rfl (call_wpPt (s := 34) rfl rfl rfl rfl ent115 (open_pc n els (by omega)) rfl rfl) rfl ?_
 repeat' (first | refine stp tab2_ok rfl (by first | exact sideN | exact sideT (by omega)) ?_ | refine gT rfl rfl (by omega) ?_ | refine gF rfl rfl (by omega) ?_ | refine gNT rfl rfl (by omega) ?_ | refine gNF rfl rfl (by omega) ?_ | fail)
 refine dg_start ?_
 repeat' (first | refine dgp tab2_ok rfl (by first | exact sideN | exact sideT (by omega)) ?_ | fail)
 refine dg_end mixed rfl ?_
 refine good_freeze 39 rfl ?_
 repeat' (first | refine stp tab2_ok rfl (by first | exact sideN | exact sideT (by omega)) ?_ | refine gT rfl rfl (by omega) ?_ | refine gF rfl rfl (by omega) ?_ | refine gNT rfl rfl (by omega) ?_ | refine gNF rfl rfl (by omega) ?_ | fail)
 refine good_loopN 3 ?_
 repeat' (first | refine stp tab2_ok rfl (by first | exact sideN | exact sideT (by omega)) ?_ | refine gT rfl rfl (by omega) ?_ | refine gF rfl rfl (by omega) ?_ | refine gNT rfl rfl (by omega) ?_ | refine gNF rfl rfl (by omega) ?_ | fail)
 refine good_loopN 3 ?_
 repeat' (first | refine stp tab2_ok rfl (by first | exact sideN | exact sideT (by omega)) ?_ | refine gT rfl rfl (by omega) ?_ | refine gF rfl rfl (by omega) ?_ | refine gNT rfl rfl (by omega) ?_ | refine gNF rfl rfl (by omega) ?_ | fail)
 refine good_swap 34 1009 rfl (swap0 hX) ?_
 refine good_swap 10 1010 rfl (swap0 hX) ?_
 refine good_swap 6 1006 rfl (swap0 hX) ?_
 refine good_swap 3 1003 rfl (swap0 hX) ?_
 refine good_weak (t' := [(71, .ptr 1009 0), (73, I 1), (9, .ptr 1009 0), (10, .ptr 1010 0), (6, .ptr 1006 0), (3, .ptr 1003 0), (2, I 8)]) (h' := dH n els v l.length) (Wk.mk ⟨Sub.of_eq rfl, Sub.of_eq rfl, Sub.of_eq rfl, Sub.of_eq rfl, Sub.of_eq rfl, Sub.of_eq rfl, Sub.of_eq rfl, trivial⟩ ⟨⟨_, rfl, SubO.refl _⟩, ⟨_, rfl, SubO.box (SubL.cons (Sub.refl _) (SubL.cons (Sub.im rfl (fun i hi => by cases hi)) (SubL.refl _)))⟩, ⟨_, rfl, SubO.refl _⟩, ⟨_, rfl, SubO.refl _⟩, trivial⟩ rfl rfl (pin0 hX)) ?_
 refine good_callH rfl rfl rfl rfl ent117 (types_hc n els v l.length (by omega) h1 h2 h3) rfl ?_
 repeat' (first | refine stp tab2_ok rfl (by first | exact sideN | exact sideT (by omega)) ?_ | refine gT rfl rfl (by omega) ?_ | refine gF rfl rfl (by omega) ?_ | refine gNT rfl rfl (by omega) ?_ | refine gNF rfl rfl (by omega) ?_ | fail)
 refine good_callB rfl rfl rfl rfl rfl rfl rfl ent118 (take_bc (n - 4 - 1 - 1) 4 (shiftF (shiftF (shiftF els 4) 1) 1) (byteEls pool1) (by omega) (by omega) h4) rfl ?_
 refine good_by rfl (ok_bytesStr _ _ _ 4 _ (fun i => byteAt pool1 i) _ _ _ _ rfl (fun i hi => rfl) (tab2_ok _ _ rfl) rfl (tab2_ok _ _ rfl) rfl (tab2_ok _ _ rfl) rfl) rfl ?_
 rw [hp]
 repeat' (first | refine stp tab2_ok rfl (by first | exact sideN | exact sideT (by omega)) ?_ | refine gT rfl rfl (by omega) ?_ | refine gF rfl rfl (by omega) ?_ | refine gNT rfl rfl (by omega) ?_ | refine gNF rfl rfl (by omega) ?_ | fail)
 refine good_loopN 3 ?_
 repeat' (first | refine stp tab2_ok rfl (by first | exact sideN | exact sideT (by omega)) ?_ | refine gT rfl rfl (by omega) ?_ | refine gF rfl rfl (by omega) ?_ | refine gNT rfl rfl (by omega) ?_ | refine gNF rfl rfl (by omega) ?_ | fail)
 refine good_call rfl rfl rfl rfl rfl ent119 (at1_ac) rfl ?_
 repeat' (first | refine stp tab2_ok rfl (by first | exact sideN | exact sideT (by omega)) ?_ | refine gT rfl rfl (by omega) ?_ | refine gF rfl rfl (by omega) ?_ | refine gNT rfl rfl (by omega) ?_ | refine gNF rfl rfl (by omega) ?_ | fail)
 refine good_freeze 1031 rfl ?_
 repeat' (first | refine stp tab2_ok rfl (by first | exact sideN | exact sideT (by omega)) ?_ | refine gT rfl rfl (by omega) ?_ | refine gF rfl rfl (by omega) ?_ | refine gNT rfl rfl (by omega) ?_ | refine gNF rfl rfl (by omega) ?_ | fail)
 refine good_adoptB 1010 2 1000 80 2 (fun j => crA (l.getD j cr0)) rfl rfl rfl rfl ?_
 repeat' (first | refine stp tab2_ok rfl (by first | exact sideN | exact sideT (by omega)) ?_ | refine gT rfl rfl (by omega) ?_ | refine gF rfl rfl (by omega) ?_ | refine gNT rfl rfl (by omega) ?_ | refine gNF rfl rfl (by omega) ?_ | fail)
 refine good_rounds (fun k : Nat => [(109, I l.length), (110, I k), (9, .ptr 1009 0), (10, .ptr 1010 0), (6, .ptr 1006 0), (3, .ptr 1003 0), (2, I 8), (15, B true)]) (fun k : Nat => [(1009, .box 256 (rdA (12 * (l.length - k)) (leftE (encR l l.length) k))), (1010, .box 38 (.cons typesU (.cons transU (.cons (.own 1000) (.cons (S noS) (.cons (I v) .nil)))))), (1000, .row 80 2 k (fun j => crA (l.getD j cr0))), (1006, .box 38 zone0), (1003, .box 125 (headL v l.length 1 4))]) (fun k : Nat => l.length - k) (fun k : Nat => k ≤ l.length) 0 (Nat.zero_le _) (Wk.mk ⟨Sub.of_eq rfl, Sub.of_eq rfl, Sub.of_eq rfl, Sub.of_eq rfl, Sub.of_eq rfl, Sub.of_eq rfl, Sub.of_eq rfl, Sub.of_eq rfl, trivial⟩ ⟨⟨_, rfl, SubO.box (SubL.cons (Sub.im (by omega) (fun i hi => ?_)) (SubL.refl _))⟩, ⟨_, rfl, SubO.box (SubL.cons (im1 rfl) (SubL.refl _))⟩, ⟨_, rfl, SubO.refl _⟩, ⟨_, rfl, SubO.refl _⟩, ⟨_, rfl, SubO.refl _⟩, trivial⟩ rfl rfl (pin0 hX)) (fun k hk => ?_)
 ·show els (i + 4 + 1 + 1 + 4) = encR l l.length (10 + 12 * 0 + i)
  rw [he _ (by omega), show i + 4 + 1 + 1 + 4 = 10 + 12 * 0 + i by omega]
 by_cases hlt : k < l.length
 ·have hk8 : ∀ i, i < 8 → leftE (encR l l.length) k i = putZ (l.getD k cr0).at_ 8 i := fun i hi => encR_lo l l.length k i hlt hi
  have hk4 : ∀ i, i < 4 → shiftF (leftE (encR l l.length) k) 8 i = putZ (l.getD k cr0).corr 4 i := fun i hi => by
   show encR l l.length (10 + 12 * k + (i + 8)) = _
   rw [show 10 + 12 * k + (i + 8) = 10 + 12 * k + 8 + i by omega]
   exact encR_hi l l.length k i hlt hi
  obtain ⟨r1, r2⟩ := hr k hlt
  repeat' (first | refine stp tab2_ok rfl (by first | exact sideN | exact sideT (by omega)) ?_ | refine gT rfl rfl (by omega) ?_ | refine gF rfl rfl (by omega) ?_ | refine gNT rfl rfl (by omega) ?_ | refine gNF rfl rfl (by omega) ?_ | fail)
  refine good_callB rfl rfl rfl rfl rfl rfl rfl ent116 (num_bc (12 * (l.length - k)) 8 (leftE (encR l l.length) k) (l.getD k cr0).at_ (by omega) (.inr (.inr ⟨rfl, r1⟩)) hk8) rfl ?_
  repeat' (first | refine stp tab2_ok rfl (by first | exact sideN | exact sideT (by omega)) ?_ | refine gT rfl rfl (by omega) ?_ | refine gF rfl rfl (by omega) ?_ | refine gNT rfl rfl (by omega) ?_ | refine gNF rfl rfl (by omega) ?_ | fail)
  refine good_callB rfl rfl rfl rfl rfl rfl rfl ent116 (num_bc (12 * (l.length - k) - 8) 4 (shiftF (leftE (encR l l.length) k) 8) (l.getD k cr0).corr (by omega) (.inr (.inl ⟨rfl, by omega, by omega⟩)) hk4) rfl ?_
  repeat' (first | refine stp tab2_ok rfl (by first | exact sideN | exact sideT (by omega)) ?_ | refine gT rfl rfl (by omega) ?_ | refine gF rfl rfl (by omega) ?_ | refine gNT rfl rfl (by omega) ?_ | refine gNF rfl rfl (by omega) ?_ | fail)
  refine good_swap 123 1000 rfl (swap0 hX) ?_
  refine good_again (k + 1) (by omega) (by omega) (Wk.mk ⟨Sub.of_eq rfl, Sub.of_eq rfl, Sub.of_eq rfl, Sub.of_eq rfl, Sub.of_eq rfl, Sub.of_eq rfl, Sub.of_eq rfl, Sub.of_eq rfl, trivial⟩ ⟨⟨_, rfl, SubO.box (SubL.cons (Sub.im (by omega) (fun i hi => ?_)) (SubL.refl _))⟩, ⟨_, rfl, SubO.refl _⟩, ⟨_, rfl, SubO.row rfl (fun j hj => ?_)⟩, ⟨_, rfl, SubO.refl _⟩, ⟨_, rfl, SubO.refl _⟩, trivial⟩ rfl rfl (pin0 hX))
  ·show encR l l.length (10 + 12 * k + (i + 4 + 8)) = encR l l.length (10 + 12 * (k + 1) + i)
   congr 1
   omega
  ·unfold catF
   split
   ·rfl
   ·obtain rfl : j = k := by omega
    rw [Nat.sub_self]
    rfl
 ·obtain rfl : k = l.length := by omega
  repeat' (first | refine stp tab2_ok rfl (by first | exact sideN | exact sideT (by omega)) ?_ | refine gT rfl rfl (by omega) ?_ | refine gF rfl rfl (by omega) ?_ | refine gNT rfl rfl (by omega) ?_ | refine gNF rfl rfl (by omega) ?_ | fail)
  refine good_callB rfl rfl rfl rfl rfl rfl rfl ent118 (take_bc (12 * (l.length - l.length)) 0 (leftE (encR l l.length) l.length) zB (by omega) (by omega) (fun i hi => by cases hi)) rfl ?_
  repeat' (first | refine stp tab2_ok rfl (by first | exact sideN | exact sideT (by omega)) ?_ | refine gT rfl rfl (by omega) ?_ | refine gF rfl rfl (by omega) ?_ | refine gNT rfl rfl (by omega) ?_ | refine gNF rfl rfl (by omega) ?_ | fail)
  refine good_callB rfl rfl rfl rfl rfl rfl rfl ent118 (take_bc (12 * (l.length - l.length) - 0) 0 (shiftF (leftE (encR l l.length) l.length) 0) zB (by omega) (by omega) (fun i hi => by cases hi)) rfl ?_
  repeat' (first | refine stp tab2_ok rfl (by first | exact sideN | exact sideT (by omega)) ?_ | refine gT rfl rfl (by omega) ?_ | refine gF rfl rfl (by omega) ?_ | refine gNT rfl rfl (by omega) ?_ | refine gNF rfl rfl (by omega) ?_ | fail)
  refine good_call rfl rfl rfl rfl rfl ent120 (marked_ac zB zB) rfl ?_
  repeat' (first | refine stp tab2_ok rfl (by first | exact sideN | exact sideT (by omega)) ?_ | refine gT rfl rfl (by omega) ?_ | refine gF rfl rfl (by omega) ?_ | refine gNT rfl rfl (by omega) ?_ | refine gNF rfl rfl (by omega) ?_ | fail)
  refine good_freeze 1000 rfl ?_
  repeat' (first | refine stp tab2_ok rfl (by first | exact sideN | exact sideT (by omega)) ?_ | refine gT rfl rfl (by omega) ?_ | refine gF rfl rfl (by omega) ?_ | refine gNT rfl rfl (by omega) ?_ | refine gNF rfl rfl (by omega) ?_ | refine gS rfl rfl (fun _ => ?_) (fun _ => ?_) | refine gNS rfl rfl (fun _ => ?_) (fun _ => ?_) | refine gBS rfl rfl (fun _ => ?_) (fun _ => ?_) | refine gBN rfl rfl (fun _ => ?_) (fun _ => ?_) | refine good_ret tab2_ok hX rfl (Sub.of_eq ?_) | refine good_end tab2_ok hX rfl (Sub.of_eq ?_) | fail)
  rfl
end Go.Proofs.YthjldemjipnmdaaGreatDoor.Sx
namespace Go.Proofs.YthjldemjipnmdaaGreatDoor.Sx
open Go.RowKit
set_option maxRecDepth 100000
theorem cat_lo {n : Nat} {a b : Nat → AL} {i : Nat} (h : i < n) : catF n a b i = a i := if_pos h
theorem cat_hi {n : Nat} {a b : Nat → AL} {i : Nat} (h : n ≤ i) : catF n a b i = b (i - n) := if_neg (by omega)
theorem file_head (l : List Cr) (v : Int) (i : Nat) (h : i < 44) : fileE l v i = headE v 0 1 i := by
 show catF (0 + 44 + 7 + (54 + 12 * l.length)) (catF (0 + 44 + 7) (catF (0 + 44) (catF 0 (fun _ => .nil) (headE v 0 1)) zB) (partE l v)) (byteEls footT) i = _
 rw [cat_lo (by omega), cat_lo (by omega), cat_lo (by omega), cat_hi (by omega)]
 rfl
theorem part_head (l : List Cr) (v : Int) (i : Nat) (h : i < 44) : partE l v i = headE v l.length 4 i := by
 show catF (0 + 44) (catF 0 (fun _ => .nil) (headE v l.length 4)) (encR l l.length) i = _
 rw [cat_lo (by omega), cat_hi (by omega)]
 rfl
theorem part_enc (l : List Cr) (v : Int) (i : Nat) : partE l v (i + 44) = encR l l.length i := by
 show catF (0 + 44) (catF 0 (fun _ => .nil) (headE v l.length 4)) (encR l l.length) (i + 44) = _
 rw [cat_hi (by omega), show i + 44 - (0 + 44) = i by omega]
theorem file_part (l : List Cr) (v : Int) (i : Nat) (h : i < 54 + 12 * l.length) : fileE l v (i + 7 + 44) = partE l v i := by
 show catF (0 + 44 + 7 + (54 + 12 * l.length)) (catF (0 + 44 + 7) (catF (0 + 44) (catF 0 (fun _ => .nil) (headE v 0 1)) zB) (partE l v)) (byteEls footT) (i + 7 + 44) = _
 rw [cat_lo (by omega), cat_hi (by omega), show i + 7 + 44 - (0 + 44 + 7) = i by omega]
theorem file_foot (l : List Cr) (v : Int) (i : Nat) (h : i < 6) : fileE l v (i + (10 + 12 * l.length) + 44 + 7 + 44) = byteEls footT i := by
 show catF (0 + 44 + 7 + (54 + 12 * l.length)) (catF (0 + 44 + 7) (catF (0 + 44) (catF 0 (fun _ => .nil) (headE v 0 1)) zB) (partE l v)) (byteEls footT) _ = _
 rw [cat_hi (by omega)]
 congr 1
 omega
set_option maxHeartbeats 2000000 in
theorem tread_ac (l : List Cr) (v : Int) (hv : 2 ≤ v ∧ v ≤ 4) (hl : l.length ≤ 201) (hr : ∀ i, i < l.length → (0 ≤ (l.getD i cr0).at_ ∧ (l.getD i cr0).at_ < 36028797018963968) ∧ -100000 ≤ (l.getD i cr0).corr ∧ (l.getD i cr0).corr ≤ 100000) : AC Tryz.prog 24 (L1 (.im 1 (111 + 12 * l.length) (fileE l v))) (.tup (L2 (.agg (zoneL l v)) (B true))) := by
 have c1 := cut_tz_ac (111 + 12 * l.length) 7 (fileE l v) v 0 1 4 hv (by decide) (by decide) (.inl rfl) rfl (by omega) (fun i hi => file_head l v i hi)
 have c2 := cut_tz_ac (111 + 12 * l.length - 44 - 7) (10 + 12 * l.length) (shiftF (shiftF (fileE l v) 44) 7) v l.length 4 8 hv (by omega) (by decide) (.inr rfl) (by omega) (by omega) (fun i hi => by
  show fileE l v (i + 7 + 44) = _
  rw [file_part l v i (by omega), part_head l v i hi])
 have c3 := bdecode_ac l v (10 + 12 * l.length) (shiftF (shiftF (shiftF (fileE l v) 44) 7) 44) hv hl rfl (fun i hi => by
  show fileE l v (i + 44 + 7 + 44) = _
  rw [file_part l v (i + 44) (by omega), part_enc l v i]) hr
 have c4 := cfoot_ac (111 + 12 * l.length - 44 - 7 - 44 - (10 + 12 * l.length)) (shiftF (shiftF (shiftF (shiftF (fileE l v) 44) 7) 44) (10 + 12 * l.length)) (by omega) (fun i hi => by
  rw [shiftF_at]
  show fileE l v (i + (10 + 12 * l.length) + 44 + 7 + 44) = _
  exact file_foot l v i hi)
 refine AC.enter Tryz.func24 Tryz.ntmps24 rfl rfl rfl (fun F hX => ?_)
 repeat' (first | refine stp tab2_ok rfl (by first | exact sideN | exact sideT (by omega)) ?_ | refine gT rfl rfl (by omega) ?_ | refine gF rfl rfl (by omega) ?_ | refine gNT rfl rfl (by omega) ?_ | refine gNF rfl rfl (by omega) ?_ | fail)
 refine good_call rfl rfl rfl rfl rfl ent56 (c1) rfl ?_
 repeat' (first | refine stp tab2_ok rfl (by first | exact sideN | exact sideT (by omega)) ?_ | refine gT rfl rfl (by omega) ?_ | refine gF rfl rfl (by omega) ?_ | refine gNT rfl rfl (by omega) ?_ | refine gNF rfl rfl (by omega) ?_ | fail)
 refine good_call rfl rfl rfl rfl rfl ent56 (c2) rfl ?_
 repeat' (first | refine stp tab2_ok rfl (by first | exact sideN | exact sideT (by omega)) ?_ | refine gT rfl rfl (by omega) ?_ | refine gF rfl rfl (by omega) ?_ | refine gNT rfl rfl (by omega) ?_ | refine gNF rfl rfl (by omega) ?_ | fail)
 refine good_call rfl rfl rfl rfl rfl ent57 (c3) rfl ?_
 repeat' (first | refine stp tab2_ok rfl (by first | exact sideN | exact sideT (by omega)) ?_ | refine gT rfl rfl (by omega) ?_ | refine gF rfl rfl (by omega) ?_ | refine gNT rfl rfl (by omega) ?_ | refine gNF rfl rfl (by omega) ?_ | fail)
 refine good_call rfl rfl rfl rfl rfl ent58 (c4) rfl ?_
 repeat' (first | refine stp tab2_ok rfl (by first | exact sideN | exact sideT (by omega)) ?_ | refine gT rfl rfl (by omega) ?_ | refine gF rfl rfl (by omega) ?_ | refine gNT rfl rfl (by omega) ?_ | refine gNF rfl rfl (by omega) ?_ | fail)
 repeat' (first | refine stp tab2_ok rfl (by first | exact sideN | exact sideT (by omega)) ?_ | refine gT rfl rfl (by omega) ?_ | refine gF rfl rfl (by omega) ?_ | refine gNT rfl rfl (by omega) ?_ | refine gNF rfl rfl (by omega) ?_ | refine gS rfl rfl (fun _ => ?_) (fun _ => ?_) | refine gNS rfl rfl (fun _ => ?_) (fun _ => ?_) | refine gBS rfl rfl (fun _ => ?_) (fun _ => ?_) | refine gBN rfl rfl (fun _ => ?_) (fun _ => ?_) | refine good_ret tab2_ok hX rfl (Sub.of_eq ?_) | refine good_end tab2_ok hX rfl (Sub.of_eq ?_) | fail)
 rfl
theorem recs_rng (t : Tbl) (hr : Rt t) : (recs t).length ≤ 201 ∧ ∀ i, i < (recs t).length → (0 ≤ ((recs t).getD i cr0).at_ ∧ ((recs t).getD i cr0).at_ < 36028797018963968) ∧ -100000 ≤ ((recs t).getD i cr0).corr ∧ ((recs t).getD i cr0).corr ≤ 100000 := by
 have hlenr := recs_len t
 have hn := rt_len hr
 have hL := chkL_none hr.none
 refine ⟨by rw [hlenr]; split <;> omega, fun i hi => ?_⟩
 by_cases h1 : i < t.leaps.length
 ·rw [recs_lo t i h1]
  have h2 := sumAt_bd hL (i + 1) (by omega)
  have h3 := at_bd hL h1
  simp only
  omega
 ·have hh : t.has = true := by
   cases hh : t.has with
   | true => rfl
   | false => rw [hh] at hlenr; simp at hlenr; omega
  have hy := hr.yes hh
  rw [hh, if_pos rfl] at hlenr
  obtain rfl : i = t.leaps.length := by omega
  rw [recs_hi t hh]
  have h2 := sumAt_bd hL t.leaps.length (Nat.le_refl _)
  simp only
  omega
theorem tdecode_ac (t : Tbl) (hr : Rt t) : AC Tryz.prog 8 (L1 (fileA t)) (.tup (L2 (.agg (zoneL (recs t) (verF t))) (I 0))) := by
 obtain ⟨h1, h2⟩ := recs_rng t hr
 have hz := zright_ac t hr (verF t) (verF_bd t) (verF_has t)
 have hd := tread_ac (recs t) (verF t) (verF_bd t) h1 h2
 unfold fileA
 generalize recs t = l at *
 generalize verF t = v at *
 refine AC.enter Tryz.func8 Tryz.ntmps8 rfl rfl rfl (fun F hX => ?_)
 repeat' (first | refine stp tab2_ok rfl (by first | exact sideN | exact sideT (by omega)) ?_ | refine gT rfl rfl (by omega) ?_ | refine gF rfl rfl (by omega) ?_ | refine gNT rfl rfl (by omega) ?_ | refine gNF rfl rfl (by omega) ?_ | fail)
 refine good_call rfl rfl rfl rfl rfl ent24 (hd) rfl ?_
 repeat' (first | refine stp tab2_ok rfl (by first | exact sideN | exact sideT (by omega)) ?_ | refine gT rfl rfl (by omega) ?_ | refine gF rfl rfl (by omega) ?_ | refine gNT rfl rfl (by omega) ?_ | refine gNF rfl rfl (by omega) ?_ | fail)
 refine good_call rfl rfl rfl rfl rfl ent25 (hz) rfl ?_
 repeat' (first | refine stp tab2_ok rfl (by first | exact sideN | exact sideT (by omega)) ?_ | refine gT rfl rfl (by omega) ?_ | refine gF rfl rfl (by omega) ?_ | refine gNT rfl rfl (by omega) ?_ | refine gNF rfl rfl (by omega) ?_ | fail)
 repeat' (first | refine stp tab2_ok rfl (by first | exact sideN | exact sideT (by omega)) ?_ | refine gT rfl rfl (by omega) ?_ | refine gF rfl rfl (by omega) ?_ | refine gNT rfl rfl (by omega) ?_ | refine gNF rfl rfl (by omega) ?_ | refine gS rfl rfl (fun _ => ?_) (fun _ => ?_) | refine gNS rfl rfl (fun _ => ?_) (fun _ => ?_) | refine gBS rfl rfl (fun _ => ?_) (fun _ => ?_) | refine gBN rfl rfl (fun _ => ?_) (fun _ => ?_) | refine good_ret tab2_ok hX rfl (Sub.of_eq ?_) | refine good_end tab2_ok hX rfl (Sub.of_eq ?_) | fail)
 rfl
theorem copen_ac (t : Tbl) (hr : Rt t) : AC Tryz.prog 14 (L1 (fileA t)) (.tup (L2 (.pim (zoneL (recs t) (verF t))) (I 0))) := by
 have hd := tdecode_ac t hr
 have hk := knownZ_ac t hr (verF t) (verF_bd t) (verF_has t)
 unfold fileA at *
 generalize recs t = l at *
 generalize verF t = v at *
 refine AC.enter Tryz.func14 Tryz.ntmps14 rfl rfl rfl (fun F hX => ?_)
 repeat' (first | refine stp tab2_ok rfl (by first | exact sideN | exact sideT (by omega)) ?_ | refine gT rfl rfl (by omega) ?_ | refine gF rfl rfl (by omega) ?_ | refine gNT rfl rfl (by omega) ?_ | refine gNF rfl rfl (by omega) ?_ | fail)
 refine good_call rfl rfl rfl rfl rfl ent8 (hd) rfl ?_
 repeat' (first | refine stp tab2_ok rfl (by first | exact sideN | exact sideT (by omega)) ?_ | refine gT rfl rfl (by omega) ?_ | refine gF rfl rfl (by omega) ?_ | refine gNT rfl rfl (by omega) ?_ | refine gNF rfl rfl (by omega) ?_ | fail)
 refine good_call rfl rfl rfl rfl rfl ent36 (hk) rfl ?_
 repeat' (first | refine stp tab2_ok rfl (by first | exact sideN | exact sideT (by omega)) ?_ | refine gT rfl rfl (by omega) ?_ | refine gF rfl rfl (by omega) ?_ | refine gNT rfl rfl (by omega) ?_ | refine gNF rfl rfl (by omega) ?_ | fail)
 refine good_freezeB 22 rfl ?_
 repeat' (first | refine stp tab2_ok rfl (by first | exact sideN | exact sideT (by omega)) ?_ | refine gT rfl rfl (by omega) ?_ | refine gF rfl rfl (by omega) ?_ | refine gNT rfl rfl (by omega) ?_ | refine gNF rfl rfl (by omega) ?_ | refine gS rfl rfl (fun _ => ?_) (fun _ => ?_) | refine gNS rfl rfl (fun _ => ?_) (fun _ => ?_) | refine gBS rfl rfl (fun _ => ?_) (fun _ => ?_) | refine gBN rfl rfl (fun _ => ?_) (fun _ => ?_) | refine good_ret tab2_ok hX rfl (Sub.of_eq ?_) | refine good_end tab2_ok hX rfl (Sub.of_eq ?_) | fail)
 rfl
end Go.Proofs.YthjldemjipnmdaaGreatDoor.Sx
namespace Go.Proofs.YthjldemjipnmdaaGreatDoor.Sx
open Go.RowKit
set_option maxRecDepth 100000
end Go.Proofs.YthjldemjipnmdaaGreatDoor.Sx
namespace Go.Proofs.YthjldemjipnmdaaGreatDoor.Sx
open Go.RowKit
set_option maxRecDepth 100000
abbrev U64 (n : Int) : AV := .val (.int .u64 n)
def tG : Tbl := ⟨[⟨911, 1, false⟩, ⟨1095, -1, false⟩], false, 0⟩
theorem rtG : Rt tG := rt_of (by decide)
theorem nrG : nrT tG = tG := rfl
def tickA (s n : Int) : AV := .agg (L2 (I s) (I n))
theorem winW_ac (t from_ many : Int) (ht : 0 ≤ t ∧ t ≤ 1000000000000) (hf : 0 ≤ from_ ∧ from_ ≤ 1000000000000) (hm : 0 ≤ many ∧ many ≤ 100000) (h1 : from_ ≤ t) (h2 : t < from_ + many) : AC Tryz.prog 90 (L3 (I t) (I from_) (I many)) (B true) := by
 refine AC.enter Tryz.func90 Tryz.ntmps90 rfl rfl rfl (fun F hX => ?_)
 repeat' (first | refine stp tab2_ok rfl (by first | exact sideN | exact sideT (by omega)) ?_ | refine gT rfl rfl (by omega) ?_ | refine gF rfl rfl (by omega) ?_ | refine gNT rfl rfl (by omega) ?_ | refine gNF rfl rfl (by omega) ?_ | fail)
 repeat' (first | refine stp tab2_ok rfl (by first | exact sideN | exact sideT (by omega)) ?_ | refine gT rfl rfl (by omega) ?_ | refine gF rfl rfl (by omega) ?_ | refine gNT rfl rfl (by omega) ?_ | refine gNF rfl rfl (by omega) ?_ | refine gS rfl rfl (fun _ => ?_) (fun _ => ?_) | refine gNS rfl rfl (fun _ => ?_) (fun _ => ?_) | refine gBS rfl rfl (fun _ => ?_) (fun _ => ?_) | refine gBN rfl rfl (fun _ => ?_) (fun _ => ?_) | refine good_ret tab2_ok hX rfl (Sub.of_eq ?_) | refine good_end tab2_ok hX rfl (Sub.of_eq ?_) | fail)
 exact congrArg (fun q => AV.val (.bool q)) (decide_eq_true h2)
theorem ok_quoU {P : Program} {F : Fr} {t : Tm} {h : Hp} {d : Option Tmp} {ty : TypeId} {ps : String} {af : Array Edge} {gd : Option (Nat × Bool)} (T T' : Nat) (x y : Operand) (a b : Int) (hx : ev t x = .val (.int .u64 a)) (hy : ev t y = .val (.int .u64 b)) (ha : 0 ≤ a ∧ a < 18446744073709551616) (hb : 0 < b) : OpWp P F ⟨d, .binOp .quo T x y T', ty, ps, af, gd⟩ t h (U64 (a / b)) h :=
 OpWp.pure fun r a' w hr ht => by
  refine ⟨_, ?_, vr_val⟩
  have e : a.tdiv b = a / b := Int.tdiv_eq_ediv_of_nonneg ha.1
  have h4 : 0 ≤ a / b := Int.ediv_nonneg ha.1 (by omega)
  have h5 : a / b ≤ a := Int.ediv_le_self b ha.1
  have hw : IntKind.u64.wrap (a / b) = a / b := wrap_in (by unfold inK; omega)
  simp [execOp, VR_val ht hx, VR_val ht hy, guard_int, binOp, Op.intDiv, show b ≠ 0 by omega, e, hw]
theorem ok_remU {P : Program} {F : Fr} {t : Tm} {h : Hp} {d : Option Tmp} {ty : TypeId} {ps : String} {af : Array Edge} {gd : Option (Nat × Bool)} (T T' : Nat) (x y : Operand) (a b : Int) (hx : ev t x = .val (.int .u64 a)) (hy : ev t y = .val (.int .u64 b)) (ha : 0 ≤ a) (hb : 0 < b) : OpWp P F ⟨d, .binOp .rem T x y T', ty, ps, af, gd⟩ t h (U64 (a % b)) h :=
 OpWp.pure fun r a' w hr ht => by
  refine ⟨_, ?_, vr_val⟩
  have e : a.tmod b = a % b := Int.tmod_eq_emod_of_nonneg ha
  simp [execOp, VR_val ht hx, VR_val ht hy, guard_int, binOp, Op.intDiv, show b ≠ 0 by omega, e]
theorem div64_ac (l : Int) (hl : 0 ≤ l ∧ l < 9223372036854775808) : AC Tryz.prog 144 (L3 (U64 0) (U64 l) (U64 86401)) (.tup (L2 (U64 (l / 86401)) (U64 (l % 86401)))) := by
 refine AC.enter Tryz.func144 Tryz.ntmps144 rfl rfl rfl (fun F hX => ?_)
 repeat' (first | refine stp tab2_ok rfl (by first | exact sideN | exact sideT (by omega)) ?_ | refine gT rfl rfl (by omega) ?_ | refine gF rfl rfl (by omega) ?_ | refine gNT rfl rfl (by omega) ?_ | refine gNF rfl rfl (by omega) ?_ | fail)
 refine dg_start ?_
 repeat' (first | refine dgp tab2_ok rfl (by first | exact sideN | exact sideT (by omega)) ?_ | fail)
 refine dg_by rfl (fun h => ok_quoU _ _ _ _ l 86401 rfl rfl ⟨hl.1, by omega⟩ (by decide)) rfl ?_
 repeat' (first | refine dgp tab2_ok rfl (by first | exact sideN | exact sideT (by omega)) ?_ | fail)
 refine dg_by rfl (fun h => ok_remU _ _ _ _ l 86401 rfl rfl hl.1 (by decide)) rfl ?_
 repeat' (first | refine dgp tab2_ok rfl (by first | exact sideN | exact sideT (by omega)) ?_ | fail)
 refine dg_end mixed rfl ?_
 repeat' (first | refine stp tab2_ok rfl (by first | exact sideN | exact sideT (by omega)) ?_ | refine gT rfl rfl (by omega) ?_ | refine gF rfl rfl (by omega) ?_ | refine gNT rfl rfl (by omega) ?_ | refine gNF rfl rfl (by omega) ?_ | fail)
 repeat' (first | refine stp tab2_ok rfl (by first | exact sideN | exact sideT (by omega)) ?_ | refine gT rfl rfl (by omega) ?_ | refine gF rfl rfl (by omega) ?_ | refine gNT rfl rfl (by omega) ?_ | refine gNF rfl rfl (by omega) ?_ | refine gS rfl rfl (fun _ => ?_) (fun _ => ?_) | refine gNS rfl rfl (fun _ => ?_) (fun _ => ?_) | refine gBS rfl rfl (fun _ => ?_) (fun _ => ?_) | refine gBN rfl rfl (fun _ => ?_) (fun _ => ?_) | refine good_ret tab2_ok hX rfl (Sub.of_eq ?_) | refine good_end tab2_ok hX rfl (Sub.of_eq ?_) | fail)
 rfl
theorem nanos_ac : AC Tryz.prog 92 (L2 (tickA 15724800 0) (I 15681600)) (I 43200000000000) := by
 refine AC.enter Tryz.func92 Tryz.ntmps92 rfl rfl rfl (fun F hX => ?_)
 repeat' (first | refine stp tab2_ok rfl (by first | exact sideN | exact sideT (by omega)) ?_ | refine gT rfl rfl (by omega) ?_ | refine gF rfl rfl (by omega) ?_ | refine gNT rfl rfl (by omega) ?_ | refine gNF rfl rfl (by omega) ?_ | fail)
 repeat' (first | refine stp tab2_ok rfl (by first | exact sideN | exact sideT (by omega)) ?_ | refine gT rfl rfl (by omega) ?_ | refine gF rfl rfl (by omega) ?_ | refine gNT rfl rfl (by omega) ?_ | refine gNF rfl rfl (by omega) ?_ | refine gS rfl rfl (fun _ => ?_) (fun _ => ?_) | refine gNS rfl rfl (fun _ => ?_) (fun _ => ?_) | refine gBS rfl rfl (fun _ => ?_) (fun _ => ?_) | refine gBN rfl rfl (fun _ => ?_) (fun _ => ?_) | refine good_ret tab2_ok hX rfl (Sub.of_eq ?_) | refine good_end tab2_ok hX rfl (Sub.of_eq ?_) | fail)
 rfl
theorem later_ac : AC Tryz.prog 93 (L2 (I 78753600) (I 43199500005786)) (tickA 78796799 500005786) := by
 refine AC.enter Tryz.func93 Tryz.ntmps93 rfl rfl rfl (fun F hX => ?_)
 repeat' (first | refine stp tab2_ok rfl (by first | exact sideN | exact sideT (by omega)) ?_ | refine gT rfl rfl (by omega) ?_ | refine gF rfl rfl (by omega) ?_ | refine gNT rfl rfl (by omega) ?_ | refine gNF rfl rfl (by omega) ?_ | fail)
 refine good_call rfl rfl rfl rfl rfl ent81 (numDiv_ac _ _ (by omega) (by omega) (by omega)) rfl ?_
 repeat' (first | refine stp tab2_ok rfl (by first | exact sideN | exact sideT (by omega)) ?_ | refine gT rfl rfl (by omega) ?_ | refine gF rfl rfl (by omega) ?_ | refine gNT rfl rfl (by omega) ?_ | refine gNF rfl rfl (by omega) ?_ | fail)
 repeat' (first | refine stp tab2_ok rfl (by first | exact sideN | exact sideT (by omega)) ?_ | refine gT rfl rfl (by omega) ?_ | refine gF rfl rfl (by omega) ?_ | refine gNT rfl rfl (by omega) ?_ | refine gNF rfl rfl (by omega) ?_ | refine gS rfl rfl (fun _ => ?_) (fun _ => ?_) | refine gNS rfl rfl (fun _ => ?_) (fun _ => ?_) | refine gBS rfl rfl (fun _ => ?_) (fun _ => ?_) | refine gBN rfl rfl (fun _ => ?_) (fun _ => ?_) | refine good_ret tab2_ok hX rfl (Sub.of_eq ?_) | refine good_end tab2_ok hX rfl (Sub.of_eq ?_) | fail)
 rfl
theorem muldiv_ac : AC Tryz.prog 91 (L3 (I 43200000000000) (I 86400) (I 86401)) (.tup (L3 (I 43199500005786) (I 83814) (B true))) := by
 have hm : AC Tryz.prog 143 (L2 (U64 43200000000000) (U64 86400)) (.tup (L2 (U64 0) (U64 3732480000000000000))) := mul64_ac 43200000000000 86400 (by decide) (by decide)
 have hd : AC Tryz.prog 144 (L3 (U64 0) (U64 3732480000000000000) (U64 86401)) (.tup (L2 (U64 43199500005786) (U64 83814))) := div64_ac 3732480000000000000 (by decide)
 refine AC.enter Tryz.func91 Tryz.ntmps91 rfl rfl rfl (fun F hX => ?_)
 repeat' (first | refine stp tab2_ok rfl (by first | exact sideN | exact sideT (by omega)) ?_ | refine gT rfl rfl (by omega) ?_ | refine gF rfl rfl (by omega) ?_ | refine gNT rfl rfl (by omega) ?_ | refine gNF rfl rfl (by omega) ?_ | fail)
 refine good_call rfl rfl rfl rfl rfl ent143 (hm) rfl ?_
 repeat' (first | refine stp tab2_ok rfl (by first | exact sideN | exact sideT (by omega)) ?_ | refine gT rfl rfl (by omega) ?_ | refine gF rfl rfl (by omega) ?_ | refine gNT rfl rfl (by omega) ?_ | refine gNF rfl rfl (by omega) ?_ | fail)
 refine good_call rfl rfl rfl rfl rfl ent144 (hd) rfl ?_
 repeat' (first | refine stp tab2_ok rfl (by first | exact sideN | exact sideT (by omega)) ?_ | refine gT rfl rfl (by omega) ?_ | refine gF rfl rfl (by omega) ?_ | refine gNT rfl rfl (by omega) ?_ | refine gNF rfl rfl (by omega) ?_ | fail)
 repeat' (first | refine stp tab2_ok rfl (by first | exact sideN | exact sideT (by omega)) ?_ | refine gT rfl rfl (by omega) ?_ | refine gF rfl rfl (by omega) ?_ | refine gNT rfl rfl (by omega) ?_ | refine gNF rfl rfl (by omega) ?_ | refine gS rfl rfl (fun _ => ?_) (fun _ => ?_) | refine gNS rfl rfl (fun _ => ?_) (fun _ => ?_) | refine gBS rfl rfl (fun _ => ?_) (fun _ => ?_) | refine gBN rfl rfl (fun _ => ?_) (fun _ => ?_) | refine good_ret tab2_ok hX rfl (Sub.of_eq ?_) | refine good_end tab2_ok hX rfl (Sub.of_eq ?_) | fail)
 rfl
theorem knownG_ac : AC Tryz.prog 140 (L2 (corrA (recs tG)) (tickA 15724800 0)) (B true) := by
 refine AC.enter Tryz.func140 Tryz.ntmps140 rfl rfl rfl (fun F hX => ?_)
 repeat' (first | refine stp tab2_ok rfl (by first | exact sideN | exact sideT (by omega)) ?_ | refine gT rfl rfl (by omega) ?_ | refine gF rfl rfl (by omega) ?_ | refine gNT rfl rfl (by omega) ?_ | refine gNF rfl rfl (by omega) ?_ | fail)
 refine good_callG rfl rfl rfl rfl rfl rfl rfl rfl rfl ent77 (known_ac tG rtG) rfl ?_
 repeat' (first | refine stp tab2_ok rfl (by first | exact sideN | exact sideT (by omega)) ?_ | refine gT rfl rfl (by omega) ?_ | refine gF rfl rfl (by omega) ?_ | refine gNT rfl rfl (by omega) ?_ | refine gNF rfl rfl (by omega) ?_ | fail)
 repeat' (first | refine stp tab2_ok rfl (by first | exact sideN | exact sideT (by omega)) ?_ | refine gT rfl rfl (by omega) ?_ | refine gF rfl rfl (by omega) ?_ | refine gNT rfl rfl (by omega) ?_ | refine gNF rfl rfl (by omega) ?_ | refine gS rfl rfl (fun _ => ?_) (fun _ => ?_) | refine gNS rfl rfl (fun _ => ?_) (fun _ => ?_) | refine gBS rfl rfl (fun _ => ?_) (fun _ => ?_) | refine gBN rfl rfl (fun _ => ?_) (fun _ => ?_) | refine good_ret tab2_ok hX rfl (Sub.of_eq ?_) | refine good_end tab2_ok hX rfl (Sub.of_eq ?_) | fail)
 rfl
theorem placeSG : PlaceS tG.leaps (15724800 + 63072000) 1 := by
 refine ⟨by decide, fun i hi => ?_, fun i h1 h2 => ?_⟩
 ·obtain rfl : i = 0 := by omega
  decide
 ·have h2' : i < 2 := h2
  obtain rfl : i = 1 := by omega
  decide
theorem placeAG : PlaceA tG.leaps (15724800 + 63072000) 0 := by
 refine ⟨by decide, fun i hi => absurd hi (Nat.not_lt_zero _), fun i h1 h2 => ?_⟩
 have h2' : i < 2 := h2
 rcases (show i = 0 ∨ i = 1 by omega) with rfl | rfl <;> decide
theorem fromG_ac : AC Tryz.prog 41 (L2 (corrA (recs tG)) (I 15724800)) (.tup (L2 (I 78796799) (I 0))) := from_ac tG rtG 15724800 (by decide) 1 0 placeSG placeAG
theorem plainG_ac : AC Tryz.prog 87 (L2 (corrA (recs tG)) (tickA 15724800 0)) (.tup (L2 (tickA 78796799 0) (I 0))) := by
 have h1 := knownG_ac
 have h2 := fromG_ac
 generalize recs tG = l at *
 refine AC.enter Tryz.func87 Tryz.ntmps87 rfl rfl rfl (fun F hX => ?_)
 repeat' (first | refine stp tab2_ok rfl (by first | exact sideN | exact sideT (by omega)) ?_ | refine gT rfl rfl (by omega) ?_ | refine gF rfl rfl (by omega) ?_ | refine gNT rfl rfl (by omega) ?_ | refine gNF rfl rfl (by omega) ?_ | fail)
 refine good_call rfl rfl rfl rfl rfl ent140 (h1) rfl ?_
 repeat' (first | refine stp tab2_ok rfl (by first | exact sideN | exact sideT (by omega)) ?_ | refine gT rfl rfl (by omega) ?_ | refine gF rfl rfl (by omega) ?_ | refine gNT rfl rfl (by omega) ?_ | refine gNF rfl rfl (by omega) ?_ | fail)
 refine good_call rfl rfl rfl rfl rfl ent41 (h2) rfl ?_
 repeat' (first | refine stp tab2_ok rfl (by first | exact sideN | exact sideT (by omega)) ?_ | refine gT rfl rfl (by omega) ?_ | refine gF rfl rfl (by omega) ?_ | refine gNT rfl rfl (by omega) ?_ | refine gNF rfl rfl (by omega) ?_ | fail)
 repeat' (first | refine stp tab2_ok rfl (by first | exact sideN | exact sideT (by omega)) ?_ | refine gT rfl rfl (by omega) ?_ | refine gF rfl rfl (by omega) ?_ | refine gNT rfl rfl (by omega) ?_ | refine gNF rfl rfl (by omega) ?_ | refine gS rfl rfl (fun _ => ?_) (fun _ => ?_) | refine gNS rfl rfl (fun _ => ?_) (fun _ => ?_) | refine gBS rfl rfl (fun _ => ?_) (fun _ => ?_) | refine gBN rfl rfl (fun _ => ?_) (fun _ => ?_) | refine good_ret tab2_ok hX rfl (Sub.of_eq ?_) | refine good_end tab2_ok hX rfl (Sub.of_eq ?_) | fail)
 rfl
def winL : Nat → AL := fun i => [L3 (I 15681600) (I 78753600) (I 86401), L3 (I 31579201) (I 94651200) (I 86399)].getD i .nil
def lpG : Nat → AL := fun i => [L3 (I 911) (I 1) (B false), L3 (I 1095) (I (-1)) (B false)].getD i .nil
theorem tableG_ac : AC Tryz.prog 136 (L1 (corrA (recs tG))) (.tup (L2 (.agg (L3 (.im 3 2 lpG) (B false) (I 0))) (B true))) := by
 have h1 := table_ac tG rtG
 rw [nrG] at h1
 refine h1.sub (Sub.tup (SubL.cons (Sub.agg (SubL.cons (Sub.im rfl (fun i hi => ?_)) (SubL.refl _))) (SubL.refl _)))
 have hi' : i < 2 := hi
 rcases (show i = 0 ∨ i = 1 by omega) with rfl | rfl <;> rfl
theorem windows_ac : AC Tryz.prog 141 (L1 (corrA (recs tG))) (.im 3 2 winL) := by
 have h1 := tableG_ac
 generalize recs tG = l at *
 refine AC.enter Tryz.func141 Tryz.ntmps141 rfl rfl rfl (fun F hX => ?_)
 repeat' (first | refine stp tab2_ok rfl (by first | exact sideN | exact sideT (by omega)) ?_ | refine gT rfl rfl (by omega) ?_ | refine gF rfl rfl (by omega) ?_ | refine gNT rfl rfl (by omega) ?_ | refine gNF rfl rfl (by omega) ?_ | fail)
 refine good_call rfl rfl rfl rfl rfl ent136 (h1) rfl ?_
 repeat' (first | refine stp tab2_ok rfl (by first | exact sideN | exact sideT (by omega)) ?_ | refine gT rfl rfl (by omega) ?_ | refine gF rfl rfl (by omega) ?_ | refine gNT rfl rfl (by omega) ?_ | refine gNF rfl rfl (by omega) ?_ | fail)
 refine good_adoptT 2 1000 158 3 winL rfl rfl ?_
 refine good_rounds (fun k : Nat => [(15, .im 3 2 lpG), (16, I 2), (17, I k), (5, I ([0, 1, 0].getD k 0)), (2, .own 1000)]) (fun k : Nat => [(1000, .row 158 3 k winL)]) (fun k : Nat => 2 - k) (fun k : Nat => k ≤ 2) 0 (by omega) ?_ (fun k hk => ?_)
 ·exact Wk.mk ⟨Sub.of_eq rfl, Sub.of_eq rfl, Sub.of_eq rfl, Sub.of_eq rfl, Sub.of_eq rfl, trivial⟩ ⟨⟨_, rfl, SubO.refl _⟩, trivial⟩ rfl rfl (pin0 hX)
 ·rcases (show k = 0 ∨ k = 1 ∨ k = 2 by omega) with rfl | rfl | rfl
  ·rw [show ([0, 1, 0] : List Int).getD 0 0 = 0 from rfl]
   repeat' (first | refine stp tab2_ok rfl (by first | exact sideN | exact sideT (by omega)) ?_ | refine gT rfl rfl (by omega) ?_ | refine gF rfl rfl (by omega) ?_ | refine gNT rfl rfl (by omega) ?_ | refine gNF rfl rfl (by omega) ?_ | fail)
   refine good_swap 36 1000 rfl (swap0 hX) ?_
   refine good_again 1 (by omega) (by omega) (Wk.mk ⟨Sub.of_eq rfl, Sub.of_eq rfl, Sub.of_eq rfl, Sub.of_eq rfl, Sub.of_eq rfl, trivial⟩ ⟨⟨_, rfl, SubO.row rfl (fun j hj => ?_)⟩, trivial⟩ rfl rfl (pin0 hX))
   obtain rfl : j = 0 := by omega
   rfl
  ·rw [show ([0, 1, 0] : List Int).getD 1 0 = 1 from rfl]
   repeat' (first | refine stp tab2_ok rfl (by first | exact sideN | exact sideT (by omega)) ?_ | refine gT rfl rfl (by omega) ?_ | refine gF rfl rfl (by omega) ?_ | refine gNT rfl rfl (by omega) ?_ | refine gNF rfl rfl (by omega) ?_ | fail)
   refine good_swap 36 1000 rfl (swap0 hX) ?_
   refine good_again 2 (by omega) (by omega) (Wk.mk ⟨Sub.of_eq rfl, Sub.of_eq rfl, Sub.of_eq rfl, Sub.of_eq rfl, Sub.of_eq rfl, trivial⟩ ⟨⟨_, rfl, SubO.row rfl (fun j hj => ?_)⟩, trivial⟩ rfl rfl (pin0 hX))
   rcases (show j = 0 ∨ j = 1 by omega) with rfl | rfl <;> rfl
  ·repeat' (first | refine stp tab2_ok rfl (by first | exact sideN | exact sideT (by omega)) ?_ | refine gT rfl rfl (by omega) ?_ | refine gF rfl rfl (by omega) ?_ | refine gNT rfl rfl (by omega) ?_ | refine gNF rfl rfl (by omega) ?_ | fail)
   refine good_freeze 1000 rfl ?_
   repeat' (first | refine stp tab2_ok rfl (by first | exact sideN | exact sideT (by omega)) ?_ | refine gT rfl rfl (by omega) ?_ | refine gF rfl rfl (by omega) ?_ | refine gNT rfl rfl (by omega) ?_ | refine gNF rfl rfl (by omega) ?_ | refine gS rfl rfl (fun _ => ?_) (fun _ => ?_) | refine gNS rfl rfl (fun _ => ?_) (fun _ => ?_) | refine gBS rfl rfl (fun _ => ?_) (fun _ => ?_) | refine gBN rfl rfl (fun _ => ?_) (fun _ => ?_) | refine good_ret tab2_ok hX rfl (Sub.of_eq ?_) | refine good_end tab2_ok hX rfl (Sub.of_eq ?_) | fail)
   rfl
end Go.Proofs.YthjldemjipnmdaaGreatDoor.Sx
namespace Go.Proofs.YthjldemjipnmdaaGreatDoor.Sx
open Go.RowKit
set_option maxRecDepth 100000
def tickL : AL := L2 (I 15724800) (I 0)
theorem has_ac : AC Tryz.prog 89 (L2 (.agg (L3 (I 15681600) (I 78753600) (I 86401))) (.pim tickL)) (B true) := by
 refine AC.enter Tryz.func89 Tryz.ntmps89 rfl rfl rfl (fun F hX => ?_)
 repeat' (first | refine stp tab2_ok rfl (by first | exact sideN | exact sideT (by omega)) ?_ | refine gT rfl rfl (by omega) ?_ | refine gF rfl rfl (by omega) ?_ | refine gNT rfl rfl (by omega) ?_ | refine gNF rfl rfl (by omega) ?_ | fail)
 refine good_call rfl rfl rfl rfl rfl ent90 (winW_ac 15724800 15681600 86401 (by decide) (by decide) (by decide) (by decide) (by decide)) rfl ?_
 repeat' (first | refine stp tab2_ok rfl (by first | exact sideN | exact sideT (by omega)) ?_ | refine gT rfl rfl (by omega) ?_ | refine gF rfl rfl (by omega) ?_ | refine gNT rfl rfl (by omega) ?_ | refine gNF rfl rfl (by omega) ?_ | fail)
 repeat' (first | refine stp tab2_ok rfl (by first | exact sideN | exact sideT (by omega)) ?_ | refine gT rfl rfl (by omega) ?_ | refine gF rfl rfl (by omega) ?_ | refine gNT rfl rfl (by omega) ?_ | refine gNF rfl rfl (by omega) ?_ | refine gS rfl rfl (fun _ => ?_) (fun _ => ?_) | refine gNS rfl rfl (fun _ => ?_) (fun _ => ?_) | refine gBS rfl rfl (fun _ => ?_) (fun _ => ?_) | refine gBN rfl rfl (fun _ => ?_) (fun _ => ?_) | refine good_ret tab2_ok hX rfl (Sub.of_eq ?_) | refine good_end tab2_ok hX rfl (Sub.of_eq ?_) | fail)
 rfl
theorem idxW_ac : AC Tryz.prog 142 (L2 (.im 3 2 winL) (.fn 89 (.cons (.pim tickL) .nil))) (I 0) := by
 refine AC.enter Tryz.func142 Tryz.ntmps142 rfl rfl rfl (fun F hX => ?_)
 repeat' (first | refine stp tab2_ok rfl (by first | exact sideN | exact sideT (by omega)) ?_ | refine gT rfl rfl (by omega) ?_ | refine gF rfl rfl (by omega) ?_ | refine gNT rfl rfl (by omega) ?_ | refine gNF rfl rfl (by omega) ?_ | fail)
 refine good_loopN 3 ?_
 repeat' (first | refine stp tab2_ok rfl (by first | exact sideN | exact sideT (by omega)) ?_ | refine gT rfl rfl (by omega) ?_ | refine gF rfl rfl (by omega) ?_ | refine gNT rfl rfl (by omega) ?_ | refine gNF rfl rfl (by omega) ?_ | fail)
 refine good_call rfl rfl rfl rfl rfl ent89 (has_ac) rfl ?_
 repeat' (first | refine stp tab2_ok rfl (by first | exact sideN | exact sideT (by omega)) ?_ | refine gT rfl rfl (by omega) ?_ | refine gF rfl rfl (by omega) ?_ | refine gNT rfl rfl (by omega) ?_ | refine gNF rfl rfl (by omega) ?_ | fail)
 repeat' (first | refine stp tab2_ok rfl (by first | exact sideN | exact sideT (by omega)) ?_ | refine gT rfl rfl (by omega) ?_ | refine gF rfl rfl (by omega) ?_ | refine gNT rfl rfl (by omega) ?_ | refine gNF rfl rfl (by omega) ?_ | refine gS rfl rfl (fun _ => ?_) (fun _ => ?_) | refine gNS rfl rfl (fun _ => ?_) (fun _ => ?_) | refine gBS rfl rfl (fun _ => ?_) (fun _ => ?_) | refine gBN rfl rfl (fun _ => ?_) (fun _ => ?_) | refine good_ret tab2_ok hX rfl (Sub.of_eq ?_) | refine good_end tab2_ok hX rfl (Sub.of_eq ?_) | fail)
 rfl
theorem find_ac : AC Tryz.prog 88 (L2 (corrA (recs tG)) (.fn 89 (.cons (.pim tickL) .nil))) (.tup (L2 (.agg (L3 (I 15681600) (I 78753600) (I 86401))) (B true))) := by
 have h1 := windows_ac
 generalize recs tG = l at *
 refine AC.enter Tryz.func88 Tryz.ntmps88 rfl rfl rfl (fun F hX => ?_)
 repeat' (first | refine stp tab2_ok rfl (by first | exact sideN | exact sideT (by omega)) ?_ | refine gT rfl rfl (by omega) ?_ | refine gF rfl rfl (by omega) ?_ | refine gNT rfl rfl (by omega) ?_ | refine gNF rfl rfl (by omega) ?_ | fail)
 refine good_call rfl rfl rfl rfl rfl ent141 (h1) rfl ?_
 repeat' (first | refine stp tab2_ok rfl (by first | exact sideN | exact sideT (by omega)) ?_ | refine gT rfl rfl (by omega) ?_ | refine gF rfl rfl (by omega) ?_ | refine gNT rfl rfl (by omega) ?_ | refine gNF rfl rfl (by omega) ?_ | fail)
 refine good_call rfl rfl rfl rfl rfl ent142 (idxW_ac) rfl ?_
 repeat' (first | refine stp tab2_ok rfl (by first | exact sideN | exact sideT (by omega)) ?_ | refine gT rfl rfl (by omega) ?_ | refine gF rfl rfl (by omega) ?_ | refine gNT rfl rfl (by omega) ?_ | refine gNF rfl rfl (by omega) ?_ | fail)
 repeat' (first | refine stp tab2_ok rfl (by first | exact sideN | exact sideT (by omega)) ?_ | refine gT rfl rfl (by omega) ?_ | refine gF rfl rfl (by omega) ?_ | refine gNT rfl rfl (by omega) ?_ | refine gNF rfl rfl (by omega) ?_ | refine gS rfl rfl (fun _ => ?_) (fun _ => ?_) | refine gNS rfl rfl (fun _ => ?_) (fun _ => ?_) | refine gBS rfl rfl (fun _ => ?_) (fun _ => ?_) | refine gBN rfl rfl (fun _ => ?_) (fun _ => ?_) | refine good_ret tab2_ok hX rfl (Sub.of_eq ?_) | refine good_end tab2_ok hX rfl (Sub.of_eq ?_) | fail)
 rfl
theorem smear_ac : AC Tryz.prog 43 (L2 (corrA (recs tG)) (tickA 15724800 0)) (.tup (L2 (tickA 78796799 500005786) (I 0))) := by
 have h1 := plainG_ac
 have h2 := find_ac
 generalize recs tG = l at *
 refine AC.enter Tryz.func43 Tryz.ntmps43 rfl rfl rfl (fun F hX => ?_)
 repeat' (first | refine stp tab2_ok rfl (by first | exact sideN | exact sideT (by omega)) ?_ | refine gT rfl rfl (by omega) ?_ | refine gF rfl rfl (by omega) ?_ | refine gNT rfl rfl (by omega) ?_ | refine gNF rfl rfl (by omega) ?_ | fail)
 refine good_call rfl rfl rfl rfl rfl ent87 (h1) rfl ?_
 repeat' (first | refine stp tab2_ok rfl (by first | exact sideN | exact sideT (by omega)) ?_ | refine gT rfl rfl (by omega) ?_ | refine gF rfl rfl (by omega) ?_ | refine gNT rfl rfl (by omega) ?_ | refine gNF rfl rfl (by omega) ?_ | fail)
 refine good_freezeB 3 rfl ?_
 refine good_call rfl rfl rfl rfl rfl ent88 (h2) rfl ?_
 repeat' (first | refine stp tab2_ok rfl (by first | exact sideN | exact sideT (by omega)) ?_ | refine gT rfl rfl (by omega) ?_ | refine gF rfl rfl (by omega) ?_ | refine gNT rfl rfl (by omega) ?_ | refine gNF rfl rfl (by omega) ?_ | fail)
 refine dg_start ?_
 repeat' (first | refine dgp tab2_ok rfl (by first | exact sideN | exact sideT (by omega)) ?_ | fail)
 refine dg_call rfl rfl rfl rfl rfl ent92 (nanos_ac) rfl ?_
 repeat' (first | refine dgp tab2_ok rfl (by first | exact sideN | exact sideT (by omega)) ?_ | fail)
 refine dg_call rfl rfl rfl rfl rfl ent91 (muldiv_ac) rfl ?_
 repeat' (first | refine dgp tab2_ok rfl (by first | exact sideN | exact sideT (by omega)) ?_ | fail)
 refine dg_end mixed rfl ?_
 repeat' (first | refine stp tab2_ok rfl (by first | exact sideN | exact sideT (by omega)) ?_ | refine gT rfl rfl (by omega) ?_ | refine gF rfl rfl (by omega) ?_ | refine gNT rfl rfl (by omega) ?_ | refine gNF rfl rfl (by omega) ?_ | fail)
 refine good_call rfl rfl rfl rfl rfl ent93 (later_ac) rfl ?_
 repeat' (first | refine stp tab2_ok rfl (by first | exact sideN | exact sideT (by omega)) ?_ | refine gT rfl rfl (by omega) ?_ | refine gF rfl rfl (by omega) ?_ | refine gNT rfl rfl (by omega) ?_ | refine gNF rfl rfl (by omega) ?_ | fail)
 repeat' (first | refine stp tab2_ok rfl (by first | exact sideN | exact sideT (by omega)) ?_ | refine gT rfl rfl (by omega) ?_ | refine gF rfl rfl (by omega) ?_ | refine gNT rfl rfl (by omega) ?_ | refine gNF rfl rfl (by omega) ?_ | refine gS rfl rfl (fun _ => ?_) (fun _ => ?_) | refine gNS rfl rfl (fun _ => ?_) (fun _ => ?_) | refine gBS rfl rfl (fun _ => ?_) (fun _ => ?_) | refine gBN rfl rfl (fun _ => ?_) (fun _ => ?_) | refine good_ret tab2_ok hX rfl (Sub.of_eq ?_) | refine good_end tab2_ok hX rfl (Sub.of_eq ?_) | fail)
 rfl
theorem lsmear_ac (v : Int) : AC Tryz.prog 20 (L2 (.agg (zoneL (recs tG) v)) (tickA 15724800 0)) (.tup (L2 (tickA 78796799 500005786) (I 0))) := by
 have h1 := smear_ac
 generalize recs tG = l at *
 refine AC.enter Tryz.func20 Tryz.ntmps20 rfl rfl rfl (fun F hX => ?_)
 repeat' (first | refine stp tab2_ok rfl (by first | exact sideN | exact sideT (by omega)) ?_ | refine gT rfl rfl (by omega) ?_ | refine gF rfl rfl (by omega) ?_ | refine gNT rfl rfl (by omega) ?_ | refine gNF rfl rfl (by omega) ?_ | fail)
 refine good_call rfl rfl rfl rfl rfl ent43 (h1) rfl ?_
 repeat' (first | refine stp tab2_ok rfl (by first | exact sideN | exact sideT (by omega)) ?_ | refine gT rfl rfl (by omega) ?_ | refine gF rfl rfl (by omega) ?_ | refine gNT rfl rfl (by omega) ?_ | refine gNF rfl rfl (by omega) ?_ | fail)
 repeat' (first | refine stp tab2_ok rfl (by first | exact sideN | exact sideT (by omega)) ?_ | refine gT rfl rfl (by omega) ?_ | refine gF rfl rfl (by omega) ?_ | refine gNT rfl rfl (by omega) ?_ | refine gNF rfl rfl (by omega) ?_ | refine gS rfl rfl (fun _ => ?_) (fun _ => ?_) | refine gNS rfl rfl (fun _ => ?_) (fun _ => ?_) | refine gBS rfl rfl (fun _ => ?_) (fun _ => ?_) | refine gBN rfl rfl (fun _ => ?_) (fun _ => ?_) | refine good_ret tab2_ok hX rfl (Sub.of_eq ?_) | refine good_end tab2_ok hX rfl (Sub.of_eq ?_) | fail)
 rfl
end Go.Proofs.YthjldemjipnmdaaGreatDoor.Sx
namespace Go.Proofs.YthjldemjipnmdaaGreatDoor.Sx
open Go.RowKit
set_option maxRecDepth 100000
def srcG : ByteArray := ⟨#[76, 101, 97, 112, 32, 49, 57, 55, 50, 32, 74, 117, 110, 32, 51, 48, 32, 50, 51, 58, 53, 57, 58, 54, 48, 32, 43, 32, 83, 10, 76, 101, 97, 112, 32, 49, 57, 55, 50, 32, 68, 101, 99, 32, 51, 49, 32, 50, 51, 58, 53, 57, 58, 53, 57, 32, 45, 32, 83, 10]⟩
theorem tableG : tableF 2 srcG = (tG, 0, 0) := by kernel_rfl
def xG1 : ByteArray := ⟨#[49, 57, 55, 50, 45, 48, 54, 45, 51, 48, 84, 50, 51, 58, 53, 57, 58, 54, 48, 90]⟩
def xG2 : ByteArray := ⟨#[49, 57, 55, 50, 45, 49, 50, 45, 51, 49, 84, 50, 51, 58, 53, 57, 58, 53, 55, 90]⟩
def xG3 : ByteArray := ⟨#[49, 57, 55, 50, 45, 49, 50, 45, 51, 49, 84, 50, 51, 58, 53, 57, 58, 53, 56, 90]⟩
theorem sG1 : cstampF (utcF tG 1 0 15724800) = (xG1, 0) := by kernel_rfl
theorem sG2 : cstampF (utcF tG 1 1 31622398) = (xG2, 0) := by kernel_rfl
theorem sG3 : cstampF (utcF tG 1 1 31622399) = (xG3, 0) := by kernel_rfl
theorem placeS2 : PlaceS tG.leaps (31622398 + 63072000) 1 := by
 refine ⟨by decide, fun i hi => ?_, fun i h1 h2 => ?_⟩
 ·obtain rfl : i = 0 := by omega
  decide
 ·have h2' : i < 2 := h2
  obtain rfl : i = 1 := by omega
  decide
theorem placeA2 : PlaceA tG.leaps (31622398 + 63072000) 1 := by
 refine ⟨by decide, fun i hi => ?_, fun i h1 h2 => ?_⟩
 ·obtain rfl : i = 0 := by omega
  decide
 ·have h2' : i < 2 := h2
  obtain rfl : i = 1 := by omega
  decide
theorem placeS3 : PlaceS tG.leaps (31622399 + 63072000) 1 := by
 refine ⟨by decide, fun i hi => ?_, fun i h1 h2 => ?_⟩
 ·obtain rfl : i = 0 := by omega
  decide
 ·have h2' : i < 2 := h2
  obtain rfl : i = 1 := by omega
  decide
theorem placeA3 : PlaceA tG.leaps (31622399 + 63072000) 1 := by
 refine ⟨by decide, fun i hi => ?_, fun i h1 h2 => ?_⟩
 ·obtain rfl : i = 0 := by omega
  decide
 ·have h2' : i < 2 := h2
  obtain rfl : i = 1 := by omega
  decide
theorem eq67 (a b c d : Int) (w : World) : (Op.equalIn 10000 67 (.agg #[.int .i64 a, .int .i64 b]) (.agg #[.int .i64 c, .int .i64 d])).run Tryz.prog w = .ok (a == c && b == d) w := by
 have u3 := Tryz.underlying3
 have a3 := Tryz.isAgg3
 have z3 := Tryz.sizeOf3
 rw [show (10000 : Nat) = 9999 + 1 from rfl, Op.equalIn]
 have hs : Tryz.prog.stoodInHeld 67 = false := by kernel_rfl
 simp only [Sem.run_bind, run_underlying Tryz.underlying67, Result.andThen_ok]
 go_simp
 by_cases h1 : a = c
 ·subst h1
  by_cases h2 : b = d
  ·subst h2
   simp
  ·simp [h2]
 ·simp [h1]
theorem g67 : Tryz.prog.eqGuardType Tryz.prog.depth 67 = false := by kernel_rfl
theorem good_byG {P : Program} {F : Fr} {N : Nat} {Q : Post} {k : List It} {t t' : Tm} {h h' : Hp} {all : Array Oper} {o oj : Oper} {l : List Oper} {v : AV} {j sj : Nat} {b : Bool} (hg : o.guard = some (j, b)) (hj : nthO all.toList j = some oj) (hd : oj.dst = some sj) (hsj : Nat.blt sj N = true) (hb : getT t sj = .val (.bool b)) (ho : OpWp P F o t h v h') (hN : updK N t o.dst v = some t') (H : Good P F N Q (.ops all l :: k) t' h') : Good P F N Q (.ops all (o :: l) :: k) t h := by
 rw [nthO_eq] at hj
 have hj' : all[j]? = some oj := by rw [← Array.getElem?_toList]; exact hj
 exact good_opYes hg (by unfold guardA; rw [hj']; simp only [hd]; exact hb) (fun o2 s2 e1 e2 => by rw [hj'] at e1; cases e1; rw [hd] at e2; cases e2; exact blt_iff hsj) ho (updK_ok hN).1 ((updK_ok hN).2 ▸ H)
theorem ok_eqNilP {F : Fr} {t : Tm} {h : Hp} {d : Option Tmp} {ty : TypeId} {ps : String} {af : Array Edge} {gd : Option (Nat × Bool)} (T e T' : Nat) (x : Operand) (cs : AL) (hx : ev t x = .pim cs) (hT : Tryz.prog.underlying T = some (.pointer e)) :
  OpWp Tryz.prog F ⟨d, .binOp .eql T x (.const (.pointer none)) T', ty, ps, af, gd⟩ t h (B false) h :=
 OpWp.pure fun r a w hr ht => by
  have h1 : VR w (.pim cs) r (Mut F.M0 r h) (a.eval x) := hx ▸ VR_ev ht x
  unfold VR at h1
  obtain ⟨b, off, e1, _⟩ := h1
  refine ⟨_, ?_, vr_val⟩
  have hg : (eqGuard .eql T x (.const (.pointer none)) (.pointer (some ⟨b, off, none⟩)) (.pointer none)).run Tryz.prog w = .ok () w := by
   unfold eqGuard
   simp
  have he : (Op.equalIn 10000 T (.pointer (some ⟨b, off, none⟩)) (.pointer none)).run Tryz.prog w = .ok false w := by
   rw [show (10000 : Nat) = 9999 + 1 from rfl, Op.equalIn]
   simp only [Sem.run_bind, run_underlying hT, Result.andThen_ok, Sem.run_pure]
  have hb : (binOp .eql T (.pointer (some ⟨b, off, none⟩)) (.pointer none)).run Tryz.prog w = .ok (.bool false) w := by
   have e : binOp .eql T (.pointer (some ⟨b, off, none⟩)) (.pointer none) = (do pure (.bool (← Op.equal T (.pointer (some ⟨b, off, none⟩)) (.pointer none)))) := rfl
   rw [e]
   simp only [Op.equal, Op.maxDepth, Sem.run_bind, he, Result.andThen, Sem.run_pure]
  have hev : a.eval (.const (.pointer none)) = .pointer none := rfl
  simp only [execOp, e1, hev, Sem.run_bind, hg, hb, Result.andThen, Sem.run_pure]
theorem und51 : Tryz.prog.underlying 51 = some (.pointer 62) := by kernel_rfl
theorem stampG1 (v : Int) : AC Tryz.prog 19 (L2 (.pim (zoneL (recs tG) v)) (I 15724800)) (.tup (L2 (S xG1) (I 0))) := by
 have h := cstamp_ac tG rtG v 15724800 (by decide) 1 0 placeSG placeAG (fun _ => by decide)
 rwa [sG1] at h
theorem stampG2 (v : Int) : AC Tryz.prog 19 (L2 (.pim (zoneL (recs tG) v)) (I 31622398)) (.tup (L2 (S xG2) (I 0))) := by
 have h := cstamp_ac tG rtG v 31622398 (by decide) 1 1 placeS2 placeA2 (fun _ => by decide)
 rwa [sG2] at h
theorem stampG3 (v : Int) : AC Tryz.prog 19 (L2 (.pim (zoneL (recs tG) v)) (I 31622399)) (.tup (L2 (S xG3) (I 0))) := by
 have h := cstamp_ac tG rtG v 31622399 (by decide) 1 1 placeS3 placeA3 (fun _ => by decide)
 rwa [sG3] at h
theorem goes_ac : AC Tryz.prog 5 .nil (B true) := by
 have hu := utc_yes 2 srcG (by decide) (by rw [tableG])
 rw [tableG] at hu
 have ho := copen_ac tG rtG
 have h1 := stampG1 (verF tG)
 have h2 := stampG2 (verF tG)
 have h3 := stampG3 (verF tG)
 have h4 := lsmear_ac (verF tG)
 unfold fileA at hu ho
 generalize recs tG = l at *
 generalize verF tG = v at *
 refine AC.enter Tryz.func5 Tryz.ntmps5 rfl rfl rfl (fun F hX => ?_)
 repeat' (first | refine stp tab2_ok rfl (by first | exact sideN | exact sideT (by omega)) ?_ | refine gT rfl rfl (by omega) ?_ | refine gF rfl rfl (by omega) ?_ | refine gNT rfl rfl (by omega) ?_ | refine gNF rfl rfl (by omega) ?_ | fail)
 refine good_call rfl rfl rfl rfl rfl ent7 (hu) rfl ?_
 repeat' (first | refine stp tab2_ok rfl (by first | exact sideN | exact sideT (by omega)) ?_ | refine gT rfl rfl (by omega) ?_ | refine gF rfl rfl (by omega) ?_ | refine gNT rfl rfl (by omega) ?_ | refine gNF rfl rfl (by omega) ?_ | fail)
 refine good_call rfl rfl rfl rfl rfl ent14 (ho) rfl ?_
 repeat' (first | refine stp tab2_ok rfl (by first | exact sideN | exact sideT (by omega)) ?_ | refine gT rfl rfl (by omega) ?_ | refine gF rfl rfl (by omega) ?_ | refine gNT rfl rfl (by omega) ?_ | refine gNF rfl rfl (by omega) ?_ | fail)
 refine good_by rfl (ok_eqNilP 51 62 _ _ (zoneL l v) rfl und51) rfl ?_
 repeat' (first | refine stp tab2_ok rfl (by first | exact sideN | exact sideT (by omega)) ?_ | refine gT rfl rfl (by omega) ?_ | refine gF rfl rfl (by omega) ?_ | refine gNT rfl rfl (by omega) ?_ | refine gNF rfl rfl (by omega) ?_ | fail)
 refine good_call rfl rfl rfl rfl rfl ent19 (h1) rfl ?_
 repeat' (first | refine stp tab2_ok rfl (by first | exact sideN | exact sideT (by omega)) ?_ | refine gT rfl rfl (by omega) ?_ | refine gF rfl rfl (by omega) ?_ | refine gNT rfl rfl (by omega) ?_ | refine gNF rfl rfl (by omega) ?_ | fail)
 refine good_call rfl rfl rfl rfl rfl ent19 (h2) rfl ?_
 repeat' (first | refine stp tab2_ok rfl (by first | exact sideN | exact sideT (by omega)) ?_ | refine gT rfl rfl (by omega) ?_ | refine gF rfl rfl (by omega) ?_ | refine gNT rfl rfl (by omega) ?_ | refine gNF rfl rfl (by omega) ?_ | fail)
 refine good_call rfl rfl rfl rfl rfl ent19 (h3) rfl ?_
 repeat' (first | refine stp tab2_ok rfl (by first | exact sideN | exact sideT (by omega)) ?_ | refine gT rfl rfl (by omega) ?_ | refine gF rfl rfl (by omega) ?_ | refine gNT rfl rfl (by omega) ?_ | refine gNF rfl rfl (by omega) ?_ | fail)
 refine good_call rfl rfl rfl rfl rfl ent20 (h4) rfl ?_
 repeat' (first | refine stp tab2_ok rfl (by first | exact sideN | exact sideT (by omega)) ?_ | refine gT rfl rfl (by omega) ?_ | refine gF rfl rfl (by omega) ?_ | refine gNT rfl rfl (by omega) ?_ | refine gNF rfl rfl (by omega) ?_ | fail)
 refine good_by rfl (ok_eqS 28 _ _ _ [.int .i64 0, .int .i64 0] [.int .i64 0, .int .i64 0] true rfl rfl (fun w => (eq28 0 0 0 0 w).trans (by simp)) g28) rfl ?_
 iterate 6 (refine stp tab2_ok rfl (by first | exact sideN | exact sideT (by omega)) ?_)
 refine stp tab2_ok rfl (by first | exact sideN | exact sideT (by omega)) ?_
 rw [show decide (xG1 = (⟨#[49, 57, 55, 50, 45, 48, 54, 45, 51, 48, 84, 50, 51, 58, 53, 57, 58, 54, 48, 90]⟩ : ByteArray)) = true from by decide]
 iterate 7 (refine stp tab2_ok rfl (by first | exact sideN | exact sideT (by omega)) ?_)
 refine stp tab2_ok rfl (by first | exact sideN | exact sideT (by omega)) ?_
 rw [show decide (xG2 = (⟨#[49, 57, 55, 50, 45, 49, 50, 45, 51, 49, 84, 50, 51, 58, 53, 57, 58, 53, 55, 90]⟩ : ByteArray)) = true from by decide]
 iterate 8 (refine stp tab2_ok rfl (by first | exact sideN | exact sideT (by omega)) ?_)
 rw [show decide (xG3 = (⟨#[49, 57, 55, 50, 45, 49, 50, 45, 51, 49, 84, 50, 51, 58, 53, 57, 58, 53, 56, 90]⟩ : ByteArray)) = true from by decide]
 iterate 8 (refine stp tab2_ok rfl (by first | exact sideN | exact sideT (by omega)) ?_)
 refine good_byG rfl rfl rfl rfl rfl (ok_eqS 67 _ _ _ [.int .i64 78796799, .int .i64 500005786] [.int .i64 78796799, .int .i64 500005786] true rfl rfl (fun w => (eq67 _ _ _ _ w).trans (by simp)) g67) rfl ?_
 repeat' (first | refine stp tab2_ok rfl (by first | exact sideN | exact sideT (by omega)) ?_ | refine gT rfl rfl (by omega) ?_ | refine gF rfl rfl (by omega) ?_ | refine gNT rfl rfl (by omega) ?_ | refine gNF rfl rfl (by omega) ?_ | fail)
 repeat' (first | refine stp tab2_ok rfl (by first | exact sideN | exact sideT (by omega)) ?_ | refine gT rfl rfl (by omega) ?_ | refine gF rfl rfl (by omega) ?_ | refine gNT rfl rfl (by omega) ?_ | refine gNF rfl rfl (by omega) ?_ | refine gS rfl rfl (fun _ => ?_) (fun _ => ?_) | refine gNS rfl rfl (fun _ => ?_) (fun _ => ?_) | refine gBS rfl rfl (fun _ => ?_) (fun _ => ?_) | refine gBN rfl rfl (fun _ => ?_) (fun _ => ?_) | refine good_ret tab2_ok hX rfl (Sub.of_eq ?_) | refine good_end tab2_ok hX rfl (Sub.of_eq ?_) | fail)
 rfl
end Go.Proofs.YthjldemjipnmdaaGreatDoor.Sx
namespace Go.Proofs.YthjldemjipnmdaaGreatDoor.Sx
open Go.RowKit
set_option maxRecDepth 100000
theorem cut_ex (P : Nat → Prop) (hd : ∀ i, Decidable (P i)) : ∀ n, (∀ i j, i < j → j < n → P j → P i) → ∃ k, k ≤ n ∧ (∀ i, i < k → P i) ∧ ∀ i, k ≤ i → i < n → ¬ P i
 | 0, _ => ⟨0, Nat.le_refl _, fun i h => absurd h (Nat.not_lt_zero _), fun i h1 h2 => absurd h2 (Nat.not_lt_zero _)⟩
 | n + 1, hm => by
  by_cases h : P n
  ·refine ⟨n + 1, Nat.le_refl _, fun i hi => ?_, fun i h1 h2 => by omega⟩
   by_cases e : i = n
   ·exact e ▸ h
   ·exact hm i n (by omega) (by omega) h
  ·obtain ⟨k, h1, h2, h3⟩ := cut_ex P hd n (fun i j a b => hm i j a (by omega))
   refine ⟨k, by omega, h2, fun i a b => ?_⟩
   by_cases e : i = n
   ·exact e ▸ h
   ·exact h3 i a (by omega)
theorem day_mono {l : List Lp} (h : ∀ i, i < l.length → RtL l i) : ∀ {i j : Nat}, i < j → j < l.length → (l.getD i lp0).day + 28 ≤ (l.getD j lp0).day := by
 intro i j hij
 induction j with
 | zero => omega
 | succ j ih =>
  intro hj
  have h1 := day_gap h hj
  by_cases e : i = j
  ·subst e; exact h1
  ·have := ih (by omega) (by omega); omega
theorem placeD_ex {l : List Lp} (h : ∀ i, i < l.length → RtL l i) (d : Int) : ∃ k, PlaceD l d k := by
 obtain ⟨k, a, b, c⟩ := cut_ex (fun i => (l.getD i lp0).day < d) (fun _ => inferInstance) l.length (fun i j hij hj hp => by have := day_mono h hij hj; omega)
 exact ⟨k, a, b, fun i h1 h2 => by have := c i h1 h2; omega⟩
theorem placeS_ex {l : List Lp} (h : ∀ i, i < l.length → RtL l i) (d : Int) : ∃ k, PlaceS l d k := by
 obtain ⟨k, a, b, c⟩ := cut_ex (fun i => atI l i ≤ d) (fun _ => inferInstance) l.length (fun i j hij hj hp => by have := at_mono h hij hj; omega)
 exact ⟨k, a, b, fun i h1 h2 => by have := c i h1 h2; omega⟩
theorem placeA_ex {l : List Lp} (h : ∀ i, i < l.length → RtL l i) (d : Int) : ∃ k, PlaceA l d k := by
 obtain ⟨k, a, b, c⟩ := cut_ex (fun i => atI l i < d) (fun _ => inferInstance) l.length (fun i j hij hj hp => by have := at_mono h hij hj; omega)
 exact ⟨k, a, b, fun i h1 h2 => by have := c i h1 h2; omega⟩
theorem parts {l : List Lp} (h : ∀ i, i < l.length → RtL l i) {d sec : Int} {k k' j : Nat} (hk : PlaceD l d k) (h0 : 0 ≤ sec) (h1 : sec < 86400 + stepD l k d) (hS : PlaceS l (d * 86400 + sumAt l k + sec) k') (hA : PlaceA l (d * 86400 + sumAt l k + sec) j) :
  (d * 86400 + sumAt l k + sec - sumAt l k') / 86400 = d ∧ (d * 86400 + sumAt l k + sec - sumAt l k') % 86400 + (if 0 < stepAt l j (d * 86400 + sumAt l k + sec) then 1 else 0) = sec := by
 have hlo : ∀ i, i < k → atI l i ≤ d * 86400 + sumAt l k ∧ (0 < (l.getD i lp0).step → atI l i < d * 86400 + sumAt l k) := by
  intro i hi
  have hil : i < l.length := by have := hk.le; omega
  have e1 : atI l i = ((l.getD i lp0).day + 1) * 86400 + sumAt l i + min (l.getD i lp0).step 0 := rfl
  have e2 := hk.lo i hi
  by_cases e : i + 1 = k
  ·subst e
   have e3 : sumAt l (i + 1) = sumAt l i + (l.getD i lp0).step := rfl
   have e4 := (h i hil).step
   omega
  ·have e3 := at_mono h (show i < k - 1 by omega) (by have := hk.le; omega)
   obtain ⟨m, rfl⟩ : ∃ m, k = m + 1 := ⟨k - 1, by omega⟩
   simp only [Nat.add_sub_cancel] at e3
   have e5 : atI l m = ((l.getD m lp0).day + 1) * 86400 + sumAt l m + min (l.getD m lp0).step 0 := rfl
   have e6 := hk.lo m (by omega)
   have e7 : sumAt l (m + 1) = sumAt l m + (l.getD m lp0).step := rfl
   have e8 := (h m (by have := hk.le; omega)).step
   omega
 have hstep : k < l.length → (l.getD k lp0).day = d → stepD l k d = (l.getD k lp0).step := fun a b => by unfold stepD; rw [if_pos ⟨a, b⟩]
 have hstep0 : ¬ (k < l.length ∧ (l.getD k lp0).day = d) → stepD l k d = 0 := fun a => by unfold stepD; rw [if_neg a]
 have hb : -1 ≤ stepD l k d ∧ stepD l k d ≤ 1 := by
  unfold stepD
  split
  ·rename_i g
   have := (h k g.1).step
   omega
  ·omega
 have hkk : k ≤ k' := by
  by_cases e : k ≤ k'
  ·exact e
  ·have a1 := hS.hi k' (Nat.le_refl _) (by have := hk.le; omega)
   have a2 := hlo k' (by omega)
   omega
 have hat : k < l.length → atI l k = ((l.getD k lp0).day + 1) * 86400 + sumAt l k + min (l.getD k lp0).step 0 := fun _ => rfl
 by_cases h60 : sec = 86400
 ·subst h60
  have hq : k < l.length ∧ (l.getD k lp0).day = d := Classical.byContradiction fun hn => by have := hstep0 hn; omega
  have hs := hstep hq.1 hq.2
  have h3 : (l.getD k lp0).step = 1 := by have := (h k hq.1).step; omega
  have h4 : atI l k = d * 86400 + sumAt l k + 86400 := by rw [hat hq.1, hq.2, h3]; omega
  have hk1 : k' = k + 1 := by
   by_cases e : k' = k
   ·subst e
    have := hS.hi k' (Nat.le_refl _) hq.1
    omega
   ·by_cases e2 : k' = k + 1
    ·exact e2
    ·have a1 := hS.lo (k + 1) (by omega)
     have a2 := at_gap h (show k + 1 < l.length by have := hS.le; omega)
     omega
  have hj : j = k := by
   have a1 := hA.le
   by_cases e : j < k
   ·have := hA.hi j (Nat.le_refl _) (by omega)
    have := hlo j e
    omega
   ·by_cases e2 : j = k
    ·exact e2
    ·have := hA.lo k (by omega)
     omega
  subst hk1
  subst hj
  have e7 : sumAt l (j + 1) = sumAt l j + (l.getD j lp0).step := rfl
  have e8 : stepAt l j (d * 86400 + sumAt l j + 86400) = 1 := by unfold stepAt; rw [if_pos ⟨hq.1, h4⟩, h3]
  rw [e8, e7, h3, if_pos (by decide)]
  omega
 ·have hk1 : k' = k := by
   by_cases e : k' = k
   ·exact e
   ·have hkl : k < l.length := by have := hS.le; omega
    have a1 := hS.lo k (by omega)
    have a2 := hk.hi k (Nat.le_refl _) hkl
    have a3 := hat hkl
    have a4 := (h k hkl).step
    by_cases e3 : (l.getD k lp0).day = d
    ·have := hstep hkl e3
     omega
    ·have := hstep0 (fun q => e3 q.2)
     omega
  subst hk1
  have hz : ¬ 0 < stepAt l j (d * 86400 + sumAt l k' + sec) := by
   unfold stepAt
   split
   ·rename_i g
    have a1 : j < k' := by
     by_cases e : j < k'
     ·exact e
     ·have := hS.hi j (by omega) g.1
      omega
    have a2 := (hlo j a1).2
    intro a3
    have := a2 a3
    omega
   ·omega
  rw [if_neg hz]
  omega
theorem parts_next {l : List Lp} (h : ∀ i, i < l.length → RtL l i) {d sec : Int} {k : Nat} (hk : PlaceD l d k) (h0 : 0 ≤ sec) (h1 : sec < 86400 + stepD l k d) :
  ∃ d' sec' k2, PlaceD l d' k2 ∧ 0 ≤ sec' ∧ sec' < 86400 + stepD l k2 d' ∧ d' * 86400 + sumAt l k2 + sec' = d * 86400 + sumAt l k + sec + 1 ∧ ((d' = d ∧ sec' = sec + 1) ∨ (d' = d + 1 ∧ sec' = 0)) := by
 by_cases hq : sec + 1 < 86400 + stepD l k d
 ·exact ⟨d, sec + 1, k, hk, by omega, hq, by omega, .inl ⟨rfl, rfl⟩⟩
 ·obtain ⟨k2, hk2⟩ := placeD_ex h (d + 1)
  have hb : -1 ≤ stepD l k2 (d + 1) := by
   unfold stepD
   split
   ·rename_i g
    have := (h k2 g.1).step
    omega
   ·omega
  refine ⟨d + 1, 0, k2, hk2, by omega, by omega, ?_, .inr ⟨rfl, rfl⟩⟩
  have hkk : k ≤ k2 := by
   by_cases e : k ≤ k2
   ·exact e
   ·have a1 := hk2.hi k2 (Nat.le_refl _) (by have := hk.le; omega)
    have a2 := hk.lo k2 (by omega)
    omega
  by_cases e : k < l.length ∧ (l.getD k lp0).day = d
  ·have hs : stepD l k d = (l.getD k lp0).step := by unfold stepD; rw [if_pos e]
   have : k2 = k + 1 := by
    by_cases e2 : k2 = k
    ·subst e2
     have := hk2.hi k2 (Nat.le_refl _) e.1
     omega
    ·by_cases e3 : k2 = k + 1
     ·exact e3
     ·have a1 := hk2.lo (k + 1) (by omega)
      have a2 := day_gap h (show k + 1 < l.length by have := hk2.le; omega)
      omega
   subst this
   have e7 : sumAt l (k + 1) = sumAt l k + (l.getD k lp0).step := rfl
   omega
  ·have hs : stepD l k d = 0 := by unfold stepD; rw [if_neg e]
   have : k2 = k := by
    by_cases e2 : k2 = k
    ·exact e2
    ·have hkl : k < l.length := by have := hk2.le; omega
     have a1 := hk2.lo k (by omega)
     have a2 := hk.hi k (Nat.le_refl _) hkl
     exact absurd ⟨hkl, by omega⟩ e
   subst this
   omega
end Go.Proofs.YthjldemjipnmdaaGreatDoor.Sx
namespace Go.Proofs.YthjldemjipnmdaaGreatDoor.Sx
open Go.RowKit
set_option maxRecDepth 100000
theorem stamp_cut (d s : Int) : (stampF d s).extract 11 19 = strOfNums [48 + (clockF s).1 / 10 % 10, 48 + (clockF s).1 % 10, 58, 48 + (clockF s).2.1 / 10 % 10, 48 + (clockF s).2.1 % 10, 58, 48 + (clockF s).2.2 / 10 % 10, 48 + (clockF s).2.2 % 10] := rfl
theorem stamp_day (d s : Int) : (stampF d s).extract 0 10 = strOfNums [48 + dateY d / 1000 % 10, 48 + dateY d / 100 % 10, 48 + dateY d / 10 % 10, 48 + dateY d % 10, 45, 48 + dateM d / 10 % 10, 48 + dateM d % 10, 45, 48 + dateD d / 10 % 10, 48 + dateD d % 10] := rfl
theorem stamp_same (d s s' : Int) : (stampF d s).extract 0 10 = (stampF d s').extract 0 10 := by rw [stamp_day, stamp_day]
theorem stamp60 (d s : Int) (hs : 0 ≤ s ∧ s ≤ 86400) : ((stampF d s).extract 11 19 = (⟨#[50, 51, 58, 53, 57, 58, 54, 48]⟩ : ByteArray)) ↔ s = 86400 := by
 rw [stamp_cut]
 constructor
 ·intro h
  by_cases e : s = 86400
  ·exact e
  ·exfalso
   have hc : clockF s = (s / 3600, s / 60 % 60, s % 60) := by unfold clockF; rw [if_neg e]
   rw [hc] at h
   have h2 := congrArg (fun b : ByteArray => (b.data.toList.getD 6 0).toNat) h
   have h3 : ((UInt8.ofNat (48 + s % 60 / 10 % 10).toNat).toNat) = 54 := h2
   rw [UInt8.toNat_ofNat'] at h3
   omega
 ·rintro rfl
  rfl
theorem stamp59 (d : Int) : (stampF d 86399).extract 11 19 = (⟨#[50, 51, 58, 53, 57, 58, 53, 57]⟩ : ByteArray) := by
 rw [stamp_cut]
 rfl
theorem tai_ok {t : Tbl} {k : Nat} {d sec : Int} (h : (taiF t k d sec).2 = 0) : (730 ≤ d ∧ d ≤ 2932896) ∧ 0 ≤ sec ∧ sec < 86400 + stepD t.leaps k d ∧ expiredB t (d * 86400 + sumAt t.leaps k + sec) = false ∧ taiF t k d sec = (d * 86400 + sumAt t.leaps k + sec - 63072000, 0) := by
 unfold taiF at h ⊢
 split at h
 ·cases h
 ·split at h
  ·cases h
  ·split at h
   ·cases h
   ·split at h
    ·cases h
    ·rename_i h1 h2 h3 h4
     rw [if_neg h1, if_neg h2, if_neg h3, if_neg h4]
     exact ⟨by omega, by omega, by omega, by simpa using h4, rfl⟩
theorem tai_no {t : Tbl} {k : Nat} {d sec : Int} (h : (taiF t k d sec).2 ≠ 0) : (taiF t k d sec).2 = 9 ∨ (taiF t k d sec).2 = 10 ∨ ((taiF t k d sec).2 = 11 ∧ 86400 + stepD t.leaps k d ≤ sec) := by
 unfold taiF at h ⊢
 repeat' split
 all_goals (first | exact .inl rfl | exact .inr (.inl rfl) | skip)
 ·rename_i h1 h2 h3
  exact .inr (.inr ⟨rfl, h3⟩)
 ·rename_i h1 h2 h3 h4
  rw [if_neg h1, if_neg h2, if_neg h3, if_neg h4] at h
  exact absurd rfl h
theorem tai_bd {t : Tbl} (hr : Rt t) {k : Nat} {d sec : Int} (hk : PlaceD t.leaps d k) (h : (taiF t k d sec).2 = 0) : 0 ≤ (taiF t k d sec).1 ∧ (taiF t k d sec).1 ≤ 900000000000 := by
 obtain ⟨h1, h2, h3, h4, h5⟩ := tai_ok h
 rw [h5]
 have hL := chkL_none hr.none
 have hb := stepD_bd hr k d
 have hs := sumAt_bd hL k hk.le
 have hn := rt_len hr
 have hle := hk.le
 simp only
 refine ⟨?_, by omega⟩
 by_cases hk0 : k = 0
 ·subst hk0
  have : sumAt t.leaps 0 = 0 := rfl
  omega
 ·have := hk.lo 0 (by omega)
  have := (hL 0 (by omega)).day
  omega
theorem utc_back {t : Tbl} (hr : Rt t) {d sec : Int} {k k' j : Nat} {s : Int} (hk : PlaceD t.leaps d k) (h0 : 0 ≤ sec) (h1 : sec < 86400 + stepD t.leaps k d) (hT : s + 63072000 = d * 86400 + sumAt t.leaps k + sec) (hS : PlaceS t.leaps (s + 63072000) k') (hA : PlaceA t.leaps (s + 63072000) j) :
  utcF t k' j s = if expiredB t (s + 63072000) = true then (0, 0, 10) else if 2932896 < d then (0, 0, 9) else (d, sec, 0) := by
 obtain ⟨a, b⟩ := parts (chkL_none hr.none) hk h0 h1 (hT ▸ hS) (hT ▸ hA)
 rw [← hT] at a b
 unfold utcF
 rw [a, b]
theorem tai_back {t : Tbl} (hr : Rt t) {d sec : Int} {k k' j : Nat} (hk : PlaceD t.leaps d k) (h : (taiF t k d sec).2 = 0) (hS : PlaceS t.leaps ((taiF t k d sec).1 + 63072000) k') (hA : PlaceA t.leaps ((taiF t k d sec).1 + 63072000) j) : utcF t k' j (taiF t k d sec).1 = (d, sec, 0) := by
 obtain ⟨h1, h2, h3, h4, h5⟩ := tai_ok h
 rw [h5] at hS hA ⊢
 have e : d * 86400 + sumAt t.leaps k + sec - 63072000 + 63072000 = d * 86400 + sumAt t.leaps k + sec := by omega
 rw [utc_back hr hk h2 h3 e hS hA]
 simp only at hS hA ⊢
 rw [if_neg (by rw [e, h4]; decide), if_neg (by omega)]
theorem tai_next {t : Tbl} (hr : Rt t) {d sec : Int} {k k' j : Nat} (hk : PlaceD t.leaps d k) (h : (taiF t k d sec).2 = 0) (hS : PlaceS t.leaps ((taiF t k d sec).1 + 1 + 63072000) k') (hA : PlaceA t.leaps ((taiF t k d sec).1 + 1 + 63072000) j) :
  utcF t k' j ((taiF t k d sec).1 + 1) = (0, 0, 9) ∨ utcF t k' j ((taiF t k d sec).1 + 1) = (0, 0, 10) ∨ (sec + 1 ≤ 86400 ∧ utcF t k' j ((taiF t k d sec).1 + 1) = (d, sec + 1, 0)) ∨ (d + 1 ≤ 2932896 ∧ utcF t k' j ((taiF t k d sec).1 + 1) = (d + 1, 0, 0)) := by
 obtain ⟨h1, h2, h3, h4, h5⟩ := tai_ok h
 have hb := stepD_bd hr k d
 obtain ⟨d', sec', k2, g1, g2, g3, g4, g5⟩ := parts_next (chkL_none hr.none) hk h2 h3
 rw [h5] at hS hA ⊢
 simp only at hS hA ⊢
 have e : d * 86400 + sumAt t.leaps k + sec - 63072000 + 1 + 63072000 = d' * 86400 + sumAt t.leaps k2 + sec' := by omega
 rw [utc_back hr g1 g2 g3 e hS hA]
 split
 ·exact .inr (.inl rfl)
 ·split
  ·exact .inl rfl
  ·rcases g5 with ⟨rfl, rfl⟩ | ⟨rfl, rfl⟩
   ·have := stepD_bd hr k2 d'
    exact .inr (.inr (.inl ⟨by omega, rfl⟩))
   ·exact .inr (.inr (.inr ⟨by omega, rfl⟩))
theorem gone_ex {t : Tbl} (hr : Rt t) {p : Int} {k : Nat} (h : 86400 + stepD t.leaps k (p / 86400) ≤ p % 86400) : ∃ i, i < t.leaps.length ∧ (t.leaps.getD i lp0).step < 0 ∧ p = 86400 * ((t.leaps.getD i lp0).day + 1) - 1 := by
 unfold stepD at h
 split at h
 ·rename_i g
  have := (chkL_none hr.none k g.1).step
  exact ⟨k, g.1, by omega, by omega⟩
 ·omega
end Go.Proofs.YthjldemjipnmdaaGreatDoor.Sx
namespace Go.Proofs.YthjldemjipnmdaaGreatDoor.Sx
open Go.RowKit
set_option maxRecDepth 100000
theorem listF_zero (s : ByteArray) (h : (listF s).2.2 = 0) : (listF s).2 = (0, 0) := by
 unfold listF endL at *
 repeat' split at h
 all_goals (first | (cases h; done) | skip)
 ·rename_i h1 h2 h3 h4
  rw [if_pos h1, if_neg h2, if_neg h3, if_neg h4]
 ·rename_i h1
  exact absurd h h1
theorem parseZF_zero (s : ByteArray) (h : (parseZF s).2.2 = 0) : (parseZF s).2 = (0, 0) := by
 unfold parseZF endZ at *
 repeat' split at h
 all_goals (first | (cases h; done) | skip)
 ·rename_i h1 h2 h3
  rw [if_pos h1, if_pos h2, if_pos h3]
 ·rename_i h1 h2
  rw [if_pos h1, if_neg h2]
 ·rename_i h1
  exact absurd h h1
theorem tableF_zero (kind : Int) (s : ByteArray) (h : (tableF kind s).2.2 = 0) : (tableF kind s).2 = (0, 0) := by
 unfold tableF at *
 split
 ·rename_i h1
  rw [if_pos h1] at h
  exact listF_zero s h
 ·rename_i h1
  rw [if_neg h1] at h
  split
  ·rename_i h2
   rw [if_pos h2] at h
   exact parseZF_zero s h
  ·rename_i h2
   rw [if_neg h2] at h
   cases h
def goneB (l : List Lp) (p : Int) (n : Nat) : Bool := (List.range n).any fun i => decide ((l.getD i lp0).step < 0) && decide (p = 86400 * ((l.getD i lp0).day + 1) - 1)
theorem goneB_succ (l : List Lp) (p : Int) (n : Nat) : goneB l p (n + 1) = (goneB l p n || (decide ((l.getD n lp0).step < 0) && decide (p = 86400 * ((l.getD n lp0).day + 1) - 1))) := by
 unfold goneB
 rw [List.range_succ, List.any_append]
 simp
theorem goneB_yes {t : Tbl} (hr : Rt t) {p : Int} {k : Nat} (h : 86400 + stepD t.leaps k (p / 86400) ≤ p % 86400) : goneB t.leaps p t.leaps.length = true := by
 obtain ⟨i, h1, h2, h3⟩ := gone_ex hr h
 unfold goneB
 rw [List.any_eq_true]
 refine ⟨i, List.mem_range.2 h1, ?_⟩
 rw [decide_eq_true h2, decide_eq_true h3]
 rfl
theorem clk {t : Tbl} (hr : Rt t) (v p : Int) (k : Nat) (hk : PlaceD t.leaps (p / 86400) k) (he : (taiF t k (p / 86400) (p % 86400)).2 = 0) : ∃ T, (0 ≤ T ∧ T ≤ 900000000000) ∧ (0 ≤ p ∧ p ≤ 900000000000) ∧
  AC Tryz.prog 17 (L3 (.agg (zoneL (recs t) v)) (I (p / 86400)) (I (p % 86400))) (.tup (L2 (I T) (I 0))) ∧
  AC Tryz.prog 18 (L2 (.agg (zoneL (recs t) v)) (I T)) (.tup (L2 (I p) (I 0))) ∧
  AC Tryz.prog 19 (L2 (.pim (zoneL (recs t) v)) (I T)) (.tup (L2 (S (stampF (p / 86400) (p % 86400))) (I 0))) ∧
  ((∃ r e, (e = 9 ∨ e = 10) ∧ AC Tryz.prog 18 (L2 (.agg (zoneL (recs t) v)) (I (T + 1))) (.tup (L2 (I r) (I e)))) ∨
   ∃ r d s, (0 ≤ r ∧ r ≤ 900000000000) ∧ (0 ≤ s ∧ s ≤ 86400) ∧ ((d = p / 86400 ∧ p % 86400 = 86399 ∧ s = 86400 ∧ r = p) ∨ (s < 86400 ∧ p < r)) ∧
   AC Tryz.prog 18 (L2 (.agg (zoneL (recs t) v)) (I (T + 1))) (.tup (L2 (I r) (I 0))) ∧
   AC Tryz.prog 19 (L2 (.pim (zoneL (recs t) v)) (I (T + 1))) (.tup (L2 (S (stampF d s)) (I 0)))) := by
 have hL := chkL_none hr.none
 obtain ⟨q1, q2, q3, q4, q5⟩ := tai_ok he
 have hb := tai_bd hr hk he
 have hta := lTai_ac t hr v (p / 86400) (p % 86400) k hk
 obtain ⟨k1, hk1⟩ := placeS_ex hL ((taiF t k (p / 86400) (p % 86400)).1 + 63072000)
 obtain ⟨j1, hj1⟩ := placeA_ex hL ((taiF t k (p / 86400) (p % 86400)).1 + 63072000)
 obtain ⟨k2, hk2⟩ := placeS_ex hL ((taiF t k (p / 86400) (p % 86400)).1 + 1 + 63072000)
 obtain ⟨j2, hj2⟩ := placeA_ex hL ((taiF t k (p / 86400) (p % 86400)).1 + 1 + 63072000)
 have e1 := tai_back hr hk he hk1 hj1
 have e2 := tai_next hr hk he hk2 hj2
 rw [he] at hta
 generalize (taiF t k (p / 86400) (p % 86400)).1 = T at *
 have hp1 := lPosix_ac t hr v T (by omega) k1 j1 hk1 hj1
 have hs1 := cstamp_ac t hr v T (by omega) k1 j1 hk1 hj1 (fun _ => by rw [e1]; simp only; omega)
 have hp2 := lPosix_ac t hr v (T + 1) (by omega) k2 j2 hk2 hj2
 have hs2 : _ → _ := cstamp_ac t hr v (T + 1) (by omega) k2 j2 hk2 hj2
 have g1 : fromF t k1 j1 T = (p, 0) := by
  unfold fromF
  rw [e1, if_pos rfl]
  simp only [Prod.mk.injEq, and_true]
  omega
 rw [g1] at hp1
 rw [e1] at hs1
 refine ⟨T, hb, by omega, hta, hp1, hs1, ?_⟩
 rcases e2 with e2 | e2 | ⟨h86, e2⟩ | ⟨hd, e2⟩
 ·refine .inl ⟨0, 9, .inl rfl, ?_⟩
  have : fromF t k2 j2 (T + 1) = (0, 9) := by unfold fromF; rw [e2]; rfl
  rw [this] at hp2
  exact hp2
 ·refine .inl ⟨0, 10, .inr rfl, ?_⟩
  have : fromF t k2 j2 (T + 1) = (0, 10) := by unfold fromF; rw [e2]; rfl
  rw [this] at hp2
  exact hp2
 ·refine .inr ⟨(p / 86400) * 86400 + min (p % 86400 + 1) 86399, p / 86400, p % 86400 + 1, by omega, by omega, by omega, ?_, ?_⟩
  ·have : fromF t k2 j2 (T + 1) = ((p / 86400) * 86400 + min (p % 86400 + 1) 86399, 0) := by unfold fromF; rw [e2]; rfl
   rw [this] at hp2
   exact hp2
  ·have := hs2 (fun _ => by rw [e2]; simp only; omega)
   rw [e2] at this
   exact this
 ·refine .inr ⟨(p / 86400 + 1) * 86400, p / 86400 + 1, 0, by omega, by omega, by omega, ?_, ?_⟩
  ·have : fromF t k2 j2 (T + 1) = ((p / 86400 + 1) * 86400, 0) := by
    unfold fromF
    rw [e2, if_pos rfl]
    simp only [Prod.mk.injEq, and_true]
    omega
   rw [this] at hp2
   exact hp2
  ·have := hs2 (fun _ => by rw [e2]; simp only; omega)
   rw [e2] at this
   exact this
set_option maxHeartbeats 4000000 in
theorem posixT_ac (kind : Int) (s : ByteArray) (p : Int) (hp : i64B p) : AC Tryz.prog 4 (L3 (I kind) (S s) (I p)) (B true) := by
 refine AC.enter Tryz.func4 Tryz.ntmps4 rfl rfl rfl (fun F hX => ?_)
 repeat' (first | refine stp tab2_ok rfl (by first | exact sideN | exact sideT (by omega)) ?_ | refine gT rfl rfl (by omega) ?_ | refine gF rfl rfl (by omega) ?_ | refine gNT rfl rfl (by omega) ?_ | refine gNF rfl rfl (by omega) ?_ | fail)
 refine good_call rfl rfl rfl rfl rfl ent5 (goes_ac) rfl ?_
 repeat' (first | refine stp tab2_ok rfl (by first | exact sideN | exact sideT (by omega)) ?_ | refine gT rfl rfl (by omega) ?_ | refine gF rfl rfl (by omega) ?_ | refine gNT rfl rfl (by omega) ?_ | refine gNF rfl rfl (by omega) ?_ | fail)
 refine gS rfl rfl (fun hs => ?_) (fun hs => ?_)
 ·repeat' (first | refine stp tab2_ok rfl (by first | exact sideN | exact sideT (by omega)) ?_ | refine gT rfl rfl (by omega) ?_ | refine gF rfl rfl (by omega) ?_ | refine gNT rfl rfl (by omega) ?_ | refine gNF rfl rfl (by omega) ?_ | refine gS rfl rfl (fun _ => ?_) (fun _ => ?_) | refine gNS rfl rfl (fun _ => ?_) (fun _ => ?_) | refine gBS rfl rfl (fun _ => ?_) (fun _ => ?_) | refine gBN rfl rfl (fun _ => ?_) (fun _ => ?_) | refine good_ret tab2_ok hX rfl (Sub.of_eq ?_) | refine good_end tab2_ok hX rfl (Sub.of_eq ?_) | fail)
  rfl
 repeat' (first | refine stp tab2_ok rfl (by first | exact sideN | exact sideT (by omega)) ?_ | refine gT rfl rfl (by omega) ?_ | refine gF rfl rfl (by omega) ?_ | refine gNT rfl rfl (by omega) ?_ | refine gNF rfl rfl (by omega) ?_ | fail)
 by_cases hc : (tableF kind s).2.2 = 0
 ·have hz := tableF_zero kind s hc
  have hr := tableF_rt kind s hc
  have ht := tableC_ac kind s (by omega)
  have hu := utc_yes kind s (by omega) hz
  rw [hz] at ht
  generalize (tableF kind s).1 = t at *
  have ho := copen_ac t hr
  unfold fileA at hu ho
  have hL := chkL_none hr.none
  have hn := rt_len hr
  obtain ⟨k, hk⟩ := placeD_ex hL (p / 86400)
  have hrl : (recs t).length ≤ 1000000 := by rw [recs_len]; split <;> omega
  refine good_call rfl rfl rfl rfl rfl ent6 (ht) rfl ?_
  repeat' (first | refine stp tab2_ok rfl (by first | exact sideN | exact sideT (by omega)) ?_ | refine gT rfl rfl (by omega) ?_ | refine gF rfl rfl (by omega) ?_ | refine gNT rfl rfl (by omega) ?_ | refine gNF rfl rfl (by omega) ?_ | fail)
  refine good_call rfl rfl rfl rfl rfl ent7 (hu) rfl ?_
  repeat' (first | refine stp tab2_ok rfl (by first | exact sideN | exact sideT (by omega)) ?_ | refine gT rfl rfl (by omega) ?_ | refine gF rfl rfl (by omega) ?_ | refine gNT rfl rfl (by omega) ?_ | refine gNF rfl rfl (by omega) ?_ | fail)
  refine good_call rfl rfl rfl rfl rfl ent14 (ho) rfl ?_
  repeat' (first | refine stp tab2_ok rfl (by first | exact sideN | exact sideT (by omega)) ?_ | refine gT rfl rfl (by omega) ?_ | refine gF rfl rfl (by omega) ?_ | refine gNT rfl rfl (by omega) ?_ | refine gNF rfl rfl (by omega) ?_ | fail)
  refine good_by rfl (ok_eqNilP 51 62 _ _ (zoneL (recs t) (verF t)) rfl und51) rfl ?_
  repeat' (first | refine stp tab2_ok rfl (by first | exact sideN | exact sideT (by omega)) ?_ | refine gT rfl rfl (by omega) ?_ | refine gF rfl rfl (by omega) ?_ | refine gNT rfl rfl (by omega) ?_ | refine gNF rfl rfl (by omega) ?_ | fail)
  refine good_call rfl rfl rfl rfl rfl ent15 (czone_ac (recs t) (verF t) hrl) rfl ?_
  repeat' (first | refine stp tab2_ok rfl (by first | exact sideN | exact sideT (by omega)) ?_ | refine gT rfl rfl (by omega) ?_ | refine gF rfl rfl (by omega) ?_ | refine gNT rfl rfl (by omega) ?_ | refine gNF rfl rfl (by omega) ?_ | fail)
  refine good_call rfl rfl rfl rfl rfl ent16 (putc_ac t hr p hp k hk) rfl ?_
  unfold putcF
  by_cases he : (taiF t k (p / 86400) (p % 86400)).2 = 0
  ·rw [if_neg (fun h => h he)]
   obtain ⟨T, hT, hP, c17, c18, c19, hN⟩ := clk hr (verF t) p k hk he
   have hx20 := stampF_size (p / 86400) (p % 86400)
   have hx59 : p % 86400 = 86399 → (stampF (p / 86400) (p % 86400)).extract 11 19 = ⟨#[50, 51, 58, 53, 57, 58, 53, 57]⟩ := fun e => by rw [e]; exact stamp59 _
   repeat' (first | refine stp tab2_ok rfl (by first | exact sideN | exact sideT (by omega)) ?_ | refine gT rfl rfl (by omega) ?_ | refine gF rfl rfl (by omega) ?_ | refine gNT rfl rfl (by omega) ?_ | refine gNF rfl rfl (by omega) ?_ | fail)
   refine good_call rfl rfl rfl rfl rfl ent17 (c17) rfl ?_
   repeat' (first | refine stp tab2_ok rfl (by first | exact sideN | exact sideT (by omega)) ?_ | refine gT rfl rfl (by omega) ?_ | refine gF rfl rfl (by omega) ?_ | refine gNT rfl rfl (by omega) ?_ | refine gNF rfl rfl (by omega) ?_ | fail)
   refine good_call rfl rfl rfl rfl rfl ent18 (c18) rfl ?_
   repeat' (first | refine stp tab2_ok rfl (by first | exact sideN | exact sideT (by omega)) ?_ | refine gT rfl rfl (by omega) ?_ | refine gF rfl rfl (by omega) ?_ | refine gNT rfl rfl (by omega) ?_ | refine gNF rfl rfl (by omega) ?_ | fail)
   rcases hN with ⟨r, e, he9, n18⟩ | ⟨r, d, sc, hr9, hs9, hq, n18, n19⟩
   ·refine good_call rfl rfl rfl rfl rfl ent18 (n18) rfl ?_
    rcases he9 with rfl | rfl
    ·repeat' (first | refine stp tab2_ok rfl (by first | exact sideN | exact sideT (by omega)) ?_ | refine gT rfl rfl (by omega) ?_ | refine gF rfl rfl (by omega) ?_ | refine gNT rfl rfl (by omega) ?_ | refine gNF rfl rfl (by omega) ?_ | fail)
     repeat' (first | refine stp tab2_ok rfl (by first | exact sideN | exact sideT (by omega)) ?_ | refine gT rfl rfl (by omega) ?_ | refine gF rfl rfl (by omega) ?_ | refine gNT rfl rfl (by omega) ?_ | refine gNF rfl rfl (by omega) ?_ | refine gS rfl rfl (fun _ => ?_) (fun _ => ?_) | refine gNS rfl rfl (fun _ => ?_) (fun _ => ?_) | refine gBS rfl rfl (fun _ => ?_) (fun _ => ?_) | refine gBN rfl rfl (fun _ => ?_) (fun _ => ?_) | refine good_ret tab2_ok hX rfl (Sub.of_eq ?_) | refine good_end tab2_ok hX rfl (Sub.of_eq ?_) | fail)
     rfl
    ·repeat' (first | refine stp tab2_ok rfl (by first | exact sideN | exact sideT (by omega)) ?_ | refine gT rfl rfl (by omega) ?_ | refine gF rfl rfl (by omega) ?_ | refine gNT rfl rfl (by omega) ?_ | refine gNF rfl rfl (by omega) ?_ | fail)
     repeat' (first | refine stp tab2_ok rfl (by first | exact sideN | exact sideT (by omega)) ?_ | refine gT rfl rfl (by omega) ?_ | refine gF rfl rfl (by omega) ?_ | refine gNT rfl rfl (by omega) ?_ | refine gNF rfl rfl (by omega) ?_ | refine gS rfl rfl (fun _ => ?_) (fun _ => ?_) | refine gNS rfl rfl (fun _ => ?_) (fun _ => ?_) | refine gBS rfl rfl (fun _ => ?_) (fun _ => ?_) | refine gBN rfl rfl (fun _ => ?_) (fun _ => ?_) | refine good_ret tab2_ok hX rfl (Sub.of_eq ?_) | refine good_end tab2_ok hX rfl (Sub.of_eq ?_) | fail)
     rfl
   ·have hy20 := stampF_size d sc
    have hy60 := stamp60 d sc hs9
    have hxy : d = p / 86400 → (stampF (p / 86400) (p % 86400)).extract 0 10 = (stampF d sc).extract 0 10 := fun e => by rw [e]; exact stamp_same _ _ _
    refine good_call rfl rfl rfl rfl rfl ent18 (n18) rfl ?_
    repeat' (first | refine stp tab2_ok rfl (by first | exact sideN | exact sideT (by omega)) ?_ | refine gT rfl rfl (by omega) ?_ | refine gF rfl rfl (by omega) ?_ | refine gNT rfl rfl (by omega) ?_ | refine gNF rfl rfl (by omega) ?_ | fail)
    refine good_call rfl rfl rfl rfl rfl ent19 (c19) rfl ?_
    repeat' (first | refine stp tab2_ok rfl (by first | exact sideN | exact sideT (by omega)) ?_ | refine gT rfl rfl (by omega) ?_ | refine gF rfl rfl (by omega) ?_ | refine gNT rfl rfl (by omega) ?_ | refine gNF rfl rfl (by omega) ?_ | fail)
    refine good_call rfl rfl rfl rfl rfl ent19 (n19) rfl ?_
    generalize stampF (p / 86400) (p % 86400) = x at *
    generalize stampF d sc = y at *
    repeat' (first | refine stp tab2_ok rfl (by first | exact sideN | exact sideT (by omega)) ?_ | refine gT rfl rfl (by omega) ?_ | refine gF rfl rfl (by omega) ?_ | refine gNT rfl rfl (by omega) ?_ | refine gNF rfl rfl (by omega) ?_ | fail)
    rcases hq with ⟨rfl, h1, rfl, rfl⟩ | ⟨h1, h2⟩
    ·have hx59' := hx59 h1
     have hxy' := hxy rfl
     rw [show decide (y.extract (Int.toNat 11) (Int.toNat 19) = (⟨#[50, 51, 58, 53, 57, 58, 54, 48]⟩ : ByteArray)) = true from decide_eq_true (hy60.2 rfl)]
     refine dg_start ?_
     repeat' (first | refine dgp tab2_ok rfl (by first | exact sideN | exact sideT (by omega)) ?_ | refine dT rfl rfl (by omega) ?_ | refine dF rfl rfl (by omega) ?_ | refine dNT rfl rfl (by omega) ?_ | refine dNF rfl rfl (by omega) ?_ | fail)
     refine dB (b' := true) rfl rfl (by simp) ?_
     repeat' (first | refine dgp tab2_ok rfl (by first | exact sideN | exact sideT (by omega)) ?_ | refine dT rfl rfl (by omega) ?_ | refine dF rfl rfl (by omega) ?_ | refine dNT rfl rfl (by omega) ?_ | refine dNF rfl rfl (by omega) ?_ | fail)
     refine dB (b' := true) rfl rfl (decide_eq_true hx59') ?_
     repeat' (first | refine dgp tab2_ok rfl (by first | exact sideN | exact sideT (by omega)) ?_ | refine dT rfl rfl (by omega) ?_ | refine dF rfl rfl (by omega) ?_ | refine dNT rfl rfl (by omega) ?_ | refine dNF rfl rfl (by omega) ?_ | fail)
     refine dg_end mixed rfl ?_
     repeat' (first | refine stp tab2_ok rfl (by first | exact sideN | exact sideT (by omega)) ?_ | refine gT rfl rfl (by omega) ?_ | refine gF rfl rfl (by omega) ?_ | refine gNT rfl rfl (by omega) ?_ | refine gNF rfl rfl (by omega) ?_ | refine gS rfl rfl (fun _ => ?_) (fun _ => ?_) | refine gNS rfl rfl (fun _ => ?_) (fun _ => ?_) | refine gBS rfl rfl (fun _ => ?_) (fun _ => ?_) | refine gBN rfl rfl (fun _ => ?_) (fun _ => ?_) | refine good_ret tab2_ok hX rfl (Sub.of_eq ?_) | refine good_end tab2_ok hX rfl (Sub.of_eq ?_) | fail)
     exact congrArg (fun q => AV.val (.bool q)) (decide_eq_true hxy')
    ·rw [show decide (y.extract (Int.toNat 11) (Int.toNat 19) = (⟨#[50, 51, 58, 53, 57, 58, 54, 48]⟩ : ByteArray)) = false from decide_eq_false (fun h => by have := hy60.1 h; omega)]
     refine dg_start ?_
     repeat' (first | refine dgp tab2_ok rfl (by first | exact sideN | exact sideT (by omega)) ?_ | refine dT rfl rfl (by omega) ?_ | refine dF rfl rfl (by omega) ?_ | refine dNT rfl rfl (by omega) ?_ | refine dNF rfl rfl (by omega) ?_ | fail)
     refine dB (b' := true) rfl rfl (by rw [show decide (r = p) = false from decide_eq_false (by omega)]; rfl) ?_
     repeat' (first | refine dgp tab2_ok rfl (by first | exact sideN | exact sideT (by omega)) ?_ | refine dT rfl rfl (by omega) ?_ | refine dF rfl rfl (by omega) ?_ | refine dNT rfl rfl (by omega) ?_ | refine dNF rfl rfl (by omega) ?_ | fail)
     refine dg_end mixed rfl ?_
     repeat' (first | refine stp tab2_ok rfl (by first | exact sideN | exact sideT (by omega)) ?_ | refine gT rfl rfl (by omega) ?_ | refine gF rfl rfl (by omega) ?_ | refine gNT rfl rfl (by omega) ?_ | refine gNF rfl rfl (by omega) ?_ | refine gS rfl rfl (fun _ => ?_) (fun _ => ?_) | refine gNS rfl rfl (fun _ => ?_) (fun _ => ?_) | refine gBS rfl rfl (fun _ => ?_) (fun _ => ?_) | refine gBN rfl rfl (fun _ => ?_) (fun _ => ?_) | refine good_ret tab2_ok hX rfl (Sub.of_eq ?_) | refine good_end tab2_ok hX rfl (Sub.of_eq ?_) | fail)
     rfl
  ·rw [if_pos he]
   rcases tai_no he with h9 | h10 | ⟨h11, h12⟩
   ·rw [h9]
    repeat' (first | refine stp tab2_ok rfl (by first | exact sideN | exact sideT (by omega)) ?_ | refine gT rfl rfl (by omega) ?_ | refine gF rfl rfl (by omega) ?_ | refine gNT rfl rfl (by omega) ?_ | refine gNF rfl rfl (by omega) ?_ | fail)
    repeat' (first | refine stp tab2_ok rfl (by first | exact sideN | exact sideT (by omega)) ?_ | refine gT rfl rfl (by omega) ?_ | refine gF rfl rfl (by omega) ?_ | refine gNT rfl rfl (by omega) ?_ | refine gNF rfl rfl (by omega) ?_ | refine gS rfl rfl (fun _ => ?_) (fun _ => ?_) | refine gNS rfl rfl (fun _ => ?_) (fun _ => ?_) | refine gBS rfl rfl (fun _ => ?_) (fun _ => ?_) | refine gBN rfl rfl (fun _ => ?_) (fun _ => ?_) | refine good_ret tab2_ok hX rfl (Sub.of_eq ?_) | refine good_end tab2_ok hX rfl (Sub.of_eq ?_) | fail)
    rfl
   ·rw [h10]
    repeat' (first | refine stp tab2_ok rfl (by first | exact sideN | exact sideT (by omega)) ?_ | refine gT rfl rfl (by omega) ?_ | refine gF rfl rfl (by omega) ?_ | refine gNT rfl rfl (by omega) ?_ | refine gNF rfl rfl (by omega) ?_ | fail)
    repeat' (first | refine stp tab2_ok rfl (by first | exact sideN | exact sideT (by omega)) ?_ | refine gT rfl rfl (by omega) ?_ | refine gF rfl rfl (by omega) ?_ | refine gNT rfl rfl (by omega) ?_ | refine gNF rfl rfl (by omega) ?_ | refine gS rfl rfl (fun _ => ?_) (fun _ => ?_) | refine gNS rfl rfl (fun _ => ?_) (fun _ => ?_) | refine gBS rfl rfl (fun _ => ?_) (fun _ => ?_) | refine gBN rfl rfl (fun _ => ?_) (fun _ => ?_) | refine good_ret tab2_ok hX rfl (Sub.of_eq ?_) | refine good_end tab2_ok hX rfl (Sub.of_eq ?_) | fail)
    rfl
   ·rw [h11]
    repeat' (first | refine stp tab2_ok rfl (by first | exact sideN | exact sideT (by omega)) ?_ | refine gT rfl rfl (by omega) ?_ | refine gF rfl rfl (by omega) ?_ | refine gNT rfl rfl (by omega) ?_ | refine gNF rfl rfl (by omega) ?_ | fail)
    refine good_rounds (fun i : Nat => [(19, I i), (18, B (goneB t.leaps p i)), (7, B true), (2, I p), (8, .ptr 8 0)]) (fun _ => [(8, .box 25 (L3 (leapsA t.leaps) (B t.has) (I t.exp)))]) (fun i : Nat => t.leaps.length - i) (fun i : Nat => i ≤ t.leaps.length) 0 (by omega) (Wk.mk ⟨Sub.of_eq rfl, Sub.of_eq rfl, Sub.of_eq rfl, Sub.of_eq rfl, Sub.of_eq rfl, trivial⟩ ⟨⟨_, rfl, SubO.refl _⟩, trivial⟩ rfl rfl (pin0 hX)) (fun i hi => ?_)
    repeat' (first | refine stp tab2_ok rfl (by first | exact sideN | exact sideT (by omega)) ?_ | refine gT rfl rfl (by omega) ?_ | refine gF rfl rfl (by omega) ?_ | refine gNT rfl rfl (by omega) ?_ | refine gNF rfl rfl (by omega) ?_ | fail)
    by_cases hlt : i < t.leaps.length
    ·refine gT rfl rfl (by omega) ?_
     have hl := hL i hlt
     have hld := hl.day
     have hg := goneB_succ t.leaps p i
     repeat' (first | refine stp tab2_ok rfl (by first | exact sideN | exact sideT (by omega)) ?_ | refine gT rfl rfl (by omega) ?_ | refine gF rfl rfl (by omega) ?_ | refine gNT rfl rfl (by omega) ?_ | refine gNF rfl rfl (by omega) ?_ | fail)
     cases hgb : goneB t.leaps p i with
     | true =>
      rw [hgb] at hg
      repeat' (first | refine stp tab2_ok rfl (by first | exact sideN | exact sideT (by omega)) ?_ | refine gT rfl rfl (by omega) ?_ | refine gF rfl rfl (by omega) ?_ | refine gNT rfl rfl (by omega) ?_ | refine gNF rfl rfl (by omega) ?_ | fail)
      exact good_again (i + 1) (by omega) (by omega) (Wk.mk ⟨Sub.of_eq rfl, Sub.of_eq (by rw [hg]; rfl), Sub.of_eq rfl, Sub.of_eq rfl, Sub.of_eq rfl, trivial⟩ ⟨⟨_, rfl, SubO.refl _⟩, trivial⟩ rfl rfl (pin0 hX))
     | false =>
      rw [hgb] at hg
      repeat' (first | refine stp tab2_ok rfl (by first | exact sideN | exact sideT (by omega)) ?_ | refine gT rfl rfl (by omega) ?_ | refine gF rfl rfl (by omega) ?_ | refine gNT rfl rfl (by omega) ?_ | refine gNF rfl rfl (by omega) ?_ | fail)
      simp only [Int.toNat_natCast]
      repeat' (first | refine stp tab2_ok rfl (by first | exact sideN | exact sideT (by omega)) ?_ | refine gT rfl rfl (by omega) ?_ | refine gF rfl rfl (by omega) ?_ | refine gNT rfl rfl (by omega) ?_ | refine gNF rfl rfl (by omega) ?_ | fail)
      refine gS rfl rfl (fun hst => ?_) (fun hst => ?_)
      ·repeat' (first | refine stp tab2_ok rfl (by first | exact sideN | exact sideT (by omega)) ?_ | refine gT rfl rfl (by omega) ?_ | refine gF rfl rfl (by omega) ?_ | refine gNT rfl rfl (by omega) ?_ | refine gNF rfl rfl (by omega) ?_ | fail)
       simp only [Int.toNat_natCast]
       repeat' (first | refine stp tab2_ok rfl (by first | exact sideN | exact sideT (by omega)) ?_ | refine gT rfl rfl (by omega) ?_ | refine gF rfl rfl (by omega) ?_ | refine gNT rfl rfl (by omega) ?_ | refine gNF rfl rfl (by omega) ?_ | fail)
       exact good_again (i + 1) (by omega) (by omega) (Wk.mk ⟨Sub.of_eq rfl, Sub.of_eq (by rw [hg, decide_eq_true hst]; rfl), Sub.of_eq rfl, Sub.of_eq rfl, Sub.of_eq rfl, trivial⟩ ⟨⟨_, rfl, SubO.refl _⟩, trivial⟩ rfl rfl (pin0 hX))
      ·repeat' (first | refine stp tab2_ok rfl (by first | exact sideN | exact sideT (by omega)) ?_ | refine gT rfl rfl (by omega) ?_ | refine gF rfl rfl (by omega) ?_ | refine gNT rfl rfl (by omega) ?_ | refine gNF rfl rfl (by omega) ?_ | fail)
       exact good_again (i + 1) (by omega) (by omega) (Wk.mk ⟨Sub.of_eq rfl, Sub.of_eq (by rw [hg, decide_eq_false hst]; rfl), Sub.of_eq rfl, Sub.of_eq rfl, Sub.of_eq rfl, trivial⟩ ⟨⟨_, rfl, SubO.refl _⟩, trivial⟩ rfl rfl (pin0 hX))
    ·obtain rfl : i = t.leaps.length := by omega
     refine gF rfl rfl (by omega) ?_
     rw [goneB_yes hr h12]
     repeat' (first | refine stp tab2_ok rfl (by first | exact sideN | exact sideT (by omega)) ?_ | refine gT rfl rfl (by omega) ?_ | refine gF rfl rfl (by omega) ?_ | refine gNT rfl rfl (by omega) ?_ | refine gNF rfl rfl (by omega) ?_ | fail)
     repeat' (first | refine stp tab2_ok rfl (by first | exact sideN | exact sideT (by omega)) ?_ | refine gT rfl rfl (by omega) ?_ | refine gF rfl rfl (by omega) ?_ | refine gNT rfl rfl (by omega) ?_ | refine gNF rfl rfl (by omega) ?_ | refine gS rfl rfl (fun _ => ?_) (fun _ => ?_) | refine gNS rfl rfl (fun _ => ?_) (fun _ => ?_) | refine gBS rfl rfl (fun _ => ?_) (fun _ => ?_) | refine gBN rfl rfl (fun _ => ?_) (fun _ => ?_) | refine good_ret tab2_ok hX rfl (Sub.of_eq ?_) | refine good_end tab2_ok hX rfl (Sub.of_eq ?_) | fail)
     rfl
 ·have ht := tableC_ac kind s (by omega)
  have hu := utc_no kind s (by omega) hc
  generalize tableF kind s = q at *
  refine good_call rfl rfl rfl rfl rfl ent6 (ht) rfl ?_
  repeat' (first | refine stp tab2_ok rfl (by first | exact sideN | exact sideT (by omega)) ?_ | refine gT rfl rfl (by omega) ?_ | refine gF rfl rfl (by omega) ?_ | refine gNT rfl rfl (by omega) ?_ | refine gNF rfl rfl (by omega) ?_ | fail)
  refine good_call rfl rfl rfl rfl rfl ent7 (hu) rfl ?_
  repeat' (first | refine stp tab2_ok rfl (by first | exact sideN | exact sideT (by omega)) ?_ | refine gT rfl rfl (by omega) ?_ | refine gF rfl rfl (by omega) ?_ | refine gNT rfl rfl (by omega) ?_ | refine gNF rfl rfl (by omega) ?_ | fail)
  repeat' (first | refine stp tab2_ok rfl (by first | exact sideN | exact sideT (by omega)) ?_ | refine gT rfl rfl (by omega) ?_ | refine gF rfl rfl (by omega) ?_ | refine gNT rfl rfl (by omega) ?_ | refine gNF rfl rfl (by omega) ?_ | refine gS rfl rfl (fun _ => ?_) (fun _ => ?_) | refine gNS rfl rfl (fun _ => ?_) (fun _ => ?_) | refine gBS rfl rfl (fun _ => ?_) (fun _ => ?_) | refine gBN rfl rfl (fun _ => ?_) (fun _ => ?_) | refine good_ret tab2_ok hX rfl (Sub.of_eq ?_) | refine good_end tab2_ok hX rfl (Sub.of_eq ?_) | fail)
  rfl
end Go.Proofs.YthjldemjipnmdaaGreatDoor.Sx
namespace Go.Proofs.YthjldemjipnmdaaGreatDoor.Wl
open Go.RowKit
abbrev synS : ByteArray := { data := #[105, 110, 118, 97, 108, 105, 100, 32, 115, 121, 110, 116, 97, 120] }
abbrev rngS : ByteArray := { data := #[118, 97, 108, 117, 101, 32, 111, 117, 116, 32, 111, 102, 32, 114, 97, 110, 103, 101] }
def put (h : Array Obj) (g : Nat) (cs : Array Value) : Array Obj := h.modify g fun
 | .cells _ t frozen => .cells cs t frozen
 | o => o
noncomputable def low : Nat := (World.holding Tryz.prog default ⟨#[], #[], []⟩).heap.size
def u8s (l : List Int) : Array Value := (l.map fun z => Value.int .u8 z).toArray
def db32 : List Int := [0, 1, 28, 2, 29, 14, 24, 3, 30, 22, 20, 15, 25, 17, 4, 8, 31, 27, 13, 23, 21, 19, 16, 7, 26, 12, 18, 6, 11, 5, 10, 9]
def db64 : List Int := [0, 1, 56, 2, 57, 49, 28, 3, 61, 58, 42, 50, 38, 29, 17, 4, 62, 47, 59, 36, 45, 43, 51, 22, 53, 39, 33, 30, 24, 18, 12, 5, 63, 55, 48, 27, 60, 41, 37, 16, 46, 35, 44, 21, 52, 32, 23, 11, 54, 26, 40, 15, 34, 20, 31, 10, 25, 14, 19, 9, 13, 8, 7, 6]
def accs : List Int := [128, 191, 160, 191, 128, 159, 144, 191, 128, 143, 0, 0, 0, 0, 0, 0, 0, 0, 0, 0, 0, 0, 0, 0, 0, 0, 0, 0, 0, 0, 0, 0]
noncomputable def laidWorld (os : Os) : World :=
 let w0 := World.holding Tryz.prog os ⟨#[.cells #[.string synS] 345, .cells #[.string rngS] 345], #[], []⟩
 { w0 with heap := put (put (put (put (put (put (put w0.heap 3 (Lib.pow10Tab.map fun z => Value.int .u64 z).toArray) 4 (u8s db32)) 5 (u8s db64)) 6 (Go.Pinned.utf8FirstZ.map fun (z : Nat) => Value.int .u8 (z : Int)).toArray) 7 (u8s accs)) 8 #[.iface 343 (.pointer (some ⟨low, 0, none⟩))]) 9 #[.iface 343 (.pointer (some ⟨low + 1, 0, none⟩))] }
set_option maxRecDepth 1000000 in
theorem laid_met (os : Os) (args : Array Value) : laidMet Tryz.prog Rows.topPosixRow.laid ((laidWorld os).forCall (fun _ _ => 0) ⟨#[], args, []⟩).memory :=
 laidMet_of_run' 8 (by kernel_rfl) (by kernel_rfl)
theorem pow_data : Rows.laid_internal_strconv_uint64pow10 (H := Unit) = Lib.tabData .u64 Lib.pow10Tab := by kernel_rfl
theorem gl_of {W : World} (hm : ∃ m, W.cell? ⟨2, 0, none⟩ = some (.int .i64 m)) (hL : laidMetH Tryz.prog Rows.topPosixRow.laid W) : Sx.Gl W := by
 refine ⟨hm, ?_⟩
 have h1 := (laidMetH_iff.1 hL).1
 have e : (Rows.topPosixRow.laid.filter fun x => x.2.handleName?.isNone) = [("math/bits.deBruijn32tab", Rows.laid_math_bits_deBruijn32tab), ("math/bits.deBruijn64tab", Rows.laid_math_bits_deBruijn64tab), ("internal/strconv.uint64pow10", Lib.tabData .u64 Lib.pow10Tab), ("unicode/utf8.acceptRanges", Rows.laid_unicode_utf8_acceptRanges), ("strconv.ErrRange", Rows.laid_strconv_ErrRange), ("strconv.ErrSyntax", Rows.laid_strconv_ErrSyntax), ("unicode/utf8.first", Rows.laid_unicode_utf8_first)] := by
  rw [← pow_data]
  kernel_rfl
 rw [e] at h1
 have ht : Lib.TabIs Tryz.prog W "internal/strconv.uint64pow10" .u64 Lib.pow10Tab := Lib.tabIs_of_head (g := 3) (t := 299) (e := 230) (n := 20) (by kernel_rfl) (by kernel_rfl) (by kernel_rfl) (by kernel_rfl) (by kernel_rfl) (by kernel_rfl) h1.tail.tail
 unfold Lib.TabIs World.var? at ht
 rw [Sx.glob3] at ht
 simp only [Option.bind_some] at ht
 split at ht
 ·rename_i cs T fz h
  refine ⟨T, fz, ?_⟩
  rw [h]
  injection ht with ht
  rw [ht]
  unfold Lib.pow10Tab
  rw [List.map_map]
  rfl
 ·cases ht
theorem max_of_shaped {W : World} (h : W.ShapedOpen Tryz.prog) : ∃ m, W.cell? ⟨2, 0, none⟩ = some (.int .i64 m) := Tryz.laysM219.s1_3 W h
theorem i64_of_wf {x : Int} (h : (Lit.int .i64 x).wf = true) : Sx.i64B x := by
 simp [Lit.wf, IntKind.min, IntKind.max, IntKind.signed, IntKind.bits] at h
 unfold Sx.i64B
 omega
theorem at_world {f : Nat} {Us : List Value} {args : Sx.AL} {W : World} (h : Sx.AC Tryz.prog f args (.val (.bool true))) (ha : args = Sx.valsL Us) (hg : Sx.Gl W) : Calls Tryz.prog f Us.toArray W fun e w' => e = .returned (.bool true) ∧ Below W.heap.size W w' := by
 subst ha
 refine (h W (fun _ => False) Us ⟨fun _ h => h.elim, hg⟩ (Sx.vrl_vals _ rfl)).mono ?_
 rintro _ w' ⟨V, rfl, hv, hb⟩
 unfold Sx.VR at hv
 rw [hv]
 exact ⟨rfl, hb⟩
end Go.Proofs.YthjldemjipnmdaaGreatDoor.Wl
namespace Go.Proofs.YthjldemjipnmdaaGreatDoor.topPosix
open Go.ChangeShapes Go.WideShapes Go.ChangeAt Go.RowKit
open Go.ChangeMaps (open_string shut_string)
theorem own : ownKnob Tryz.prog.godebug = none := by kernel_rfl
theorem reads (os : Os) {H : Type} (enc : TypeId × Value → H) : ∃ places, DataW.whole enc Tryz.prog ((Wl.laidWorld os).forCall (fun _ _ => 0) ⟨#[], #[.int .i64 0, .string ⟨#[]⟩, .int .i64 0], []⟩).memory Tryz.f4.params.toList Rows.topPosixSpec.vars false #[.int .i64 0, .string ⟨#[]⟩, .int .i64 0].toList 8 = some ([.lit (.int .i64 0), .lit (.string []), .lit (.int .i64 0)], [], places) :=
 ⟨[], by kernel_rfl⟩
set_option maxHeartbeats 1000000 in
set_option maxRecDepth 100000 in
theorem lifted (os : Os) (started : os.Started) (H : Type) (enc : TypeId × Value → H) (F : Stop.Interp) :
  ReturnsInHanded {} Tryz.checked os 4 .any ((OpenSpec.ofChange Rows.topPosixSpec).preRow enc Tryz.prog Tryz.f4 Rows.topPosixRow.domain false Rows.topPosixRow.laid) (((OpenSpec.ofChange Rows.topPosixSpec).at F).post enc Tryz.prog Tryz.f4 false true false false) := by
 obtain ⟨places, hx⟩ := reads os enc
 refine returnsInHanded_of_row (C := Tryz.checked) (s := OpenSpec.ofChange Rows.topPosixSpec) own started (by kernel_rfl) Tryz.func4
  (witness_row_at (enc := enc) (C := Tryz.checked) false (Wl.laidWorld os) #[.int .i64 0, .string ⟨#[]⟩, .int .i64 0] rfl (by kernel_rfl) (by kernel_rfl) (by kernel_rfl)
   (OpenSpec.preRow_of_cond 8 hx (by kernel_rfl) (fun k hk => by cases hk) (by kernel_rfl) (Wl.laid_met os _))) ?_
 intro W base args ds gs before hval0 hW hcnd _ hsz0 hL hsh _
 have hgl := Wl.gl_of (Wl.max_of_shaped hsh) hL
 have hsz : (DataW.weightsEach Tryz.prog (Tryz.f4.params.toList ++ Rows.topPosixSpec.plain.varTypes Tryz.prog) (ds ++ gs)).all (· ≤ reachBytes) = true := hsz0
 have hval : ∀ (j : Nat) t v, Tryz.f4.params[j]? = some t → args[j]? = some v → Value.okWide Tryz.prog W .any base t v := hval0
 have hW' := hW
 obtain ⟨p, q, hA0, hV, rfl, hfz, hnd⟩ := hW
 have hA : DataW.TrodAll enc Tryz.prog W 0 (fun _ => true) true Tryz.f4.params.toList args.toList ds p := hA0
 rw [Tryz.params4] at hA hval hsz
 obtain ⟨v0, vs0, d0, ds0, p0, q0, hargs, rfl, rfl, h0, r0⟩ := trodAll_cons hA
 obtain ⟨v1, vs1, d1, ds1, p1, q1, rfl, rfl, rfl, h1, r1⟩ := trodAll_cons r0
 obtain ⟨v2, vs2, d2, ds2, p2, q2, rfl, rfl, rfl, h2, r2⟩ := trodAll_cons r1
 obtain ⟨rfl, rfl, rfl⟩ := trodAll_nil r2
 obtain rfl : args = #[v0, v1, v2] := by cases args; simp_all
 obtain ⟨rfl, rfl⟩ := trodVars_none hV
 obtain ⟨a0, rfl, rfl, rfl, w0⟩ := open_int Tryz.underlying3 (hval 0 3 v0 rfl rfl) h0
 obtain ⟨a1, rfl, rfl, rfl, y1⟩ := open_string Tryz.underlying9 (hval 1 9 v1 rfl rfl) h1
 have w1 : a1.size ≤ 140737488351232 := by
  have z := sized_string hsz (j := 1) (t := 9) rfl rfl
  rw [Array.length_toList] at z
  exact z
 obtain ⟨a2, rfl, rfl, rfl, w2⟩ := open_int Tryz.underlying3 (hval 2 3 v2 rfl rfl) h2
 clear hA0 hval0 hsz0 hsz
 refine (Wl.at_world (Us := [.int .i64 a0, .string a1, .int .i64 a2]) (Sx.posixT_ac a0 a1 a2 (Wl.i64_of_wf w2)) rfl hgl).mono fun e W' ⟨he, bel⟩ => ?_
 subst he
 exact ⟨_, rfl, _, _, _, [], _, [], hW', trodAll_mk1 (shut_bool Tryz.underlying4 _), (trodAll_cons_mk (shut_int Tryz.underlying3 w0) (trodAll_cons_mk (shut_string Tryz.underlying9 y1) (trodAll_cons_mk (shut_int Tryz.underlying3 w2) trodAll_mk0))), rfl, bel.frame _, fun h => by cases h⟩
theorem said : Rows.TopPosixSaid :=
 OpenClaim.holds_of_cond 4 Tryz.f4 rfl rfl rfl rfl rfl rfl rfl ⟨rfl, rfl, rfl, rfl, rfl⟩ rfl rfl rfl rfl rfl (by kernel_rfl) Tryz.func4 (by kernel_rfl)
  (of_decide_eq_true (by kernel_rfl)) (by unfold Func.isWrapper; first | (rw [if_pos (by decide +kernel)]; kernel_rfl) | (rw [if_neg (by decide +kernel)]; exact ⟨rfl, rfl⟩))
  (fun os started H enc _ F => by rw [OpenClaim.pre_eq_preRow]; exact lifted os started H enc F)
theorem plain (f : FuncId) (fn : Func) (hf : Tryz.pinned.checked.prog.funcNamed "epact/epacttop.TopPosix" = some f) (hfn : Tryz.pinned.checked.prog.funcs[f]? = some fn) :
  true = Tryz.pinned.checked.prog.looks [] ∧ ∀ (j : Nat) t, fn.params[j]? = some t → Tryz.pinned.checked.prog.wantsStandIn t = false := by
 obtain rfl : f = 4 := Option.some.inj ((show Tryz.prog.funcNamed "epact/epacttop.TopPosix" = some 4 by kernel_rfl).symm.trans hf) |>.symm
 obtain rfl : fn = Tryz.f4 := (Option.some.inj (Tryz.func4.symm.trans hfn)).symm
 refine ⟨by kernel_rfl, fun j t ht => ?_⟩
 rw [Tryz.params4] at ht
 have hm := Array.mem_of_getElem? ht
 simp at hm
 rcases hm with rfl | rfl | rfl
 ·exact (show Tryz.prog.wantsStandIn 3 = false by kernel_rfl)
 ·exact (show Tryz.prog.wantsStandIn 9 = false by kernel_rfl)
 ·exact (show Tryz.prog.wantsStandIn 3 = false by kernel_rfl)
theorem proved : Rows.TopPosixCardSaid :=
 Claim7.holds_tied_plain_at .later [] _ _ _ _ said (fun _ h => by cases h) (by kernel_rfl) (fun _ h => by cases h) topPosix_row_tie rfl ⟨rfl, rfl⟩ (by kernel_rfl) rfl plain (by kernel_rfl)
#print axioms proved
end Go.Proofs.YthjldemjipnmdaaGreatDoor.topPosix
namespace Go.Proofs.YthjldemjipnmdaaGreatDoor
theorem topPosix_holds : Rows.TopPosixCardSaid := topPosix.proved
end Go.Proofs.YthjldemjipnmdaaGreatDoor
