-- Written by a program of this session (wip/print/setup.py turns the kit's print tool)
import Derived.Test.YtlljcfadfgnmjaaDoorPLinesCutsx0
namespace Go.Proofs.YtlljcfadfgnmjaaDoor.PLinesCuts
open Go.RowKit Go.Proofs.YtlljcfadfgnmjaaDoorW.PrintWords Go.Proofs.YtlljcfadfgnmjaaDoorW.PrintLast Go.Proofs.YtlljcfadfgnmjaaDoorW.PrintMore
attribute [local go_sem] max2_int min2_int max_two min_two max_three min_three max_four min_four   -- for this text's walks alone
set_option linter.unusedVariables false
set_option linter.unusedSimpArgs false

/-! ### epactlaw05_small: function 10 -/
def epactlaw05_small.f  : Option (Bool) := some true
set_option maxHeartbeats 8000000 in
set_option maxRecDepth 100000 in
theorem epactlaw05_small.calls  (r : Bool) (w : World) (hmax : Go.Proofs.YtlljcfadfgnmjaaDoor.Ln.MaxIs w) (h : epactlaw05_small.f  = some r) :
    Calls Tryd.prog 10 #[] w fun e w' => e = .returned (.bool r) ∧ Below w.heap.size w w' := by
  exact Go.Proofs.YtlljcfadfgnmjaaDoor.Ln.small_calls r w hmax h

/-! ### lines_Cut: function 13 -/
def lines_Cut.f (a0 : ByteArray) (a1 : ByteArray) : Option (ByteArray × ByteArray × Bool) := Go.Proofs.YtlljcfadfgnmjaaDoor.Ln.cutF a0 a1
set_option maxHeartbeats 8000000 in
set_option maxRecDepth 100000 in
theorem lines_Cut.calls (a0 : ByteArray) (a1 : ByteArray) (r1 : ByteArray) (r2 : ByteArray) (r3 : Bool) (w : World) (hmax : Go.Proofs.YtlljcfadfgnmjaaDoor.Ln.MaxIs w) (h : lines_Cut.f a0 a1 = some (r1, r2, r3)) :
    Calls Tryd.prog 13 #[.string a0, .string a1] w fun e w' => e = .returned (.tuple #[.string r1, .string r2, .bool r3]) ∧ Below w.heap.size w w' := by
  exact Go.Proofs.YtlljcfadfgnmjaaDoor.Ln.cut_is a0 a1 r1 r2 r3 w hmax h

/-! ### epactlaw05_LinesCuts: function 7 -/
def epactlaw05_LinesCuts.j0 : Nat → ByteArray → ByteArray → Bool → Bool → Option (Bool)
  | 0, _, _, _, _ => none
  | k + 1, x0, x1, x5, x20 => if x20 = true then (some x5) else ((lines_Cut.f x0 x1).bind fun bt102 => (if bt102.2.2 = true then (if (x1.size : Int) < 1 then (some false) else (if 0 ≤ (wrap64 ((x1.size : Int) - 1)) then (if (wrap64 ((x1.size : Int) - 1)) ≤ (x1.size : Int) then (if bt102.1.size + (x1.extract 0 ((wrap64 ((x1.size : Int) - 1)) : Int).toNat).size ≤ 9223372036854775807 then ((lines_Cut.f (bt102.1 ++ (x1.extract 0 ((wrap64 ((x1.size : Int) - 1)) : Int).toNat)) x1).bind fun bt105 => (if x5 = true then (if bt102.1.size + x1.size ≤ 9223372036854775807 then (if (bt102.1 ++ x1).size + bt102.2.1.size ≤ 9223372036854775807 then (if ((bt102.1 ++ x1) ++ bt102.2.1).toList = x0.toList then (some (!bt105.2.2)) else (some false)) else (none)) else (none)) else (some false))) else (none)) else (none)) else (none))) else (if x5 = true then (if bt102.1.toList = x0.toList then (some (bt102.2.1.toList == ([] : List UInt8))) else (some false)) else (some false))))
def epactlaw05_LinesCuts.f (k : Nat) (a0 : ByteArray) (a1 : ByteArray) : Option (Bool) := (epactlaw05_small.f).bind fun t101 => (if (a0.size : Int) > 300 then (epactlaw05_LinesCuts.j0 k a0 a1 t101 true) else (epactlaw05_LinesCuts.j0 k a0 a1 t101 (decide ((a1.size : Int) > 100))))
theorem epactlaw05_LinesCuts.mono_l : ∀ k, (∀ y0 y1 y2 y3, LeO (epactlaw05_LinesCuts.j0 k y0 y1 y2 y3) (epactlaw05_LinesCuts.j0 (k + 1) y0 y1 y2 y3))
  | 0 => fun _ _ _ _ r h => by simp [epactlaw05_LinesCuts.j0] at h
  | k + 1 => by
    have ih0 := epactlaw05_LinesCuts.mono_l k
    · intro y0 y1 y2 y3
      unfold epactlaw05_LinesCuts.j0
      repeat' first
      | (with_reducible exact ih0 _ _ _ _)
      | (with_reducible exact LeO.refl _)
      | (with_reducible exact LeO.none _)
      | (with_reducible refine LeO.ite ?_ ?_)
      | (with_reducible refine LeO.bind ?_ (fun _ => ?_))
      | exact ih0 _ _ _ _
      | exact LeO.none _
      | refine LeO.ite ?_ ?_
      | refine LeO.bind ?_ (fun _ => ?_)
theorem epactlaw05_LinesCuts.mono : ∀ a0 a1 k, LeO (epactlaw05_LinesCuts.f k a0 a1) (epactlaw05_LinesCuts.f (k + 1) a0 a1) := by
  intro a0 a1 k
  have ih0 := epactlaw05_LinesCuts.mono_l k
  unfold epactlaw05_LinesCuts.f
  repeat' first
      | (with_reducible exact ih0 _ _ _ _)
      | (with_reducible exact LeO.refl _)
      | (with_reducible exact LeO.none _)
      | (with_reducible refine LeO.ite ?_ ?_)
      | (with_reducible refine LeO.bind ?_ (fun _ => ?_))
      | exact ih0 _ _ _ _
      | exact LeO.none _
      | refine LeO.ite ?_ ?_
      | refine LeO.bind ?_ (fun _ => ?_)
set_option maxHeartbeats 8000000 in
set_option maxRecDepth 100000 in
theorem epactlaw05_LinesCuts.calls (k : Nat) (a0 : ByteArray) (a1 : ByteArray) (r : Bool) (w : World) (hmax : Go.Proofs.YtlljcfadfgnmjaaDoor.Ln.MaxIs w) (h : epactlaw05_LinesCuts.f k a0 a1 = some r) :
    Calls Tryd.prog 7 #[.string a0, .string a1] w fun e w' => e = .returned (.bool r) ∧ Below w.heap.size w w' := by
  have HB := Aside0.mk (Below.refl w.heap.size w)
  have H : ((epactlaw05_small.f).bind fun t101 => (if (a0.size : Int) > 300 then (epactlaw05_LinesCuts.j0 k a0 a1 t101 true) else (epactlaw05_LinesCuts.j0 k a0 a1 t101 (decide ((a1.size : Int) > 100))))) = some r := h
  clear h
  replace H := Option.bind_eq_some_iff.mp H
  obtain ⟨t101, A30, H⟩ := H
  replace H : (if (a0.size : Int) > 300 then (epactlaw05_LinesCuts.j0 k a0 a1 t101 true) else (epactlaw05_LinesCuts.j0 k a0 a1 t101 (decide ((a1.size : Int) > 100)))) = some r := H
  have A3 := Aside0.mk A30
  clear A30
  have HC4 := Aside0.mk H
  clear H
  go_enter Tryd.func7, Tryd.ntmps7
  go_upto_region 2 with (first | ((with_reducible refine gate_callee (f := 10) rfl ?_); refine goesL_ (some 12) rfl rfl Tryd.func10 (by kernel_rfl) rfl #[] rfl (by (try simp only [List.map_toArray, List.map_cons, List.map_nil]); first | done | rfl | (simp only [List.length_drop, List.length_take]; rfl)) ?_; (with_reducible refine (epactlaw05_small.calls  t101 _ (Go.Proofs.YtlljcfadfgnmjaaDoor.Ln.MaxIs.below hmax (by repeat (first | (with_reducible first | exact HB.out | apply below_alloc | apply pw_below_drewN | apply below_drew1) | exact HB.out))) A3.out).mono ?_); rintro e w5 ⟨rfl, hb⟩; refine ⟨_, rfl, ?_⟩; have n0_ := Aside0.mk (below_step (by repeat (first | (with_reducible first | exact HB.out | apply below_alloc | apply pw_below_drewN | apply below_drew1) | exact HB.out)) hb); clear HB; have HB := n0_; clear n0_; (try clear hb); (try clear hb2); (try clear hk); (try clear hi)))
  (try simp only [Act.put, List.setIfInBounds_toArray, List.set_cons_zero, List.set_cons_succ])
  go_cut [20] (fun v20 wc => ∃ (kq : Nat) (x20_3 : Bool), v20 = .bool x20_3 ∧ Aside0 (epactlaw05_LinesCuts.j0 kq a0 a1 t101 x20_3 = some r) ∧ Aside0 (kq ≤ k) ∧ Aside0 (Below w.heap.size w wc))
  case first =>
    have H := HC4.out
    clear HC4
    by_cases c6 : (a0.size : Int) > 300
    · rw [if_pos c6] at H
      have c6b0 : decide (300 < (a0.size : Int)) = true := decide_eq_true c6
      have c6b1 : decide (300 < a0.size) = true := decide_eq_true (by omega)
      clear c6
      (first | rw [c6b0] | (simp only [i64_w, i32_w]; rw [c6b0]) | skip)
      have H' := Aside0.mk H
      clear H
      go_wp2
      go_meet
      case rel => exact ⟨_, (true), (by first | rfl | (simp; done) | (simp [*]; done)), H', ⟨by first | omega | exact Nat.le_refl _⟩, ⟨by repeat (first | (with_reducible first | exact HB.out | apply below_alloc | apply pw_below_drewN | apply below_drew1) | exact HB.out)⟩⟩
    · rw [if_neg c6] at H
      have c6b0 : decide (300 < (a0.size : Int)) = false := decide_eq_false c6
      have c6b1 : decide (300 < a0.size) = false := decide_eq_false (by omega)
      clear c6
      (first | rw [c6b0] | (simp only [i64_w, i32_w]; rw [c6b0]) | skip)
      have H' := Aside0.mk H
      clear H
      go_wp2
      go_meet
      case rel => exact ⟨_, (decide ((a1.size : Int) > 100)), (by first | rfl | (simp; done) | (simp [*]; done)), H', ⟨by first | omega | exact Nat.le_refl _⟩, ⟨by repeat (first | (with_reducible first | exact HB.out | apply below_alloc | apply pw_below_drewN | apply below_drew1) | exact HB.out)⟩⟩
  case rest =>
    clear HC4
    try clear c1
    try clear p2
    try clear c6
    try clear c6b0
    try clear c6b1
    obtain ⟨kq, x20_3, rfl, HA, HJ3, HB⟩ := hcut
    cases kq with
    | zero => exact absurd HA.out (by simp [epactlaw05_LinesCuts.j0])
    | succ kj3 =>
      have H := HA.out
      clear HA
      simp only [epactlaw05_LinesCuts.j0] at H
      by_cases c7 : x20_3 = true
      · subst c7
        have H1 : (some t101) = some r := by rw [if_pos rfl] at H; exact H
        clear H
        have H := H1
        clear H1
        obtain rfl := Option.some.inj H
        go_wp2
        go_ret
        exact ⟨by first | rfl | (simp [errW_none, errW_some] <;> rfl) | (simp [*, errW_none, errW_some] <;> rfl), by repeat (first | (with_reducible first | exact HB.out | apply below_alloc | apply pw_below_drewN | apply below_drew1) | exact HB.out)⟩
      · replace c7 := Bool.eq_false_iff.mpr c7
        subst c7
        have H1 : ((lines_Cut.f a0 a1).bind fun bt102 => (if bt102.2.2 = true then (if (a1.size : Int) < 1 then (some false) else (if 0 ≤ (wrap64 ((a1.size : Int) - 1)) then (if (wrap64 ((a1.size : Int) - 1)) ≤ (a1.size : Int) then (if bt102.1.size + (a1.extract 0 ((wrap64 ((a1.size : Int) - 1)) : Int).toNat).size ≤ 9223372036854775807 then ((lines_Cut.f (bt102.1 ++ (a1.extract 0 ((wrap64 ((a1.size : Int) - 1)) : Int).toNat)) a1).bind fun bt105 => (if t101 = true then (if bt102.1.size + a1.size ≤ 9223372036854775807 then (if (bt102.1 ++ a1).size + bt102.2.1.size ≤ 9223372036854775807 then (if ((bt102.1 ++ a1) ++ bt102.2.1).toList = a0.toList then (some (!bt105.2.2)) else (some false)) else (none)) else (none)) else (some false))) else (none)) else (none)) else (none))) else (if t101 = true then (if bt102.1.toList = a0.toList then (some (bt102.2.1.toList == ([] : List UInt8))) else (some false)) else (some false)))) = some r := by rw [if_neg (show ¬ (false = true) by decide)] at H; exact H
        clear H
        have H := H1
        clear H1
        replace H := Option.bind_eq_some_iff.mp H
        obtain ⟨⟨t102, t103, t104⟩, A80, H⟩ := H
        replace H : (if t104 = true then (if (a1.size : Int) < 1 then (some false) else (if 0 ≤ (wrap64 ((a1.size : Int) - 1)) then (if (wrap64 ((a1.size : Int) - 1)) ≤ (a1.size : Int) then (if t102.size + (a1.extract 0 ((wrap64 ((a1.size : Int) - 1)) : Int).toNat).size ≤ 9223372036854775807 then ((lines_Cut.f (t102 ++ (a1.extract 0 ((wrap64 ((a1.size : Int) - 1)) : Int).toNat)) a1).bind fun bt105 => (if t101 = true then (if t102.size + a1.size ≤ 9223372036854775807 then (if (t102 ++ a1).size + t103.size ≤ 9223372036854775807 then (if ((t102 ++ a1) ++ t103).toList = a0.toList then (some (!bt105.2.2)) else (some false)) else (none)) else (none)) else (some false))) else (none)) else (none)) else (none))) else (if t101 = true then (if t102.toList = a0.toList then (some (t103.toList == ([] : List UInt8))) else (some false)) else (some false))) = some r := H
        have A8 := Aside0.mk A80
        clear A80
        by_cases c9 : t104 = true
        · subst c9
          have H1 : (if (a1.size : Int) < 1 then (some false) else (if 0 ≤ (wrap64 ((a1.size : Int) - 1)) then (if (wrap64 ((a1.size : Int) - 1)) ≤ (a1.size : Int) then (if t102.size + (a1.extract 0 ((wrap64 ((a1.size : Int) - 1)) : Int).toNat).size ≤ 9223372036854775807 then ((lines_Cut.f (t102 ++ (a1.extract 0 ((wrap64 ((a1.size : Int) - 1)) : Int).toNat)) a1).bind fun bt105 => (if t101 = true then (if t102.size + a1.size ≤ 9223372036854775807 then (if (t102 ++ a1).size + t103.size ≤ 9223372036854775807 then (if ((t102 ++ a1) ++ t103).toList = a0.toList then (some (!bt105.2.2)) else (some false)) else (none)) else (none)) else (some false))) else (none)) else (none)) else (none))) = some r := by rw [if_pos rfl] at H; exact H
          clear H
          have H := H1
          clear H1
          by_cases c10 : (a1.size : Int) < 1
          · rw [if_pos c10] at H
            have c10b0 : decide ((a1.size : Int) < 1) = true := decide_eq_true c10
            have c10b1 : decide (a1.size < 1) = true := decide_eq_true (by omega)
            clear c10
            obtain rfl := Option.some.inj H
            go_wp2_with (first | ((with_reducible refine gate_callee (f := 13) rfl ?_); refine goesL_ (some 25) rfl rfl Tryd.func13 (by kernel_rfl) rfl #[.string a0, .string a1] rfl (by (try simp only [List.map_toArray, List.map_cons, List.map_nil]); first | done | rfl | (simp only [List.length_drop, List.length_take]; rfl)) ?_; (with_reducible refine (lines_Cut.calls a0 a1 t102 t103 true _ (Go.Proofs.YtlljcfadfgnmjaaDoor.Ln.MaxIs.below hmax (by repeat (first | (with_reducible first | exact HB.out | apply below_alloc | apply pw_below_drewN | apply below_drew1) | exact HB.out))) A8.out).mono ?_); rintro e w11 ⟨rfl, hb⟩; refine ⟨_, rfl, ?_⟩; have n0_ := Aside0.mk (below_step (by repeat (first | (with_reducible first | exact HB.out | apply below_alloc | apply pw_below_drewN | apply below_drew1) | exact HB.out)) hb); clear HB; have HB := n0_; clear n0_; (try clear hb); (try clear hb2); (try clear hk); (try clear hi)))
            go_ret
            exact ⟨by first | rfl | (simp [errW_none, errW_some] <;> rfl) | (simp [*, errW_none, errW_some] <;> rfl), by repeat (first | (with_reducible first | exact HB.out | apply below_alloc | apply pw_below_drewN | apply below_drew1) | exact HB.out)⟩
          · rw [if_neg c10] at H
            have c10b0 : decide ((a1.size : Int) < 1) = false := decide_eq_false c10
            have c10b1 : decide (a1.size < 1) = false := decide_eq_false (by omega)
            clear c10
            obtain ⟨ji12, hji12⟩ : ∃ j_ : Int, (wrap64 ((a1.size : Int) - 1)) = j_ := ⟨_, rfl⟩
            replace H : (if 0 ≤ (ji12) then (if (ji12) ≤ (a1.size : Int) then (if t102.size + (a1.extract 0 ((ji12) : Int).toNat).size ≤ 9223372036854775807 then ((lines_Cut.f (t102 ++ (a1.extract 0 ((ji12) : Int).toNat)) a1).bind fun bt105 => (if t101 = true then (if t102.size + a1.size ≤ 9223372036854775807 then (if (t102 ++ a1).size + t103.size ≤ 9223372036854775807 then (if ((t102 ++ a1) ++ t103).toList = a0.toList then (some (!bt105.2.2)) else (some false)) else (none)) else (none)) else (some false))) else (none)) else (none)) else (none)) = some r := by first | (rw [hji12] at H; exact H) | (simp only [hji12] at H ⊢; exact H)
            (try rw [hji12] at A8)
            have hji12w : (IntKind.i64.wrap ((a1.size : Int) - 1)) = ji12 := (i64_w _).trans hji12
            by_cases c13 : 0 ≤ (ji12)
            · rw [if_pos c13] at H
              have c13b0 := eq_true c13
              have c13b1 : decide (0 ≤ (ji12)) = true := decide_eq_true c13
              clear c13
              by_cases c14 : (ji12) ≤ (a1.size : Int)
              · rw [if_pos c14] at H
                have c14b0 := eq_true c14
                have c14b1 : decide ((ji12) ≤ (a1.size : Int)) = true := decide_eq_true c14
                clear c14
                by_cases c15 : t102.size + (a1.extract 0 ((ji12) : Int).toNat).size ≤ 9223372036854775807
                · rw [if_pos c15] at H
                  have c15b0 := eq_true c15
                  have c15b1 : decide (t102.size + (a1.extract 0 ((ji12) : Int).toNat).size ≤ 9223372036854775807) = true := decide_eq_true c15
                  try have c15b2 : (9223372036854775807 < t102.size + (a1.extract 0 ((ji12) : Int).toNat).size) = False := eq_false (Nat.not_lt.2 c15)
                  replace H := Option.bind_eq_some_iff.mp H
                  obtain ⟨⟨t105, t106, t107⟩, A160, H⟩ := H
                  replace H : (if t101 = true then (if t102.size + a1.size ≤ 9223372036854775807 then (if (t102 ++ a1).size + t103.size ≤ 9223372036854775807 then (if ((t102 ++ a1) ++ t103).toList = a0.toList then (some (!t107)) else (some false)) else (none)) else (none)) else (some false)) = some r := H
                  have A16 := Aside0.mk A160
                  clear A160
                  by_cases c17 : t101 = true
                  · subst c17
                    have H1 : (if t102.size + a1.size ≤ 9223372036854775807 then (if (t102 ++ a1).size + t103.size ≤ 9223372036854775807 then (if ((t102 ++ a1) ++ t103).toList = a0.toList then (some (!t107)) else (some false)) else (none)) else (none)) = some r := by rw [if_pos rfl] at H; exact H
                    clear H
                    have H := H1
                    clear H1
                    by_cases c18 : t102.size + a1.size ≤ 9223372036854775807
                    · rw [if_pos c18] at H
                      have c18b0 := eq_true c18
                      have c18b1 : decide (t102.size + a1.size ≤ 9223372036854775807) = true := decide_eq_true c18
                      try have c18b2 : (9223372036854775807 < t102.size + a1.size) = False := eq_false (Nat.not_lt.2 c18)
                      by_cases c19 : (t102 ++ a1).size + t103.size ≤ 9223372036854775807
                      · rw [if_pos c19] at H
                        have c19b0 := eq_true c19
                        have c19b1 : decide ((t102 ++ a1).size + t103.size ≤ 9223372036854775807) = true := decide_eq_true c19
                        try have c19b2 : (9223372036854775807 < (t102 ++ a1).size + t103.size) = False := eq_false (Nat.not_lt.2 c19)
                        by_cases c20 : ((t102 ++ a1) ++ t103).toList = a0.toList
                        · rw [if_pos c20] at H
                          have c20b0 : (((t102 ++ a1) ++ t103).toList == a0.toList) = true := beq_iff_eq.mpr c20
                          have c20b1 : (((t102 ++ a1) ++ t103).toList != a0.toList) = false := bne_eq_false_iff_eq.mpr c20
                          clear c20
                          obtain rfl := Option.some.inj H
                          go_wp2_with (first | ((with_reducible refine gate_callee (f := 13) rfl ?_); refine goesL_ (some 25) rfl rfl Tryd.func13 (by kernel_rfl) rfl #[.string a0, .string a1] rfl (by (try simp only [List.map_toArray, List.map_cons, List.map_nil]); first | done | rfl | (simp only [List.length_drop, List.length_take]; rfl)) ?_; (with_reducible refine (lines_Cut.calls a0 a1 t102 t103 true _ (Go.Proofs.YtlljcfadfgnmjaaDoor.Ln.MaxIs.below hmax (by repeat (first | (with_reducible first | exact HB.out | apply below_alloc | apply pw_below_drewN | apply below_drew1) | exact HB.out))) A8.out).mono ?_); rintro e w21 ⟨rfl, hb⟩; refine ⟨_, rfl, ?_⟩; have n0_ := Aside0.mk (below_step (by repeat (first | (with_reducible first | exact HB.out | apply below_alloc | apply pw_below_drewN | apply below_drew1) | exact HB.out)) hb); clear HB; have HB := n0_; clear n0_; (try clear hb); (try clear hb2); (try clear hk); (try clear hi)) | ((with_reducible refine gate_callee (f := 13) rfl ?_); refine goesL_ (some 53) rfl rfl Tryd.func13 (by kernel_rfl) rfl #[.string (t102 ++ (a1.extract 0 ((ji12) : Int).toNat)), .string a1] rfl (by (try simp only [List.map_toArray, List.map_cons, List.map_nil]); first | done | (simp only [hji12]; rfl) | rfl | (simp only [List.length_drop, List.length_take]; rfl)) ?_; (with_reducible refine (lines_Cut.calls (t102 ++ (a1.extract 0 ((ji12) : Int).toNat)) a1 t105 t106 t107 _ (Go.Proofs.YtlljcfadfgnmjaaDoor.Ln.MaxIs.below hmax (by repeat (first | (with_reducible first | exact HB.out | apply below_alloc | apply pw_below_drewN | apply below_drew1) | exact HB.out))) A16.out).mono ?_); rintro e w22 ⟨rfl, hb⟩; refine ⟨_, rfl, ?_⟩; have n0_ := Aside0.mk (below_step (by repeat (first | (with_reducible first | exact HB.out | apply below_alloc | apply pw_below_drewN | apply below_drew1) | exact HB.out)) hb); clear HB; have HB := n0_; clear n0_; (try clear hb); (try clear hb2); (try clear hk); (try clear hi)))
                          go_ret
                          exact ⟨by first | rfl | (simp [errW_none, errW_some] <;> rfl) | (simp only [← hji12]; first | rfl | (simp [errW_none, errW_some] <;> rfl)) | (simp [*, errW_none, errW_some] <;> rfl), by repeat (first | (with_reducible first | exact HB.out | apply below_alloc | apply pw_below_drewN | apply below_drew1) | exact HB.out)⟩
                        · rw [if_neg c20] at H
                          have c20b0 : (((t102 ++ a1) ++ t103).toList == a0.toList) = false := beq_eq_false_iff_ne.mpr c20
                          have c20b1 : (((t102 ++ a1) ++ t103).toList != a0.toList) = true := bne_iff_ne.mpr c20
                          obtain rfl := Option.some.inj H
                          go_wp2_with (first | ((with_reducible refine gate_callee (f := 13) rfl ?_); refine goesL_ (some 25) rfl rfl Tryd.func13 (by kernel_rfl) rfl #[.string a0, .string a1] rfl (by (try simp only [List.map_toArray, List.map_cons, List.map_nil]); first | done | rfl | (simp only [List.length_drop, List.length_take]; rfl)) ?_; (with_reducible refine (lines_Cut.calls a0 a1 t102 t103 true _ (Go.Proofs.YtlljcfadfgnmjaaDoor.Ln.MaxIs.below hmax (by repeat (first | (with_reducible first | exact HB.out | apply below_alloc | apply pw_below_drewN | apply below_drew1) | exact HB.out))) A8.out).mono ?_); rintro e w23 ⟨rfl, hb⟩; refine ⟨_, rfl, ?_⟩; have n0_ := Aside0.mk (below_step (by repeat (first | (with_reducible first | exact HB.out | apply below_alloc | apply pw_below_drewN | apply below_drew1) | exact HB.out)) hb); clear HB; have HB := n0_; clear n0_; (try clear hb); (try clear hb2); (try clear hk); (try clear hi)) | ((with_reducible refine gate_callee (f := 13) rfl ?_); refine goesL_ (some 53) rfl rfl Tryd.func13 (by kernel_rfl) rfl #[.string (t102 ++ (a1.extract 0 ((ji12) : Int).toNat)), .string a1] rfl (by (try simp only [List.map_toArray, List.map_cons, List.map_nil]); first | done | (simp only [hji12]; rfl) | rfl | (simp only [List.length_drop, List.length_take]; rfl)) ?_; (with_reducible refine (lines_Cut.calls (t102 ++ (a1.extract 0 ((ji12) : Int).toNat)) a1 t105 t106 t107 _ (Go.Proofs.YtlljcfadfgnmjaaDoor.Ln.MaxIs.below hmax (by repeat (first | (with_reducible first | exact HB.out | apply below_alloc | apply pw_below_drewN | apply below_drew1) | exact HB.out))) A16.out).mono ?_); rintro e w24 ⟨rfl, hb⟩; refine ⟨_, rfl, ?_⟩; have n0_ := Aside0.mk (below_step (by repeat (first | (with_reducible first | exact HB.out | apply below_alloc | apply pw_below_drewN | apply below_drew1) | exact HB.out)) hb); clear HB; have HB := n0_; clear n0_; (try clear hb); (try clear hb2); (try clear hk); (try clear hi)))
                          go_ret
                          exact ⟨by first | rfl | (simp [errW_none, errW_some] <;> rfl) | (simp only [← hji12]; first | rfl | (simp [errW_none, errW_some] <;> rfl)) | (simp [*, errW_none, errW_some] <;> rfl), by repeat (first | (with_reducible first | exact HB.out | apply below_alloc | apply pw_below_drewN | apply below_drew1) | exact HB.out)⟩
                      · rw [if_neg c19] at H
                        exact absurd H (by simp)
                    · rw [if_neg c18] at H
                      exact absurd H (by simp)
                  · replace c17 := Bool.eq_false_iff.mpr c17
                    subst c17
                    have H1 : (some false) = some r := by rw [if_neg (show ¬ (false = true) by decide)] at H; exact H
                    clear H
                    have H := H1
                    clear H1
                    obtain rfl := Option.some.inj H
                    go_wp2_with (first | ((with_reducible refine gate_callee (f := 13) rfl ?_); refine goesL_ (some 25) rfl rfl Tryd.func13 (by kernel_rfl) rfl #[.string a0, .string a1] rfl (by (try simp only [List.map_toArray, List.map_cons, List.map_nil]); first | done | rfl | (simp only [List.length_drop, List.length_take]; rfl)) ?_; (with_reducible refine (lines_Cut.calls a0 a1 t102 t103 true _ (Go.Proofs.YtlljcfadfgnmjaaDoor.Ln.MaxIs.below hmax (by repeat (first | (with_reducible first | exact HB.out | apply below_alloc | apply pw_below_drewN | apply below_drew1) | exact HB.out))) A8.out).mono ?_); rintro e w25 ⟨rfl, hb⟩; refine ⟨_, rfl, ?_⟩; have n0_ := Aside0.mk (below_step (by repeat (first | (with_reducible first | exact HB.out | apply below_alloc | apply pw_below_drewN | apply below_drew1) | exact HB.out)) hb); clear HB; have HB := n0_; clear n0_; (try clear hb); (try clear hb2); (try clear hk); (try clear hi)) | ((with_reducible refine gate_callee (f := 13) rfl ?_); refine goesL_ (some 53) rfl rfl Tryd.func13 (by kernel_rfl) rfl #[.string (t102 ++ (a1.extract 0 ((ji12) : Int).toNat)), .string a1] rfl (by (try simp only [List.map_toArray, List.map_cons, List.map_nil]); first | done | (simp only [hji12]; rfl) | rfl | (simp only [List.length_drop, List.length_take]; rfl)) ?_; (with_reducible refine (lines_Cut.calls (t102 ++ (a1.extract 0 ((ji12) : Int).toNat)) a1 t105 t106 t107 _ (Go.Proofs.YtlljcfadfgnmjaaDoor.Ln.MaxIs.below hmax (by repeat (first | (with_reducible first | exact HB.out | apply below_alloc | apply pw_below_drewN | apply below_drew1) | exact HB.out))) A16.out).mono ?_); rintro e w26 ⟨rfl, hb⟩; refine ⟨_, rfl, ?_⟩; have n0_ := Aside0.mk (below_step (by repeat (first | (with_reducible first | exact HB.out | apply below_alloc | apply pw_below_drewN | apply below_drew1) | exact HB.out)) hb); clear HB; have HB := n0_; clear n0_; (try clear hb); (try clear hb2); (try clear hk); (try clear hi)))
                    go_ret
                    exact ⟨by first | rfl | (simp [errW_none, errW_some] <;> rfl) | (simp only [← hji12]; first | rfl | (simp [errW_none, errW_some] <;> rfl)) | (simp [*, errW_none, errW_some] <;> rfl), by repeat (first | (with_reducible first | exact HB.out | apply below_alloc | apply pw_below_drewN | apply below_drew1) | exact HB.out)⟩
                · rw [if_neg c15] at H
                  exact absurd H (by simp)
              · rw [if_neg c14] at H
                exact absurd H (by simp)
            · rw [if_neg c13] at H
              exact absurd H (by simp)
        · replace c9 := Bool.eq_false_iff.mpr c9
          subst c9
          have H1 : (if t101 = true then (if t102.toList = a0.toList then (some (t103.toList == ([] : List UInt8))) else (some false)) else (some false)) = some r := by rw [if_neg (show ¬ (false = true) by decide)] at H; exact H
          clear H
          have H := H1
          clear H1
          by_cases c27 : t101 = true
          · subst c27
            have H1 : (if t102.toList = a0.toList then (some (t103.toList == ([] : List UInt8))) else (some false)) = some r := by rw [if_pos rfl] at H; exact H
            clear H
            have H := H1
            clear H1
            by_cases c28 : t102.toList = a0.toList
            · rw [if_pos c28] at H
              have c28b0 : (t102.toList == a0.toList) = true := beq_iff_eq.mpr c28
              have c28b1 : (t102.toList != a0.toList) = false := bne_eq_false_iff_eq.mpr c28
              clear c28
              obtain rfl := Option.some.inj H
              go_wp2_with (first | ((with_reducible refine gate_callee (f := 13) rfl ?_); refine goesL_ (some 25) rfl rfl Tryd.func13 (by kernel_rfl) rfl #[.string a0, .string a1] rfl (by (try simp only [List.map_toArray, List.map_cons, List.map_nil]); first | done | rfl | (simp only [List.length_drop, List.length_take]; rfl)) ?_; (with_reducible refine (lines_Cut.calls a0 a1 t102 t103 false _ (Go.Proofs.YtlljcfadfgnmjaaDoor.Ln.MaxIs.below hmax (by repeat (first | (with_reducible first | exact HB.out | apply below_alloc | apply pw_below_drewN | apply below_drew1) | exact HB.out))) A8.out).mono ?_); rintro e w29 ⟨rfl, hb⟩; refine ⟨_, rfl, ?_⟩; have n0_ := Aside0.mk (below_step (by repeat (first | (with_reducible first | exact HB.out | apply below_alloc | apply pw_below_drewN | apply below_drew1) | exact HB.out)) hb); clear HB; have HB := n0_; clear n0_; (try clear hb); (try clear hb2); (try clear hk); (try clear hi)))
              go_ret
              exact ⟨by first | rfl | (simp [errW_none, errW_some] <;> rfl) | (simp [*, errW_none, errW_some] <;> rfl), by repeat (first | (with_reducible first | exact HB.out | apply below_alloc | apply pw_below_drewN | apply below_drew1) | exact HB.out)⟩
            · rw [if_neg c28] at H
              have c28b0 : (t102.toList == a0.toList) = false := beq_eq_false_iff_ne.mpr c28
              have c28b1 : (t102.toList != a0.toList) = true := bne_iff_ne.mpr c28
              obtain rfl := Option.some.inj H
              go_wp2_with (first | ((with_reducible refine gate_callee (f := 13) rfl ?_); refine goesL_ (some 25) rfl rfl Tryd.func13 (by kernel_rfl) rfl #[.string a0, .string a1] rfl (by (try simp only [List.map_toArray, List.map_cons, List.map_nil]); first | done | rfl | (simp only [List.length_drop, List.length_take]; rfl)) ?_; (with_reducible refine (lines_Cut.calls a0 a1 t102 t103 false _ (Go.Proofs.YtlljcfadfgnmjaaDoor.Ln.MaxIs.below hmax (by repeat (first | (with_reducible first | exact HB.out | apply below_alloc | apply pw_below_drewN | apply below_drew1) | exact HB.out))) A8.out).mono ?_); rintro e w30 ⟨rfl, hb⟩; refine ⟨_, rfl, ?_⟩; have n0_ := Aside0.mk (below_step (by repeat (first | (with_reducible first | exact HB.out | apply below_alloc | apply pw_below_drewN | apply below_drew1) | exact HB.out)) hb); clear HB; have HB := n0_; clear n0_; (try clear hb); (try clear hb2); (try clear hk); (try clear hi)))
              go_ret
              exact ⟨by first | rfl | (simp [errW_none, errW_some] <;> rfl) | (simp [*, errW_none, errW_some] <;> rfl), by repeat (first | (with_reducible first | exact HB.out | apply below_alloc | apply pw_below_drewN | apply below_drew1) | exact HB.out)⟩
          · replace c27 := Bool.eq_false_iff.mpr c27
            subst c27
            have H1 : (some false) = some r := by rw [if_neg (show ¬ (false = true) by decide)] at H; exact H
            clear H
            have H := H1
            clear H1
            obtain rfl := Option.some.inj H
            go_wp2_with (first | ((with_reducible refine gate_callee (f := 13) rfl ?_); refine goesL_ (some 25) rfl rfl Tryd.func13 (by kernel_rfl) rfl #[.string a0, .string a1] rfl (by (try simp only [List.map_toArray, List.map_cons, List.map_nil]); first | done | rfl | (simp only [List.length_drop, List.length_take]; rfl)) ?_; (with_reducible refine (lines_Cut.calls a0 a1 t102 t103 false _ (Go.Proofs.YtlljcfadfgnmjaaDoor.Ln.MaxIs.below hmax (by repeat (first | (with_reducible first | exact HB.out | apply below_alloc | apply pw_below_drewN | apply below_drew1) | exact HB.out))) A8.out).mono ?_); rintro e w31 ⟨rfl, hb⟩; refine ⟨_, rfl, ?_⟩; have n0_ := Aside0.mk (below_step (by repeat (first | (with_reducible first | exact HB.out | apply below_alloc | apply pw_below_drewN | apply below_drew1) | exact HB.out)) hb); clear HB; have HB := n0_; clear n0_; (try clear hb); (try clear hb2); (try clear hk); (try clear hi)))
            go_ret
            exact ⟨by first | rfl | (simp [errW_none, errW_some] <;> rfl) | (simp [*, errW_none, errW_some] <;> rfl), by repeat (first | (with_reducible first | exact HB.out | apply below_alloc | apply pw_below_drewN | apply below_drew1) | exact HB.out)⟩

/-- THE ONE PURE STATEMENT of epactlaw05_LinesCuts: yours. -/
def epactlaw05_LinesCuts.Pure : Prop := ∀ (a0 : ByteArray) (a1 : ByteArray), a0.size ≤ 140737488351232 → a1.size ≤ 140737488351232 → ∃ k, epactlaw05_LinesCuts.f k a0 a1 = some true
theorem epactlaw05_LinesCuts.walk (P : epactlaw05_LinesCuts.Pure) (a0 : ByteArray) (a1 : ByteArray) (w : World) (hmax : Go.Proofs.YtlljcfadfgnmjaaDoor.Ln.MaxIs w) (w0 : a0.size ≤ 140737488351232) (w1 : a1.size ≤ 140737488351232) :
    Calls Tryd.prog 7 #[.string a0, .string a1] w fun e w' => e = .returned (.bool true) ∧ Below w.heap.size w w' := by
  obtain ⟨k, h⟩ := P a0 a1 w0 w1
  refine (epactlaw05_LinesCuts.calls k a0 a1 true w hmax h).mono ?_
  rintro e w' ⟨rfl, hd⟩
  exact ⟨rfl, hd⟩

end Go.Proofs.YtlljcfadfgnmjaaDoor.PLinesCuts
