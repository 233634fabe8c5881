-- Written by a program of this session (wip/print/setup.py turns the kit's print tool)
import Derived.Test.YtahknjlhlfooeaaPAbbrPlacesx0
namespace Go.Proofs.Ytahknjlhlfooeaa.PAbbrPlaces
open Go.RowKit Go.Proofs.YtahknjlhlfooeaaW.PrintWords Go.Proofs.YtahknjlhlfooeaaW.PrintLast Go.Proofs.YtahknjlhlfooeaaW.PrintMore
attribute [local go_sem] max2_int min2_int max_two min_two max_three min_three max_four min_four   -- for this text's walks alone
set_option linter.unusedVariables false
set_option linter.unusedSimpArgs false

/-! ### epactlaw14_small: function 7 -/
def epactlaw14_small.f  : Option (Bool) := some true
set_option maxHeartbeats 8000000 in
set_option maxRecDepth 100000 in
theorem epactlaw14_small.calls  (r : Bool) (w : World) (h : epactlaw14_small.f  = some r) :
    Calls Try.prog 7 #[] w fun e w' => e = .returned (.bool r) ∧ Below w.heap.size w w' := by
  exact Go.Proofs.Ytahknjlhlfooeaa.Ab.small_calls r w h

/-! ### abbr_At: function 10 -/
def abbr_At.f (a0 : ByteArray) (a1 : Int) : Option (ByteArray × Bool) := Go.Proofs.Ytahknjlhlfooeaa.Ab.atF a0 a1
set_option maxHeartbeats 8000000 in
set_option maxRecDepth 100000 in
theorem abbr_At.calls (a0 : ByteArray) (a1 : Int) (r1 : ByteArray) (r2 : Bool) (w : World) (h : abbr_At.f a0 a1 = some (r1, r2)) :
    Calls Try.prog 10 #[.string a0, .int .i64 a1] w fun e w' => e = .returned (.tuple #[.string r1, .bool r2]) ∧ Below w.heap.size w w' := by
  exact Go.Proofs.Ytahknjlhlfooeaa.Ab.at_is a0 a1 r1 r2 w h

/-! ### abbr_Right: function 13 -/
def abbr_Right.f (a0 : ByteArray) : Option (Bool) := Go.Proofs.Ytahknjlhlfooeaa.Ab.rightF a0
set_option maxHeartbeats 8000000 in
set_option maxRecDepth 100000 in
theorem abbr_Right.calls (a0 : ByteArray) (r : Bool) (w : World) (h : abbr_Right.f a0 = some r) :
    Calls Try.prog 13 #[.string a0] w fun e w' => e = .returned (.bool r) ∧ Below w.heap.size w w' := by
  exact Go.Proofs.Ytahknjlhlfooeaa.Ab.right_is a0 r w h

/-! ### epactlaw14_AbbrPlaces: function 6 -/
def epactlaw14_AbbrPlaces.f (a0 : ByteArray) (a1 : Int) : Option (Bool) := (epactlaw14_small.f).bind fun t101 => (if (a0.size : Int) > 500 then (some t101) else ((abbr_At.f a0 a1).bind fun bt102 => (if bt102.2 = true then (if a1 < 0 then (some false) else (if a1 ≥ (a0.size : Int) then (some false) else (if (bt102.1.size : Int) ≥ (wrap64 ((a0.size : Int) - a1)) then (some false) else (if t101 = true then ((abbr_Right.f bt102.1).bind fun t104 => (if t104 = true then (if 0 ≤ a1 then (if a1 ≤ (wrap64 (a1 + (bt102.1.size : Int))) then (if (wrap64 (a1 + (bt102.1.size : Int))) ≤ (a0.size : Int) then (if (a0.extract (a1 : Int).toNat ((wrap64 (a1 + (bt102.1.size : Int))) : Int).toNat).toList = bt102.1.toList then (if 0 ≤ (wrap64 (a1 + (bt102.1.size : Int))) then (if (wrap64 (a1 + (bt102.1.size : Int))) < (a0.size : Int) then (some ((bt a0 (wrap64 (a1 + (bt102.1.size : Int)))) == 0)) else (none)) else (none)) else (some false)) else (none)) else (none)) else (none)) else (some false))) else (some false))))) else (if t101 = true then (some (bt102.1.toList == ([] : List UInt8))) else (some false)))))
set_option maxHeartbeats 8000000 in
set_option maxRecDepth 100000 in
theorem epactlaw14_AbbrPlaces.calls (a0 : ByteArray) (a1 : Int) (r : Bool) (w : World) (h : epactlaw14_AbbrPlaces.f a0 a1 = some r) :
    Calls Try.prog 6 #[.string a0, .int .i64 a1] w fun e w' => e = .returned (.bool r) ∧ Below w.heap.size w w' := by
  have HB := Aside0.mk (Below.refl w.heap.size w)
  have H : ((epactlaw14_small.f).bind fun t101 => (if (a0.size : Int) > 500 then (some t101) else ((abbr_At.f a0 a1).bind fun bt102 => (if bt102.2 = true then (if a1 < 0 then (some false) else (if a1 ≥ (a0.size : Int) then (some false) else (if (bt102.1.size : Int) ≥ (wrap64 ((a0.size : Int) - a1)) then (some false) else (if t101 = true then ((abbr_Right.f bt102.1).bind fun t104 => (if t104 = true then (if 0 ≤ a1 then (if a1 ≤ (wrap64 (a1 + (bt102.1.size : Int))) then (if (wrap64 (a1 + (bt102.1.size : Int))) ≤ (a0.size : Int) then (if (a0.extract (a1 : Int).toNat ((wrap64 (a1 + (bt102.1.size : Int))) : Int).toNat).toList = bt102.1.toList then (if 0 ≤ (wrap64 (a1 + (bt102.1.size : Int))) then (if (wrap64 (a1 + (bt102.1.size : Int))) < (a0.size : Int) then (some ((bt a0 (wrap64 (a1 + (bt102.1.size : Int)))) == 0)) else (none)) else (none)) else (some false)) else (none)) else (none)) else (none)) else (some false))) else (some false))))) else (if t101 = true then (some (bt102.1.toList == ([] : List UInt8))) else (some false)))))) = some r := h
  clear h
  replace H := Option.bind_eq_some_iff.mp H
  obtain ⟨t101, A30, H⟩ := H
  replace H : (if (a0.size : Int) > 500 then (some t101) else ((abbr_At.f a0 a1).bind fun bt102 => (if bt102.2 = true then (if a1 < 0 then (some false) else (if a1 ≥ (a0.size : Int) then (some false) else (if (bt102.1.size : Int) ≥ (wrap64 ((a0.size : Int) - a1)) then (some false) else (if t101 = true then ((abbr_Right.f bt102.1).bind fun t104 => (if t104 = true then (if 0 ≤ a1 then (if a1 ≤ (wrap64 (a1 + (bt102.1.size : Int))) then (if (wrap64 (a1 + (bt102.1.size : Int))) ≤ (a0.size : Int) then (if (a0.extract (a1 : Int).toNat ((wrap64 (a1 + (bt102.1.size : Int))) : Int).toNat).toList = bt102.1.toList then (if 0 ≤ (wrap64 (a1 + (bt102.1.size : Int))) then (if (wrap64 (a1 + (bt102.1.size : Int))) < (a0.size : Int) then (some ((bt a0 (wrap64 (a1 + (bt102.1.size : Int)))) == 0)) else (none)) else (none)) else (some false)) else (none)) else (none)) else (none)) else (some false))) else (some false))))) else (if t101 = true then (some (bt102.1.toList == ([] : List UInt8))) else (some false))))) = some r := H
  have A3 := Aside0.mk A30
  clear A30
  by_cases c4 : (a0.size : Int) > 500
  · rw [if_pos c4] at H
    have c4b0 : decide (500 < (a0.size : Int)) = true := decide_eq_true c4
    have c4b1 : decide (500 < a0.size) = true := decide_eq_true (by omega)
    clear c4
    obtain rfl := Option.some.inj H
    go_enter Try.func6, Try.ntmps6
    go_wp2_with (first | ((with_reducible refine gate_callee (f := 7) rfl ?_); refine goesL_ (some 8) rfl rfl Try.func7 (by kernel_rfl) rfl #[] rfl (by (try simp only [List.map_toArray, List.map_cons, List.map_nil]); first | done | rfl | (simp only [List.length_drop, List.length_take]; rfl)) ?_; (with_reducible refine (epactlaw14_small.calls  t101 _ A3.out).mono ?_); rintro e w5 ⟨rfl, hb⟩; refine ⟨_, rfl, ?_⟩; have n0_ := Aside0.mk (below_step (by repeat (first | (with_reducible first | exact HB.out | apply below_alloc | apply pw_below_drewN | apply below_drew1) | exact HB.out)) hb); clear HB; have HB := n0_; clear n0_; (try clear hb); (try clear hb2); (try clear hk); (try clear hi)))
    go_ret
    exact ⟨by first | rfl | (simp [errW_none, errW_some] <;> rfl) | (simp [*, errW_none, errW_some] <;> rfl), by repeat (first | (with_reducible first | exact HB.out | apply below_alloc | apply pw_below_drewN | apply below_drew1) | exact HB.out)⟩
  · rw [if_neg c4] at H
    have c4b0 : decide (500 < (a0.size : Int)) = false := decide_eq_false c4
    have c4b1 : decide (500 < a0.size) = false := decide_eq_false (by omega)
    clear c4
    replace H := Option.bind_eq_some_iff.mp H
    obtain ⟨⟨t102, t103⟩, A60, H⟩ := H
    replace H : (if t103 = true then (if a1 < 0 then (some false) else (if a1 ≥ (a0.size : Int) then (some false) else (if (t102.size : Int) ≥ (wrap64 ((a0.size : Int) - a1)) then (some false) else (if t101 = true then ((abbr_Right.f t102).bind fun t104 => (if t104 = true then (if 0 ≤ a1 then (if a1 ≤ (wrap64 (a1 + (t102.size : Int))) then (if (wrap64 (a1 + (t102.size : Int))) ≤ (a0.size : Int) then (if (a0.extract (a1 : Int).toNat ((wrap64 (a1 + (t102.size : Int))) : Int).toNat).toList = t102.toList then (if 0 ≤ (wrap64 (a1 + (t102.size : Int))) then (if (wrap64 (a1 + (t102.size : Int))) < (a0.size : Int) then (some ((bt a0 (wrap64 (a1 + (t102.size : Int)))) == 0)) else (none)) else (none)) else (some false)) else (none)) else (none)) else (none)) else (some false))) else (some false))))) else (if t101 = true then (some (t102.toList == ([] : List UInt8))) else (some false))) = some r := H
    have A6 := Aside0.mk A60
    clear A60
    by_cases c7 : t103 = true
    · subst c7
      have H1 : (if a1 < 0 then (some false) else (if a1 ≥ (a0.size : Int) then (some false) else (if (t102.size : Int) ≥ (wrap64 ((a0.size : Int) - a1)) then (some false) else (if t101 = true then ((abbr_Right.f t102).bind fun t104 => (if t104 = true then (if 0 ≤ a1 then (if a1 ≤ (wrap64 (a1 + (t102.size : Int))) then (if (wrap64 (a1 + (t102.size : Int))) ≤ (a0.size : Int) then (if (a0.extract (a1 : Int).toNat ((wrap64 (a1 + (t102.size : Int))) : Int).toNat).toList = t102.toList then (if 0 ≤ (wrap64 (a1 + (t102.size : Int))) then (if (wrap64 (a1 + (t102.size : Int))) < (a0.size : Int) then (some ((bt a0 (wrap64 (a1 + (t102.size : Int)))) == 0)) else (none)) else (none)) else (some false)) else (none)) else (none)) else (none)) else (some false))) else (some false))))) = some r := by rw [if_pos rfl] at H; exact H
      clear H
      have H := H1
      clear H1
      by_cases c8 : a1 < 0
      · rw [if_pos c8] at H
        have c8b0 : decide (a1 < 0) = true := decide_eq_true c8
        clear c8
        obtain rfl := Option.some.inj H
        go_enter Try.func6, Try.ntmps6
        go_wp2_with (first | ((with_reducible refine gate_callee (f := 7) rfl ?_); refine goesL_ (some 8) rfl rfl Try.func7 (by kernel_rfl) rfl #[] rfl (by (try simp only [List.map_toArray, List.map_cons, List.map_nil]); first | done | rfl | (simp only [List.length_drop, List.length_take]; rfl)) ?_; (with_reducible refine (epactlaw14_small.calls  t101 _ A3.out).mono ?_); rintro e w9 ⟨rfl, hb⟩; refine ⟨_, rfl, ?_⟩; have n0_ := Aside0.mk (below_step (by repeat (first | (with_reducible first | exact HB.out | apply below_alloc | apply pw_below_drewN | apply below_drew1) | exact HB.out)) hb); clear HB; have HB := n0_; clear n0_; (try clear hb); (try clear hb2); (try clear hk); (try clear hi)) | ((with_reducible refine gate_callee (f := 10) rfl ?_); refine goesL_ (some 16) rfl rfl Try.func10 (by kernel_rfl) rfl #[.string a0, .int .i64 a1] rfl (by (try simp only [List.map_toArray, List.map_cons, List.map_nil]); first | done | rfl | (simp only [List.length_drop, List.length_take]; rfl)) ?_; (with_reducible refine (abbr_At.calls a0 a1 t102 true _ A6.out).mono ?_); rintro e w10 ⟨rfl, hb⟩; refine ⟨_, rfl, ?_⟩; have n0_ := Aside0.mk (below_step (by repeat (first | (with_reducible first | exact HB.out | apply below_alloc | apply pw_below_drewN | apply below_drew1) | exact HB.out)) hb); clear HB; have HB := n0_; clear n0_; (try clear hb); (try clear hb2); (try clear hk); (try clear hi)))
        go_ret
        exact ⟨by first | rfl | (simp [errW_none, errW_some] <;> rfl) | (simp [*, errW_none, errW_some] <;> rfl), by repeat (first | (with_reducible first | exact HB.out | apply below_alloc | apply pw_below_drewN | apply below_drew1) | exact HB.out)⟩
      · rw [if_neg c8] at H
        have c8b0 : decide (a1 < 0) = false := decide_eq_false c8
        clear c8
        by_cases c11 : a1 ≥ (a0.size : Int)
        · rw [if_pos c11] at H
          have c11b0 : decide ((a0.size : Int) ≤ a1) = true := decide_eq_true c11
          clear c11
          obtain rfl := Option.some.inj H
          go_enter Try.func6, Try.ntmps6
          go_wp2_with (first | ((with_reducible refine gate_callee (f := 7) rfl ?_); refine goesL_ (some 8) rfl rfl Try.func7 (by kernel_rfl) rfl #[] rfl (by (try simp only [List.map_toArray, List.map_cons, List.map_nil]); first | done | rfl | (simp only [List.length_drop, List.length_take]; rfl)) ?_; (with_reducible refine (epactlaw14_small.calls  t101 _ A3.out).mono ?_); rintro e w12 ⟨rfl, hb⟩; refine ⟨_, rfl, ?_⟩; have n0_ := Aside0.mk (below_step (by repeat (first | (with_reducible first | exact HB.out | apply below_alloc | apply pw_below_drewN | apply below_drew1) | exact HB.out)) hb); clear HB; have HB := n0_; clear n0_; (try clear hb); (try clear hb2); (try clear hk); (try clear hi)) | ((with_reducible refine gate_callee (f := 10) rfl ?_); refine goesL_ (some 16) rfl rfl Try.func10 (by kernel_rfl) rfl #[.string a0, .int .i64 a1] rfl (by (try simp only [List.map_toArray, List.map_cons, List.map_nil]); first | done | rfl | (simp only [List.length_drop, List.length_take]; rfl)) ?_; (with_reducible refine (abbr_At.calls a0 a1 t102 true _ A6.out).mono ?_); rintro e w13 ⟨rfl, hb⟩; refine ⟨_, rfl, ?_⟩; have n0_ := Aside0.mk (below_step (by repeat (first | (with_reducible first | exact HB.out | apply below_alloc | apply pw_below_drewN | apply below_drew1) | exact HB.out)) hb); clear HB; have HB := n0_; clear n0_; (try clear hb); (try clear hb2); (try clear hk); (try clear hi)))
          go_ret
          exact ⟨by first | rfl | (simp [errW_none, errW_some] <;> rfl) | (simp [*, errW_none, errW_some] <;> rfl), by repeat (first | (with_reducible first | exact HB.out | apply below_alloc | apply pw_below_drewN | apply below_drew1) | exact HB.out)⟩
        · rw [if_neg c11] at H
          have c11b0 : decide ((a0.size : Int) ≤ a1) = false := decide_eq_false c11
          clear c11
          by_cases c14 : (t102.size : Int) ≥ (wrap64 ((a0.size : Int) - a1))
          · rw [if_pos c14] at H
            have c14b0 : decide ((wrap64 ((a0.size : Int) - a1)) ≤ (t102.size : Int)) = true := decide_eq_true c14
            clear c14
            obtain rfl := Option.some.inj H
            go_enter Try.func6, Try.ntmps6
            go_wp2_with (first | ((with_reducible refine gate_callee (f := 7) rfl ?_); refine goesL_ (some 8) rfl rfl Try.func7 (by kernel_rfl) rfl #[] rfl (by (try simp only [List.map_toArray, List.map_cons, List.map_nil]); first | done | rfl | (simp only [List.length_drop, List.length_take]; rfl)) ?_; (with_reducible refine (epactlaw14_small.calls  t101 _ A3.out).mono ?_); rintro e w15 ⟨rfl, hb⟩; refine ⟨_, rfl, ?_⟩; have n0_ := Aside0.mk (below_step (by repeat (first | (with_reducible first | exact HB.out | apply below_alloc | apply pw_below_drewN | apply below_drew1) | exact HB.out)) hb); clear HB; have HB := n0_; clear n0_; (try clear hb); (try clear hb2); (try clear hk); (try clear hi)) | ((with_reducible refine gate_callee (f := 10) rfl ?_); refine goesL_ (some 16) rfl rfl Try.func10 (by kernel_rfl) rfl #[.string a0, .int .i64 a1] rfl (by (try simp only [List.map_toArray, List.map_cons, List.map_nil]); first | done | rfl | (simp only [List.length_drop, List.length_take]; rfl)) ?_; (with_reducible refine (abbr_At.calls a0 a1 t102 true _ A6.out).mono ?_); rintro e w16 ⟨rfl, hb⟩; refine ⟨_, rfl, ?_⟩; have n0_ := Aside0.mk (below_step (by repeat (first | (with_reducible first | exact HB.out | apply below_alloc | apply pw_below_drewN | apply below_drew1) | exact HB.out)) hb); clear HB; have HB := n0_; clear n0_; (try clear hb); (try clear hb2); (try clear hk); (try clear hi)))
            go_ret
            exact ⟨by first | rfl | (simp [errW_none, errW_some] <;> rfl) | (simp [*, errW_none, errW_some] <;> rfl), by repeat (first | (with_reducible first | exact HB.out | apply below_alloc | apply pw_below_drewN | apply below_drew1) | exact HB.out)⟩
          · rw [if_neg c14] at H
            have c14b0 : decide ((wrap64 ((a0.size : Int) - a1)) ≤ (t102.size : Int)) = false := decide_eq_false c14
            clear c14
            by_cases c17 : t101 = true
            · subst c17
              have H1 : ((abbr_Right.f t102).bind fun t104 => (if t104 = true then (if 0 ≤ a1 then (if a1 ≤ (wrap64 (a1 + (t102.size : Int))) then (if (wrap64 (a1 + (t102.size : Int))) ≤ (a0.size : Int) then (if (a0.extract (a1 : Int).toNat ((wrap64 (a1 + (t102.size : Int))) : Int).toNat).toList = t102.toList then (if 0 ≤ (wrap64 (a1 + (t102.size : Int))) then (if (wrap64 (a1 + (t102.size : Int))) < (a0.size : Int) then (some ((bt a0 (wrap64 (a1 + (t102.size : Int)))) == 0)) else (none)) else (none)) else (some false)) else (none)) else (none)) else (none)) else (some false))) = some r := by rw [if_pos rfl] at H; exact H
              clear H
              have H := H1
              clear H1
              replace H := Option.bind_eq_some_iff.mp H
              obtain ⟨t104, A180, H⟩ := H
              replace H : (if t104 = true then (if 0 ≤ a1 then (if a1 ≤ (wrap64 (a1 + (t102.size : Int))) then (if (wrap64 (a1 + (t102.size : Int))) ≤ (a0.size : Int) then (if (a0.extract (a1 : Int).toNat ((wrap64 (a1 + (t102.size : Int))) : Int).toNat).toList = t102.toList then (if 0 ≤ (wrap64 (a1 + (t102.size : Int))) then (if (wrap64 (a1 + (t102.size : Int))) < (a0.size : Int) then (some ((bt a0 (wrap64 (a1 + (t102.size : Int)))) == 0)) else (none)) else (none)) else (some false)) else (none)) else (none)) else (none)) else (some false)) = some r := H
              have A18 := Aside0.mk A180
              clear A180
              by_cases c19 : t104 = true
              · subst c19
                have H1 : (if 0 ≤ a1 then (if a1 ≤ (wrap64 (a1 + (t102.size : Int))) then (if (wrap64 (a1 + (t102.size : Int))) ≤ (a0.size : Int) then (if (a0.extract (a1 : Int).toNat ((wrap64 (a1 + (t102.size : Int))) : Int).toNat).toList = t102.toList then (if 0 ≤ (wrap64 (a1 + (t102.size : Int))) then (if (wrap64 (a1 + (t102.size : Int))) < (a0.size : Int) then (some ((bt a0 (wrap64 (a1 + (t102.size : Int)))) == 0)) else (none)) else (none)) else (some false)) else (none)) else (none)) else (none)) = some r := by rw [if_pos rfl] at H; exact H
                clear H
                have H := H1
                clear H1
                by_cases c20 : 0 ≤ a1
                · rw [if_pos c20] at H
                  have c20b0 := eq_true c20
                  have c20b1 : decide (0 ≤ a1) = true := decide_eq_true c20
                  clear c20
                  by_cases c21 : a1 ≤ (wrap64 (a1 + (t102.size : Int)))
                  · rw [if_pos c21] at H
                    have c21b0 := eq_true c21
                    have c21b1 : decide (a1 ≤ (wrap64 (a1 + (t102.size : Int)))) = true := decide_eq_true c21
                    by_cases c22 : (wrap64 (a1 + (t102.size : Int))) ≤ (a0.size : Int)
                    · rw [if_pos c22] at H
                      have c22b0 := eq_true c22
                      have c22b1 : decide ((wrap64 (a1 + (t102.size : Int))) ≤ (a0.size : Int)) = true := decide_eq_true c22
                      by_cases c23 : (a0.extract (a1 : Int).toNat ((wrap64 (a1 + (t102.size : Int))) : Int).toNat).toList = t102.toList
                      · rw [if_pos c23] at H
                        have c23b0 : ((a0.extract (a1 : Int).toNat ((wrap64 (a1 + (t102.size : Int))) : Int).toNat).toList == t102.toList) = true := beq_iff_eq.mpr c23
                        have c23b1 : ((a0.extract (a1 : Int).toNat ((wrap64 (a1 + (t102.size : Int))) : Int).toNat).toList != t102.toList) = false := bne_eq_false_iff_eq.mpr c23
                        clear c23
                        obtain ⟨ji24, hji24⟩ : ∃ j_ : Int, (wrap64 (a1 + (t102.size : Int))) = j_ := ⟨_, rfl⟩
                        replace H : (if 0 ≤ (ji24) then (if (ji24) < (a0.size : Int) then (some ((bt a0 (ji24)) == 0)) else (none)) else (none)) = some r := by first | (rw [hji24] at H; exact H) | (simp only [hji24] at H ⊢; exact H)
                        (try rw [hji24] at c21b0)
                        (try rw [hji24] at c21b1)
                        (try rw [hji24] at c21)
                        (try rw [hji24] at c22b0)
                        (try rw [hji24] at c22b1)
                        (try rw [hji24] at c22)
                        (try rw [hji24] at c23b0)
                        (try rw [hji24] at c23b1)
                        (try rw [hji24] at A3)
                        (try rw [hji24] at A6)
                        (try rw [hji24] at A18)
                        have hji24w : (IntKind.i64.wrap (a1 + (t102.size : Int))) = ji24 := (i64_w _).trans hji24
                        by_cases c25 : 0 ≤ (ji24)
                        · rw [if_pos c25] at H
                          have c25b0 : decide (0 ≤ (ji24)) = true := decide_eq_true c25
                          clear c25
                          by_cases c26 : (ji24) < (a0.size : Int)
                          · rw [if_pos c26] at H
                            have c26b0 : decide ((ji24) < (a0.size : Int)) = true := decide_eq_true c26
                            clear c26
                            obtain rfl := Option.some.inj H
                            go_enter Try.func6, Try.ntmps6
                            go_wp2_with (first | ((with_reducible refine gate_callee (f := 7) rfl ?_); refine goesL_ (some 8) rfl rfl Try.func7 (by kernel_rfl) rfl #[] rfl (by (try simp only [List.map_toArray, List.map_cons, List.map_nil]); first | done | rfl | (simp only [List.length_drop, List.length_take]; rfl)) ?_; (with_reducible refine (epactlaw14_small.calls  true _ A3.out).mono ?_); rintro e w28 ⟨rfl, hb⟩; refine ⟨_, rfl, ?_⟩; have n0_ := Aside0.mk (below_step (by repeat (first | (with_reducible first | exact HB.out | apply below_alloc | apply pw_below_drewN | apply below_drew1) | exact HB.out)) hb); clear HB; have HB := n0_; clear n0_; (try clear hb); (try clear hb2); (try clear hk); (try clear hi)) | ((with_reducible refine gate_callee (f := 10) rfl ?_); refine goesL_ (some 16) rfl rfl Try.func10 (by kernel_rfl) rfl #[.string a0, .int .i64 a1] rfl (by (try simp only [List.map_toArray, List.map_cons, List.map_nil]); first | done | rfl | (simp only [List.length_drop, List.length_take]; rfl)) ?_; (with_reducible refine (abbr_At.calls a0 a1 t102 true _ A6.out).mono ?_); rintro e w29 ⟨rfl, hb⟩; refine ⟨_, rfl, ?_⟩; have n0_ := Aside0.mk (below_step (by repeat (first | (with_reducible first | exact HB.out | apply below_alloc | apply pw_below_drewN | apply below_drew1) | exact HB.out)) hb); clear HB; have HB := n0_; clear n0_; (try clear hb); (try clear hb2); (try clear hk); (try clear hi)) | (go_at_call 13; (with_reducible refine (abbr_Right.calls t102 true _ A18.out).mono ?_); rintro e w30 ⟨rfl, hb⟩; have n0_ := Aside0.mk (below_step (by repeat (first | (with_reducible first | exact HB.out | apply below_alloc | apply pw_below_drewN | apply below_drew1) | exact HB.out)) hb); clear HB; have HB := n0_; clear n0_; (try clear hb); (try clear hb2); (try clear hk); (try clear hi); have p27 : 0 ≤ ((ji24) : Int) := of_decide_eq_true (by first | (with_reducible assumption) | assumption); have q27 : (ji24) < (a0.size : Int) := of_decide_eq_true (by first | (with_reducible assumption) | assumption); have hx27 := bt_at a0 (ji24); replace p27 := eq_true p27; replace q27 := eq_true q27))
                            go_ret
                            exact ⟨by first | rfl | (simp [errW_none, errW_some] <;> rfl) | (simp only [← hji24]; first | rfl | (simp [errW_none, errW_some] <;> rfl)) | (simp [*, errW_none, errW_some] <;> rfl), by repeat (first | (with_reducible first | exact HB.out | apply below_alloc | apply pw_below_drewN | apply below_drew1) | exact HB.out)⟩
                          · rw [if_neg c26] at H
                            exact absurd H (by simp)
                        · rw [if_neg c25] at H
                          exact absurd H (by simp)
                      · rw [if_neg c23] at H
                        have c23b0 : ((a0.extract (a1 : Int).toNat ((wrap64 (a1 + (t102.size : Int))) : Int).toNat).toList == t102.toList) = false := beq_eq_false_iff_ne.mpr c23
                        have c23b1 : ((a0.extract (a1 : Int).toNat ((wrap64 (a1 + (t102.size : Int))) : Int).toNat).toList != t102.toList) = true := bne_iff_ne.mpr c23
                        obtain rfl := Option.some.inj H
                        go_enter Try.func6, Try.ntmps6
                        go_wp2_with (first | ((with_reducible refine gate_callee (f := 7) rfl ?_); refine goesL_ (some 8) rfl rfl Try.func7 (by kernel_rfl) rfl #[] rfl (by (try simp only [List.map_toArray, List.map_cons, List.map_nil]); first | done | rfl | (simp only [List.length_drop, List.length_take]; rfl)) ?_; (with_reducible refine (epactlaw14_small.calls  true _ A3.out).mono ?_); rintro e w31 ⟨rfl, hb⟩; refine ⟨_, rfl, ?_⟩; have n0_ := Aside0.mk (below_step (by repeat (first | (with_reducible first | exact HB.out | apply below_alloc | apply pw_below_drewN | apply below_drew1) | exact HB.out)) hb); clear HB; have HB := n0_; clear n0_; (try clear hb); (try clear hb2); (try clear hk); (try clear hi)) | ((with_reducible refine gate_callee (f := 10) rfl ?_); refine goesL_ (some 16) rfl rfl Try.func10 (by kernel_rfl) rfl #[.string a0, .int .i64 a1] rfl (by (try simp only [List.map_toArray, List.map_cons, List.map_nil]); first | done | rfl | (simp only [List.length_drop, List.length_take]; rfl)) ?_; (with_reducible refine (abbr_At.calls a0 a1 t102 true _ A6.out).mono ?_); rintro e w32 ⟨rfl, hb⟩; refine ⟨_, rfl, ?_⟩; have n0_ := Aside0.mk (below_step (by repeat (first | (with_reducible first | exact HB.out | apply below_alloc | apply pw_below_drewN | apply below_drew1) | exact HB.out)) hb); clear HB; have HB := n0_; clear n0_; (try clear hb); (try clear hb2); (try clear hk); (try clear hi)) | (go_at_call 13; (with_reducible refine (abbr_Right.calls t102 true _ A18.out).mono ?_); rintro e w33 ⟨rfl, hb⟩; have n0_ := Aside0.mk (below_step (by repeat (first | (with_reducible first | exact HB.out | apply below_alloc | apply pw_below_drewN | apply below_drew1) | exact HB.out)) hb); clear HB; have HB := n0_; clear n0_; (try clear hb); (try clear hb2); (try clear hk); (try clear hi)))
                        go_ret
                        exact ⟨by first | rfl | (simp [errW_none, errW_some] <;> rfl) | (simp [*, errW_none, errW_some] <;> rfl), by repeat (first | (with_reducible first | exact HB.out | apply below_alloc | apply pw_below_drewN | apply below_drew1) | exact HB.out)⟩
                    · rw [if_neg c22] at H
                      exact absurd H (by simp)
                  · rw [if_neg c21] at H
                    exact absurd H (by simp)
                · rw [if_neg c20] at H
                  exact absurd H (by simp)
              · replace c19 := Bool.eq_false_iff.mpr c19
                subst c19
                have H1 : (some false) = some r := by rw [if_neg (show ¬ (false = true) by decide)] at H; exact H
                clear H
                have H := H1
                clear H1
                obtain rfl := Option.some.inj H
                go_enter Try.func6, Try.ntmps6
                go_wp2_with (first | ((with_reducible refine gate_callee (f := 7) rfl ?_); refine goesL_ (some 8) rfl rfl Try.func7 (by kernel_rfl) rfl #[] rfl (by (try simp only [List.map_toArray, List.map_cons, List.map_nil]); first | done | rfl | (simp only [List.length_drop, List.length_take]; rfl)) ?_; (with_reducible refine (epactlaw14_small.calls  true _ A3.out).mono ?_); rintro e w34 ⟨rfl, hb⟩; refine ⟨_, rfl, ?_⟩; have n0_ := Aside0.mk (below_step (by repeat (first | (with_reducible first | exact HB.out | apply below_alloc | apply pw_below_drewN | apply below_drew1) | exact HB.out)) hb); clear HB; have HB := n0_; clear n0_; (try clear hb); (try clear hb2); (try clear hk); (try clear hi)) | ((with_reducible refine gate_callee (f := 10) rfl ?_); refine goesL_ (some 16) rfl rfl Try.func10 (by kernel_rfl) rfl #[.string a0, .int .i64 a1] rfl (by (try simp only [List.map_toArray, List.map_cons, List.map_nil]); first | done | rfl | (simp only [List.length_drop, List.length_take]; rfl)) ?_; (with_reducible refine (abbr_At.calls a0 a1 t102 true _ A6.out).mono ?_); rintro e w35 ⟨rfl, hb⟩; refine ⟨_, rfl, ?_⟩; have n0_ := Aside0.mk (below_step (by repeat (first | (with_reducible first | exact HB.out | apply below_alloc | apply pw_below_drewN | apply below_drew1) | exact HB.out)) hb); clear HB; have HB := n0_; clear n0_; (try clear hb); (try clear hb2); (try clear hk); (try clear hi)) | (go_at_call 13; (with_reducible refine (abbr_Right.calls t102 false _ A18.out).mono ?_); rintro e w36 ⟨rfl, hb⟩; have n0_ := Aside0.mk (below_step (by repeat (first | (with_reducible first | exact HB.out | apply below_alloc | apply pw_below_drewN | apply below_drew1) | exact HB.out)) hb); clear HB; have HB := n0_; clear n0_; (try clear hb); (try clear hb2); (try clear hk); (try clear hi)))
                go_ret
                exact ⟨by first | rfl | (simp [errW_none, errW_some] <;> rfl) | (simp [*, errW_none, errW_some] <;> rfl), by repeat (first | (with_reducible first | exact HB.out | apply below_alloc | apply pw_below_drewN | apply below_drew1) | exact HB.out)⟩
            · replace c17 := Bool.eq_false_iff.mpr c17
              subst c17
              have H1 : (some false) = some r := by rw [if_neg (show ¬ (false = true) by decide)] at H; exact H
              clear H
              have H := H1
              clear H1
              obtain rfl := Option.some.inj H
              go_enter Try.func6, Try.ntmps6
              go_wp2_with (first | ((with_reducible refine gate_callee (f := 7) rfl ?_); refine goesL_ (some 8) rfl rfl Try.func7 (by kernel_rfl) rfl #[] rfl (by (try simp only [List.map_toArray, List.map_cons, List.map_nil]); first | done | rfl | (simp only [List.length_drop, List.length_take]; rfl)) ?_; (with_reducible refine (epactlaw14_small.calls  false _ A3.out).mono ?_); rintro e w37 ⟨rfl, hb⟩; refine ⟨_, rfl, ?_⟩; have n0_ := Aside0.mk (below_step (by repeat (first | (with_reducible first | exact HB.out | apply below_alloc | apply pw_below_drewN | apply below_drew1) | exact HB.out)) hb); clear HB; have HB := n0_; clear n0_; (try clear hb); (try clear hb2); (try clear hk); (try clear hi)) | ((with_reducible refine gate_callee (f := 10) rfl ?_); refine goesL_ (some 16) rfl rfl Try.func10 (by kernel_rfl) rfl #[.string a0, .int .i64 a1] rfl (by (try simp only [List.map_toArray, List.map_cons, List.map_nil]); first | done | rfl | (simp only [List.length_drop, List.length_take]; rfl)) ?_; (with_reducible refine (abbr_At.calls a0 a1 t102 true _ A6.out).mono ?_); rintro e w38 ⟨rfl, hb⟩; refine ⟨_, rfl, ?_⟩; have n0_ := Aside0.mk (below_step (by repeat (first | (with_reducible first | exact HB.out | apply below_alloc | apply pw_below_drewN | apply below_drew1) | exact HB.out)) hb); clear HB; have HB := n0_; clear n0_; (try clear hb); (try clear hb2); (try clear hk); (try clear hi)))
              go_ret
              exact ⟨by first | rfl | (simp [errW_none, errW_some] <;> rfl) | (simp [*, errW_none, errW_some] <;> rfl), by repeat (first | (with_reducible first | exact HB.out | apply below_alloc | apply pw_below_drewN | apply below_drew1) | exact HB.out)⟩
    · replace c7 := Bool.eq_false_iff.mpr c7
      subst c7
      have H1 : (if t101 = true then (some (t102.toList == ([] : List UInt8))) else (some false)) = some r := by rw [if_neg (show ¬ (false = true) by decide)] at H; exact H
      clear H
      have H := H1
      clear H1
      by_cases c39 : t101 = true
      · subst c39
        have H1 : (some (t102.toList == ([] : List UInt8))) = some r := by rw [if_pos rfl] at H; exact H
        clear H
        have H := H1
        clear H1
        obtain rfl := Option.some.inj H
        go_enter Try.func6, Try.ntmps6
        go_wp2_with (first | ((with_reducible refine gate_callee (f := 7) rfl ?_); refine goesL_ (some 8) rfl rfl Try.func7 (by kernel_rfl) rfl #[] rfl (by (try simp only [List.map_toArray, List.map_cons, List.map_nil]); first | done | rfl | (simp only [List.length_drop, List.length_take]; rfl)) ?_; (with_reducible refine (epactlaw14_small.calls  true _ A3.out).mono ?_); rintro e w40 ⟨rfl, hb⟩; refine ⟨_, rfl, ?_⟩; have n0_ := Aside0.mk (below_step (by repeat (first | (with_reducible first | exact HB.out | apply below_alloc | apply pw_below_drewN | apply below_drew1) | exact HB.out)) hb); clear HB; have HB := n0_; clear n0_; (try clear hb); (try clear hb2); (try clear hk); (try clear hi)) | ((with_reducible refine gate_callee (f := 10) rfl ?_); refine goesL_ (some 16) rfl rfl Try.func10 (by kernel_rfl) rfl #[.string a0, .int .i64 a1] rfl (by (try simp only [List.map_toArray, List.map_cons, List.map_nil]); first | done | rfl | (simp only [List.length_drop, List.length_take]; rfl)) ?_; (with_reducible refine (abbr_At.calls a0 a1 t102 false _ A6.out).mono ?_); rintro e w41 ⟨rfl, hb⟩; refine ⟨_, rfl, ?_⟩; have n0_ := Aside0.mk (below_step (by repeat (first | (with_reducible first | exact HB.out | apply below_alloc | apply pw_below_drewN | apply below_drew1) | exact HB.out)) hb); clear HB; have HB := n0_; clear n0_; (try clear hb); (try clear hb2); (try clear hk); (try clear hi)))
        go_ret
        exact ⟨by first | rfl | (simp [errW_none, errW_some] <;> rfl) | (simp [*, errW_none, errW_some] <;> rfl), by repeat (first | (with_reducible first | exact HB.out | apply below_alloc | apply pw_below_drewN | apply below_drew1) | exact HB.out)⟩
      · replace c39 := Bool.eq_false_iff.mpr c39
        subst c39
        have H1 : (some false) = some r := by rw [if_neg (show ¬ (false = true) by decide)] at H; exact H
        clear H
        have H := H1
        clear H1
        obtain rfl := Option.some.inj H
        go_enter Try.func6, Try.ntmps6
        go_wp2_with (first | ((with_reducible refine gate_callee (f := 7) rfl ?_); refine goesL_ (some 8) rfl rfl Try.func7 (by kernel_rfl) rfl #[] rfl (by (try simp only [List.map_toArray, List.map_cons, List.map_nil]); first | done | rfl | (simp only [List.length_drop, List.length_take]; rfl)) ?_; (with_reducible refine (epactlaw14_small.calls  false _ A3.out).mono ?_); rintro e w42 ⟨rfl, hb⟩; refine ⟨_, rfl, ?_⟩; have n0_ := Aside0.mk (below_step (by repeat (first | (with_reducible first | exact HB.out | apply below_alloc | apply pw_below_drewN | apply below_drew1) | exact HB.out)) hb); clear HB; have HB := n0_; clear n0_; (try clear hb); (try clear hb2); (try clear hk); (try clear hi)) | ((with_reducible refine gate_callee (f := 10) rfl ?_); refine goesL_ (some 16) rfl rfl Try.func10 (by kernel_rfl) rfl #[.string a0, .int .i64 a1] rfl (by (try simp only [List.map_toArray, List.map_cons, List.map_nil]); first | done | rfl | (simp only [List.length_drop, List.length_take]; rfl)) ?_; (with_reducible refine (abbr_At.calls a0 a1 t102 false _ A6.out).mono ?_); rintro e w43 ⟨rfl, hb⟩; refine ⟨_, rfl, ?_⟩; have n0_ := Aside0.mk (below_step (by repeat (first | (with_reducible first | exact HB.out | apply below_alloc | apply pw_below_drewN | apply below_drew1) | exact HB.out)) hb); clear HB; have HB := n0_; clear n0_; (try clear hb); (try clear hb2); (try clear hk); (try clear hi)))
        go_ret
        exact ⟨by first | rfl | (simp [errW_none, errW_some] <;> rfl) | (simp [*, errW_none, errW_some] <;> rfl), by repeat (first | (with_reducible first | exact HB.out | apply below_alloc | apply pw_below_drewN | apply below_drew1) | exact HB.out)⟩

/-- THE ONE PURE STATEMENT of epactlaw14_AbbrPlaces: yours. -/
def epactlaw14_AbbrPlaces.Pure : Prop := ∀ (a0 : ByteArray) (a1 : Int), a0.size ≤ 140737488351232 → (Lit.int .i64 a1).wf = true → epactlaw14_AbbrPlaces.f a0 a1 = some true
theorem epactlaw14_AbbrPlaces.walk (P : epactlaw14_AbbrPlaces.Pure) (a0 : ByteArray) (a1 : Int) (w : World) (w0 : a0.size ≤ 140737488351232) (w1 : (Lit.int .i64 a1).wf = true) :
    Calls Try.prog 6 #[.string a0, .int .i64 a1] w fun e w' => e = .returned (.bool true) ∧ Below w.heap.size w w' := by
  have h := P a0 a1 w0 w1
  refine (epactlaw14_AbbrPlaces.calls a0 a1 true w h).mono ?_
  rintro e w' ⟨rfl, hd⟩
  exact ⟨rfl, hd⟩

end Go.Proofs.Ytahknjlhlfooeaa.PAbbrPlaces
