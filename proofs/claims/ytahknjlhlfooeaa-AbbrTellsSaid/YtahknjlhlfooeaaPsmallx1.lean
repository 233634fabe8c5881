-- Written by a program of this session (wip/print/setup.py turns the kit's print tool)
import Derived.Test.YtahknjlhlfooeaaPsmallx0
namespace Go.Proofs.Ytahknjlhlfooeaa.Psmall
open Go.RowKit Go.Proofs.YtahknjlhlfooeaaW.PrintWords Go.Proofs.YtahknjlhlfooeaaW.PrintLast Go.Proofs.YtahknjlhlfooeaaW.PrintMore
attribute [local go_sem] max2_int min2_int max_two min_two max_three min_three max_four min_four   -- for this text's walks alone
set_option linter.unusedVariables false
set_option linter.unusedSimpArgs false

/-! ### abbr_Pool: function 8 -/
def abbr_Pool.f (l0 : List ByteArray) : Option (ByteArray × List Int × Bool) := Go.Proofs.Ytahknjlhlfooeaa.Ab.poolF l0
set_option maxHeartbeats 8000000 in
set_option maxRecDepth 100000 in
theorem abbr_Pool.calls (A0 : Option Addr) (c0 : Nat) (l0 : List ByteArray) (r1 : ByteArray) (r2 : List Int) (r3 : Bool) (w : World) (hr0 : Kd.C Kd.string w A0 l0.length l0) (hc0 : l0.length ≤ c0) (h : abbr_Pool.f l0 = some (r1, r2, r3)) :
    Calls Try.prog 8 #[.slice A0 l0.length c0] w fun e w' => ∃ v1_ : Value, e = .returned (.tuple #[.string r1, v1_, .bool r3]) ∧ Kd.R (Kd.int .i64) 3 w' w.heap.size (fun _ => True) v1_ r2 ∧ Below w.heap.size w w' := by
  exact Go.Proofs.Ytahknjlhlfooeaa.Ab.pool_calls A0 c0 l0 r1 r2 r3 w hr0 h

/-! ### abbr_At: function 10 -/
def abbr_At.f (a0 : ByteArray) (a1 : Int) : Option (ByteArray × Bool) := Go.Proofs.Ytahknjlhlfooeaa.Ab.atF a0 a1
set_option maxHeartbeats 8000000 in
set_option maxRecDepth 100000 in
theorem abbr_At.calls (a0 : ByteArray) (a1 : Int) (r1 : ByteArray) (r2 : Bool) (w : World) (h : abbr_At.f a0 a1 = some (r1, r2)) :
    Calls Try.prog 10 #[.string a0, .int .i64 a1] w fun e w' => e = .returned (.tuple #[.string r1, .bool r2]) ∧ Below w.heap.size w w' := by
  exact Go.Proofs.Ytahknjlhlfooeaa.Ab.at_is a0 a1 r1 r2 w h

/-! ### epactref14_Ints: function 12 -/
def epactref14_Ints.l0 : Nat → List Int → List Int → Int → Option (Bool)
  | 0, _, _, _ => none
  | k + 1, x0, x1, x5 => if x5 < (x0.length : Int) then (if 0 ≤ x5 then (if x5 < (x1.length : Int) then (if (rd x0 x5) = (rd x1 x5) then (epactref14_Ints.l0 k x0 x1 (wrap64 (x5 + 1))) else (some false)) else (none)) else (none)) else (some true)
def epactref14_Ints.f (k : Nat) (l0 : List Int) (l1 : List Int) : Option (Bool) := if (l0.length : Int) = (l1.length : Int) then (epactref14_Ints.l0 k l0 l1 0) else (some false)
theorem epactref14_Ints.mono_l : ∀ k, (∀ y0 y1 y2, LeO (epactref14_Ints.l0 k y0 y1 y2) (epactref14_Ints.l0 (k + 1) y0 y1 y2))
  | 0 => fun _ _ _ r h => by simp [epactref14_Ints.l0] at h
  | k + 1 => by
    have ih0 := epactref14_Ints.mono_l k
    · intro y0 y1 y2
      unfold epactref14_Ints.l0
      repeat' first
      | (with_reducible exact ih0 _ _ _)
      | (with_reducible exact LeO.refl _)
      | (with_reducible exact LeO.none _)
      | (with_reducible refine LeO.ite ?_ ?_)
      | (with_reducible refine LeO.bind ?_ (fun _ => ?_))
      | exact ih0 _ _ _
      | exact LeO.none _
      | refine LeO.ite ?_ ?_
      | refine LeO.bind ?_ (fun _ => ?_)
theorem epactref14_Ints.mono : ∀ a0 a1 k, LeO (epactref14_Ints.f k a0 a1) (epactref14_Ints.f (k + 1) a0 a1) := by
  intro a0 a1 k
  have ih0 := epactref14_Ints.mono_l k
  unfold epactref14_Ints.f
  repeat' first
      | (with_reducible exact ih0 _ _ _)
      | (with_reducible exact LeO.refl _)
      | (with_reducible exact LeO.none _)
      | (with_reducible refine LeO.ite ?_ ?_)
      | (with_reducible refine LeO.bind ?_ (fun _ => ?_))
      | exact ih0 _ _ _
      | exact LeO.none _
      | refine LeO.ite ?_ ?_
      | refine LeO.bind ?_ (fun _ => ?_)
set_option maxHeartbeats 8000000 in
set_option maxRecDepth 100000 in
theorem epactref14_Ints.calls (k : Nat) (A0 : Option Addr) (c0 : Nat) (l0 : List Int) (A1 : Option Addr) (c1 : Nat) (l1 : List Int) (r : Bool) (w : World) (hr0 : Kd.C (Kd.int .i64) w A0 l0.length l0) (hc0 : l0.length ≤ c0) (hr1 : Kd.C (Kd.int .i64) w A1 l1.length l1) (hc1 : l1.length ≤ c1) (h : epactref14_Ints.f k l0 l1 = some r) :
    Calls Try.prog 12 #[.slice A0 l0.length c0, .slice A1 l1.length c1] w fun e w' => e = .returned (.bool r) ∧ Drawn0 w w' := by
  have HR0 := Aside0.mk hr0
  have HC0 := Aside0.mk hc0
  clear hr0 hc0
  have HR1 := Aside0.mk hr1
  have HC1 := Aside0.mk hc1
  clear hr1 hc1
  have H : (if (l0.length : Int) = (l1.length : Int) then (epactref14_Ints.l0 k l0 l1 0) else (some false)) = some r := h
  clear h
  by_cases c3 : (l0.length : Int) = (l1.length : Int)
  · rw [if_pos c3] at H
    have c3b0 : ((l0.length : Int) == (l1.length : Int)) = true := beq_iff_eq.mpr c3
    have c3b1 : ((l0.length : Int) != (l1.length : Int)) = false := bne_eq_false_iff_eq.mpr c3
    have c3b2 : (l0.length == l1.length) = true := by first | simpa using c3 | (simp at c3 ⊢; omega)
    clear c3
    have H' := Aside0.mk H
    clear H
    go_enter Try.func12, Try.ntmps12
    go_wp2
    repeat (go_quiet (fail); try go_wp2)
    go_loopg [5] k (fun kq v5 w' => ∃ (x5_1 : Int), v5 = .int .i64 x5_1 ∧ Aside0 (epactref14_Ints.l0 kq l0 l1 x5_1 = some r) ∧ Aside0 (kq ≤ k) ∧ Drawn0 w w')
    case atStart => exact ⟨(0), (by first | rfl | (simp; done) | (simp [*]; done)), H', ⟨Nat.le_refl _⟩, by repeat (first | exact Drawn0.refl _ | apply Drawn0.step)⟩
    case round =>
      clear H'
      try clear c1
      try clear p2
      try clear c3
      try clear c3b0
      try clear c3b1
      try clear c3b2
      obtain ⟨x5_1, rfl, HA, HK1, ⟨m1, rfl⟩⟩ := hrel
      cases gk with
      | zero => exact absurd HA.out (by simp [epactref14_Ints.l0])
      | succ k1 =>
        have H := HA.out
        clear HA
        simp only [epactref14_Ints.l0] at H
        by_cases c4 : x5_1 < (l0.length : Int)
        · rw [if_pos c4] at H
          have c4b0 : decide (x5_1 < (l0.length : Int)) = true := decide_eq_true c4
          clear c4
          by_cases c5 : 0 ≤ x5_1
          · rw [if_pos c5] at H
            have c5b0 : decide (0 ≤ x5_1) = true := decide_eq_true c5
            clear c5
            by_cases c6 : x5_1 < (l1.length : Int)
            · rw [if_pos c6] at H
              have c6b0 : decide (x5_1 < (l1.length : Int)) = true := decide_eq_true c6
              clear c6
              by_cases c7 : (rd l0 x5_1) = (rd l1 x5_1)
              · rw [if_pos c7] at H
                have c7b0 : ((rd l0 x5_1) == (rd l1 x5_1)) = true := beq_iff_eq.mpr c7
                have c7b1 : ((rd l0 x5_1) != (rd l1 x5_1)) = false := bne_eq_false_iff_eq.mpr c7
                clear c7
                have H' := Aside0.mk H
                clear H
                have p101 : 0 ≤ (x5_1 : Int) := of_decide_eq_true (by first | (with_reducible assumption) | assumption)
                have q101 : x5_1 < (l0.length : Int) := of_decide_eq_true (by first | (with_reducible assumption) | assumption)
                obtain ⟨ad101, e101, hx101_0⟩ := Kd.at_int HR0.out x5_1 p101 q101
                cases e101
                replace p101 := eq_true p101
                replace q101 := eq_true q101
                have p102 : 0 ≤ (x5_1 : Int) := of_decide_eq_true (by first | (with_reducible assumption) | assumption)
                have q102 : x5_1 < (l1.length : Int) := of_decide_eq_true (by first | (with_reducible assumption) | assumption)
                obtain ⟨ad102, e102, hx102_0⟩ := Kd.at_int HR1.out x5_1 p102 q102
                cases e102
                replace p102 := eq_true p102
                replace q102 := eq_true q102
                go_wp2
                repeat (go_quiet (fail); try go_wp2)
                go_roundg k1
                case measure => have := HK1.out; omega
                case rel => exact ⟨(wrap64 (x5_1 + 1)), (by first | rfl | (simp; done) | (simp [*]; done)), H', ⟨by have := HK1.out; omega⟩, by repeat (first | exact Drawn0.refl _ | apply Drawn0.step)⟩
              · rw [if_neg c7] at H
                have c7b0 : ((rd l0 x5_1) == (rd l1 x5_1)) = false := beq_eq_false_iff_ne.mpr c7
                have c7b1 : ((rd l0 x5_1) != (rd l1 x5_1)) = true := bne_iff_ne.mpr c7
                obtain rfl := Option.some.inj H
                have p101 : 0 ≤ (x5_1 : Int) := of_decide_eq_true (by first | (with_reducible assumption) | assumption)
                have q101 : x5_1 < (l0.length : Int) := of_decide_eq_true (by first | (with_reducible assumption) | assumption)
                obtain ⟨ad101, e101, hx101_0⟩ := Kd.at_int HR0.out x5_1 p101 q101
                cases e101
                replace p101 := eq_true p101
                replace q101 := eq_true q101
                have p102 : 0 ≤ (x5_1 : Int) := of_decide_eq_true (by first | (with_reducible assumption) | assumption)
                have q102 : x5_1 < (l1.length : Int) := of_decide_eq_true (by first | (with_reducible assumption) | assumption)
                obtain ⟨ad102, e102, hx102_0⟩ := Kd.at_int HR1.out x5_1 p102 q102
                cases e102
                replace p102 := eq_true p102
                replace q102 := eq_true q102
                go_wp2
                repeat (go_quiet (fail); try go_wp2)
                go_ret
                exact ⟨by first | rfl | (simp; done) | (simp [*]; done), by repeat (first | exact Drawn0.refl _ | apply Drawn0.step)⟩
            · rw [if_neg c6] at H
              exact absurd H (by simp)
          · rw [if_neg c5] at H
            exact absurd H (by simp)
        · rw [if_neg c4] at H
          have c4b0 : decide (x5_1 < (l0.length : Int)) = false := decide_eq_false c4
          clear c4
          obtain rfl := Option.some.inj H
          go_wp2
          repeat (go_quiet (fail); try go_wp2)
          go_ret
          exact ⟨by first | rfl | (simp; done) | (simp [*]; done), by repeat (first | exact Drawn0.refl _ | apply Drawn0.step)⟩
  · rw [if_neg c3] at H
    have c3b0 : ((l0.length : Int) == (l1.length : Int)) = false := beq_eq_false_iff_ne.mpr c3
    have c3b1 : ((l0.length : Int) != (l1.length : Int)) = true := bne_iff_ne.mpr c3
    have c3b2 : (l0.length == l1.length) = false := by first | simpa using c3 | (simp at c3 ⊢; omega)
    obtain rfl := Option.some.inj H
    go_enter Try.func12, Try.ntmps12
    go_wp2
    repeat (go_quiet (fail); try go_wp2)
    go_ret
    exact ⟨by first | rfl | (simp; done) | (simp [*]; done), by repeat (first | exact Drawn0.refl _ | apply Drawn0.step)⟩

/-! ### abbr_Right: function 13 -/
def abbr_Right.f (a0 : ByteArray) : Option (Bool) := Go.Proofs.Ytahknjlhlfooeaa.Ab.rightF a0
set_option maxHeartbeats 8000000 in
set_option maxRecDepth 100000 in
theorem abbr_Right.calls (a0 : ByteArray) (r : Bool) (w : World) (h : abbr_Right.f a0 = some r) :
    Calls Try.prog 13 #[.string a0] w fun e w' => e = .returned (.bool r) ∧ Below w.heap.size w w' := by
  exact Go.Proofs.Ytahknjlhlfooeaa.Ab.right_is a0 r w h

/-! ### epactlaw14_small: function 7 -/
def epactlaw14_small.f (k : Nat)  : Option (Bool) := (abbr_Pool.f (([(⟨#[69, 83, 84]⟩ : ByteArray), (⟨#[69, 68, 84]⟩ : ByteArray), (⟨#[69, 83, 84]⟩ : ByteArray)] : List ByteArray))).bind fun bt106 => ((abbr_Pool.f (([(⟨#[69, 83]⟩ : ByteArray)] : List ByteArray))).bind fun bt114 => ((abbr_At.f bt106.1 4).bind fun bt119 => ((abbr_At.f bt106.1 8).bind fun bt121 => ((abbr_At.f (⟨#[76, 77, 84, 88, 0]⟩ : ByteArray) 1).bind fun bt123 => ((abbr_At.f (⟨#[69, 83, 84]⟩ : ByteArray) 0).bind fun bt125 => (if bt106.1.toList = ([69, 83, 84, 0, 69, 68, 84, 0] : List UInt8) then ((epactref14_Ints.f k bt106.2.1 (([0, 4, 0] : List Int))).bind fun t130 => (if t130 = true then (if bt106.2.2 = true then (if bt114.2.2 = true then (some false) else (if bt119.1.toList = ([69, 68, 84] : List UInt8) then (if bt119.2 = true then (if bt121.2 = true then (some false) else (if bt123.1.toList = ([77, 84, 88] : List UInt8) then (if bt123.2 = true then (if bt125.2 = true then (some false) else ((abbr_Right.f (⟨#[43, 48, 53, 51, 48]⟩ : ByteArray)).bind fun t131 => (if t131 = true then ((abbr_Right.f (⟨#[69, 95, 84]⟩ : ByteArray)).bind fun t132 => (if t132 = true then (some false) else ((abbr_Right.f (⟨#[]⟩ : ByteArray)).bind fun t133 => (some (!t133))))) else (some false)))) else (some false)) else (some false))) else (some false)) else (some false))) else (some false)) else (some false))) else (some false)))))))
theorem epactlaw14_small.mono : ∀ k, LeO (epactlaw14_small.f k ) (epactlaw14_small.f (k + 1) ) := by
  intro  k
  unfold epactlaw14_small.f
  repeat' first
      | (with_reducible exact epactref14_Ints.mono _ _ _)
      | (with_reducible exact LeO.refl _)
      | (with_reducible exact LeO.none _)
      | (with_reducible refine LeO.ite ?_ ?_)
      | (with_reducible refine LeO.bind ?_ (fun _ => ?_))
      | exact epactref14_Ints.mono _ _ _
      | exact LeO.none _
      | refine LeO.ite ?_ ?_
      | refine LeO.bind ?_ (fun _ => ?_)
set_option maxHeartbeats 8000000 in
set_option maxRecDepth 100000 in
theorem epactlaw14_small.calls (k : Nat)  (r : Bool) (w : World) (h : epactlaw14_small.f k  = some r) (hrt : r = true) :
    Calls Try.prog 7 #[] w fun e w' => e = .returned (.bool r) ∧ Below w.heap.size w w' := by
  have HB := Aside0.mk (Below.refl w.heap.size w)
  have H : ((abbr_Pool.f (([(⟨#[69, 83, 84]⟩ : ByteArray), (⟨#[69, 68, 84]⟩ : ByteArray), (⟨#[69, 83, 84]⟩ : ByteArray)] : List ByteArray))).bind fun bt106 => ((abbr_Pool.f (([(⟨#[69, 83]⟩ : ByteArray)] : List ByteArray))).bind fun bt114 => ((abbr_At.f bt106.1 4).bind fun bt119 => ((abbr_At.f bt106.1 8).bind fun bt121 => ((abbr_At.f (⟨#[76, 77, 84, 88, 0]⟩ : ByteArray) 1).bind fun bt123 => ((abbr_At.f (⟨#[69, 83, 84]⟩ : ByteArray) 0).bind fun bt125 => (if bt106.1.toList = ([69, 83, 84, 0, 69, 68, 84, 0] : List UInt8) then ((epactref14_Ints.f k bt106.2.1 (([0, 4, 0] : List Int))).bind fun t130 => (if t130 = true then (if bt106.2.2 = true then (if bt114.2.2 = true then (some false) else (if bt119.1.toList = ([69, 68, 84] : List UInt8) then (if bt119.2 = true then (if bt121.2 = true then (some false) else (if bt123.1.toList = ([77, 84, 88] : List UInt8) then (if bt123.2 = true then (if bt125.2 = true then (some false) else ((abbr_Right.f (⟨#[43, 48, 53, 51, 48]⟩ : ByteArray)).bind fun t131 => (if t131 = true then ((abbr_Right.f (⟨#[69, 95, 84]⟩ : ByteArray)).bind fun t132 => (if t132 = true then (some false) else ((abbr_Right.f (⟨#[]⟩ : ByteArray)).bind fun t133 => (some (!t133))))) else (some false)))) else (some false)) else (some false))) else (some false)) else (some false))) else (some false)) else (some false))) else (some false)))))))) = some r := h
  clear h
  obtain ⟨y103, hy103⟩ : ∃ y_ : List ByteArray, y_ = (([(⟨#[69, 83, 84]⟩ : ByteArray), (⟨#[69, 68, 84]⟩ : ByteArray), (⟨#[69, 83, 84]⟩ : ByteArray)] : List ByteArray)) := ⟨_, rfl⟩
  replace H : ((abbr_Pool.f y103).bind fun bt106 => ((abbr_Pool.f (([(⟨#[69, 83]⟩ : ByteArray)] : List ByteArray))).bind fun bt114 => ((abbr_At.f bt106.1 4).bind fun bt119 => ((abbr_At.f bt106.1 8).bind fun bt121 => ((abbr_At.f (⟨#[76, 77, 84, 88, 0]⟩ : ByteArray) 1).bind fun bt123 => ((abbr_At.f (⟨#[69, 83, 84]⟩ : ByteArray) 0).bind fun bt125 => (if bt106.1.toList = ([69, 83, 84, 0, 69, 68, 84, 0] : List UInt8) then ((epactref14_Ints.f k bt106.2.1 (([0, 4, 0] : List Int))).bind fun t130 => (if t130 = true then (if bt106.2.2 = true then (if bt114.2.2 = true then (some false) else (if bt119.1.toList = ([69, 68, 84] : List UInt8) then (if bt119.2 = true then (if bt121.2 = true then (some false) else (if bt123.1.toList = ([77, 84, 88] : List UInt8) then (if bt123.2 = true then (if bt125.2 = true then (some false) else ((abbr_Right.f (⟨#[43, 48, 53, 51, 48]⟩ : ByteArray)).bind fun t131 => (if t131 = true then ((abbr_Right.f (⟨#[69, 95, 84]⟩ : ByteArray)).bind fun t132 => (if t132 = true then (some false) else ((abbr_Right.f (⟨#[]⟩ : ByteArray)).bind fun t133 => (some (!t133))))) else (some false)))) else (some false)) else (some false))) else (some false)) else (some false))) else (some false)) else (some false))) else (some false)))))))) = some r := by first | (rw [hy103]; with_reducible exact H) | (have H2_ := (Option.bind_some _ _).symm.trans H; rw [hy103]; with_reducible exact H2_) | (have H2_ := (Option.bind_some _ _).symm.trans H; with_reducible exact H2_) | with_reducible exact H | (rw [hy103]; exact H) | exact H
  have Ny103 := Aside0.mk hy103
  clear hy103
  replace H := Option.bind_eq_some_iff.mp H
  obtain ⟨⟨t106, t107, t108⟩, A10, H⟩ := H
  replace H : ((abbr_Pool.f (([(⟨#[69, 83]⟩ : ByteArray)] : List ByteArray))).bind fun bt114 => ((abbr_At.f t106 4).bind fun bt119 => ((abbr_At.f t106 8).bind fun bt121 => ((abbr_At.f (⟨#[76, 77, 84, 88, 0]⟩ : ByteArray) 1).bind fun bt123 => ((abbr_At.f (⟨#[69, 83, 84]⟩ : ByteArray) 0).bind fun bt125 => (if t106.toList = ([69, 83, 84, 0, 69, 68, 84, 0] : List UInt8) then ((epactref14_Ints.f k t107 (([0, 4, 0] : List Int))).bind fun t130 => (if t130 = true then (if t108 = true then (if bt114.2.2 = true then (some false) else (if bt119.1.toList = ([69, 68, 84] : List UInt8) then (if bt119.2 = true then (if bt121.2 = true then (some false) else (if bt123.1.toList = ([77, 84, 88] : List UInt8) then (if bt123.2 = true then (if bt125.2 = true then (some false) else ((abbr_Right.f (⟨#[43, 48, 53, 51, 48]⟩ : ByteArray)).bind fun t131 => (if t131 = true then ((abbr_Right.f (⟨#[69, 95, 84]⟩ : ByteArray)).bind fun t132 => (if t132 = true then (some false) else ((abbr_Right.f (⟨#[]⟩ : ByteArray)).bind fun t133 => (some (!t133))))) else (some false)))) else (some false)) else (some false))) else (some false)) else (some false))) else (some false)) else (some false))) else (some false))))))) = some r := H
  have A1 := Aside0.mk A10
  clear A10
  obtain ⟨y111, hy111⟩ : ∃ y_ : List ByteArray, y_ = (([(⟨#[69, 83]⟩ : ByteArray)] : List ByteArray)) := ⟨_, rfl⟩
  replace H : ((abbr_Pool.f y111).bind fun bt114 => ((abbr_At.f t106 4).bind fun bt119 => ((abbr_At.f t106 8).bind fun bt121 => ((abbr_At.f (⟨#[76, 77, 84, 88, 0]⟩ : ByteArray) 1).bind fun bt123 => ((abbr_At.f (⟨#[69, 83, 84]⟩ : ByteArray) 0).bind fun bt125 => (if t106.toList = ([69, 83, 84, 0, 69, 68, 84, 0] : List UInt8) then ((epactref14_Ints.f k t107 (([0, 4, 0] : List Int))).bind fun t130 => (if t130 = true then (if t108 = true then (if bt114.2.2 = true then (some false) else (if bt119.1.toList = ([69, 68, 84] : List UInt8) then (if bt119.2 = true then (if bt121.2 = true then (some false) else (if bt123.1.toList = ([77, 84, 88] : List UInt8) then (if bt123.2 = true then (if bt125.2 = true then (some false) else ((abbr_Right.f (⟨#[43, 48, 53, 51, 48]⟩ : ByteArray)).bind fun t131 => (if t131 = true then ((abbr_Right.f (⟨#[69, 95, 84]⟩ : ByteArray)).bind fun t132 => (if t132 = true then (some false) else ((abbr_Right.f (⟨#[]⟩ : ByteArray)).bind fun t133 => (some (!t133))))) else (some false)))) else (some false)) else (some false))) else (some false)) else (some false))) else (some false)) else (some false))) else (some false))))))) = some r := by first | (rw [hy111]; with_reducible exact H) | (have H2_ := (Option.bind_some _ _).symm.trans H; rw [hy111]; with_reducible exact H2_) | (have H2_ := (Option.bind_some _ _).symm.trans H; with_reducible exact H2_) | with_reducible exact H | (rw [hy111]; exact H) | exact H
  have Ny111 := Aside0.mk hy111
  clear hy111
  replace H := Option.bind_eq_some_iff.mp H
  obtain ⟨⟨t114, t115, t116⟩, A20, H⟩ := H
  replace H : ((abbr_At.f t106 4).bind fun bt119 => ((abbr_At.f t106 8).bind fun bt121 => ((abbr_At.f (⟨#[76, 77, 84, 88, 0]⟩ : ByteArray) 1).bind fun bt123 => ((abbr_At.f (⟨#[69, 83, 84]⟩ : ByteArray) 0).bind fun bt125 => (if t106.toList = ([69, 83, 84, 0, 69, 68, 84, 0] : List UInt8) then ((epactref14_Ints.f k t107 (([0, 4, 0] : List Int))).bind fun t130 => (if t130 = true then (if t108 = true then (if t116 = true then (some false) else (if bt119.1.toList = ([69, 68, 84] : List UInt8) then (if bt119.2 = true then (if bt121.2 = true then (some false) else (if bt123.1.toList = ([77, 84, 88] : List UInt8) then (if bt123.2 = true then (if bt125.2 = true then (some false) else ((abbr_Right.f (⟨#[43, 48, 53, 51, 48]⟩ : ByteArray)).bind fun t131 => (if t131 = true then ((abbr_Right.f (⟨#[69, 95, 84]⟩ : ByteArray)).bind fun t132 => (if t132 = true then (some false) else ((abbr_Right.f (⟨#[]⟩ : ByteArray)).bind fun t133 => (some (!t133))))) else (some false)))) else (some false)) else (some false))) else (some false)) else (some false))) else (some false)) else (some false))) else (some false)))))) = some r := H
  have A2 := Aside0.mk A20
  clear A20
  replace H := Option.bind_eq_some_iff.mp H
  obtain ⟨⟨t119, t120⟩, A30, H⟩ := H
  replace H : ((abbr_At.f t106 8).bind fun bt121 => ((abbr_At.f (⟨#[76, 77, 84, 88, 0]⟩ : ByteArray) 1).bind fun bt123 => ((abbr_At.f (⟨#[69, 83, 84]⟩ : ByteArray) 0).bind fun bt125 => (if t106.toList = ([69, 83, 84, 0, 69, 68, 84, 0] : List UInt8) then ((epactref14_Ints.f k t107 (([0, 4, 0] : List Int))).bind fun t130 => (if t130 = true then (if t108 = true then (if t116 = true then (some false) else (if t119.toList = ([69, 68, 84] : List UInt8) then (if t120 = true then (if bt121.2 = true then (some false) else (if bt123.1.toList = ([77, 84, 88] : List UInt8) then (if bt123.2 = true then (if bt125.2 = true then (some false) else ((abbr_Right.f (⟨#[43, 48, 53, 51, 48]⟩ : ByteArray)).bind fun t131 => (if t131 = true then ((abbr_Right.f (⟨#[69, 95, 84]⟩ : ByteArray)).bind fun t132 => (if t132 = true then (some false) else ((abbr_Right.f (⟨#[]⟩ : ByteArray)).bind fun t133 => (some (!t133))))) else (some false)))) else (some false)) else (some false))) else (some false)) else (some false))) else (some false)) else (some false))) else (some false))))) = some r := H
  have A3 := Aside0.mk A30
  clear A30
  replace H := Option.bind_eq_some_iff.mp H
  obtain ⟨⟨t121, t122⟩, A40, H⟩ := H
  replace H : ((abbr_At.f (⟨#[76, 77, 84, 88, 0]⟩ : ByteArray) 1).bind fun bt123 => ((abbr_At.f (⟨#[69, 83, 84]⟩ : ByteArray) 0).bind fun bt125 => (if t106.toList = ([69, 83, 84, 0, 69, 68, 84, 0] : List UInt8) then ((epactref14_Ints.f k t107 (([0, 4, 0] : List Int))).bind fun t130 => (if t130 = true then (if t108 = true then (if t116 = true then (some false) else (if t119.toList = ([69, 68, 84] : List UInt8) then (if t120 = true then (if t122 = true then (some false) else (if bt123.1.toList = ([77, 84, 88] : List UInt8) then (if bt123.2 = true then (if bt125.2 = true then (some false) else ((abbr_Right.f (⟨#[43, 48, 53, 51, 48]⟩ : ByteArray)).bind fun t131 => (if t131 = true then ((abbr_Right.f (⟨#[69, 95, 84]⟩ : ByteArray)).bind fun t132 => (if t132 = true then (some false) else ((abbr_Right.f (⟨#[]⟩ : ByteArray)).bind fun t133 => (some (!t133))))) else (some false)))) else (some false)) else (some false))) else (some false)) else (some false))) else (some false)) else (some false))) else (some false)))) = some r := H
  have A4 := Aside0.mk A40
  clear A40
  replace H := Option.bind_eq_some_iff.mp H
  obtain ⟨⟨t123, t124⟩, A50, H⟩ := H
  replace H : ((abbr_At.f (⟨#[69, 83, 84]⟩ : ByteArray) 0).bind fun bt125 => (if t106.toList = ([69, 83, 84, 0, 69, 68, 84, 0] : List UInt8) then ((epactref14_Ints.f k t107 (([0, 4, 0] : List Int))).bind fun t130 => (if t130 = true then (if t108 = true then (if t116 = true then (some false) else (if t119.toList = ([69, 68, 84] : List UInt8) then (if t120 = true then (if t122 = true then (some false) else (if t123.toList = ([77, 84, 88] : List UInt8) then (if t124 = true then (if bt125.2 = true then (some false) else ((abbr_Right.f (⟨#[43, 48, 53, 51, 48]⟩ : ByteArray)).bind fun t131 => (if t131 = true then ((abbr_Right.f (⟨#[69, 95, 84]⟩ : ByteArray)).bind fun t132 => (if t132 = true then (some false) else ((abbr_Right.f (⟨#[]⟩ : ByteArray)).bind fun t133 => (some (!t133))))) else (some false)))) else (some false)) else (some false))) else (some false)) else (some false))) else (some false)) else (some false))) else (some false))) = some r := H
  have A5 := Aside0.mk A50
  clear A50
  replace H := Option.bind_eq_some_iff.mp H
  obtain ⟨⟨t125, t126⟩, A60, H⟩ := H
  replace H : (if t106.toList = ([69, 83, 84, 0, 69, 68, 84, 0] : List UInt8) then ((epactref14_Ints.f k t107 (([0, 4, 0] : List Int))).bind fun t130 => (if t130 = true then (if t108 = true then (if t116 = true then (some false) else (if t119.toList = ([69, 68, 84] : List UInt8) then (if t120 = true then (if t122 = true then (some false) else (if t123.toList = ([77, 84, 88] : List UInt8) then (if t124 = true then (if t126 = true then (some false) else ((abbr_Right.f (⟨#[43, 48, 53, 51, 48]⟩ : ByteArray)).bind fun t131 => (if t131 = true then ((abbr_Right.f (⟨#[69, 95, 84]⟩ : ByteArray)).bind fun t132 => (if t132 = true then (some false) else ((abbr_Right.f (⟨#[]⟩ : ByteArray)).bind fun t133 => (some (!t133))))) else (some false)))) else (some false)) else (some false))) else (some false)) else (some false))) else (some false)) else (some false))) else (some false)) = some r := H
  have A6 := Aside0.mk A60
  clear A60
  by_cases c7 : t106.toList = ([69, 83, 84, 0, 69, 68, 84, 0] : List UInt8)
  · rw [if_pos c7] at H
    have c7b0 : (t106.toList == ([69, 83, 84, 0, 69, 68, 84, 0] : List UInt8)) = true := beq_iff_eq.mpr c7
    have c7b1 : (t106.toList != ([69, 83, 84, 0, 69, 68, 84, 0] : List UInt8)) = false := bne_eq_false_iff_eq.mpr c7
    clear c7
    obtain ⟨y127, hy127⟩ : ∃ y_ : List Int, y_ = (([0, 4, 0] : List Int)) := ⟨_, rfl⟩
    replace H : ((epactref14_Ints.f k t107 y127).bind fun t130 => (if t130 = true then (if t108 = true then (if t116 = true then (some false) else (if t119.toList = ([69, 68, 84] : List UInt8) then (if t120 = true then (if t122 = true then (some false) else (if t123.toList = ([77, 84, 88] : List UInt8) then (if t124 = true then (if t126 = true then (some false) else ((abbr_Right.f (⟨#[43, 48, 53, 51, 48]⟩ : ByteArray)).bind fun t131 => (if t131 = true then ((abbr_Right.f (⟨#[69, 95, 84]⟩ : ByteArray)).bind fun t132 => (if t132 = true then (some false) else ((abbr_Right.f (⟨#[]⟩ : ByteArray)).bind fun t133 => (some (!t133))))) else (some false)))) else (some false)) else (some false))) else (some false)) else (some false))) else (some false)) else (some false))) = some r := by first | (rw [hy127]; with_reducible exact H) | (have H2_ := (Option.bind_some _ _).symm.trans H; rw [hy127]; with_reducible exact H2_) | (have H2_ := (Option.bind_some _ _).symm.trans H; with_reducible exact H2_) | with_reducible exact H | (rw [hy127]; exact H) | exact H
    have Ny127 := Aside0.mk hy127
    clear hy127
    replace H := Option.bind_eq_some_iff.mp H
    obtain ⟨t130, A80, H⟩ := H
    replace H : (if t130 = true then (if t108 = true then (if t116 = true then (some false) else (if t119.toList = ([69, 68, 84] : List UInt8) then (if t120 = true then (if t122 = true then (some false) else (if t123.toList = ([77, 84, 88] : List UInt8) then (if t124 = true then (if t126 = true then (some false) else ((abbr_Right.f (⟨#[43, 48, 53, 51, 48]⟩ : ByteArray)).bind fun t131 => (if t131 = true then ((abbr_Right.f (⟨#[69, 95, 84]⟩ : ByteArray)).bind fun t132 => (if t132 = true then (some false) else ((abbr_Right.f (⟨#[]⟩ : ByteArray)).bind fun t133 => (some (!t133))))) else (some false)))) else (some false)) else (some false))) else (some false)) else (some false))) else (some false)) else (some false)) = some r := H
    have A8 := Aside0.mk A80
    clear A80
    by_cases c9 : t130 = true
    · subst c9
      have H1 : (if t108 = true then (if t116 = true then (some false) else (if t119.toList = ([69, 68, 84] : List UInt8) then (if t120 = true then (if t122 = true then (some false) else (if t123.toList = ([77, 84, 88] : List UInt8) then (if t124 = true then (if t126 = true then (some false) else ((abbr_Right.f (⟨#[43, 48, 53, 51, 48]⟩ : ByteArray)).bind fun t131 => (if t131 = true then ((abbr_Right.f (⟨#[69, 95, 84]⟩ : ByteArray)).bind fun t132 => (if t132 = true then (some false) else ((abbr_Right.f (⟨#[]⟩ : ByteArray)).bind fun t133 => (some (!t133))))) else (some false)))) else (some false)) else (some false))) else (some false)) else (some false))) else (some false)) = some r := by rw [if_pos rfl] at H; exact H
      clear H
      have H := H1
      clear H1
      by_cases c10 : t108 = true
      · subst c10
        have H1 : (if t116 = true then (some false) else (if t119.toList = ([69, 68, 84] : List UInt8) then (if t120 = true then (if t122 = true then (some false) else (if t123.toList = ([77, 84, 88] : List UInt8) then (if t124 = true then (if t126 = true then (some false) else ((abbr_Right.f (⟨#[43, 48, 53, 51, 48]⟩ : ByteArray)).bind fun t131 => (if t131 = true then ((abbr_Right.f (⟨#[69, 95, 84]⟩ : ByteArray)).bind fun t132 => (if t132 = true then (some false) else ((abbr_Right.f (⟨#[]⟩ : ByteArray)).bind fun t133 => (some (!t133))))) else (some false)))) else (some false)) else (some false))) else (some false)) else (some false))) = some r := by rw [if_pos rfl] at H; exact H
        clear H
        have H := H1
        clear H1
        by_cases c11 : t116 = true
        · subst c11
          have H1 : (some false) = some r := by rw [if_pos rfl] at H; exact H
          clear H
          have H := H1
          clear H1
          obtain rfl := Option.some.inj H
          cases hrt
        · replace c11 := Bool.eq_false_iff.mpr c11
          subst c11
          have H1 : (if t119.toList = ([69, 68, 84] : List UInt8) then (if t120 = true then (if t122 = true then (some false) else (if t123.toList = ([77, 84, 88] : List UInt8) then (if t124 = true then (if t126 = true then (some false) else ((abbr_Right.f (⟨#[43, 48, 53, 51, 48]⟩ : ByteArray)).bind fun t131 => (if t131 = true then ((abbr_Right.f (⟨#[69, 95, 84]⟩ : ByteArray)).bind fun t132 => (if t132 = true then (some false) else ((abbr_Right.f (⟨#[]⟩ : ByteArray)).bind fun t133 => (some (!t133))))) else (some false)))) else (some false)) else (some false))) else (some false)) else (some false)) = some r := by rw [if_neg (show ¬ (false = true) by decide)] at H; exact H
          clear H
          have H := H1
          clear H1
          by_cases c28 : t119.toList = ([69, 68, 84] : List UInt8)
          · rw [if_pos c28] at H
            have c28b0 : (t119.toList == ([69, 68, 84] : List UInt8)) = true := beq_iff_eq.mpr c28
            have c28b1 : (t119.toList != ([69, 68, 84] : List UInt8)) = false := bne_eq_false_iff_eq.mpr c28
            clear c28
            by_cases c29 : t120 = true
            · subst c29
              have H1 : (if t122 = true then (some false) else (if t123.toList = ([77, 84, 88] : List UInt8) then (if t124 = true then (if t126 = true then (some false) else ((abbr_Right.f (⟨#[43, 48, 53, 51, 48]⟩ : ByteArray)).bind fun t131 => (if t131 = true then ((abbr_Right.f (⟨#[69, 95, 84]⟩ : ByteArray)).bind fun t132 => (if t132 = true then (some false) else ((abbr_Right.f (⟨#[]⟩ : ByteArray)).bind fun t133 => (some (!t133))))) else (some false)))) else (some false)) else (some false))) = some r := by rw [if_pos rfl] at H; exact H
              clear H
              have H := H1
              clear H1
              by_cases c30 : t122 = true
              · subst c30
                have H1 : (some false) = some r := by rw [if_pos rfl] at H; exact H
                clear H
                have H := H1
                clear H1
                obtain rfl := Option.some.inj H
                cases hrt
              · replace c30 := Bool.eq_false_iff.mpr c30
                subst c30
                have H1 : (if t123.toList = ([77, 84, 88] : List UInt8) then (if t124 = true then (if t126 = true then (some false) else ((abbr_Right.f (⟨#[43, 48, 53, 51, 48]⟩ : ByteArray)).bind fun t131 => (if t131 = true then ((abbr_Right.f (⟨#[69, 95, 84]⟩ : ByteArray)).bind fun t132 => (if t132 = true then (some false) else ((abbr_Right.f (⟨#[]⟩ : ByteArray)).bind fun t133 => (some (!t133))))) else (some false)))) else (some false)) else (some false)) = some r := by rw [if_neg (show ¬ (false = true) by decide)] at H; exact H
                clear H
                have H := H1
                clear H1
                by_cases c47 : t123.toList = ([77, 84, 88] : List UInt8)
                · rw [if_pos c47] at H
                  have c47b0 : (t123.toList == ([77, 84, 88] : List UInt8)) = true := beq_iff_eq.mpr c47
                  have c47b1 : (t123.toList != ([77, 84, 88] : List UInt8)) = false := bne_eq_false_iff_eq.mpr c47
                  clear c47
                  by_cases c48 : t124 = true
                  · subst c48
                    have H1 : (if t126 = true then (some false) else ((abbr_Right.f (⟨#[43, 48, 53, 51, 48]⟩ : ByteArray)).bind fun t131 => (if t131 = true then ((abbr_Right.f (⟨#[69, 95, 84]⟩ : ByteArray)).bind fun t132 => (if t132 = true then (some false) else ((abbr_Right.f (⟨#[]⟩ : ByteArray)).bind fun t133 => (some (!t133))))) else (some false)))) = some r := by rw [if_pos rfl] at H; exact H
                    clear H
                    have H := H1
                    clear H1
                    by_cases c49 : t126 = true
                    · subst c49
                      have H1 : (some false) = some r := by rw [if_pos rfl] at H; exact H
                      clear H
                      have H := H1
                      clear H1
                      obtain rfl := Option.some.inj H
                      cases hrt
                    · replace c49 := Bool.eq_false_iff.mpr c49
                      subst c49
                      have H1 : ((abbr_Right.f (⟨#[43, 48, 53, 51, 48]⟩ : ByteArray)).bind fun t131 => (if t131 = true then ((abbr_Right.f (⟨#[69, 95, 84]⟩ : ByteArray)).bind fun t132 => (if t132 = true then (some false) else ((abbr_Right.f (⟨#[]⟩ : ByteArray)).bind fun t133 => (some (!t133))))) else (some false))) = some r := by rw [if_neg (show ¬ (false = true) by decide)] at H; exact H
                      clear H
                      have H := H1
                      clear H1
                      replace H := Option.bind_eq_some_iff.mp H
                      obtain ⟨t131, A660, H⟩ := H
                      replace H : (if t131 = true then ((abbr_Right.f (⟨#[69, 95, 84]⟩ : ByteArray)).bind fun t132 => (if t132 = true then (some false) else ((abbr_Right.f (⟨#[]⟩ : ByteArray)).bind fun t133 => (some (!t133))))) else (some false)) = some r := H
                      have A66 := Aside0.mk A660
                      clear A660
                      by_cases c67 : t131 = true
                      · subst c67
                        have H1 : ((abbr_Right.f (⟨#[69, 95, 84]⟩ : ByteArray)).bind fun t132 => (if t132 = true then (some false) else ((abbr_Right.f (⟨#[]⟩ : ByteArray)).bind fun t133 => (some (!t133))))) = some r := by rw [if_pos rfl] at H; exact H
                        clear H
                        have H := H1
                        clear H1
                        replace H := Option.bind_eq_some_iff.mp H
                        obtain ⟨t132, A680, H⟩ := H
                        replace H : (if t132 = true then (some false) else ((abbr_Right.f (⟨#[]⟩ : ByteArray)).bind fun t133 => (some (!t133)))) = some r := H
                        have A68 := Aside0.mk A680
                        clear A680
                        by_cases c69 : t132 = true
                        · subst c69
                          have H1 : (some false) = some r := by rw [if_pos rfl] at H; exact H
                          clear H
                          have H := H1
                          clear H1
                          obtain rfl := Option.some.inj H
                          cases hrt
                        · replace c69 := Bool.eq_false_iff.mpr c69
                          subst c69
                          have H1 : ((abbr_Right.f (⟨#[]⟩ : ByteArray)).bind fun t133 => (some (!t133))) = some r := by rw [if_neg (show ¬ (false = true) by decide)] at H; exact H
                          clear H
                          have H := H1
                          clear H1
                          replace H := Option.bind_eq_some_iff.mp H
                          obtain ⟨t133, A880, H⟩ := H
                          replace H : (some (!t133)) = some r := H
                          have A88 := Aside0.mk A880
                          clear A880
                          obtain rfl := Option.some.inj H
                          go_enter Try.func7, Try.ntmps7
                          go_wp2_with (first | ((with_reducible refine gate_dst (N := 16) rfl ?_); (try (refine gate_guard (by rfl) ?_; dsimp only)); refine Kd.R_lit Kd.string _ 9 ?hg (N := 16) ?hd (xs := ([(⟨#[69, 83, 84]⟩ : ByteArray), (⟨#[69, 68, 84]⟩ : ByteArray), (⟨#[69, 83, 84]⟩ : ByteArray)] : List ByteArray)) (inner := [.string (⟨#[69, 83, 84]⟩ : ByteArray), .string (⟨#[69, 68, 84]⟩ : ByteArray), .string (⟨#[69, 83, 84]⟩ : ByteArray)]) (ok := fun _ => True) (okp := fun _ => True) ?hr ?hp (fun _ hk => hk) trivial (Below.refl _ _) (Nat.le_refl _) (by simp) ?_; (case hd => rfl); (case hg => rfl); (case hr => first | (go_simp; done) | (go_simp; rfl)); (case hp => exact (Reps.one (show Kd.M Kd.string _ _ _ (⟨#[69, 83, 84]⟩ : ByteArray) [.string (⟨#[69, 83, 84]⟩ : ByteArray)] from rfl) (Reps.one (show Kd.M Kd.string _ _ _ (⟨#[69, 68, 84]⟩ : ByteArray) [.string (⟨#[69, 68, 84]⟩ : ByteArray)] from rfl) (Reps.one (show Kd.M Kd.string _ _ _ (⟨#[69, 83, 84]⟩ : ByteArray) [.string (⟨#[69, 83, 84]⟩ : ByteArray)] from rfl) (Reps.none _ _))))); intro v104 w89 ho90 hb hg_ hnew_; clear hg_ hnew_; (first | rw [← Ny103.out] at ho90 | (simp only [Int.reduceToNat] at ho90; rw [← Ny103.out] at ho90)); have n0_ := Aside0.mk (Kd.R_lower ho90 (below_size (by repeat (first | (with_reducible first | exact HB.out | apply below_alloc | apply pw_below_drewN | apply below_drew1) | exact HB.out)))); have n1_ := Aside0.mk (below_step (by repeat (first | (with_reducible first | exact HB.out | apply below_alloc | apply pw_below_drewN | apply below_drew1) | exact HB.out)) hb); clear HB; have HO105 := n0_; have HB := n1_; clear n0_ n1_; clear hb ho90; obtain ⟨Ao91, co91, eo91⟩ := Kd.R_slice HO105.out; subst eo91) | ((with_reducible refine gate_callee (f := 8) rfl ?_); refine goesL_ (some 17) rfl rfl Try.func8 (by kernel_rfl) rfl #[.slice Ao91 y103.length co91] rfl (by (try simp only [List.map_toArray, List.map_cons, List.map_nil]); first | done | rfl | (simp only [List.length_drop, List.length_take]; rfl)) ?_; (with_reducible refine (abbr_Pool.calls _ _ y103 t106 t107 true _ ?side1 ?side2 A1.out).mono ?_); (case side1 => repeat (first | exact (Kd.R_reads' HO105.out).2.2 | (with_reducible refine Kd.C_alloc ?_ _) | (with_reducible refine Kd.C_drewN ?_ _) | (with_reducible refine Kd.C_drew ?_))); (case side2 => exact (Kd.R_reads' HO105.out).2.1); rintro e w92 ⟨v109, rfl, ho0, hb⟩; refine ⟨_, rfl, ?_⟩; have n0_ := Aside0.mk (Kd.R_below (by (with_reducible repeat (first | apply Kd.R_alloc | apply Kd.R_drewN | apply Kd.R_drew)); exact HO105.out) hb); have n1_ := Aside0.mk (Kd.R_lower ho0 (below_size (by repeat (first | (with_reducible first | exact HB.out | apply below_alloc | apply pw_below_drewN | apply below_drew1) | exact HB.out)))); have n2_ := Aside0.mk (below_step (by repeat (first | (with_reducible first | exact HB.out | apply below_alloc | apply pw_below_drewN | apply below_drew1) | exact HB.out)) hb); clear HO105; clear HB; have HO105 := n0_; have HO110 := n1_; have HB := n2_; clear n0_ n1_ n2_; (try clear hb); (try clear hb2); (try clear hk); (try clear hi); (try clear ho0)) | ((with_reducible refine gate_dst (N := 22) rfl ?_); (try (refine gate_guard (by rfl) ?_; dsimp only)); refine Kd.R_lit Kd.string _ 9 ?hg (N := 22) ?hd (xs := ([(⟨#[69, 83]⟩ : ByteArray)] : List ByteArray)) (inner := [.string (⟨#[69, 83]⟩ : ByteArray)]) (ok := fun _ => True) (okp := fun _ => True) ?hr ?hp (fun _ hk => hk) trivial (Below.refl _ _) (Nat.le_refl _) (by simp) ?_; (case hd => rfl); (case hg => rfl); (case hr => first | (go_simp; done) | (go_simp; rfl)); (case hp => exact (Reps.one (show Kd.M Kd.string _ _ _ (⟨#[69, 83]⟩ : ByteArray) [.string (⟨#[69, 83]⟩ : ByteArray)] from rfl) (Reps.none _ _))); intro v112 w93 ho94 hb hg_ hnew_; clear hg_ hnew_; (first | rw [← Ny111.out] at ho94 | (simp only [Int.reduceToNat] at ho94; rw [← Ny111.out] at ho94)); have n0_ := Aside0.mk (Kd.R_elder' (by (with_reducible repeat (first | apply Kd.R_alloc | apply Kd.R_drewN | apply Kd.R_drew)); exact HO105.out) (Kd.R_base ho94) hb); have n1_ := Aside0.mk (Kd.R_below (by (with_reducible repeat (first | apply Kd.R_alloc | apply Kd.R_drewN | apply Kd.R_drew)); exact HO110.out) hb); have n2_ := Aside0.mk (Kd.R_lower (Kd.R_new' ho94 (Kd.R_lt (by (with_reducible repeat (first | apply Kd.R_alloc | apply Kd.R_drewN | apply Kd.R_drew)); exact HO105.out))) (below_size (by repeat (first | (with_reducible first | exact HB.out | apply below_alloc | apply pw_below_drewN | apply below_drew1) | exact HB.out)))); have n3_ := Aside0.mk (below_step (by repeat (first | (with_reducible first | exact HB.out | apply below_alloc | apply pw_below_drewN | apply below_drew1) | exact HB.out)) hb); clear HO105; clear HO110; clear HB; have HO105 := n0_; have HO110 := n1_; have HO113 := n2_; have HB := n3_; clear n0_ n1_ n2_ n3_; clear hb ho94; obtain ⟨Ao95, co95, eo95⟩ := Kd.R_slice HO113.out; subst eo95) | ((with_reducible refine gate_callee (f := 8) rfl ?_); refine goesL_ (some 23) rfl rfl Try.func8 (by kernel_rfl) rfl #[.slice Ao95 y111.length co95] rfl (by (try simp only [List.map_toArray, List.map_cons, List.map_nil]); first | done | rfl | (simp only [List.length_drop, List.length_take]; rfl)) ?_; (with_reducible refine (abbr_Pool.calls _ _ y111 t114 t115 false _ ?side1 ?side2 A2.out).mono ?_); (case side1 => repeat (first | exact (Kd.R_reads' HO113.out).2.2 | (with_reducible refine Kd.C_alloc ?_ _) | (with_reducible refine Kd.C_drewN ?_ _) | (with_reducible refine Kd.C_drew ?_))); (case side2 => exact (Kd.R_reads' HO113.out).2.1); rintro e w96 ⟨v117, rfl, ho0, hb⟩; refine ⟨_, rfl, ?_⟩; have n0_ := Aside0.mk (Kd.R_below (by (with_reducible repeat (first | apply Kd.R_alloc | apply Kd.R_drewN | apply Kd.R_drew)); exact HO105.out) hb); have n1_ := Aside0.mk (Kd.R_elder' (by (with_reducible repeat (first | apply Kd.R_alloc | apply Kd.R_drewN | apply Kd.R_drew)); exact HO110.out) (Kd.R_base ho0) hb); have n2_ := Aside0.mk (Kd.R_below (by (with_reducible repeat (first | apply Kd.R_alloc | apply Kd.R_drewN | apply Kd.R_drew)); exact HO113.out) hb); have n3_ := Aside0.mk (Kd.R_lower (Kd.R_new' ho0 (Kd.R_lt (by (with_reducible repeat (first | apply Kd.R_alloc | apply Kd.R_drewN | apply Kd.R_drew)); exact HO110.out))) (below_size (by repeat (first | (with_reducible first | exact HB.out | apply below_alloc | apply pw_below_drewN | apply below_drew1) | exact HB.out)))); have n4_ := Aside0.mk (below_step (by repeat (first | (with_reducible first | exact HB.out | apply below_alloc | apply pw_below_drewN | apply below_drew1) | exact HB.out)) hb); clear HO105; clear HO110; clear HO113; clear HB; have HO105 := n0_; have HO110 := n1_; have HO113 := n2_; have HO118 := n3_; have HB := n4_; clear n0_ n1_ n2_ n3_ n4_; (try clear hb); (try clear hb2); (try clear hk); (try clear hi); (try clear ho0)) | ((with_reducible refine gate_callee (f := 10) rfl ?_); refine goesL_ (some 29) rfl rfl Try.func10 (by kernel_rfl) rfl #[.string t106, .int .i64 4] rfl (by (try simp only [List.map_toArray, List.map_cons, List.map_nil]); first | done | rfl | (simp only [List.length_drop, List.length_take]; rfl)) ?_; (with_reducible refine (abbr_At.calls t106 4 t119 true _ A3.out).mono ?_); rintro e w97 ⟨rfl, hb⟩; refine ⟨_, rfl, ?_⟩; have n0_ := Aside0.mk (Kd.R_below (by (with_reducible repeat (first | apply Kd.R_alloc | apply Kd.R_drewN | apply Kd.R_drew)); exact HO105.out) hb); have n1_ := Aside0.mk (Kd.R_below (by (with_reducible repeat (first | apply Kd.R_alloc | apply Kd.R_drewN | apply Kd.R_drew)); exact HO110.out) hb); have n2_ := Aside0.mk (Kd.R_below (by (with_reducible repeat (first | apply Kd.R_alloc | apply Kd.R_drewN | apply Kd.R_drew)); exact HO113.out) hb); have n3_ := Aside0.mk (Kd.R_below (by (with_reducible repeat (first | apply Kd.R_alloc | apply Kd.R_drewN | apply Kd.R_drew)); exact HO118.out) hb); have n4_ := Aside0.mk (below_step (by repeat (first | (with_reducible first | exact HB.out | apply below_alloc | apply pw_below_drewN | apply below_drew1) | exact HB.out)) hb); clear HO105; clear HO110; clear HO113; clear HO118; clear HB; have HO105 := n0_; have HO110 := n1_; have HO113 := n2_; have HO118 := n3_; have HB := n4_; clear n0_ n1_ n2_ n3_ n4_; (try clear hb); (try clear hb2); (try clear hk); (try clear hi)) | ((with_reducible refine gate_callee (f := 10) rfl ?_); refine goesL_ (some 34) rfl rfl Try.func10 (by kernel_rfl) rfl #[.string t106, .int .i64 8] rfl (by (try simp only [List.map_toArray, List.map_cons, List.map_nil]); first | done | rfl | (simp only [List.length_drop, List.length_take]; rfl)) ?_; (with_reducible refine (abbr_At.calls t106 8 t121 false _ A4.out).mono ?_); rintro e w98 ⟨rfl, hb⟩; refine ⟨_, rfl, ?_⟩; have n0_ := Aside0.mk (Kd.R_below (by (with_reducible repeat (first | apply Kd.R_alloc | apply Kd.R_drewN | apply Kd.R_drew)); exact HO105.out) hb); have n1_ := Aside0.mk (Kd.R_below (by (with_reducible repeat (first | apply Kd.R_alloc | apply Kd.R_drewN | apply Kd.R_drew)); exact HO110.out) hb); have n2_ := Aside0.mk (Kd.R_below (by (with_reducible repeat (first | apply Kd.R_alloc | apply Kd.R_drewN | apply Kd.R_drew)); exact HO113.out) hb); have n3_ := Aside0.mk (Kd.R_below (by (with_reducible repeat (first | apply Kd.R_alloc | apply Kd.R_drewN | apply Kd.R_drew)); exact HO118.out) hb); have n4_ := Aside0.mk (below_step (by repeat (first | (with_reducible first | exact HB.out | apply below_alloc | apply pw_below_drewN | apply below_drew1) | exact HB.out)) hb); clear HO105; clear HO110; clear HO113; clear HO118; clear HB; have HO105 := n0_; have HO110 := n1_; have HO113 := n2_; have HO118 := n3_; have HB := n4_; clear n0_ n1_ n2_ n3_ n4_; (try clear hb); (try clear hb2); (try clear hk); (try clear hi)) | ((with_reducible refine gate_callee (f := 10) rfl ?_); refine goesL_ (some 38) rfl rfl Try.func10 (by kernel_rfl) rfl #[.string (⟨#[76, 77, 84, 88, 0]⟩ : ByteArray), .int .i64 1] rfl (by (try simp only [List.map_toArray, List.map_cons, List.map_nil]); first | done | rfl | (simp only [List.length_drop, List.length_take]; rfl)) ?_; (with_reducible refine (abbr_At.calls (⟨#[76, 77, 84, 88, 0]⟩ : ByteArray) 1 t123 true _ A5.out).mono ?_); rintro e w99 ⟨rfl, hb⟩; refine ⟨_, rfl, ?_⟩; have n0_ := Aside0.mk (Kd.R_below (by (with_reducible repeat (first | apply Kd.R_alloc | apply Kd.R_drewN | apply Kd.R_drew)); exact HO105.out) hb); have n1_ := Aside0.mk (Kd.R_below (by (with_reducible repeat (first | apply Kd.R_alloc | apply Kd.R_drewN | apply Kd.R_drew)); exact HO110.out) hb); have n2_ := Aside0.mk (Kd.R_below (by (with_reducible repeat (first | apply Kd.R_alloc | apply Kd.R_drewN | apply Kd.R_drew)); exact HO113.out) hb); have n3_ := Aside0.mk (Kd.R_below (by (with_reducible repeat (first | apply Kd.R_alloc | apply Kd.R_drewN | apply Kd.R_drew)); exact HO118.out) hb); have n4_ := Aside0.mk (below_step (by repeat (first | (with_reducible first | exact HB.out | apply below_alloc | apply pw_below_drewN | apply below_drew1) | exact HB.out)) hb); clear HO105; clear HO110; clear HO113; clear HO118; clear HB; have HO105 := n0_; have HO110 := n1_; have HO113 := n2_; have HO118 := n3_; have HB := n4_; clear n0_ n1_ n2_ n3_ n4_; (try clear hb); (try clear hb2); (try clear hk); (try clear hi)) | ((with_reducible refine gate_callee (f := 10) rfl ?_); refine goesL_ (some 42) rfl rfl Try.func10 (by kernel_rfl) rfl #[.string (⟨#[69, 83, 84]⟩ : ByteArray), .int .i64 0] rfl (by (try simp only [List.map_toArray, List.map_cons, List.map_nil]); first | done | rfl | (simp only [List.length_drop, List.length_take]; rfl)) ?_; (with_reducible refine (abbr_At.calls (⟨#[69, 83, 84]⟩ : ByteArray) 0 t125 false _ A6.out).mono ?_); rintro e w100 ⟨rfl, hb⟩; refine ⟨_, rfl, ?_⟩; have n0_ := Aside0.mk (Kd.R_below (by (with_reducible repeat (first | apply Kd.R_alloc | apply Kd.R_drewN | apply Kd.R_drew)); exact HO105.out) hb); have n1_ := Aside0.mk (Kd.R_below (by (with_reducible repeat (first | apply Kd.R_alloc | apply Kd.R_drewN | apply Kd.R_drew)); exact HO110.out) hb); have n2_ := Aside0.mk (Kd.R_below (by (with_reducible repeat (first | apply Kd.R_alloc | apply Kd.R_drewN | apply Kd.R_drew)); exact HO113.out) hb); have n3_ := Aside0.mk (Kd.R_below (by (with_reducible repeat (first | apply Kd.R_alloc | apply Kd.R_drewN | apply Kd.R_drew)); exact HO118.out) hb); have n4_ := Aside0.mk (below_step (by repeat (first | (with_reducible first | exact HB.out | apply below_alloc | apply pw_below_drewN | apply below_drew1) | exact HB.out)) hb); clear HO105; clear HO110; clear HO113; clear HO118; clear HB; have HO105 := n0_; have HO110 := n1_; have HO113 := n2_; have HO118 := n3_; have HB := n4_; clear n0_ n1_ n2_ n3_ n4_; (try clear hb); (try clear hb2); (try clear hk); (try clear hi)) | ((with_reducible refine gate_dst (N := 49) rfl ?_); (try (refine gate_guard (by rfl) ?_; dsimp only)); refine Kd.R_lit (Kd.int .i64) _ 3 ?hg (N := 49) ?hd (xs := ([0, 4, 0] : List Int)) (inner := [.int .i64 0, .int .i64 4, .int .i64 0]) (ok := fun _ => True) (okp := fun _ => True) ?hr ?hp (fun _ hk => hk) trivial (Below.refl _ _) (Nat.le_refl _) (by simp) ?_; (case hd => rfl); (case hg => rfl); (case hr => first | (go_simp; done) | (go_simp; rfl)); (case hp => exact (Reps.one (show Kd.M (Kd.int .i64) _ _ _ 0 [.int .i64 0] from rfl) (Reps.one (show Kd.M (Kd.int .i64) _ _ _ 4 [.int .i64 4] from rfl) (Reps.one (show Kd.M (Kd.int .i64) _ _ _ 0 [.int .i64 0] from rfl) (Reps.none _ _))))); intro v128 w101 ho102 hb hg_ hnew_; clear hg_ hnew_; (first | rw [← Ny127.out] at ho102 | (simp only [Int.reduceToNat] at ho102; rw [← Ny127.out] at ho102)); have n0_ := Aside0.mk (Kd.R_below (by (with_reducible repeat (first | apply Kd.R_alloc | apply Kd.R_drewN | apply Kd.R_drew)); exact HO105.out) hb); have n1_ := Aside0.mk (Kd.R_elder' (by (with_reducible repeat (first | apply Kd.R_alloc | apply Kd.R_drewN | apply Kd.R_drew)); exact HO110.out) (Kd.R_base ho102) hb); have n2_ := Aside0.mk (Kd.R_below (by (with_reducible repeat (first | apply Kd.R_alloc | apply Kd.R_drewN | apply Kd.R_drew)); exact HO113.out) hb); have n3_ := Aside0.mk (Kd.R_elder' (by (with_reducible repeat (first | apply Kd.R_alloc | apply Kd.R_drewN | apply Kd.R_drew)); exact HO118.out) (Kd.R_base ho102) hb); have n4_ := Aside0.mk (Kd.R_lower (Kd.R_new' (Kd.R_new' ho102 (Kd.R_lt (by (with_reducible repeat (first | apply Kd.R_alloc | apply Kd.R_drewN | apply Kd.R_drew)); exact HO110.out))) (Kd.R_lt (by (with_reducible repeat (first | apply Kd.R_alloc | apply Kd.R_drewN | apply Kd.R_drew)); exact HO118.out))) (below_size (by repeat (first | (with_reducible first | exact HB.out | apply below_alloc | apply pw_below_drewN | apply below_drew1) | exact HB.out)))); have n5_ := Aside0.mk (below_step (by repeat (first | (with_reducible first | exact HB.out | apply below_alloc | apply pw_below_drewN | apply below_drew1) | exact HB.out)) hb); clear HO105; clear HO110; clear HO113; clear HO118; clear HB; have HO105 := n0_; have HO110 := n1_; have HO113 := n2_; have HO118 := n3_; have HO129 := n4_; have HB := n5_; clear n0_ n1_ n2_ n3_ n4_ n5_; clear hb ho102; obtain ⟨Ao103, co103, eo103⟩ := Kd.R_slice HO110.out; subst eo103; obtain ⟨Ao104, co104, eo104⟩ := Kd.R_slice HO129.out; subst eo104) | (go_at_call 12; (with_reducible refine (epactref14_Ints.calls k _ _ t107 _ _ y127 true _ ?side1 ?side2 ?side3 ?side4 A8.out).mono ?_); (case side1 => repeat (first | exact (Kd.R_reads' HO110.out).2.2 | (with_reducible refine Kd.C_alloc ?_ _) | (with_reducible refine Kd.C_drewN ?_ _) | (with_reducible refine Kd.C_drew ?_))); (case side2 => exact (Kd.R_reads' HO110.out).2.1); (case side3 => repeat (first | exact (Kd.R_reads' HO129.out).2.2 | (with_reducible refine Kd.C_alloc ?_ _) | (with_reducible refine Kd.C_drewN ?_ _) | (with_reducible refine Kd.C_drew ?_))); (case side4 => exact (Kd.R_reads' HO129.out).2.1); rintro e w' ⟨rfl, ⟨nd, rfl⟩⟩) | (go_at_call 13; (with_reducible refine (abbr_Right.calls (⟨#[43, 48, 53, 51, 48]⟩ : ByteArray) true _ A66.out).mono ?_); rintro e w105 ⟨rfl, hb⟩; have n0_ := Aside0.mk (Kd.R_below (by (with_reducible repeat (first | apply Kd.R_alloc | apply Kd.R_drewN | apply Kd.R_drew)); exact HO105.out) hb); have n1_ := Aside0.mk (Kd.R_below (by (with_reducible repeat (first | apply Kd.R_alloc | apply Kd.R_drewN | apply Kd.R_drew)); exact HO110.out) hb); have n2_ := Aside0.mk (Kd.R_below (by (with_reducible repeat (first | apply Kd.R_alloc | apply Kd.R_drewN | apply Kd.R_drew)); exact HO113.out) hb); have n3_ := Aside0.mk (Kd.R_below (by (with_reducible repeat (first | apply Kd.R_alloc | apply Kd.R_drewN | apply Kd.R_drew)); exact HO118.out) hb); have n4_ := Aside0.mk (Kd.R_below (by (with_reducible repeat (first | apply Kd.R_alloc | apply Kd.R_drewN | apply Kd.R_drew)); exact HO129.out) hb); have n5_ := Aside0.mk (below_step (by repeat (first | (with_reducible first | exact HB.out | apply below_alloc | apply pw_below_drewN | apply below_drew1) | exact HB.out)) hb); clear HO105; clear HO110; clear HO113; clear HO118; clear HO129; clear HB; have HO105 := n0_; have HO110 := n1_; have HO113 := n2_; have HO118 := n3_; have HO129 := n4_; have HB := n5_; clear n0_ n1_ n2_ n3_ n4_ n5_; (try clear hb); (try clear hb2); (try clear hk); (try clear hi)) | (go_at_call 13; (with_reducible refine (abbr_Right.calls (⟨#[69, 95, 84]⟩ : ByteArray) false _ A68.out).mono ?_); rintro e w106 ⟨rfl, hb⟩; have n0_ := Aside0.mk (Kd.R_below (by (with_reducible repeat (first | apply Kd.R_alloc | apply Kd.R_drewN | apply Kd.R_drew)); exact HO105.out) hb); have n1_ := Aside0.mk (Kd.R_below (by (with_reducible repeat (first | apply Kd.R_alloc | apply Kd.R_drewN | apply Kd.R_drew)); exact HO110.out) hb); have n2_ := Aside0.mk (Kd.R_below (by (with_reducible repeat (first | apply Kd.R_alloc | apply Kd.R_drewN | apply Kd.R_drew)); exact HO113.out) hb); have n3_ := Aside0.mk (Kd.R_below (by (with_reducible repeat (first | apply Kd.R_alloc | apply Kd.R_drewN | apply Kd.R_drew)); exact HO118.out) hb); have n4_ := Aside0.mk (Kd.R_below (by (with_reducible repeat (first | apply Kd.R_alloc | apply Kd.R_drewN | apply Kd.R_drew)); exact HO129.out) hb); have n5_ := Aside0.mk (below_step (by repeat (first | (with_reducible first | exact HB.out | apply below_alloc | apply pw_below_drewN | apply below_drew1) | exact HB.out)) hb); clear HO105; clear HO110; clear HO113; clear HO118; clear HO129; clear HB; have HO105 := n0_; have HO110 := n1_; have HO113 := n2_; have HO118 := n3_; have HO129 := n4_; have HB := n5_; clear n0_ n1_ n2_ n3_ n4_ n5_; (try clear hb); (try clear hb2); (try clear hk); (try clear hi)) | (go_at_call 13; (with_reducible refine (abbr_Right.calls (⟨#[]⟩ : ByteArray) t133 _ A88.out).mono ?_); rintro e w107 ⟨rfl, hb⟩; have n0_ := Aside0.mk (Kd.R_below (by (with_reducible repeat (first | apply Kd.R_alloc | apply Kd.R_drewN | apply Kd.R_drew)); exact HO105.out) hb); have n1_ := Aside0.mk (Kd.R_below (by (with_reducible repeat (first | apply Kd.R_alloc | apply Kd.R_drewN | apply Kd.R_drew)); exact HO110.out) hb); have n2_ := Aside0.mk (Kd.R_below (by (with_reducible repeat (first | apply Kd.R_alloc | apply Kd.R_drewN | apply Kd.R_drew)); exact HO113.out) hb); have n3_ := Aside0.mk (Kd.R_below (by (with_reducible repeat (first | apply Kd.R_alloc | apply Kd.R_drewN | apply Kd.R_drew)); exact HO118.out) hb); have n4_ := Aside0.mk (Kd.R_below (by (with_reducible repeat (first | apply Kd.R_alloc | apply Kd.R_drewN | apply Kd.R_drew)); exact HO129.out) hb); have n5_ := Aside0.mk (below_step (by repeat (first | (with_reducible first | exact HB.out | apply below_alloc | apply pw_below_drewN | apply below_drew1) | exact HB.out)) hb); clear HO105; clear HO110; clear HO113; clear HO118; clear HO129; clear HB; have HO105 := n0_; have HO110 := n1_; have HO113 := n2_; have HO118 := n3_; have HO129 := n4_; have HB := n5_; clear n0_ n1_ n2_ n3_ n4_ n5_; (try clear hb); (try clear hb2); (try clear hk); (try clear hi)))
                          go_ret
                          exact ⟨by first | rfl | (simp [errW_none, errW_some] <;> rfl) | (simp [*, errW_none, errW_some] <;> rfl), by repeat (first | (with_reducible first | exact HB.out | apply below_alloc | apply pw_below_drewN | apply below_drew1) | exact HB.out)⟩
                      · replace c67 := Bool.eq_false_iff.mpr c67
                        subst c67
                        have H1 : (some false) = some r := by rw [if_neg (show ¬ (false = true) by decide)] at H; exact H
                        clear H
                        have H := H1
                        clear H1
                        obtain rfl := Option.some.inj H
                        cases hrt
                  · replace c48 := Bool.eq_false_iff.mpr c48
                    subst c48
                    have H1 : (some false) = some r := by rw [if_neg (show ¬ (false = true) by decide)] at H; exact H
                    clear H
                    have H := H1
                    clear H1
                    obtain rfl := Option.some.inj H
                    cases hrt
                · rw [if_neg c47] at H
                  have c47b0 : (t123.toList == ([77, 84, 88] : List UInt8)) = false := beq_eq_false_iff_ne.mpr c47
                  have c47b1 : (t123.toList != ([77, 84, 88] : List UInt8)) = true := bne_iff_ne.mpr c47
                  obtain rfl := Option.some.inj H
                  cases hrt
            · replace c29 := Bool.eq_false_iff.mpr c29
              subst c29
              have H1 : (some false) = some r := by rw [if_neg (show ¬ (false = true) by decide)] at H; exact H
              clear H
              have H := H1
              clear H1
              obtain rfl := Option.some.inj H
              cases hrt
          · rw [if_neg c28] at H
            have c28b0 : (t119.toList == ([69, 68, 84] : List UInt8)) = false := beq_eq_false_iff_ne.mpr c28
            have c28b1 : (t119.toList != ([69, 68, 84] : List UInt8)) = true := bne_iff_ne.mpr c28
            obtain rfl := Option.some.inj H
            cases hrt
      · replace c10 := Bool.eq_false_iff.mpr c10
        subst c10
        have H1 : (some false) = some r := by rw [if_neg (show ¬ (false = true) by decide)] at H; exact H
        clear H
        have H := H1
        clear H1
        obtain rfl := Option.some.inj H
        cases hrt
    · replace c9 := Bool.eq_false_iff.mpr c9
      subst c9
      have H1 : (some false) = some r := by rw [if_neg (show ¬ (false = true) by decide)] at H; exact H
      clear H
      have H := H1
      clear H1
      obtain rfl := Option.some.inj H
      cases hrt
  · rw [if_neg c7] at H
    have c7b0 : (t106.toList == ([69, 83, 84, 0, 69, 68, 84, 0] : List UInt8)) = false := beq_eq_false_iff_ne.mpr c7
    have c7b1 : (t106.toList != ([69, 83, 84, 0, 69, 68, 84, 0] : List UInt8)) = true := bne_iff_ne.mpr c7
    obtain rfl := Option.some.inj H
    cases hrt
/-- THE ONE PURE STATEMENT of epactlaw14_small: yours. -/
def epactlaw14_small.Pure : Prop := ∃ k, epactlaw14_small.f k  = some true
theorem epactlaw14_small.walk (P : epactlaw14_small.Pure)  (w : World)  :
    Calls Try.prog 7 #[] w fun e w' => e = .returned (.bool true) ∧ Below w.heap.size w w' := by
  obtain ⟨k, h⟩ := P  
  refine (epactlaw14_small.calls k  true w h rfl).mono ?_
  rintro e w' ⟨rfl, hd⟩
  exact ⟨rfl, hd⟩

end Go.Proofs.Ytahknjlhlfooeaa.Psmall
