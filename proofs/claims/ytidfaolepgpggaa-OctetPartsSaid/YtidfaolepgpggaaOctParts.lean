/- OctetParts returns true: bytes that are taken in two pieces are those that are taken in one; no condition but that the bytes lie in memory. -/
import Derived.Test.YtidfaolepgpggaaOctFails
namespace Go.Proofs.Ytidfaolepgpggaa.Oct
open Go.RowKit Go.Proofs.YtidfaolepgpggaaW.PrintWords Go.Proofs.YtidfaolepgpggaaW.PrintLast Go.Proofs.YtidfaolepgpggaaW.PrintMore

theorem take_at {B N : Nat} {W : World} {g : Nat} {l : List Int} {bad : Bool} {n : Int} {r l2 : List Int} {b2 : Bool} (hn : takeS l bad n = (r, l2, b2)) (h : Rd 43 B N W g l bad) (hl : l.length ≤ 140737488355328) :
    Calls Try.prog 16 #[.pointer (some ⟨g, 0, none⟩), .int .i64 n] W fun e w' => ∃ A1 c1, e = .returned (.slice A1 r.length c1) ∧ Kd.C (Kd.int .u8) w' A1 r.length r ∧ (∀ ad, A1 = some ad → W.heap.size ≤ ad.block ∧ ad.block < w'.heap.size) ∧ Rd 43 B N w' g l2 b2 ∧ W.grownBy w' (some g) :=
  (take_calls B N W g l bad n h hl).mono fun e w' ⟨v, he, hv, hr, hg⟩ => by
    rw [hn] at hv hr
    obtain ⟨A1, c1, rfl, hc, hr1⟩ := Kd.R_reads hv
    refine ⟨A1, c1, he, hr1, fun ad e => ?_, hr, hg⟩
    subst e
    have h := (Kd.R_bound hv).1 ad.block (by simp [Value.ownBlock])
    exact ⟨h.2.1, h.2.2.1⟩
theorem C_keep {w w' : World} {A : Option Addr} {n g : Nat} {l : List Int} (h : Kd.C (Kd.int .u8) w A n l) (hg : w.grownBy w' (some g)) (ha : ∀ ad, A = some ad → g < ad.block ∧ ad.block < w.heap.size) : Kd.C (Kd.int .u8) w' A n l :=
  C_same h (fun ad e => hg.block _ (ha ad e).2 (by intro he; injection he with he; have := (ha ad e).1; omega))
theorem strOfNums_append (a b : List Int) : strOfNums (a ++ b) = strOfNums a ++ strOfNums b := by
  apply ByteArray.ext
  simp [strOfNums]
theorem strOfNums_size (a : List Int) : (strOfNums a).size = a.length := by simp [strOfNums, ByteArray.size]
set_option maxHeartbeats 4000000 in
set_option maxRecDepth 100000 in
theorem parts_walk (A : Option Addr) (c : Nat) (l : List Int) (i k : Int) (w : World) (hr : Kd.C (Kd.int .u8) w A l.length l) (hc : l.length ≤ c) :
    Calls Try.prog 8 #[.slice A l.length c, .int .i64 i, .int .i64 k] w fun e w' => e = .returned (.bool true) ∧ Below w.heap.size w w' := by
  have HR := Aside0.mk hr
  have HC := Aside0.mk hc
  have hmx : l.length ≤ 9223372036854775807 := Kd.C_max hr
  clear hr hc
  by_cases hlen : l.length > 300
  · go_enter Try.func8, Try.ntmps8
    go_wp2_with fail
    refine (small_calls w).mono ?_
    rintro e w1 ⟨rfl, hb1⟩
    have HB1 := Aside0.mk hb1
    clear hb1
    go_wp2
    go_ret
    exact ⟨rfl, HB1.out⟩
  by_cases hi0 : i < 0
  · go_enter Try.func8, Try.ntmps8
    go_wp2_with fail
    refine (small_calls w).mono ?_
    rintro e w1 ⟨rfl, hb1⟩
    have HB1 := Aside0.mk hb1
    clear hb1
    go_wp2
    go_ret
    exact ⟨rfl, HB1.out⟩
  by_cases hk0 : k < 0
  · go_enter Try.func8, Try.ntmps8
    go_wp2_with fail
    refine (small_calls w).mono ?_
    rintro e w1 ⟨rfl, hb1⟩
    have HB1 := Aside0.mk hb1
    clear hb1
    go_wp2
    go_ret
    exact ⟨rfl, HB1.out⟩
  by_cases hil : (l.length : Int) < i
  · go_enter Try.func8, Try.ntmps8
    go_wp2_with fail
    refine (small_calls w).mono ?_
    rintro e w1 ⟨rfl, hb1⟩
    have HB1 := Aside0.mk hb1
    clear hb1
    go_wp2
    go_ret
    exact ⟨rfl, HB1.out⟩
  by_cases hkl : (l.length : Int) - i < k
  · go_enter Try.func8, Try.ntmps8
    go_wp2_with fail
    refine (small_calls w).mono ?_
    rintro e w1 ⟨rfl, hb1⟩
    have HB1 := Aside0.mk hb1
    clear hb1
    go_wp2
    go_ret
    exact ⟨rfl, HB1.out⟩
  have hi1 : i ≤ 300 := by omega
  have hk1 : k ≤ 300 := by omega
  obtain ⟨x, y, l1, l2, t1, t2, t3, hx, hy, h2⟩ : ∃ x y l1 l2, takeS l false i = (x, l1, false) ∧ takeS l1 false k = (y, l2, false) ∧ takeS l false (i + k) = (x ++ y, l2, false) ∧ x.length ≤ 300 ∧ y.length ≤ 300 ∧ (l2.length : Int) = l.length - i - k := by
    refine ⟨l.take i.toNat, (l.drop i.toNat).take k.toNat, l.drop i.toNat, (l.drop i.toNat).drop k.toNat, if_neg (by simp; omega), if_neg (by simp; omega), ?_, ?_, ?_, ?_⟩
    · rw [← List.take_add, List.drop_drop, ← Int.toNat_add (by omega) (by omega)]
      exact if_neg (by simp; omega)
    · rw [List.length_take]; omega
    · rw [List.length_take, List.length_drop]; omega
    · rw [List.length_drop, List.length_drop]; omega
  have T1 := Aside0.mk t1
  have T2 := Aside0.mk t2
  have T3 := Aside0.mk t3
  have HX := Aside0.mk hx
  have HY := Aside0.mk hy
  have hq : ((l2.length : Int) == (l.length : Int) - i - k) = true := beq_iff_eq.2 h2
  have hll : l1.length ≤ 140737488355328 := by
    by_cases h : l1.length ≤ l.length
    · omega
    · exfalso; apply h
      have e : takeS l false i = (l.take i.toNat, l.drop i.toNat, false) := if_neg (by simp; omega)
      rw [e] at t1
      have := congrArg (fun z => z.2.1.length) t1
      simp at this; omega
  have HLL := Aside0.mk hll
  clear t1 t2 t3 hx hy h2 hll
  go_enter Try.func8, Try.ntmps8
  go_wp2_with fail
  refine (small_calls w).mono ?_
  rintro e w1 ⟨rfl, hb1⟩
  have HB1 := Aside0.mk hb1
  clear hb1
  go_wp2_with fail
  refine (open_calls A c l w1 (Kd.C_below HR.out HB1.out) (by omega)).mono ?_
  rintro e w2 ⟨g, rfl, hrd, hb2⟩
  have HD2 := Aside0.mk hrd
  have HB2 := Aside0.mk hb2
  clear hrd hb2
  go_wp2_with fail
  refine (open_calls A c l w2 (Kd.C_below HR.out (below_step HB1.out HB2.out)) (by omega)).mono ?_
  rintro e w3 ⟨g', rfl, hrd, hb3⟩
  have HE3 := Aside0.mk hrd
  have HD3 := Aside0.mk (HD2.out.below hb3)
  have HB3 := Aside0.mk (below_step HB2.out hb3)
  have HG : Aside0 (w1.heap.size ≤ g ∧ g < w2.heap.size ∧ w2.heap.size ≤ g' ∧ g' < w3.heap.size) := ⟨HD2.out.size.1, HD2.out.size.2.1, hrd.size.1, hrd.size.2.1⟩
  clear hrd hb3
  go_wp2_with fail
  refine (take_at T1.out HD3.out (by omega)).mono ?_
  rintro e w4 ⟨A1, c1, rfl, hr1, ha1, hrd, hg4⟩
  have HD4 := Aside0.mk hrd
  have HE4 := Aside0.mk (HE3.out.grown hg4 (fun k e => by injection e with e; have := HG.out; omega))
  have HB4 := Aside0.mk (pw_below_grown HB3.out (some g) HB3.out.size hg4 (fun k e => by injection e with e; have := HG.out; omega))
  have HX4 := Aside0.mk hr1
  have HA4 := Aside0.mk ha1
  have G4 := Aside0.mk hg4.size
  clear hrd hg4 hr1 ha1
  go_wp2_with fail
  refine (take_at T2.out HD4.out HLL.out).mono ?_
  rintro e w5 ⟨A2, c2, rfl, hr2, ha2, hrd, hg5⟩
  have HD5 := Aside0.mk hrd
  have HE5 := Aside0.mk (HE4.out.grown hg5 (fun k e => by injection e with e; have := HG.out; omega))
  have HB5 := Aside0.mk (pw_below_grown HB4.out (some g) HB4.out.size hg5 (fun k e => by injection e with e; have := HG.out; omega))
  have HX5 := Aside0.mk (C_keep HX4.out hg5 (fun ad e => by have h1 := HA4.out ad e; have h2 := HG.out; have h3 := G4.out; omega))
  have HY5 := Aside0.mk hr2
  have HA5 := Aside0.mk ha2
  have G5 := Aside0.mk hg5.size
  clear hrd hg5 hr2 ha2
  go_wp2_with fail
  refine (take_at T3.out HE5.out (by omega)).mono ?_
  rintro e w6 ⟨A3, c3, rfl, hr3, ha3, hrd, hg6⟩
  have HE6 := Aside0.mk hrd
  have HD6 := Aside0.mk (HD5.out.grown hg6 (fun k e => by injection e with e; have := HG.out; omega))
  have HB6 := Aside0.mk (pw_below_grown HB5.out (some g') HB5.out.size hg6 (fun k e => by injection e with e; have := HG.out; omega))
  have HX6 := Aside0.mk (C_keep HX5.out hg6 (fun ad e => by have h1 := HA4.out ad e; have h2 := HG.out; have h3 := G4.out; have h4 := G5.out; omega))
  have HY6 := Aside0.mk (C_keep HY5.out hg6 (fun ad e => by have h1 := HA5.out ad e; have h2 := HG.out; have h3 := G4.out; have h4 := G5.out; omega))
  have HB := Aside0.mk (below_step HB1.out HB6.out)
  have hs1 := str_of (c := c1) HX6.out rfl
  have hs2 := str_of (c := c2) HY6.out rfl
  have hs3 := str_of (c := c3) hr3 (strOfNums_append x y)
  rw [List.length_append] at hs3
  have hz1 : (strOfNums x).size ≤ 300 := by rw [strOfNums_size]; exact HX.out
  have hz2 : (strOfNums y).size ≤ 300 := by rw [strOfNums_size]; exact HY.out
  generalize strOfNums x = sx at *
  generalize strOfNums y = sy at *
  clear hrd hg6 hr3 ha3 HX4 HX5 HY5 HX6 HY6 HA4 HA5 G4 G5 HD2 HD3 HD4 HD5 HE3 HE4 HE5 HB1 HB2 HB3 HB4 HB5 HB6
  go_wp2_with fail
  refine (left_calls _ _ _ _ _ _ HD6.out).mono ?_
  rintro e w' ⟨rfl, rfl⟩
  go_wp2_with fail
  refine (left_calls _ _ _ _ _ _ HE6.out).mono ?_
  rintro e w' ⟨rfl, rfl⟩
  go_wp2_with fail
  refine (ok_calls _ _ _ _ _ _ HD6.out).mono ?_
  rintro e w' ⟨rfl, rfl⟩
  go_wp2_with fail
  refine (ok_calls _ _ _ _ _ _ HE6.out).mono ?_
  rintro e w' ⟨rfl, rfl⟩
  go_wp2_with fail
  refine (left_calls _ _ _ _ _ _ HD6.out).mono ?_
  rintro e w' ⟨rfl, rfl⟩
  go_wp2
  go_ret
  exact ⟨rfl, HB.out⟩
end Go.Proofs.Ytidfaolepgpggaa.Oct
