/- The small case of chapter 13 comes out right; no condition. -/
import Derived.Test.YtidfaolepgpggaaOctE
import Derived.Test.YtidfaolepgpggaaOctH
import Derived.Deep.QuietTactic
import Derived.BigQuiet
import Derived.Lib.SlBytesConst
namespace Go.Proofs.Ytidfaolepgpggaa.Oct
open Go.RowKit Go.Proofs.YtidfaolepgpggaaW.PrintWords Go.Proofs.YtidfaolepgpggaaW.PrintLast Go.Proofs.YtidfaolepgpggaaW.PrintMore

theorem put_is {A : Option Addr} {c : Nat} {l : List Int} {n size : Int} {w : World} {r : List Int} {b : Bool} (hp : putS l n size = (r, b)) (hr : Kd.C (Kd.int .u8) w A l.length l) (hl : l.length ≤ 140737488355320) :
    Calls Try.prog 10 #[.slice A l.length c, .int .i64 n, .int .i64 size] w fun e w' => ∃ A1 c1, e = .returned (.tuple #[.slice A1 r.length c1, .bool b]) ∧ r.length ≤ c1 ∧ Kd.C (Kd.int .u8) w' A1 r.length r ∧ Below w.heap.size w w' :=
  (put_calls A c l n size w hr hl).mono fun e w' ⟨v, he, hv, hb⟩ => by
    rw [hp] at he hv
    obtain ⟨A1, c1, rfl, hc, hr⟩ := Kd.R_reads hv
    exact ⟨A1, c1, he, hc, hr, hb⟩
theorem num_is {B N : Nat} {W : World} {g : Nat} {l : List Int} {bad : Bool} {size m : Int} {l2 : List Int} {b2 : Bool} (hn : numS l bad size = (m, l2, b2)) (h : Rd 43 B N W g l bad) (hl : l.length ≤ 140737488355328) :
    Calls Try.prog 14 #[.pointer (some ⟨g, 0, none⟩), .int .i64 size] W fun e w' => e = .returned (.int .i64 m) ∧ Rd 43 B N w' g l2 b2 ∧ W.grownBy w' (some g) :=
  (num_calls B N W g l bad size h hl).mono fun e w' ⟨he, hr, hg⟩ => by
    rw [hn] at he hr
    exact ⟨he, hr, hg⟩
theorem str_of {W : World} {A : Option Addr} {c : Nat} {l : List Int} {s : ByteArray} (h : Kd.C (Kd.int .u8) W A l.length l) (hs : strOfNums l = s) : (convert 22 9 (.slice A l.length c)).run Try.prog W = .ok (.string s) W := by
  rw [← hs]; exact Kd.C_string Try.underlying22 Try.underlying5 Try.underlying9 h

theorem C_lit (W : World) (l : List Int) (e : TypeId) (fr : Nat × Nat) (hl : l.length ≤ 9223372036854775807) : Kd.C (Kd.int .u8) (W.alloc (.cells (l.map (Value.int .u8)).toArray e fr)) (some ⟨W.heap.size, 0, none⟩) l.length l := by
  refine ⟨rfl, hl, fun _ => ⟨_, rfl, fun j p hj => ⟨[.int .u8 p], rfl, rfl, fun i u hu => ?_⟩⟩⟩
  cases i with
  | succ i => simp at hu
  | zero =>
    simp at hu
    subst hu
    have h := cell_of_row (W.alloc (.cells (l.map (Value.int .u8)).toArray e fr)) W.heap.size j _ e fr (heap_alloc_new W _)
    have e1 : j * (Kd.int .u8).sz + 0 = j := by simp [Kd.int, Kd.scalar]
    rw [e1, add_plain, h]
    simp [hj]
theorem str_q {W : World} {A : Option Addr} {c : Nat} {l : List Int} {s : ByteArray} (h : Kd.C (Kd.int .u8) W A l.length l) (hs : strOfNums l = s) : ∀ nq, (convert 22 9 (.slice A l.length c)).run Try.prog (W.drewN nq) = .ok (.string s) (W.drewN nq) := fun nq => str_of (Kd.C_drewN h nq) hs
theorem p1 : putS [120] (-2) 4 = ([120, 255, 255, 255, 254], true) := by decide +kernel
theorem p2 : putS [] (-9223372036854775808) 8 = ([128, 0, 0, 0, 0, 0, 0, 0], true) := by decide +kernel
theorem p3 : putS [120] 256 1 = ([120], false) := by decide +kernel
theorem p4 : putS [] 2147483648 4 = ([], false) := by decide +kernel
theorem p5 : putS [] 1 2 = ([], false) := by decide +kernel
theorem n1 : numS [255, 255, 255, 254, 9, 1, 2] false 4 = (-2, [9, 1, 2], false) := by decide +kernel
theorem n2 : numS [9, 1, 2] false 1 = (9, [1, 2], false) := by decide +kernel
theorem n3 : numS [1, 2] false 4 = (0, [], true) := by decide +kernel
set_option maxHeartbeats 4000000 in
set_option maxRecDepth 100000 in
theorem small_calls (w : World) : Calls Try.prog 9 #[] w fun e w' => e = .returned (.bool true) ∧ Below w.heap.size w w' := by
  have kc := fun (w : World) (C : Array Value) (n c : Nat) => Lib.run_convert_bytes_const (P := Try.prog) w 22 5 C n c Try.underlying22 Try.underlying5
  go_enter Try.func9, Try.ntmps9
  go_wp2_with fail
  refine (put_is p1 (C_lit w [120] 5 (1, 2) (by simp)) (by simp)).mono ?_
  rintro e W1 ⟨A1, c1, rfl, _, hr1, hb1⟩
  have HR1 := Aside0.mk hr1
  have T1 := Aside0.mk (below_step (below_alloc (Below.refl _ _) _) hb1)
  clear hr1 hb1
  go_wp2_with fail
  refine (put_is p2 (Kd.C_nil _ _) (by simp)).mono ?_
  rintro e W2 ⟨A2, c2, rfl, _, hr2, hb2⟩
  have HR2 := Aside0.mk hr2
  have T2 := Aside0.mk hb2
  clear hr2 hb2
  go_wp2_with fail
  refine (put_is p3 (C_lit W2 [120] 5 (1, 2) (by simp)) (by simp)).mono ?_
  rintro e W3 ⟨A3, c3, rfl, _, hr3, hb3⟩
  have HR3 := Aside0.mk hr3
  have T3 := Aside0.mk (below_step (below_alloc (Below.refl _ _) _) hb3)
  clear hr3 hb3
  go_wp2_with fail
  refine (put_is p4 (Kd.C_nil _ _) (by simp)).mono ?_
  rintro e W4 ⟨A4, c4, rfl, _, _, hb4⟩
  have T4 := Aside0.mk hb4
  clear hb4
  go_wp2_with fail
  refine (put_is p5 (Kd.C_nil _ _) (by simp)).mono ?_
  rintro e W5 ⟨A5, c5, rfl, _, _, hb5⟩
  have T5 := Aside0.mk hb5
  clear hb5
  go_wp2_with fail
  refine (open_calls _ _ [255, 255, 255, 254, 9, 1, 2] _ (C_lit W5 [255, 255, 255, 254, 9, 1, 2] 5 (0, 0) (by simp)) (by simp)).mono ?_
  rintro e W6 ⟨g, rfl, hrd, hb6⟩
  have HD6 := Aside0.mk hrd
  have T6 := Aside0.mk hb6
  have HG := Aside0.mk (hrd.size).1
  clear hb6 hrd
  go_wp2_with fail
  refine (num_is n1 HD6.out (by simp)).mono ?_
  rintro e W7 ⟨rfl, hrd, hg7⟩
  have HD7 := Aside0.mk hrd
  have T7 := Aside0.mk (pw_below_grown T6.out (some g) T6.out.size hg7 (fun k e => by injection e with e; rw [← e]; exact HG.out))
  clear hrd hg7
  go_wp2_with fail
  refine (num_is n2 HD7.out (by simp)).mono ?_
  rintro e W8 ⟨rfl, hrd, hg8⟩
  have HD8 := Aside0.mk hrd
  have T8 := Aside0.mk (pw_below_grown T7.out (some g) T7.out.size hg8 (fun k e => by injection e with e; rw [← e]; exact HG.out))
  clear hrd hg8
  go_wp2_with fail
  refine (left_calls _ _ _ _ _ _ HD8.out).mono ?_
  rintro e W9 ⟨rfl, rfl⟩
  go_wp2_with fail
  refine (num_is n3 HD8.out (by simp)).mono ?_
  rintro e W9 ⟨rfl, hrd, hg9⟩
  have HD9 := Aside0.mk hrd
  have T9 := Aside0.mk (pw_below_grown T8.out (some g) T8.out.size hg9 (fun k e => by injection e with e; rw [← e]; exact HG.out))
  clear hrd hg9
  have S5 : Aside0 (Below W5.heap.size W5 W9) := ⟨below_step (below_alloc (Below.refl _ _) _) T9.out⟩
  have S3 : Aside0 (Below W3.heap.size W3 W9) := ⟨below_step T4.out (below_step T5.out S5.out)⟩
  have S2 : Aside0 (Below W2.heap.size W2 W9) := ⟨below_step T3.out S3.out⟩
  have S1 : Aside0 (Below W1.heap.size W1 W9) := ⟨below_step T2.out S2.out⟩
  have S0 : Aside0 (Below w.heap.size w W9) := ⟨below_step T1.out S1.out⟩
  have hs1 : (convert 22 9 (.slice A1 5 c1)).run Try.prog W9 = .ok (.string ⟨#[120, 255, 255, 255, 254]⟩) W9 := str_of (Kd.C_below HR1.out S1.out) (by decide +kernel)
  have hs2 : (convert 22 9 (.slice A2 8 c2)).run Try.prog W9 = .ok (.string ⟨#[128, 0, 0, 0, 0, 0, 0, 0]⟩) W9 := str_of (Kd.C_below HR2.out S2.out) (by decide +kernel)
  have hs3 : (convert 22 9 (.slice A3 1 c3)).run Try.prog W9 = .ok (.string ⟨#[120]⟩) W9 := str_of (Kd.C_below HR3.out S3.out) (by decide +kernel)
  clear kc HR1 HR2 HR3 T1 T2 T3 T4 T5 T6 T7 T8 T9 S1 S2 S3 S5 HD6 HD7 HD8
  go_wp2_with (first | (go_at_call 18; refine (left_calls _ _ _ _ _ _ HD9.out).mono ?_; rintro e w' ⟨rfl, rfl⟩) | (go_at_call 20; refine (ok_calls _ _ _ _ _ _ HD9.out).mono ?_; rintro e w' ⟨rfl, rfl⟩))
  go_ret
  exact ⟨rfl, S0.out⟩
end Go.Proofs.Ytidfaolepgpggaa.Oct
