/- ntp's small case comes out right: the walk; no condition. -/
import Derived.Test.YtncbhlionllpmaaNtE
import Derived.Test.YtncbhlionllpmaaPNPosx1
import Derived.Test.YtncbhlionllpmaaPNNtpx1
namespace Go.Proofs.Ytncbhlionllpmaa.Nt
open Go.RowKit Go.Proofs.YtncbhlionllpmaaW.PrintWords Go.Proofs.YtncbhlionllpmaaW.PrintLast Go.Proofs.YtncbhlionllpmaaW.PrintMore Ln

def S1 : ByteArray := ⟨#[48, 48, 97, 70]⟩
def S2 : ByteArray := ⟨#[49, 50, 51, 52, 53, 54, 55, 56, 57]⟩
def S3 : ByteArray := ⟨#[49, 103]⟩
def S4 : ByteArray := ⟨#[32, 49, 32, 50, 9, 51, 32, 52, 32, 102, 102, 102, 102, 102, 102, 102, 102, 32]⟩
def S5 : ByteArray := ⟨#[49, 32, 50, 32, 51, 32, 52]⟩
def H4 : List Int := [1, 2, 3, 4, 4294967295]
theorem s1_is : wordN S1 = (175, true) := by decide +kernel
theorem s2_is : wordN S2 = (0, false) := by decide +kernel
theorem s3_is : wordN S3 = (0, false) := by decide +kernel
theorem s4_is : hashN S4 = (H4, true) := by decide +kernel
theorem s5_is : hashN S5 = (zeros5, false) := by decide +kernel
def T4 : ByteArray := ⟨#[48, 48, 48, 48, 48, 48, 48, 49, 32, 48, 48, 48, 48, 48, 48, 48, 50, 32, 48, 48, 48, 48, 48, 48, 48, 51, 32, 48, 48, 48, 48, 48, 48, 48, 52, 32, 102, 102, 102, 102, 102, 102, 102, 102]⟩
theorem t4_is : textN H4 = T4 := by decide +kernel
theorem wordC1 (W : World) : Calls Try.prog 13 #[.string ⟨#[48, 48, 97, 70]⟩] W fun e w' => e = .returned (.tuple #[.int .u32 175, .bool true]) ∧ Below W.heap.size W w' := by
  have h := word_calls S1 W
  rw [s1_is] at h
  exact h
theorem wordC2 (W : World) : Calls Try.prog 13 #[.string ⟨#[49, 50, 51, 52, 53, 54, 55, 56, 57]⟩] W fun e w' => e = .returned (.tuple #[.int .u32 0, .bool false]) ∧ Below W.heap.size W w' := by
  have h := word_calls S2 W
  rw [s2_is] at h
  exact h
theorem wordC3 (W : World) : Calls Try.prog 13 #[.string ⟨#[49, 103]⟩] W fun e w' => e = .returned (.tuple #[.int .u32 0, .bool false]) ∧ Below W.heap.size W w' := by
  have h := word_calls S3 W
  rw [s3_is] at h
  exact h
theorem hashC4 (W : World) : Calls Try.prog 15 #[.string ⟨#[32, 49, 32, 50, 9, 51, 32, 52, 32, 102, 102, 102, 102, 102, 102, 102, 102, 32]⟩] W fun e w' => e = .returned (.tuple #[.agg (arrC .u32 H4), .bool true]) ∧ Below W.heap.size W w' := by
  have h := hash_calls S4 W (by decide)
  rw [s4_is] at h
  exact h
theorem hashC5 (W : World) : Calls Try.prog 15 #[.string ⟨#[49, 32, 50, 32, 51, 32, 52]⟩] W fun e w' => e = .returned (.tuple #[.agg (arrC .u32 zeros5), .bool false]) ∧ Below W.heap.size W w' := by
  have h := hash_calls S5 W (by decide)
  rw [s5_is] at h
  exact h
theorem textC4 (W : World) : Calls Try.prog 17 #[.agg #[.int .u32 1, .int .u32 2, .int .u32 3, .int .u32 4, .int .u32 4294967295]] W fun e w' => e = .returned (.string ⟨#[48, 48, 48, 48, 48, 48, 48, 49, 32, 48, 48, 48, 48, 48, 48, 48, 50, 32, 48, 48, 48, 48, 48, 48, 48, 51, 32, 48, 48, 48, 48, 48, 48, 48, 52, 32, 102, 102, 102, 102, 102, 102, 102, 102]⟩) ∧ Below W.heap.size W w' := by
  have h := text_calls H4 W rfl (by decide)
  rw [t4_is] at h
  exact h
theorem eq5_same (a b c d e : Int) (w : World) : (Op.equalIn 10000 23 (.agg #[.int .u32 a, .int .u32 b, .int .u32 c, .int .u32 d, .int .u32 e]) (.agg #[.int .u32 a, .int .u32 b, .int .u32 c, .int .u32 d, .int .u32 e])).run Try.prog w = .ok true w := by
  have u3 := Try.underlying22
  have a3 := Try.isAgg22
  have z3 := Try.sizeOf22
  rw [show (10000 : Nat) = 9999 + 1 from rfl, Op.equalIn]
  simp only [Sem.run_bind, run_underlying Try.underlying23, Result.andThen_ok]
  simp only [Std.Legacy.Range.forIn_eq_forIn_range', Std.Legacy.Range.size, Nat.sub_zero, Nat.add_sub_cancel, Nat.div_one, List.range'_succ, List.range'_zero, List.forIn_cons, List.forIn_nil]
  go_simp
set_option maxHeartbeats 1000000 in
set_option maxRecDepth 100000 in
theorem small_calls (w : World) :
    Calls Try.prog 8 #[] w fun e w' => e = .returned (.bool true) ∧ Below w.heap.size w w' := by
  go_enter Try.func8, Try.ntmps8
  go_wp2_with fail
  refine (PNPos.ntp_Posix.calls 2272060800 63072000 true _ (by decide +kernel)).mono ?_
  rintro e w1 ⟨rfl, ⟨n1, rfl⟩⟩
  go_wp2_with fail
  refine (PNPos.ntp_Posix.calls (-1) 0 false _ (by decide +kernel)).mono ?_
  rintro e w1 ⟨rfl, ⟨n2, rfl⟩⟩
  go_wp2_with fail
  refine (PNNtp.ntp_Ntp.calls 0 2208988800 true _ (by decide +kernel)).mono ?_
  rintro e w1 ⟨rfl, ⟨n3, rfl⟩⟩
  go_wp2_with fail
  refine (PNNtp.ntp_Ntp.calls 9223372036854775807 0 false _ (by decide +kernel)).mono ?_
  rintro e w1 ⟨rfl, ⟨n4, rfl⟩⟩
  go_wp2_with fail
  refine (wordC1 _).mono ?_
  rintro e w1 ⟨rfl, hb1⟩
  have HB1 : Aside0 (Below w.heap.size w w1) := ⟨below_step (by repeat (first | exact Below.refl _ _ | apply pw_below_drewN)) hb1⟩
  clear hb1
  go_wp2_with fail
  refine (wordC2 _).mono ?_
  rintro e w2 ⟨rfl, hb2⟩
  have HB2 := Aside0.mk (below_step HB1.out hb2)
  clear hb2 HB1
  go_wp2_with fail
  refine (wordC3 _).mono ?_
  rintro e w3 ⟨rfl, hb3⟩
  have HB3 := Aside0.mk (below_step HB2.out hb3)
  clear hb3 HB2
  go_wp2_with fail
  refine (hashC4 _).mono ?_
  rintro e w4 ⟨rfl, hb4⟩
  have HB4 := Aside0.mk (below_step HB3.out hb4)
  clear hb4 HB3
  go_wp2_with (first
    | ((with_reducible refine gate_dst (N := 15) rfl ?_); refine box_event ?hg (N := 15) ?hd (cs := arrC .u32 zeros5) (t := 23) ?hr ?_; (case hd => rfl); (case hg => rfl); (case hr => first | (go_simp; done) | (go_simp; rfl)); intro g hgW w5 hbox hb5; have HB5 := Aside0.mk (below_step HB4.out hb5); have BK5 := Aside0.mk hbox; have HG5 : Aside0 (w.heap.size ≤ g) := ⟨by rw [hgW]; exact below_size HB4.out⟩; clear hb5 hbox hgW HB4)
    | ((with_reducible refine gate_store (t := 23) (p := 15) (v := .tmp 49) rfl ?_); refine storeAll_event ?hg ?hd rfl rfl rfl BK5.out ?hi rfl (arrC_one _ _) ?_; (case hd => rfl); (case hg => rfl); (case hi => rfl)))
  have BK6 := Aside0.mk (setRow_heap _ _ _ (arrC .u32 H4) _ _ BK5.out)
  have HB6 := Aside0.mk (below_setRow HB5.out HG5.out (arrC .u32 H4))
  clear BK5 HB5
  generalize w5.setRow g (arrC .u32 H4) = w6 at *
  refine (hashC5 _).mono ?_
  rintro e w7 ⟨rfl, hb7⟩
  have HB7 := Aside0.mk (below_step HB6.out hb7)
  have BK7 := Aside0.mk (blk_below BK6.out hb7)
  clear hb7 HB6 BK6
  go_wp2_with (first
    | ((with_reducible refine gate_dst (N := 17) rfl ?_); refine box_event ?hg (N := 17) ?hd (cs := arrC .u32 zeros5) (t := 23) ?hr ?_; (case hd => rfl); (case hg => rfl); (case hr => first | (go_simp; done) | (go_simp; rfl)); intro g2 hgW w8 hbox hb8; have HB8 := Aside0.mk (below_step HB7.out hb8); have BK8 := Aside0.mk (blk_below BK7.out hb8); have BQ8 := Aside0.mk hbox; have HG8 : Aside0 (w.heap.size ≤ g2) := ⟨by rw [hgW]; exact below_size HB7.out⟩; have HNE : Aside0 (g ≠ g2) := ⟨by have := blk_lt BK7.out; omega⟩; clear hb8 hbox hgW HB7 BK7)
    | ((with_reducible refine gate_store (t := 23) (p := 17) (v := .tmp 53) rfl ?_); refine storeAll_event ?hg ?hd rfl rfl rfl BQ8.out ?hi rfl (arrC_one _ _) ?_; (case hd => rfl); (case hg => rfl); (case hi => rfl); have BK9 := Aside0.mk ((setRow_other w8 g2 g (arrC .u32 zeros5) HNE.out).trans BK8.out); have HB9 := Aside0.mk (below_setRow HB8.out HG8.out (arrC .u32 zeros5)); clear BK8 HB8 BQ8; generalize w8.setRow g2 (arrC .u32 zeros5) = w9 at *; have c0 : w9.cell? ⟨g, 0, none⟩ = some (.int .u32 1) := (blk_cell BK9.out 0).trans rfl; have c1 : w9.cell? ⟨g, 1, none⟩ = some (.int .u32 2) := (blk_cell BK9.out 1).trans rfl; have c2 : w9.cell? ⟨g, 2, none⟩ = some (.int .u32 3) := (blk_cell BK9.out 2).trans rfl; have c3 : w9.cell? ⟨g, 3, none⟩ = some (.int .u32 4) := (blk_cell BK9.out 3).trans rfl; have c4 : w9.cell? ⟨g, 4, none⟩ = some (.int .u32 4294967295) := (blk_cell BK9.out 4).trans rfl; have heq := eq5_same 1 2 3 4 4294967295))
  refine (textC4 w9).mono ?_
  rintro e w10 ⟨rfl, hb10⟩
  have HB10 := Aside0.mk (below_step HB9.out hb10)
  clear hb10 c0 c1 c2 c3 c4 heq BK9
  go_wp2
  go_ret
  exact ⟨rfl, HB10.out⟩
end Go.Proofs.Ytncbhlionllpmaa.Nt
