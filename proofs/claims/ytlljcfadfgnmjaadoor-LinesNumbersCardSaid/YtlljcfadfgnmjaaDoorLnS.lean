/- The small cases of chapter 05 come out right: the walk; condition: internal/bytealg.MaxLen holds some number. -/
import Derived.Test.YtlljcfadfgnmjaaDoorLnF
import Derived.Test.YtlljcfadfgnmjaaDoorPSamex1
import Derived.StillTailTactics
namespace Go.Proofs.YtlljcfadfgnmjaaDoor.Ln
open Go.RowKit Go.Proofs.YtlljcfadfgnmjaaDoorW.PrintWords Go.Proofs.YtlljcfadfgnmjaaDoorW.PrintLast Go.Proofs.YtlljcfadfgnmjaaDoorW.PrintMore

theorem lit_C (w : World) (xs : List ByteArray) (cells : Array Value) (n : Nat) (hn : xs.length = n) (hc : (xs.map Value.string).toArray = cells) (hm : n ≤ 9223372036854775807) : Kd.C Kd.string (w.alloc (.cells cells 9)) (some ⟨w.heap.size, 0, none⟩) n xs := by
  subst hn hc
  have h := own_lit_of (enc := Value.string) w w.heap.size 9 xs (Nat.le_refl _) hm
  exact (Kd.R_reads' (Kd.R_of_own (ok := fun _ => True) h (fun _ _ => trivial))).2.2
set_option maxHeartbeats 4000000 in
set_option maxRecDepth 100000 in
theorem small_calls (r : Bool) (w : World) (hmax : MaxIs w) (h : (some true : Option Bool) = some r) :
    Calls Tryd.prog 10 #[] w fun e w' => e = .returned (.bool r) ∧ Below w.heap.size w w' := by
  injection h with h
  subst h
  have HB0 : Aside0 (Below w.heap.size w w) := ⟨Below.refl _ _⟩
  go_enter Tryd.func10, Tryd.ntmps10
  go_wp2_with fail
  refine (number_is (⟨#[48, 48, 52, 50]⟩ : ByteArray) 42 true _ (by decide +kernel)).mono ?_
  rintro e w1 ⟨rfl, hb⟩
  have HB1 := Aside0.mk (below_then HB0.out HB0.out.size hb)
  clear hb HB0
  go_wp2_with fail
  refine (number_is (⟨#[]⟩ : ByteArray) 0 false _ (by decide +kernel)).mono ?_
  rintro e w2 ⟨rfl, hb⟩
  have HB2 := Aside0.mk (below_then HB1.out HB1.out.size hb)
  clear hb HB1
  go_wp2_with fail
  refine (number_is (⟨#[57, 50, 50, 51, 51, 55, 50, 48, 51, 54, 56, 53, 52, 55, 55, 53, 56, 48, 56]⟩ : ByteArray) 0 false _ (by decide +kernel)).mono ?_
  rintro e w3 ⟨rfl, hb⟩
  have HB3 := Aside0.mk (below_then HB2.out HB2.out.size hb)
  clear hb HB2
  go_wp2_with fail
  refine (number_is (⟨#[57, 50, 50, 51, 51, 55, 50, 48, 51, 54, 56, 53, 52, 55, 55, 53, 56, 48, 55]⟩ : ByteArray) 9223372036854775807 true _ (by decide +kernel)).mono ?_
  rintro e w4 ⟨rfl, hb⟩
  have HB4 := Aside0.mk (below_then HB3.out HB3.out.size hb)
  clear hb HB3
  go_wp2_with fail
  refine (cut_is (⟨#[97, 44, 32, 98, 44, 32, 99]⟩ : ByteArray) (⟨#[44, 32]⟩ : ByteArray) (⟨#[97]⟩ : ByteArray) (⟨#[98, 44, 32, 99]⟩ : ByteArray) true _ (hmax.below HB4.out) (by decide +kernel)).mono ?_
  rintro e w5 ⟨rfl, hb⟩
  have HB5 := Aside0.mk (below_then HB4.out HB4.out.size hb)
  clear hb HB4
  go_wp2_with fail
  refine (cut_is (⟨#[97, 98, 99]⟩ : ByteArray) (⟨#[]⟩ : ByteArray) (⟨#[97, 98, 99]⟩ : ByteArray) (⟨#[]⟩ : ByteArray) false _ (hmax.below HB5.out) (by decide +kernel)).mono ?_
  rintro e w6 ⟨rfl, hb⟩
  have HB6 := Aside0.mk (below_then HB5.out HB5.out.size hb)
  clear hb HB5
  go_wp2_with fail
  refine (split_is (⟨#[97, 13, 10, 10, 98]⟩ : ByteArray) [(⟨#[97]⟩ : ByteArray), (⟨#[]⟩ : ByteArray), (⟨#[98]⟩ : ByteArray)] _ (hmax.below HB6.out) (by decide +kernel)).mono ?_
  rintro e w7 ⟨q7, rfl, hq, hb⟩
  obtain ⟨A7, c7, rfl, hle7, hC7⟩ := Kd.R_reads hq
  have HB7 := Aside0.mk (below_then HB6.out (HB6.out).size hb)
  have HC7 := Aside0.mk hC7
  clear hb hq hC7 HB6
  go_wp2_with fail
  refine (PSame.epactref05_Same.calls 5 A7 c7 [(⟨#[97]⟩ : ByteArray), (⟨#[]⟩ : ByteArray), (⟨#[98]⟩ : ByteArray)] (some ⟨w7.heap.size, 0, none⟩) 3 [(⟨#[97]⟩ : ByteArray), (⟨#[]⟩ : ByteArray), (⟨#[98]⟩ : ByteArray)] true _ (Kd.C_alloc HC7.out _) hle7 (lit_C w7 [(⟨#[97]⟩ : ByteArray), (⟨#[]⟩ : ByteArray), (⟨#[98]⟩ : ByteArray)] #[.string (⟨#[97]⟩ : ByteArray), .string (⟨#[]⟩ : ByteArray), .string (⟨#[98]⟩ : ByteArray)] 3 rfl rfl (by decide)) (Nat.le_refl _) (by decide +kernel)).mono ?_
  rintro e w8 ⟨rfl, ⟨nd, rfl⟩⟩
  have HB8 := Aside0.mk (pw_below_drewN (below_alloc HB7.out (.cells #[.string (⟨#[97]⟩ : ByteArray), .string (⟨#[]⟩ : ByteArray), .string (⟨#[98]⟩ : ByteArray)] 9)) nd)
  clear HB7 HC7
  generalize (w7.alloc (.cells #[.string (⟨#[97]⟩ : ByteArray), .string (⟨#[]⟩ : ByteArray), .string (⟨#[98]⟩ : ByteArray)] 9)).drewN nd = w8 at *
  go_wp2_with fail
  refine (split_is (⟨#[]⟩ : ByteArray) [] _ (hmax.below HB8.out) (by decide +kernel)).mono ?_
  rintro e w9 ⟨q9, rfl, hq, hb⟩
  obtain ⟨A9, c9, rfl, hle9, hC9⟩ := Kd.R_reads hq
  have HB9 := Aside0.mk (below_then HB8.out (HB8.out).size hb)
  have HC9 := Aside0.mk hC9
  clear hb hq hC9 HB8
  go_wp2_with fail
  refine (split_is (⟨#[10]⟩ : ByteArray) [(⟨#[]⟩ : ByteArray)] _ (hmax.below HB9.out) (by decide +kernel)).mono ?_
  rintro e w10 ⟨q10, rfl, hq, hb⟩
  obtain ⟨A10, c10, rfl, hle10, hC10⟩ := Kd.R_reads hq
  have HB10 := Aside0.mk (below_then HB9.out (HB9.out).size hb)
  have HC10 := Aside0.mk hC10
  clear hb hq hC10 HB9
  go_wp2_with fail
  refine (PSame.epactref05_Same.calls 3 A10 c10 [(⟨#[]⟩ : ByteArray)] (some ⟨w10.heap.size, 0, none⟩) 1 [(⟨#[]⟩ : ByteArray)] true _ (Kd.C_alloc HC10.out _) hle10 (lit_C w10 [(⟨#[]⟩ : ByteArray)] #[.string (⟨#[]⟩ : ByteArray)] 1 rfl rfl (by decide)) (Nat.le_refl _) (by decide +kernel)).mono ?_
  rintro e w11 ⟨rfl, ⟨nd, rfl⟩⟩
  have HB11 := Aside0.mk (pw_below_drewN (below_alloc HB10.out (.cells #[.string (⟨#[]⟩ : ByteArray)] 9)) nd)
  clear HB10 HC10
  generalize (w10.alloc (.cells #[.string (⟨#[]⟩ : ByteArray)] 9)).drewN nd = w11 at *
  go_wp2_with fail
  refine (words_is (⟨#[32, 97, 9, 32, 98]⟩ : ByteArray) [(⟨#[97]⟩ : ByteArray), (⟨#[98]⟩ : ByteArray)] _ (by decide +kernel)).mono ?_
  rintro e w12 ⟨q12, rfl, hq, hb⟩
  obtain ⟨A12, c12, rfl, hle12, hC12⟩ := Kd.R_reads hq
  have HB12 := Aside0.mk (below_then HB11.out (HB11.out).size hb)
  have HC12 := Aside0.mk hC12
  clear hb hq hC12 HB11
  go_wp2_with fail
  refine (PSame.epactref05_Same.calls 4 A12 c12 [(⟨#[97]⟩ : ByteArray), (⟨#[98]⟩ : ByteArray)] (some ⟨w12.heap.size, 0, none⟩) 2 [(⟨#[97]⟩ : ByteArray), (⟨#[98]⟩ : ByteArray)] true _ (Kd.C_alloc HC12.out _) hle12 (lit_C w12 [(⟨#[97]⟩ : ByteArray), (⟨#[98]⟩ : ByteArray)] #[.string (⟨#[97]⟩ : ByteArray), .string (⟨#[98]⟩ : ByteArray)] 2 rfl rfl (by decide)) (Nat.le_refl _) (by decide +kernel)).mono ?_
  rintro e w13 ⟨rfl, ⟨nd, rfl⟩⟩
  have HB13 := Aside0.mk (pw_below_drewN (below_alloc HB12.out (.cells #[.string (⟨#[97]⟩ : ByteArray), .string (⟨#[98]⟩ : ByteArray)] 9)) nd)
  clear HB12 HC12
  generalize (w12.alloc (.cells #[.string (⟨#[97]⟩ : ByteArray), .string (⟨#[98]⟩ : ByteArray)] 9)).drewN nd = w13 at *
  go_wp2_with fail
  refine (fold_is (⟨#[97, 66, 90, 196]⟩ : ByteArray) (⟨#[97, 98, 122, 196]⟩ : ByteArray) _ (by decide +kernel)).mono ?_
  rintro e w14 ⟨rfl, hb⟩
  have HB14 := Aside0.mk (below_then HB13.out HB13.out.size hb)
  clear hb HB13
  go_wp2
  go_ret
  exact ⟨rfl, HB14.out⟩
end Go.Proofs.YtlljcfadfgnmjaaDoor.Ln
