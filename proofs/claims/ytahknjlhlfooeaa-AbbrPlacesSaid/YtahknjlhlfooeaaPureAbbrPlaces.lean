/- AbbrPlaces: what stands at a place is right, ends ahead of a byte 0, and is what stands there: the plain law. -/
import Derived.Test.YtahknjlhlfooeaaPAbbrPlacesx1
import Derived.Test.YtahknjlhlfooeaaAbP
namespace Go.Proofs.Ytahknjlhlfooeaa.Pure
open Go.RowKit Go.Proofs.Ytahknjlhlfooeaa.PAbbrPlaces Go.Proofs.YtahknjlhlfooeaaW.PrintWords Go.Proofs.YtahknjlhlfooeaaW.PrintLast Ab

theorem AbbrPlaces : epactlaw14_AbbrPlaces.Pure := fun a0 a1 h0 hw => by
  unfold epactlaw14_AbbrPlaces.f epactlaw14_small.f abbr_At.f abbr_Right.f
  simp only [Option.bind_some]
  by_cases h5 : (a0.size : Int) > 500
  · rw [if_pos h5]
  rw [if_neg h5, atF_some (by omega)]
  simp only [Option.bind_some]
  rcases at_cases a0 a1 with h | ⟨a, i, rfl, hi, h, hr, hz⟩
  · rw [h]
    simp
  · rw [h]
    have hs : (a0.extract a (a + i)).size = i := by rw [ByteArray.size_extract]; omega
    rw [if_pos rfl, if_neg (by omega), if_neg (by omega), w64 (by omega)]
    simp only [hs]
    rw [if_neg (by omega), if_pos trivial, rightF_some (by omega), hr, w64 (by omega)]
    simp only [Option.bind_some]
    rw [if_pos trivial, if_pos (by omega), if_pos (by omega), if_pos (by omega)]
    have he : ((a : Int) + (i : Int)).toNat = a + i := by omega
    rw [he, Int.toNat_natCast, if_pos rfl, if_pos (by omega), if_pos (by omega)]
    have hb := bt_get hz
    rw [Int.natCast_add] at hb
    rw [hb]
    rfl
end Go.Proofs.Ytahknjlhlfooeaa.Pure
