/- lines.Cut: a text cut in two: the walk; condition: the text's size; the library's variable internal/bytealg.MaxLen holds some number. -/
import Derived.Test.YtlljcfadfgnmjaaDoorLnC
namespace Go.Proofs.YtlljcfadfgnmjaaDoor.Ln
open Go.RowKit Go.Proofs.YtlljcfadfgnmjaaDoorW.PrintWords Go.Proofs.YtlljcfadfgnmjaaDoorW.PrintLast Go.Proofs.YtlljcfadfgnmjaaDoorW.PrintMore

/-- internal/bytealg.MaxLen holds some number. -/
def MaxIs (w : World) : Prop := ∃ m, w.cell? ⟨0, 0, none⟩ = some (.int .i64 m)
theorem MaxIs.below {w w1 : World} (h : MaxIs w) (hb : Below w.heap.size w w1) : MaxIs w1 := by
  obtain ⟨m, hm⟩ := h
  exact ⟨m, pw_cell_below hb hm⟩
def cutN (s at_ : ByteArray) : ByteArray × ByteArray × Bool := match at_.toList == [] with
  | true => (s, ⟨#[]⟩, false)
  | false => (⟨(Lib.cut s.data.toList at_.data.toList).1.toArray⟩, ⟨(Lib.cut s.data.toList at_.data.toList).2.1.toArray⟩, (Lib.cut s.data.toList at_.data.toList).2.2)
set_option maxHeartbeats 2000000 in
theorem cut_calls (s at_ r1 r2 : ByteArray) (r3 : Bool) (w : World) (hm : MaxIs w) (hs : s.size < 4294967281) (h : cutN s at_ = (r1, r2, r3)) :
    Calls Tryd.prog 13 #[.string s, .string at_] w fun e w' => e = .returned (.tuple #[.string r1, .string r2, .bool r3]) ∧ Below w.heap.size w w' := by
  unfold cutN at h
  cases hb : (at_.toList == []) with
  | true =>
    rw [hb] at h
    injection h with e1 h
    injection h with e2 e3
    subst e1 e2 e3
    go_enter Tryd.func13, Tryd.ntmps13
    go_wp2
    go_ret3
    exact ⟨rfl, Below.refl _ _⟩
  | false =>
    rw [hb] at h
    injection h with e1 h
    injection h with e2 e3
    subst e1 e2 e3
    obtain ⟨m, hm⟩ := hm
    have hc := Tryd.strings_Cut s at_ m w hs hm
    generalize (Lib.cut s.data.toList at_.data.toList) = c at *
    go_enter Tryd.func13, Tryd.ntmps13
    go_wp2_with fail
    refine hc.mono ?_
    rintro e w' ⟨rfl, n, rfl⟩
    go_wp2
    go_ret3
    exact ⟨rfl, pw_below_drewN (Below.refl _ _) n⟩
end Go.Proofs.YtlljcfadfgnmjaaDoor.Ln
