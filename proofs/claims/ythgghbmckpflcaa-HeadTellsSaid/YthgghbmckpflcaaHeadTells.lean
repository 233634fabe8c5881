/- HeadTells: which heads are right, their bytes, and what is read: what is reckoned answers as the law says. -/
import Derived.Test.YthgghbmckpflcaaPHeadTellsx3
namespace Go.Proofs.Ythgghbmckpflcaa.Oct
open Go.RowKit Go.Proofs.YthgghbmckpflcaaW.PrintWords Go.Proofs.YthgghbmckpflcaaW.PrintLast Go.Proofs.YthgghbmckpflcaaW.PrintMore

theorem tells_f (v u s l t ty ch : Int) (b : List Int) (size : Int) (hB : B8 b) : PHeadTells.epactlaw15_HeadTells.f v u s l t ty ch b size = some true := by
  unfold PHeadTells.epactlaw15_HeadTells.f PHeadTells.epactlaw15_small.f PHeadTells.head_Encode.f PHeadTells.epactref15_Encode.f PHeadTells.head_Decode.f PHeadTells.epactref15_Decode.f PHeadTells.head_Right.f PHeadTells.epactref15_Right.f PHeadTells.head_Size.f PHeadTells.epactref15_Size.f
  rw [rdecF_B8 hB]
  by_cases hl : (b.length : Int) > 500
  · simp only [Option.bind_some, if_pos hl]
  obtain ⟨yv, yu, ys, yl, yt, yty, yc, ok, hT⟩ : ∃ yv yu ys yl yt yty yc ok, decF b = some (yv, yu, ys, yl, yt, yty, yc, ok) := by
    obtain ⟨zs, ok, hT⟩ : ∃ zs ok, decT b = (zs, ok) := ⟨_, _, rfl⟩
    cases ok with
    | false => obtain rfl := decT_false hT; exact ⟨_, _, _, _, _, _, _, _, decF_of (by omega) hT⟩
    | true => obtain ⟨_, _, _, _, _, _, _, rfl, _⟩ := decT_back hB hT; exact ⟨_, _, _, _, _, _, _, _, decF_of (by omega) hT⟩
  simp [if_neg hl, hT]
theorem tells_walk (v u s l t ty ch : Int) (A : Option Addr) (c : Nat) (b : List Int) (size : Int) (w : World) (hr : Kd.C (Kd.int .u8) w A b.length b) (hcap : b.length ≤ c) (hB : B8 b) :
    Calls Try.prog 3 #[.agg #[.int .i64 v, .int .i64 u, .int .i64 s, .int .i64 l, .int .i64 t, .int .i64 ty, .int .i64 ch], .slice A b.length c, .int .i64 size] w fun e w' => e = .returned (.bool true) ∧ Below w.heap.size w w' :=
  PHeadTells.epactlaw15_HeadTells.calls v u s l t ty ch A c b size true w hr hcap (tells_f v u s l t ty ch b size hB) rfl
end Go.Proofs.Ythgghbmckpflcaa.Oct
