/- HeadShort: what is reckoned answers as the law says. -/
import Derived.Test.YthgghbmckpflcaaPHeadShortx2
namespace Go.Proofs.Ythgghbmckpflcaa.Oct
open Go.RowKit Go.Proofs.YthgghbmckpflcaaW.PrintWords Go.Proofs.YthgghbmckpflcaaW.PrintLast Go.Proofs.YthgghbmckpflcaaW.PrintMore
theorem takeS_left {l : List Int} {bad : Bool} {n : Int} (h : (takeS l bad n).2.2 = false) : bad = false ∧ 0 ≤ n ∧ ((takeS l bad n).2.1.length : Int) + n = l.length := by
  unfold takeS at h ⊢
  split at h
  · cases h
  · rename_i hc
    rw [if_neg hc]
    refine ⟨by cases bad <;> simp_all, by omega, ?_⟩
    simp only [List.length_drop]; omega
theorem numS_left {l : List Int} {bad : Bool} (h : (numS l bad 4).2.2 = false) : bad = false ∧ ((numS l bad 4).2.1.length : Int) + 4 = l.length := by
  have := takeS_left (l := l) (bad := bad) (n := 4) h
  exact ⟨this.1, this.2.2⟩
theorem fillS_left : ∀ (n : Nat) (xs l : List Int) (bad : Bool), (fillS n xs l bad).2.2 = false → bad = false ∧ ((fillS n xs l bad).2.1.length : Int) + 4 * n = l.length
  | 0, _, _, _, h => ⟨h, by simp [fillS]⟩
  | n + 1, xs, l, bad, h => by
    rw [fillS] at h ⊢
    obtain ⟨h1, h2⟩ := fillS_left n _ _ _ h
    obtain ⟨h3, h4⟩ := numS_left h1
    exact ⟨h3, by omega⟩
theorem okS_bad (s : ByteArray) (z : List Int) (v : Int) (xs : List Int) : okS s z true v xs = false := by
  unfold okS; split <;> simp
/-- Too few bytes are no head. -/
theorem decT_short {b : List Int} (h : b.length < 44) : decT b = ([0, 0, 0, 0, 0, 0, 0], false) := by
  have hb : (fillS 6 [0, 0, 0, 0, 0, 0] (takeS (numS (takeS b false 4).2.1 (takeS b false 4).2.2 1).2.1 (numS (takeS b false 4).2.1 (takeS b false 4).2.2 1).2.2 15).2.1 (takeS (numS (takeS b false 4).2.1 (takeS b false 4).2.2 1).2.1 (numS (takeS b false 4).2.1 (takeS b false 4).2.2 1).2.2 15).2.2).2.2 = true := by
    rw [← Bool.not_eq_false]
    intro hf
    obtain ⟨h1, h2⟩ := fillS_left _ _ _ _ hf
    obtain ⟨h3, _, h4⟩ := takeS_left h1
    obtain ⟨h5, _, h6⟩ := takeS_left (l := (takeS b false 4).2.1) (bad := (takeS b false 4).2.2) (n := 1) h3
    obtain ⟨_, _, h8⟩ := takeS_left h5
    have h6' : ((numS (takeS b false 4).2.1 (takeS b false 4).2.2 1).2.1.length : Int) + 1 = (takeS b false 4).2.1.length := h6
    omega
  unfold decT
  simp only [hb, okS_bad]
  rfl
theorem decF_short {b : List Int} (h : b.length < 44) : decF b = some (0, 0, 0, 0, 0, 0, 0, false) := by
  unfold decF; rw [if_pos (by omega), decT_short h]; rfl
theorem short_true (v u s l t ty c n : Int) : PHeadShort.epactlaw15_HeadShort.f v u s l t ty c n = some true := by
  unfold PHeadShort.epactlaw15_HeadShort.f PHeadShort.epactlaw15_small.f PHeadShort.head_Encode.f PHeadShort.head_Decode.f
  simp only [Option.bind_some, encF]
  cases hr : rightS v u s l t ty c with
  | false => simp
  | true =>
    simp only [encS_length, if_pos]
    by_cases h0 : n < 0
    · rw [if_pos h0]
    · rw [if_neg h0]
      by_cases h1 : n ≥ (44 : Nat)
      · rw [if_pos h1]
      · rw [if_neg h1, if_pos (by omega), if_pos (by omega), decF_short (by rw [List.length_take, encS_length]; omega)]
        rfl
theorem short_walk (v u s l t ty c n : Int) (w : World) :
    Calls Try.prog 5 #[.agg #[.int .i64 v, .int .i64 u, .int .i64 s, .int .i64 l, .int .i64 t, .int .i64 ty, .int .i64 c], .int .i64 n] w fun e w' => e = .returned (.bool true) ∧ Below w.heap.size w w' :=
  PHeadShort.epactlaw15_HeadShort.calls v u s l t ty c n true w (short_true v u s l t ty c n)
end Go.Proofs.Ythgghbmckpflcaa.Oct
