/- lines.Words: words: the walk; condition: the text is short enough to take one byte more. -/
import Derived.Test.YtncbhlionllpmaaShelf
import Derived.Test.YtncbhlionllpmaaWMore
import Derived.Test.YtncbhlionllpmaaWGuard
import Derived.Test.YtncbhlionllpmaaWKept
import Derived.WalkSpells
import Derived.RegionTactic
import Derived.BigRegion
import Derived.Outline
import Derived.Deep.LoopGhost
import Derived.Lib.OthersKept
import Derived.Lib.TrimU
import Derived.Lib.MapLaws
namespace Go.Proofs.Ytncbhlionllpmaa.Ln
open Go.RowKit Go.Proofs.YtncbhlionllpmaaW.PrintWords Go.Proofs.YtncbhlionllpmaaW.PrintLast Go.Proofs.YtncbhlionllpmaaW.PrintMore

def blankR (r : Nat) : Bool := decide (r = 32) || decide (r = 9)
/-- Words, rune by rune, out of s and a blank: where a word began (-1: none), what was cut. -/
def wordsR (s t : ByteArray) : Nat → Nat → Int → List ByteArray → List ByteArray
  | 0, _, _, out => out
  | f + 1, pos, from_, out => if pos < t.size then (match blankR (Utf8.decode t pos).1, decide (0 ≤ from_) with
      | true, true => wordsR s t f (pos + (Utf8.decode t pos).2) (-1) (out ++ [s.extract from_.toNat pos])
      | true, false => wordsR s t f (pos + (Utf8.decode t pos).2) from_ out
      | false, true => wordsR s t f (pos + (Utf8.decode t pos).2) from_ out
      | false, false => wordsR s t f (pos + (Utf8.decode t pos).2) pos out) else out
theorem info9 : (Try.prog.info? 9).map (fun i => (i.zero, i.size, i.bytes)) = some (some (.string ByteArray.empty), 1, 16) := by kernel_rfl
set_option maxHeartbeats 4000000 in
set_option maxRecDepth 100000 in
theorem words_calls (s : ByteArray) (w : World) (hs : s.size + 1 ≤ 8796093022208) :
    Calls Try.prog 19 #[.string s] w fun e w' => ∃ v1, e = .returned v1 ∧ Kd.R Kd.string 9 w' w.heap.size (fun _ => True) v1 (wordsR s (s ++ ⟨#[32]⟩) (s.size + 1) 0 (-1) []) ∧ Below w.heap.size w w' := by
  obtain ⟨t, ht⟩ : ∃ t, s ++ (⟨#[32]⟩ : ByteArray) = t := ⟨_, rfl⟩
  have hts : t.size = s.size + 1 := by rw [← ht, ByteArray.size_append]; rfl
  obtain ⟨res, hres⟩ : ∃ res, wordsR s t (s.size + 1) 0 (-1) [] = res := ⟨_, rfl⟩
  rw [ht, hres]
  have hz : s.size + 1 ≤ 9223372036854775807 := by omega
  have HRES := Aside0.mk hres
  have HT := Aside0.mk ht
  go_enter Try.func19, Try.ntmps19
  go_wp2
  go_loopg [2, 3] (s.size + 1) (fun gf q fr wx => ∃ (pos : Nat) (from_ : Int) (out : List ByteArray), fr = .int .i64 from_ ∧ Aside0 (wx.heap[w.heap.size]? = some (.stringIter t pos)) ∧ Aside0 (Below w.heap.size w wx) ∧ Aside0 (wordsR s t gf pos from_ out = res) ∧ Aside0 (t.size ≤ pos + gf) ∧ Aside0 (Kd.R Kd.string 9 wx w.heap.size (fun b => b ≠ w.heap.size) q out) ∧ Aside0 (-1 ≤ from_ ∧ from_ ≤ pos) ∧ Aside0 (out.length ≤ pos))
  case atStart => exact ⟨0, -1, [], rfl, ⟨by rw [← ht]; exact World.iter_heap w _ 0⟩, ⟨(Below.refl _ w).alloc (Nat.le_refl _) _⟩, HRES, ⟨by omega⟩, ⟨Kd.R_nil _ _ _ _ _⟩, ⟨by omega⟩, ⟨by simp⟩⟩
  case round =>
    obtain ⟨pos, from_, out, rfl, HI, HB, HW, HF, HO, HFR, HLO⟩ := hrel
    by_cases hps : pos < t.size
    · obtain ⟨g', rfl⟩ : ∃ g', gk = g' + 1 := ⟨gk - 1, by have := HF.out; omega⟩
      have hnx : ∀ ty, (Instr.next (.pointer (some ⟨w.heap.size, 0, none⟩)) true ty).run Try.prog wr = _ := fun ty => Lib.run_next_any_at wr w.heap.size t pos ty HI.out hps
      have hwd := Lib.width_pos t pos
      have hW := HW.out
      obtain ⟨R, hR⟩ : ∃ R, (Utf8.decode t pos).1 = R := ⟨_, rfl⟩
      obtain ⟨K, hK⟩ : ∃ K, (Utf8.decode t pos).2 = K := ⟨_, rfl⟩
      unfold wordsR at hW
      rw [if_pos hps, hR, hK] at hW
      rw [hR, hK] at hnx
      rw [hK] at hwd
      have HI2 := Aside0.mk (Lib.iterAt_heap wr w.heap.size t pos (pos + K) HI.out)
      have HB2 := Aside0.mk (Lib.below_iterAt HB.out (k := w.heap.size) (Nat.le_refl _) t (pos + K))
      have HO2 : Aside0 (Kd.R Kd.string 9 (wr.iterAt w.heap.size t (pos + K)) w.heap.size (fun b => b ≠ w.heap.size) u2 out) := ⟨Kd.R_step HO.out (fun k ho _ => Lib.iterAt_other _ _ _ _ _ ho)⟩
      have HLT : Aside0 (w.heap.size < (wr.iterAt w.heap.size t (pos + K)).heap.size) := ⟨blk_lt HI2.out⟩
      have HLN : Aside0 (out.length < 8796093022208) := ⟨by have := HLO.out; omega⟩
      generalize wr.iterAt w.heap.size t (pos + K) = W at *
      have hfr := HFR.out
      have hpsz : pos ≤ s.size := by omega
      clear HI HB HO HW hR hK HRES
      by_cases hf : 0 ≤ from_
      · have hf2 : from_ ≤ (pos : Int) := hfr.2
        have hp2 : (pos : Int) ≤ (s.size : Int) := by omega
        by_cases hb : R = 32 ∨ R = 9
        · have HW2 : Aside0 (wordsR s t g' (pos + K) (-1) (out ++ [s.extract from_.toNat pos]) = res) := ⟨by rw [← hW, decide_eq_true hf]; rcases hb with rfl | rfl <;> rfl⟩
          clear hW hfr
          rcases hb with rfl | rfl
          all_goals
            go_wp2_with ((with_reducible refine gate_builtin (b := .append) (xs := #[.tmp 26, .tmp 31]) rfl ?_); at_builtin; refine Kd.R_append Kd.string (w0 := w) w.heap.size rfl (.tmp 26) (.tmp 31) 34 9 (.string ByteArray.empty) 16 rfl Try.underlying34 info9 rfl (by decide) (by omega) u2 out (s.extract from_.toNat pos) [.string (s.extract from_.toNat pos)] (fun b => b ≠ w.heap.size) (fun _ => False) rfl rfl ?aP (fun _ hk => hk.elim) ?aF ?aO ?aB ?aS ?aL ?_; (case aP => exact rfl); (case aB => exact HB2.out); (case aF => exact (fun b hb => by have := HLT.out; omega)); (case aO => exact HO2.out); (case aS => exact below_size HB2.out); (case aL => have := HLN.out; omega); intro v4 w4 ho hb hg hat4; have HO4 := Aside0.mk ho; have HB4 := Aside0.mk hb; have HI4 := Aside0.mk ((hg.block _ (by have := HLT.out; omega) (fun e => HO2.out.1 _ e.symm rfl)).trans HI2.out); clear ho hb hg hat4)
            go_roundg g'
            case measure => omega
            case rel => exact ⟨pos + K, -1, _, rfl, HI4, HB4, HW2, ⟨by have := HF.out; omega⟩, HO4, ⟨by omega⟩, ⟨by have := HLO.out; simp; omega⟩⟩
        · have e32 : ((R : Int) == 32) = false := beq_eq_false_iff_ne.mpr (by omega)
          have e9 : ((R : Int) == 9) = false := beq_eq_false_iff_ne.mpr (by omega)
          have HW2 : Aside0 (wordsR s t g' (pos + K) from_ out = res) := ⟨by rw [← hW, decide_eq_true hf, show blankR R = false by unfold blankR; rw [decide_eq_false (by omega), decide_eq_false (by omega)]; rfl]⟩
          clear hW hfr hb
          go_wp2
          go_roundg g'
          case measure => omega
          case rel => exact ⟨pos + K, from_, out, rfl, HI2, HB2, HW2, ⟨by have := HF.out; omega⟩, HO2, ⟨by have := HFR.out; omega⟩, ⟨by have := HLO.out; omega⟩⟩
      · have hf' : from_ < 0 := by omega
        by_cases hb : R = 32 ∨ R = 9
        · have HW2 : Aside0 (wordsR s t g' (pos + K) from_ out = res) := ⟨by rw [← hW, decide_eq_false hf]; rcases hb with rfl | rfl <;> rfl⟩
          clear hW hfr hf
          rcases hb with rfl | rfl
          all_goals
            go_wp2
            go_roundg g'
            case measure => omega
            case rel => exact ⟨pos + K, from_, out, rfl, HI2, HB2, HW2, ⟨by have := HF.out; omega⟩, HO2, ⟨by have := HFR.out; omega⟩, ⟨by have := HLO.out; omega⟩⟩
        · have e32 : ((R : Int) == 32) = false := beq_eq_false_iff_ne.mpr (by omega)
          have e9 : ((R : Int) == 9) = false := beq_eq_false_iff_ne.mpr (by omega)
          have HW2 : Aside0 (wordsR s t g' (pos + K) pos out = res) := ⟨by rw [← hW, decide_eq_false hf, show blankR R = false by unfold blankR; rw [decide_eq_false (by omega), decide_eq_false (by omega)]; rfl]⟩
          clear hW hfr hf hb
          go_wp2
          go_roundg g'
          case measure => omega
          case rel => exact ⟨pos + K, pos, out, rfl, HI2, HB2, HW2, ⟨by have := HF.out; omega⟩, HO2, ⟨by omega⟩, ⟨by have := HLO.out; omega⟩⟩
    · have hnx : ∀ ty, (Instr.next (.pointer (some ⟨w.heap.size, 0, none⟩)) true ty).run Try.prog wr = _ := fun ty => Lib.run_next_end_at wr w.heap.size t pos ty HI.out hps
      have HE : Aside0 (out = res) := ⟨by rw [← HW.out]; cases gk with | zero => rfl | succ g => (unfold wordsR; rw [if_neg hps])⟩
      go_wp2
      go_ret
      exact ⟨_, rfl, by rw [← HE.out]; exact Kd.R_mono HO.out (fun _ _ => trivial), HB.out⟩
end Go.Proofs.Ytncbhlionllpmaa.Ln
