/- NtpDigits: a hash of a digest's words is its digits, five times eight: the walk; no condition. -/
import Derived.Test.YtncbhlionllpmaaNtF
import Derived.Deep.RegionHeld3
namespace Go.Proofs.Ytncbhlionllpmaa.Nt
open Go.RowKit Go.Proofs.YtncbhlionllpmaaW.PrintWords Go.Proofs.YtncbhlionllpmaaW.PrintLast Go.Proofs.YtncbhlionllpmaaW.PrintMore

theorem range_of {W : World} {g : Nat} {k : IntKind} {L : List Int} {t : TypeId} (h : W.heap[g]? = some (.cells (arrC k L) t (0, 0))) : W.rangeAt g 0 (L.map (Value.int k)) := fun j v hv => by
  rw [Nat.zero_add, blk_cell h j]
  simpa [arrC] using hv
theorem range_below {W W2 : World} {g o : Nat} {cs : List Value} (h : W.rangeAt g o cs) (hb : Below W.heap.size W W2) : W2.rangeAt g o cs := fun j v hv => pw_cell_below hb (h j v hv)
theorem bytes_eq {s t : ByteArray} (h : s.data.toList = t.data.toList) : s = t := by
  cases s; cases t
  congr
  exact Array.toList_inj.mp h
theorem textS_cat (s : ByteArray) : textS s = s.extract 0 8 ++ (⟨#[32]⟩ : ByteArray) ++ s.extract 8 16 ++ (⟨#[32]⟩ : ByteArray) ++ s.extract 16 24 ++ (⟨#[32]⟩ : ByteArray) ++ s.extract 24 32 ++ (⟨#[32]⟩ : ByteArray) ++ s.extract 32 40 := by
  refine bytes_eq ?_
  unfold textS
  rw [pieces_join]
  simp only [ByteArray.data_append, Array.toList_append, List.append_assoc]
set_option maxHeartbeats 2000000 in
set_option maxRecDepth 100000 in
theorem digits_walk (L : List Int) (w : World) (hl : L.length = 20) (hb : ∀ i < 20, 0 ≤ L.getD i 0 ∧ L.getD i 0 < 256) (hw : ∀ i < 5, 0 ≤ (wordsK L 20).getD i 0 ∧ (wordsK L 20).getD i 0 < 4294967296) (htx : textN (wordsK L 20) = textS (strOfNums (hexL L))) :
    Calls Try.prog 7 #[.agg (arrC .u8 L)] w fun e w' => e = .returned (.bool true) ∧ Below w.heap.size w w' := by
  obtain ⟨s, hs⟩ : ∃ s, strOfNums (hexL L) = s := ⟨_, rfl⟩
  have hsz : s.size = 40 := by rw [← hs, strOfNums_size, hexL_length, hl]
  have HHX := Aside0.mk (fun W => hex_calls L W hl hb)
  have HWD := Aside0.mk (fun W => words_calls L W hl hb)
  have HTX := Aside0.mk (fun W => text_calls (wordsK L 20) W (wordsK_length L 20) hw)
  rw [htx, hs] at HTX
  rw [hs] at HHX
  obtain ⟨D, hD⟩ : ∃ D, wordsK L 20 = D := ⟨_, rfl⟩
  rw [hD] at HTX HWD
  obtain ⟨T, hT⟩ : ∃ T, textS s = T := ⟨_, rfl⟩
  have HT := Aside0.mk hT
  rw [hT] at HTX
  clear htx hs hD hw hb hT
  go_enter Try.func7, Try.ntmps7
  go_wp2_with (first
    | ((with_reducible refine gate_dst (N := 1) rfl ?_); refine box_event ?hg (N := 1) ?hd (cs := arrC .u8 L) (t := 39) ?hr ?_; (case hd => rfl); (case hg => rfl); (case hr => first | (go_simp; done) | (go_simp; rfl)); intro g hgW w1 hbox hb1; have HB := Aside0.mk hb1; have BK := Aside0.mk hbox; have HG : Aside0 (w.heap.size ≤ g) := ⟨by omega⟩; clear hb1 hbox hgW))
  refine (small_calls _).mono ?_
  rintro e w2 ⟨rfl, hb2⟩
  have HB2 := Aside0.mk (below_step HB.out hb2)
  have BK2 := Aside0.mk (blk_below BK.out hb2)
  clear hb2 HB BK
  go_wp2_with (first
    | ((with_reducible refine gate_dst (N := 6) rfl ?_); refine load_event ?hg (N := 6) ?hd rfl rfl BK2.out (by rfl) ?hi ?_; (case hd => rfl); (case hg => rfl); (case hi => rw [arrC_size, hl]; rfl)))
  refine (HHX.out _).mono ?_
  rintro e w3 ⟨rfl, hb3⟩
  have HB3 := Aside0.mk (below_step HB2.out hb3)
  have BK3 := Aside0.mk (blk_below BK2.out hb3)
  clear hb3 HB2 BK2
  go_wp2
  have hrg := range_of BK3.out
  have hu39 : Try.prog.underlying 39 = some (.array 20 5) := Try.underlying39
  have hi39 : (Try.prog.info? 39).map (·.size) = some (L.map (Value.int .u8)).length := by rw [List.length_map, hl]; rfl
  clear HHX BK3
  go_region_held3 (fun w' => w'.rangeAt g 0 (L.map (Value.int .u8)) ∧ Below w.heap.size w w')
    (first | exact ⟨hrg, below_drew HB3.out⟩ | exact ⟨range_below hrg (below_step (below_drew (Below.refl _ _)) hb4), below_step (below_drew HB3.out) hb4⟩ | exact ⟨range_below (range_below hrg (below_step (below_drew (Below.refl _ _)) hb4)) hb5, below_step (below_step (below_drew HB3.out) hb4) hb5⟩)
    (first | (go_at_call 21; refine (HWD.out _).mono ?_; rintro e w4 ⟨rfl, hb4⟩) | (go_at_call 17; refine (HTX.out _).mono ?_; rintro e w5 ⟨rfl, hb5⟩))
  have hTC : T = s.extract 0 8 ++ (⟨#[32]⟩ : ByteArray) ++ s.extract 8 16 ++ (⟨#[32]⟩ : ByteArray) ++ s.extract 16 24 ++ (⟨#[32]⟩ : ByteArray) ++ s.extract 24 32 ++ (⟨#[32]⟩ : ByteArray) ++ s.extract 32 40 := by
    rw [← HT.out]
    exact textS_cat s
  have hTB : (T.toList == (s.extract 0 8 ++ (⟨#[32]⟩ : ByteArray) ++ s.extract 8 16 ++ (⟨#[32]⟩ : ByteArray) ++ s.extract 16 24 ++ (⟨#[32]⟩ : ByteArray) ++ s.extract 24 32 ++ (⟨#[32]⟩ : ByteArray) ++ s.extract 32 40).toList) = true := by
    rw [← hTC]
    simp
  rw [hTB]
  have HB5 := Aside0.mk (below_step (below_step (below_drew HB3.out) hb4) hb5)
  clear hTC hTB hb4 hb5 hrg hu39 hi39
  go_wp2
  go_ret
  exact ⟨rfl, HB5.out⟩
end Go.Proofs.Ytncbhlionllpmaa.Nt
