/- ntp.Text: a hash as a text: the walk; no condition. -/
import Derived.Test.YtncbhlionllpmaaNtC
namespace Go.Proofs.Ytncbhlionllpmaa.Nt
open Go.RowKit Go.Proofs.YtncbhlionllpmaaW.PrintWords Go.Proofs.YtncbhlionllpmaaW.PrintLast Go.Proofs.YtncbhlionllpmaaW.PrintMore

def byteAt (H : List Int) (k : Nat) : Int := H.getD (k / 4) 0 / 2 ^ (24 - k % 4 * 8) % 256
/-- The bytes, as far as they are laid. -/
def bytesK (H : List Int) : Nat → List Int
  | 0 => List.replicate 20 0
  | k + 1 => (bytesK H k).set k (byteAt H k)
theorem bytesK_length (H : List Int) : ∀ k, (bytesK H k).length = 20
  | 0 => rfl
  | k + 1 => by unfold bytesK; rw [List.length_set]; exact bytesK_length H k
theorem zeros_at (n i : Nat) : (List.replicate n (0 : Int)).getD i 0 = 0 := by
  simp only [List.getD, List.getElem?_replicate]
  split <;> rfl
theorem bytesK_byte (H : List Int) : ∀ k, ∀ i < 20, 0 ≤ (bytesK H k).getD i 0 ∧ (bytesK H k).getD i 0 < 256
  | 0, i, _ => by
    show 0 ≤ (List.replicate 20 (0 : Int)).getD i 0 ∧ (List.replicate 20 (0 : Int)).getD i 0 < 256
    rw [zeros_at]
    decide
  | k + 1, i, hi => by
    have ih := bytesK_byte H k i hi
    have hl := bytesK_length H k
    unfold bytesK
    simp only [List.getD, List.getElem?_set] at ih ⊢
    split
    · split
      · unfold byteAt
        simp only [Option.getD_some]
        omega
      · omega
    · exact ih
/-- The pieces, as far as they are laid. -/
def piecesK (s : ByteArray) : Nat → List ByteArray
  | 0 => List.replicate 5 ByteArray.empty
  | k + 1 => (piecesK s k).set k (s.extract (8 * k) (8 * k + 8))
theorem piecesK_length (s : ByteArray) : ∀ k, (piecesK s k).length = 5
  | 0 => rfl
  | k + 1 => by unfold piecesK; rw [List.length_set]; exact piecesK_length s k
def textS (s : ByteArray) : ByteArray := ⟨(Lib.join ((piecesK s 5).map (·.data.toList)) ((⟨#[32]⟩ : ByteArray)).data.toList).toArray⟩
/-- The text of a hash. -/
def textN (H : List Int) : ByteArray := textS (strOfNums (hexL (bytesK H 20)))
theorem pieces_five (s : ByteArray) : piecesK s 5 = [s.extract 0 8, s.extract 8 16, s.extract 16 24, s.extract 24 32, s.extract 32 40] := rfl
theorem pieces_join (s : ByteArray) : Lib.join ((piecesK s 5).map (·.data.toList)) ((⟨#[32]⟩ : ByteArray)).data.toList = (s.extract 0 8).data.toList ++ ([32] ++ ((s.extract 8 16).data.toList ++ ([32] ++ ((s.extract 16 24).data.toList ++ ([32] ++ ((s.extract 24 32).data.toList ++ ([32] ++ (s.extract 32 40).data.toList))))))) := by
  rw [pieces_five]
  simp [Lib.join, List.intercalate]
theorem made5 : madeCells #[Value.string ByteArray.empty] 5 = strC (List.replicate 5 ByteArray.empty) := by
  unfold madeCells
  rw [show Array.range 5 = #[0, 1, 2, 3, 4] from by decide]
  simp [strC, Nat.mod_one]
theorem make5 (s : ByteArray) (W : World) : (Instr.makeSlice 34 (.int .i64 5) (.int .i64 5)).run Try.prog W = .ok (.slice (some ⟨W.heap.size, 0, none⟩) 5 5) (W.alloc (.cells (strC (piecesK s 0)) 9 (0, 0))) := by
  unfold piecesK
  rw [← made5]
  exact run_make_row' 34 9 (.string ByteArray.empty) 16 Try.underlying34 Ln.info9 rfl .i64 .i64 5 (by decide) (by decide) W
set_option maxHeartbeats 1000000 in
set_option maxRecDepth 100000 in
theorem text_calls (H : List Int) (w : World) (hl : H.length = 5) (hb : ∀ i < 5, 0 ≤ H.getD i 0 ∧ H.getD i 0 < 4294967296) :
    Calls Try.prog 17 #[.agg (arrC .u32 H)] w fun e w' => e = .returned (.string (textN H)) ∧ Below w.heap.size w w' := by
  have hHs : (arrC .u32 H).size = 5 := by rw [arrC_size, hl]
  have HBD := Aside0.mk hb
  clear hb
  go_enter Try.func17, Try.ntmps17
  go_wp2_with (first
    | ((with_reducible refine gate_dst (N := 1) rfl ?_); refine box_event ?hg (N := 1) ?hd (cs := arrC .u32 H) (t := 23) ?hr ?_; (case hd => rfl); (case hg => rfl); (case hr => first | (go_simp; done) | (go_simp; rfl)); intro g hgW w1 hbox hb1; have HB := Aside0.mk hb1; have BK := Aside0.mk hbox; clear hb1 hbox hgW)
    | ((with_reducible refine gate_dst (N := 3) rfl ?_); refine box_event ?hg (N := 3) ?hd (cs := arrC .u8 (bytesK H 0)) (t := 39) ?hr ?_; (case hd => rfl); (case hg => rfl); (case hr => first | (go_simp; done) | (go_simp; rfl)); intro g2 hgW w2 hbox hb2; have HBb := Aside0.mk (below_step HB.out hb2); have BK1 := Aside0.mk (blk_below BK.out hb2); have BK2 := Aside0.mk hbox; have HG2 : Aside0 (w.heap.size ≤ g2) := ⟨by rw [hgW]; exact below_size HB.out⟩; have HGN : Aside0 (g ≠ g2) := ⟨by have := blk_lt BK.out; omega⟩; clear hb2 hbox hgW HB BK))
  go_loopw [8] (fun i wr => ∃ k : Nat, k ≤ 20 ∧ i = .int .i64 (k : Int) ∧ Aside0 (wr.heap[g]? = some (.cells (arrC .u32 H) 23 (0, 0))) ∧ Aside0 (wr.heap[g2]? = some (.cells (arrC .u8 (bytesK H k)) 39 (0, 0))) ∧ Aside0 (Below w.heap.size w wr)) (fun i _ => 20 - (intOf i).toNat)
  case atStart => exact ⟨0, by omega, rfl, BK1, BK2, HBb⟩
  case round =>
    obtain ⟨k, hk, rfl, HH, HK, HB2⟩ := hrel
    clear BK1 BK2 HBb
    have hW5 := bytesK_length H k
    by_cases hlt : k < 20
    · have hx8 := HBD.out (k / 4) (by omega)
      have HN : Aside0 (bytesK H (k + 1) = (bytesK H k).set k (H.getD (k / 4) 0 / 2 ^ (24 - k % 4 * 8) % 256)) := ⟨rfl⟩
      obtain ⟨q, hq⟩ : ∃ q, k / 4 = q := ⟨_, rfl⟩
      obtain ⟨r, hr⟩ : ∃ r, k % 4 = r := ⟨_, rfl⟩
      rw [hq] at hx8
      rw [hq, hr] at HN
      have hq5 : q < 5 := by omega
      have hr4 : r < 4 := by omega
      have hqi : Int.tdiv (k : Int) 4 = (q : Int) := by rw [Int.tdiv_eq_ediv_of_nonneg (by omega)]; omega
      have hri : Int.tmod (k : Int) 4 = (r : Int) := by rw [Int.tmod_eq_emod_of_nonneg (by omega)]; omega
      have hc := (blk_cell HH.out q).trans (arrC_at (k := .u32) (L := H) (i := q) (by omega))
      have hf := blk_frozen HK.out k
      have hc2 := (blk_cell HK.out k).trans (arrC_at (k := .u8) (L := bytesK H k) (i := k) (by omega))
      generalize H.getD q 0 = x at *
      clear hq hr
      go_wp2
      exact ⟨⟨k + 1, by omega, by go_num, ⟨blk_far HH.out HGN.out _⟩, ⟨by rw [HN.out]; exact blk_put HK.out k _ (arrC_set _ _ _ _)⟩, ⟨below_set HB2.out HG2.out⟩⟩, by simp [intOf]; omega⟩
    · obtain rfl : k = 20 := by omega
      have hby := bytesK_byte H 20
      obtain ⟨D, hD⟩ : ∃ D, bytesK H 20 = D := ⟨_, rfl⟩
      rw [hD] at HK hW5 hby
      have HD := Aside0.mk hD
      clear hD HBD hHs
      go_wp2_with (first
        | ((with_reducible refine gate_dst (N := 24) rfl ?_); refine load_event ?hg (N := 24) ?hd rfl rfl HK.out (by rfl) ?hi ?_; (case hd => rfl); (case hg => rfl); (case hi => rw [arrC_size, hW5]; rfl)))
      refine (hex_calls D _ hW5 hby).mono ?_
      rintro e w3 ⟨rfl, hb3⟩
      obtain ⟨s, hs⟩ : ∃ s, strOfNums (hexL D) = s := ⟨_, rfl⟩
      have hsz : s.size = 40 := by rw [← hs, strOfNums_size, hexL_length, hW5]
      rw [hs]
      have HB3 := Aside0.mk (below_step HB2.out hb3)
      have HS := Aside0.mk hs
      clear hb3 hs HB2 HK HH hW5 hby
      have hmk := make5 s
      go_wp2_with (first
        | ((with_reducible refine gate_dst (N := 26) rfl ?_); refine make_event ?hg (N := 26) ?hd (cs := strC (piecesK s 0)) (t := 9) (n := 5) ?hr ?_; (case hd => rfl); (case hg => rfl); (case hr => first | (go_simp; done) | (go_simp; rfl)); intro g4 hgW w4 hbox hb4; have HB4 := Aside0.mk (below_step HB3.out hb4); have BK4 := Aside0.mk hbox; have HG4 : Aside0 (w.heap.size ≤ g4) := ⟨by rw [hgW]; exact below_size HB3.out⟩; clear hb4 hbox hgW HB3 hmk))
      go_loopw [29] (fun i wr => ∃ k : Nat, k ≤ 5 ∧ i = .int .i64 (k : Int) ∧ Aside0 (wr.heap[g4]? = some (.cells (strC (piecesK s k)) 9 (0, 0))) ∧ Aside0 (Below w.heap.size w wr)) (fun i _ => 5 - (intOf i).toNat)
      case atStart => exact ⟨0, by omega, rfl, BK4, HB4⟩
      case round =>
        obtain ⟨k, hk, rfl, HK, HB2⟩ := hrel
        clear BK4 HB4
        have hP5 := piecesK_length s k
        by_cases hlt : k < 5
        · have HN : Aside0 (piecesK s (k + 1) = (piecesK s k).set k (s.extract (8 * k) (8 * k + 8))) := ⟨rfl⟩
          have hf := blk_frozen HK.out k
          have hc2 := (blk_cell HK.out k).trans (strC_at (L := piecesK s k) (i := k) (by omega))
          have hsl : 8 * k + 8 ≤ s.size := by omega
          go_wp2
          exact ⟨⟨k + 1, by omega, by go_num, ⟨by rw [HN.out]; exact blk_put HK.out k _ (strC_set _ _ _)⟩, ⟨below_set HB2.out HG4.out⟩⟩, by simp [intOf]; omega⟩
        · obtain rfl : k = 5 := by omega
          obtain ⟨X, hX⟩ : ∃ X, piecesK s 5 = X := ⟨_, rfl⟩
          have hJL : (Lib.join (X.map (·.data.toList)) ((⟨#[32]⟩ : ByteArray)).data.toList).length ≤ 140737488355328 := by
            rw [← hX, pieces_join s, List.length_append, List.length_append, List.length_append, List.length_append, List.length_append, List.length_append, List.length_append, List.length_append]
            have hp := fun a b => Lib.size_eq (s.extract a b)
            rw [← hp, ← hp, ← hp, ← hp, ← hp]
            simp only [ByteArray.size_extract, hsz]
            decide
          have hXT : textS s = ⟨(Lib.join (X.map (·.data.toList)) ((⟨#[32]⟩ : ByteArray)).data.toList).toArray⟩ := by rw [← hX]; rfl
          rw [hX] at HK hP5
          have HX := Aside0.mk hXT
          have HT : Aside0 (textN H = textS s) := ⟨by unfold textN; rw [HD.out, HS.out]⟩
          clear hX hXT
          go_wp2_with fail
          have hJ := Try.strings_Join g4 0 5 X ⟨#[32]⟩ wr (fun j x hx => ?_) (blk_lt HK.out) (by rw [hP5]; decide) (by rw [hP5]; decide) hJL
          · rw [hP5] at hJ
            refine hJ.mono ?_
            rintro e w5 ⟨rfl, hb5⟩
            go_wp2
            go_ret
            exact ⟨congrArg (fun x => Ending.returned (Value.string x)) (HT.out.trans HX.out).symm, below_step HB2.out hb5⟩
          · have h1 := strC_at (L := X) (i := j) (by
              rcases Nat.lt_or_ge j X.length with h | h
              · exact h
              · rw [List.getElem?_eq_none h] at hx; cases hx)
            rw [Nat.zero_add, blk_cell HK.out j, h1]
            simp [List.getD, hx]
end Go.Proofs.Ytncbhlionllpmaa.Nt
