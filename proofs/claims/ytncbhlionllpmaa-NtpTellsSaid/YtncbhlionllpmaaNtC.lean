/- sha.Words: five words of twenty bytes: the walk; no condition. -/
import Derived.Test.YtncbhlionllpmaaNtB
import Derived.Laws.CopyOwn
namespace Go.Proofs.Ytncbhlionllpmaa.Nt
open Go.RowKit Go.Proofs.YtncbhlionllpmaaW.PrintWords Go.Proofs.YtncbhlionllpmaaW.PrintLast Go.Proofs.YtncbhlionllpmaaW.PrintMore

theorem results_cell1 {P : Program} {fn : Func} {p : Tmp} {t tt e : TypeId} {tmps : Array Value} {W : World} {g n : Nat} {cs : Array Value} (h : fn.results = #[.cell p t]) (hp : tmps.getD p undef = .pointer (some ⟨g, 0, none⟩)) (hb : W.heap[g]? = some (.cells cs tt (0, 0)))
    (hu : P.underlying t = some (.array n e)) (hi : (P.info? t).map (·.size) = some cs.size) : (results fn tmps).run P W = .ok (.agg cs) W := by
  have hr := run_loadVar_row (P := P) W g tt t cs (0, 0) _ hb hu rfl hi
  have e1 : (results fn tmps).run P W = ((asAddr (tmps.getD p undef)).run P W).andThen fun a w1 => (loadVar t a).run P w1 := by
    simp only [results, h]
    simp [Sem.run_bind, Result.andThen]
  rw [e1, hp]
  simp only [asAddr, Sem.run_pure, Result.andThen, hr]
/-- The words, k bytes in. -/
def wordsK (L : List Int) : Nat → List Int
  | 0 => [0, 0, 0, 0, 0]
  | k + 1 => (wordsK L k).set (k / 4) (bits .or .u32 ((wordsK L k).getD (k / 4) 0 * 256 % 4294967296) (L.getD k 0))
theorem wordsK_length (L : List Int) : ∀ k, (wordsK L k).length = 5
  | 0 => rfl
  | k + 1 => by unfold wordsK; rw [List.length_set]; exact wordsK_length L k
set_option maxHeartbeats 4000000 in
set_option maxRecDepth 100000 in
theorem words_calls (L : List Int) (w : World) (hl : L.length = 20) (hb : ∀ i < 20, 0 ≤ L.getD i 0 ∧ L.getD i 0 < 256) :
    Calls Try.prog 21 #[.agg (arrC .u8 L)] w fun e w' => e = .returned (.agg (arrC .u32 (wordsK L 20))) ∧ Below w.heap.size w w' := by
  have hCs : (arrC .u8 L).size = 20 := by rw [arrC_size, hl]
  have HBD := Aside0.mk hb
  clear hb
  go_enter Try.func21, Try.ntmps21
  go_wp2_with (first
    | ((with_reducible refine gate_dst (N := 1) rfl ?_); refine box_event ?hg (N := 1) ?hd (cs := arrC .u8 L) (t := 39) ?hr ?_; (case hd => rfl); (case hg => rfl); (case hr => first | (go_simp; done) | (go_simp; rfl)); intro g hgW w1 hbox hb1; have HB := Aside0.mk hb1; have BK := Aside0.mk hbox; clear hb1 hbox hgW)
    | ((with_reducible refine gate_dst (N := 2) rfl ?_); refine box_event ?hg (N := 2) ?hd (cs := arrC .u32 (wordsK L 0)) (t := 23) ?hr ?_; (case hd => rfl); (case hg => rfl); (case hr => first | (go_simp; done) | (go_simp; rfl)); intro g2 hgW w2 hbox hb2; have HBb := Aside0.mk (below_step HB.out hb2); have BK1 := Aside0.mk (blk_below BK.out hb2); have BK2 := Aside0.mk hbox; have HG2 : Aside0 (w.heap.size ≤ g2) := ⟨by rw [hgW]; exact below_size HB.out⟩; clear hb2 hbox hgW HB BK)
    | ((with_reducible refine gate_dst (N := 5) rfl ?_); refine load_event ?hg (N := 5) ?hd rfl rfl BK1.out (by rfl) ?hi ?_; (case hd => rfl); (case hg => rfl); (case hi => rw [hCs]; rfl)))
  go_loopw [6] (fun i wr => ∃ k : Nat, k ≤ 20 ∧ i = .int .i64 (k : Int) ∧ Aside0 (wr.heap[g2]? = some (.cells (arrC .u32 (wordsK L k)) 23 (0, 0))) ∧ Aside0 (Below w.heap.size w wr)) (fun i _ => 20 - (intOf i).toNat)
  case atStart => exact ⟨0, by omega, rfl, BK2, HBb⟩
  case round =>
    obtain ⟨k, hk, rfl, HK, HB2⟩ := hrel
    clear BK1 BK2 HBb
    have hW5 := wordsK_length L k
    by_cases hlt : k < 20
    · have hx : (arrC .u8 L)[k]? = some (.int .u8 (L.getD k 0)) := arrC_at (by omega)
      have hix := run_index_arr (P := Try.prog) (t := 39) Try.runUnderlying39 Try.sizeOf5 Try.isAgg5 hlt hx
      have hx8 := HBD.out k hlt
      obtain ⟨q, hq⟩ : ∃ q, k / 4 = q := ⟨_, rfl⟩
      have hq5 : q < 5 := by omega
      have hqi : Int.tdiv (k : Int) 4 = (q : Int) := by rw [Int.tdiv_eq_ediv_of_nonneg (by omega)]; omega
      have hc := (blk_cell HK.out q).trans (arrC_at (k := .u32) (L := wordsK L k) (i := q) (by omega))
      have hf := blk_frozen HK.out q
      have HN : Aside0 (wordsK L (k + 1) = (wordsK L k).set q (bits .or .u32 ((wordsK L k).getD q 0 * 256 % 4294967296) (L.getD k 0))) := ⟨by rw [← hq]; rfl⟩
      generalize L.getD k 0 = x at *
      generalize (wordsK L k).getD q 0 = y at *
      clear HBD hx
      go_wp2
      exact ⟨⟨k + 1, by omega, by go_num, ⟨by rw [HN.out]; exact blk_put HK.out q _ (arrC_set _ _ _ _)⟩, ⟨below_set HB2.out HG2.out⟩⟩, by simp [intOf]; omega⟩
    · obtain rfl : k = 20 := by omega
      go_wp2_with (first
        | ((with_reducible refine gate_dst (N := 22) rfl ?_); refine load_event ?hg (N := 22) ?hd rfl rfl HK.out (by rfl) ?hi ?_; (case hd => rfl); (case hg => rfl); (case hi => rw [arrC_size, hW5]; rfl))
        | ((with_reducible refine gate_store (t := 23) (p := 2) (v := .tmp 22) rfl ?_); refine storeAll_event ?hg ?hd rfl rfl rfl HK.out ?hi rfl (arrC_one _ _) ?_; (case hd => rfl); (case hg => rfl); (case hi => rw [arrC_size, hW5]; rfl)))
      refine bodyPost_ret (v := .agg (arrC .u32 (wordsK L 20))) ?_ rfl ⟨rfl, below_setRow HB2.out HG2.out _⟩
      exact results_cell1 rfl rfl (setRow_heap _ _ _ _ _ _ HK.out) (by rfl) (by rw [arrC_size, hW5]; rfl)
end Go.Proofs.Ytncbhlionllpmaa.Nt
