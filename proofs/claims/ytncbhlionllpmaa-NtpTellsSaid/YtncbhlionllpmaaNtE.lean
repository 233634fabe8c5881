/- ntp.Hash: a hash read: the walk; condition: the text is short enough for Words. -/
import Derived.Test.YtncbhlionllpmaaNtD
namespace Go.Proofs.Ytncbhlionllpmaa.Nt
open Go.RowKit Go.Proofs.YtncbhlionllpmaaW.PrintWords Go.Proofs.YtncbhlionllpmaaW.PrintLast Go.Proofs.YtncbhlionllpmaaW.PrintMore Ln

def wordsN (s : ByteArray) : List ByteArray := wordsR s (s ++ ⟨#[32]⟩) (s.size + 1) 0 (-1) []
/-- The words, as far as they are read. -/
def outK (X : List ByteArray) : Nat → List Int
  | 0 => [0, 0, 0, 0, 0]
  | k + 1 => (outK X k).set k (wordN (X.getD k ByteArray.empty)).1
theorem outK_length (X : List ByteArray) : ∀ k, (outK X k).length = 5
  | 0 => rfl
  | k + 1 => by unfold outK; rw [List.length_set]; exact outK_length X k
def zeros5 : List Int := [0, 0, 0, 0, 0]
def hashOk (X : List ByteArray) : Bool := decide (X.length = 5) && X.all (fun w => (wordN w).2)
def hashL (X : List ByteArray) : List Int × Bool := match hashOk X with
  | true => (outK X 5, true)
  | false => (zeros5, false)
def hashN (s : ByteArray) : List Int × Bool := hashL (wordsN s)
theorem hash_bad {X : List ByteArray} {k : Nat} (hk : k < X.length) (h : (wordN (X.getD k ByteArray.empty)).2 = false) : hashL X = (zeros5, false) := by
  have h1 : hashOk X = false := by
    unfold hashOk
    rw [Bool.and_eq_false_iff]
    refine .inr (Bool.eq_false_iff.2 fun e => ?_)
    rw [List.all_eq_true] at e
    have h2 := e (X.getD k ByteArray.empty) (by simp [List.getD, hk])
    rw [h] at h2
    cases h2
  unfold hashL
  rw [h1]
theorem hash_short {X : List ByteArray} (h : X.length ≠ 5) : hashL X = (zeros5, false) := by
  have h1 : hashOk X = false := by unfold hashOk; rw [decide_eq_false h]; rfl
  unfold hashL
  rw [h1]
theorem hash_good {X : List ByteArray} (h : X.length = 5) (hg : ∀ i < 5, (wordN (X.getD i ByteArray.empty)).2 = true) : hashL X = (outK X 5, true) := by
  have h1 : hashOk X = true := by
    unfold hashOk
    rw [decide_eq_true h, Bool.true_and, List.all_eq_true]
    intro w hw
    obtain ⟨i, hi, rfl⟩ := List.mem_iff_getElem.1 hw
    have := hg i (by omega)
    simpa [List.getD, hi] using this
  unfold hashL
  rw [h1]
theorem results_cell2 {P : Program} {fn : Func} {p u : Tmp} {t tt e : TypeId} {tmps : Array Value} {W : World} {g n : Nat} {cs : Array Value} {v : Value} (h : fn.results = #[.cell p t, .tmp u]) (hp : tmps.getD p undef = .pointer (some ⟨g, 0, none⟩)) (hv : tmps.getD u undef = v) (hb : W.heap[g]? = some (.cells cs tt (0, 0)))
    (hu : P.underlying t = some (.array n e)) (hi : (P.info? t).map (·.size) = some cs.size) : (results fn tmps).run P W = .ok (.tuple #[.agg cs, v]) W := by
  have hr := run_loadVar_row (P := P) W g tt t cs (0, 0) _ hb hu rfl hi
  rw [results_cell_tmp h, hp, hv]
  simp only [asAddr, Sem.run_pure, Result.andThen, hr]
theorem add_block (ad : Addr) (j : Nat) : (ad.add j).block = ad.block := by unfold Addr.add; split <;> rfl
theorem cell_far {W : World} {g k : Nat} {v : Value} {a : Addr} (h : a.block ≠ g) : (W.setCell ⟨g, k, none⟩ v).cell? a = W.cell? a := by
  unfold World.cell?
  rw [Below.heap_setCell W ⟨g, k, none⟩ v a.block h]
set_option maxHeartbeats 1000000 in
set_option maxRecDepth 100000 in
theorem hash_calls (s : ByteArray) (w : World) (hs : s.size + 1 ≤ 8796093022208) :
    Calls Try.prog 15 #[.string s] w fun e w' => e = .returned (.tuple #[.agg (arrC .u32 (hashN s).1), .bool (hashN s).2]) ∧ Below w.heap.size w w' := by
  obtain ⟨X, hX⟩ : ∃ X, wordsN s = X := ⟨_, rfl⟩
  have hN : hashN s = hashL X := by unfold hashN; rw [hX]
  rw [hN]
  have HWD := Aside0.mk (fun W => Ln.words_calls s W hs)
  rw [show wordsR s (s ++ ⟨#[32]⟩) (s.size + 1) 0 (-1) [] = X from hX] at HWD
  obtain ⟨R, hR⟩ : ∃ R, hashL X = R := ⟨_, rfl⟩
  rw [hR]
  have HR := Aside0.mk hR
  clear hX hN hR
  have hz5 : outK X 0 = zeros5 := rfl
  go_enter Try.func15, Try.ntmps15
  go_wp2_with (first
    | ((with_reducible refine gate_dst (N := 2) rfl ?_); refine box_event ?hg (N := 2) ?hd (cs := arrC .u32 zeros5) (t := 23) ?hr ?_; (case hd => rfl); (case hg => rfl); (case hr => first | (go_simp; done) | (go_simp; rfl)); intro g hgW w1 hbox hb1; have HB := Aside0.mk hb1; have BK := Aside0.mk hbox; have HG : Aside0 (w.heap.size ≤ g) := ⟨by omega⟩; clear hb1 hbox hgW)
    | ((with_reducible refine gate_callee (f := 19) rfl ?_); fail))
  refine (HWD.out _).mono ?_
  rintro e w2 ⟨v, rfl, ho, hb2⟩
  obtain ⟨A, c, rfl, hc, hrd⟩ := Kd.R_reads ho
  have HA : Aside0 (∀ ad, A = some ad → w1.heap.size ≤ ad.block ∧ ad.block < w2.heap.size) := Aside0.mk (fun ad e => by (subst e; have h := (Kd.R_bound ho).1 ad.block (by simp [Value.ownBlock]); exact And.intro h.2.1 h.2.2.1))
  have HRD := Aside0.mk (Kd.reads_of_C (d := ByteArray.empty) hrd)
  have HBb := Aside0.mk (below_step HB.out hb2)
  have BKb := Aside0.mk (blk_below BK.out hb2)
  have HGL : Aside0 (g < w1.heap.size) := ⟨blk_lt BK.out⟩
  have hrun := HRD.out.2.1
  clear ho hb2 hrd HWD HB BK
  by_cases h5 : X.length = 5
  · obtain ⟨ad, hA, hcell⟩ := HRD.out.2.2 (by omega)
    subst hA
    have had := HA.out ad rfl
    have HCL : Aside0 (∀ j < 5, w2.cell? (ad.add j) = some (.string (X.getD j ByteArray.empty))) := ⟨fun j hj => hcell j (by omega)⟩
    have HNE : Aside0 (ad.block ≠ g) := ⟨by have := HGL.out; omega⟩
    clear HA HRD HGL hcell had
    have HX5 := Aside0.mk h5
    rw [h5]
    clear h5
    go_wp2
    go_loopw [3, 15] (fun o i wr => ∃ k : Nat, k ≤ 5 ∧ i = .int .i64 (k : Int) ∧ Aside0 (wr.heap[g]? = some (.cells (arrC .u32 (outK X k)) 23 (0, 0))) ∧ Aside0 (∀ j < 5, wr.cell? (ad.add j) = some (.string (X.getD j ByteArray.empty))) ∧ Aside0 (∀ i < k, (wordN (X.getD i ByteArray.empty)).2 = true) ∧ Aside0 (Below w.heap.size w wr)) (fun _ i _ => 5 - (intOf i).toNat)
    case atStart => exact ⟨0, by omega, rfl, BKb, HCL, ⟨fun i hi => by omega⟩, HBb⟩
    case round =>
      obtain ⟨k, hk, rfl, HK, HC, HOK, HB2⟩ := hrel
      clear BKb HCL HBb
      have hW5 := outK_length X k
      by_cases hlt : k < 5
      · have hx := HC.out k hlt
        have HN : Aside0 (outK X (k + 1) = (outK X k).set k (wordN (X.getD k ByteArray.empty)).1) := ⟨rfl⟩
        obtain ⟨x, hxx⟩ : ∃ x, X.getD k ByteArray.empty = x := ⟨_, rfl⟩
        rw [hxx] at hx HN
        have HXX := Aside0.mk hxx
        obtain ⟨n, b, hnb⟩ : ∃ n b, wordN x = (n, b) := ⟨_, _, rfl⟩
        have HWC := Aside0.mk (fun W => word_calls x W)
        rw [hnb] at HWC HN
        have HNB := Aside0.mk hnb
        clear hxx hnb
        go_wp2_with fail
        refine (HWC.out _).mono ?_
        rintro e w3 ⟨rfl, hb3⟩
        have hbk := blk_below HK.out hb3
        have hf := blk_frozen hbk k
        have hc2 := (blk_cell hbk k).trans (arrC_at (k := .u32) (L := outK X k) (i := k) (by omega))
        have HK3 := Aside0.mk hbk
        have HC3 : Aside0 (∀ j < 5, w3.cell? (ad.add j) = some (.string (X.getD j ByteArray.empty))) := ⟨fun j hj => pw_cell_below hb3 (HC.out j hj)⟩
        have HB3 := Aside0.mk (below_step HB2.out hb3)
        clear hbk hb3 HK HC HB2 hx
        cases b with
        | true =>
          go_wp2
          exact ⟨⟨k + 1, by omega, by go_num, ⟨by rw [HN.out]; exact blk_put HK3.out k _ (arrC_set _ _ _ _)⟩, ⟨fun j hj => (cell_far (a := ad.add j) (by rw [add_block]; exact HNE.out)).trans (HC3.out j hj)⟩, ⟨fun i hi => by
            rcases Nat.lt_or_ge i k with h | h
            · exact HOK.out i h
            · obtain rfl : i = k := by omega
              rw [HXX.out, HNB.out]⟩, ⟨below_set HB3.out HG.out⟩⟩, by simp [intOf]; omega⟩
        | false =>
          have HR' := HR.out
          rw [hash_bad (k := k) (by have := HX5.out; omega) (by rw [HXX.out, HNB.out])] at HR'
          subst HR'
          have HK4 := Aside0.mk (blk_put HK3.out k (.int .u32 n) (arrC_set .u32 (outK X k) k n))
          have hl4 : ((outK X k).set k n).length = 5 := by rw [List.length_set]; exact hW5
          go_wp2_with (first
            | ((with_reducible refine gate_store (t := 23) (p := 2) (v := .tmp 29) rfl ?_); refine storeAll_event (cs := arrC .u32 zeros5) ?hg ?hd rfl rfl rfl HK4.out ?hi ?hs (arrC_one _ _) ?_; (case hd => rfl); (case hg => rfl); (case hi => rfl); (case hs => rw [arrC_size, hl4]; rfl)))
          refine bodyPost_ret (v := .tuple #[.agg (arrC .u32 zeros5), .bool false]) ?_ rfl ⟨rfl, below_setRow (below_set HB3.out HG.out) HG.out _⟩
          exact results_cell2 rfl rfl rfl (setRow_heap _ _ _ _ _ _ HK4.out) (by rfl) (by rfl)
      · obtain rfl : k = 5 := by omega
        have HR' := HR.out
        rw [hash_good HX5.out HOK.out] at HR'
        obtain ⟨D, hD⟩ : ∃ D, outK X 5 = D := ⟨_, rfl⟩
        rw [hD] at HR' HK hW5
        subst HR'
        clear hD HOK HC
        go_wp2_with (first
          | ((with_reducible refine gate_dst (N := 31) rfl ?_); refine load_event ?hg (N := 31) ?hd rfl rfl HK.out (by rfl) ?hi ?_; (case hd => rfl); (case hg => rfl); (case hi => rw [arrC_size, hW5]; rfl))
          | ((with_reducible refine gate_store (t := 23) (p := 2) (v := .tmp 31) rfl ?_); refine storeAll_event ?hg ?hd rfl rfl rfl HK.out ?hi rfl (arrC_one _ _) ?_; (case hd => rfl); (case hg => rfl); (case hi => rw [arrC_size, hW5]; rfl)))
        refine bodyPost_ret (v := .tuple #[.agg (arrC .u32 D), .bool true]) ?_ rfl ⟨rfl, below_setRow HB2.out HG.out _⟩
        exact results_cell2 rfl rfl rfl (setRow_heap _ _ _ _ _ _ HK.out) (by rfl) (by rw [arrC_size, hW5]; rfl)
  · have e5 : ((X.length : Int) != 5) = true := by simp; omega
    have hl0 : arrC .u32 zeros5 = arrC .u32 zeros5 := rfl
    have HR' := HR.out
    rw [hash_short h5] at HR'
    subst HR'
    go_wp2_with (first
      | ((with_reducible refine gate_dst (N := 12) rfl ?_); refine load_event ?hg (N := 12) ?hd rfl rfl BKb.out (by rfl) ?hi ?_; (case hd => rfl); (case hg => rfl); (case hi => rfl))
      | ((with_reducible refine gate_store (t := 23) (p := 2) (v := .tmp 12) rfl ?_); refine storeAll_event ?hg ?hd rfl rfl rfl BKb.out ?hi rfl (arrC_one _ _) ?_; (case hd => rfl); (case hg => rfl); (case hi => rfl)))
    refine bodyPost_ret (v := .tuple #[.agg (arrC .u32 zeros5), .bool false]) ?_ rfl ⟨rfl, below_setRow HBb.out HG.out _⟩
    exact results_cell2 rfl rfl rfl (setRow_heap _ _ _ _ _ _ BKb.out) (by rfl) (by rfl)
end Go.Proofs.Ytncbhlionllpmaa.Nt
