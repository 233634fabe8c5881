/- The document's Word and Hash: the walks; condition: a text of at most 500 bytes. -/
import Derived.Test.YtncbhlionllpmaaNtT
import Derived.Test.YtncbhlionllpmaaPRWordx1
namespace Go.Proofs.Ytncbhlionllpmaa.Nt
open Go.RowKit Go.Proofs.YtncbhlionllpmaaW.PrintWords Go.Proofs.YtncbhlionllpmaaW.PrintLast Go.Proofs.YtncbhlionllpmaaW.PrintMore PRWord

theorem wraps_u32' (n : Int) (h0 : 0 ≤ n) (h1 : n < 2 ^ 32) : IntKind.u32.wrap n = n := by rw [IntKind.wrap_u32]; omega
theorem or_dig {x y : Int} (h0 : 0 ≤ x) (h1 : x % 16 = 0) (h2 : x < 4294967296) (h3 : 0 ≤ y) (h4 : y < 16) : bits .or .u32 x y = x + y :=
  bits_join .u32 32 (by decide) wraps_u32' 4 x y h0 h1 h2 h3 h4 (by omega)
def digI : Option Nat → Int
  | some d => d
  | none => -1
theorem refdigit (k : Nat) (b : UInt8) : epactref07_digit.f (k + 2) (b.toNat : Int) = some (digI (digN b.toNat)) := by
  have h256 : b.toNat < 256 := UInt8.toNat_lt _
  generalize b.toNat = r at *
  unfold epactref07_digit.f digN
  by_cases h1 : 48 ≤ r ∧ r ≤ 57
  · rw [if_pos h1, if_pos (by omega), decide_eq_true (by omega), epactref07_digit.j0, if_pos rfl]
    show some _ = some ((r - 48 : Nat) : Int)
    congr 1
    omega
  · rw [if_neg h1]
    have e : (if (r : Int) ≥ 48 then epactref07_digit.j0 (k + 2) (r : Int) (decide ((r : Int) ≤ 57)) else epactref07_digit.j0 (k + 2) (r : Int) false) = epactref07_digit.j0 (k + 2) (r : Int) false := by
      by_cases h : (r : Int) ≥ 48
      · rw [if_pos h, decide_eq_false (by omega)]
      · rw [if_neg h]
    rw [e, epactref07_digit.j0, if_neg Bool.false_ne_true]
    by_cases h2 : 97 ≤ r ∧ r ≤ 102
    · rw [if_pos h2, if_pos (by omega), decide_eq_true (by omega), epactref07_digit.j1, if_pos rfl]
      show some _ = some ((r - 87 : Nat) : Int)
      congr 1
      omega
    · rw [if_neg h2]
      have e2 : (if (r : Int) ≥ 97 then epactref07_digit.j1 (k + 1) (r : Int) (decide ((r : Int) ≤ 102)) else epactref07_digit.j1 (k + 1) (r : Int) false) = epactref07_digit.j1 (k + 1) (r : Int) false := by
        by_cases h : (r : Int) ≥ 97
        · rw [if_pos h, decide_eq_false (by omega)]
        · rw [if_neg h]
      rw [e2, epactref07_digit.j1, if_neg Bool.false_ne_true]
      by_cases h3 : 65 ≤ r ∧ r ≤ 70
      · rw [if_pos h3, if_pos (by omega), if_pos (by omega)]
        show some _ = some ((r - 55 : Nat) : Int)
        congr 1
        omega
      · rw [if_neg h3]
        by_cases h4 : (r : Int) ≥ 65
        · rw [if_pos h4, if_neg (by omega)]; rfl
        · rw [if_neg h4]; rfl
theorem refword_loop {s : ByteArray} (hs : s.size ≤ 8) : ∀ (d j n : Nat), j + d = s.size → n < 16 ^ j →
    Evn (fun k => epactref07_Word.l0 k s (n : Int) (j : Int)) (digE (wordB (s.data.toList.drop j) n))
  | 0, j, n, hj, hn => by
    rw [List.drop_of_length_le (by rw [size_len]; omega)]
    refine Evn.now fun k => ?_
    rw [epactref07_Word.l0, if_neg (by omega)]
    rfl
  | d + 1, j, n, hj, hn => by
    obtain ⟨x, hx⟩ := has_at (s := s) (j := j) (by omega)
    have hb := bt_get hx
    rw [drop_at hx]
    cases hd : digN x.toNat with
    | none =>
      have e : digE (wordB (x :: s.data.toList.drop (j + 1)) n) = (0, false) := by
        show digE (match digN x.toNat with | some d => wordB _ (n * 16 + d) | none => none) = _
        rw [hd]; rfl
      rw [e]
      refine ⟨3, fun k hk => ?_⟩
      obtain ⟨m, rfl⟩ : ∃ m, k = m + 2 + 1 := ⟨k - 3, by omega⟩
      show epactref07_Word.l0 (m + 2 + 1) s (n : Int) (j : Int) = _
      rw [epactref07_Word.l0, if_pos (by omega), if_pos (by omega), hb, refdigit, hd, Option.bind_some, if_pos (by decide)]
    | some d' =>
      have hd16 := digN_lt hd
      obtain ⟨hr1, hr2, hr3⟩ := pow_room (n := n) (d := d') (pos := j) (by omega) hn hd16
      have e : wordB (x :: s.data.toList.drop (j + 1)) n = wordB (s.data.toList.drop (j + 1)) (n * 16 + d') := by
        show (match digN x.toNat with | some d => wordB _ (n * 16 + d) | none => none) = _
        rw [hd]
      rw [e]
      obtain ⟨k0, hk0⟩ := refword_loop hs d (j + 1) (n * 16 + d') (by omega) hr3
      refine ⟨k0 + 3, fun k hk => ?_⟩
      obtain ⟨m, rfl⟩ : ∃ m, k = m + 2 + 1 := ⟨k - 3, by omega⟩
      show epactref07_Word.l0 (m + 2 + 1) s (n : Int) (j : Int) = _
      have e1 : bits .or .u32 (((n : Int) * 16) % 4294967296) (((digI (some d')) : Int) % 4294967296) = ((n * 16 + d' : Nat) : Int) := by
        have e2 : (digI (some d')) % 4294967296 = (d' : Int) := by show (d' : Int) % 4294967296 = d'; omega
        have e3 : ((n : Int) * 16) % 4294967296 = (n : Int) * 16 := by omega
        rw [e2, e3, or_dig (by omega) (by omega) (by omega) (by omega) (by omega)]
        omega
      rw [epactref07_Word.l0, if_pos (by omega), if_pos (by omega), hb, refdigit, hd, Option.bind_some, if_neg (by show ¬ ((d' : Int) < 0); omega), e1, next_i (by omega)]
      exact hk0 (m + 2) (by omega)
theorem refword_ev (s : ByteArray) : Evn (fun k => epactref07_Word.f k s) (wordN s) := by
  rw [wordN_B]
  by_cases h0 : s.size = 0
  · rw [if_pos (.inl h0)]
    refine Evn.now fun k => ?_
    show epactref07_Word.f (k + 1) s = _
    unfold epactref07_Word.f
    rw [if_pos (by omega), epactref07_Word.j0, if_pos rfl]
  by_cases h8 : 8 < s.size
  · rw [if_pos (.inr h8)]
    refine Evn.now fun k => ?_
    show epactref07_Word.f (k + 1) s = _
    unfold epactref07_Word.f
    rw [if_neg (by omega), decide_eq_true (by omega), epactref07_Word.j0, if_pos rfl]
  rw [if_neg (by omega)]
  refine Evn.step (refword_loop (by omega) s.size 0 0 (by omega) (by decide)) fun k => ?_
  show epactref07_Word.f (k + 1) s = _
  unfold epactref07_Word.f
  rw [if_neg (by omega), decide_eq_false (by omega), epactref07_Word.j0, if_neg Bool.false_ne_true]
  rfl
theorem refword_calls (s : ByteArray) (w : World) :
    Calls Try.prog 14 #[.string s] w fun e w' => e = .returned (.tuple #[.int .u32 (wordN s).1, .bool (wordN s).2]) ∧ Drawn0 w w' := by
  obtain ⟨k, hk⟩ := (refword_ev s).get
  exact epactref07_Word.calls k s _ _ w hk
set_option maxHeartbeats 1000000 in
set_option maxRecDepth 100000 in
theorem refhash_calls (s : ByteArray) (w : World) (hs : s.size ≤ 500) :
    Calls Try.prog 16 #[.string s] w fun e w' => e = .returned (.tuple #[.agg (arrC .u32 (hashN s).1), .bool (hashN s).2]) ∧ Below w.heap.size w w' := by
  obtain ⟨X, hX⟩ : ∃ X, wordsN s = X := ⟨_, rfl⟩
  have hN : hashN s = hashL X := by unfold hashN; rw [hX]
  rw [hN]
  have HWD := Aside0.mk (fun W => refwords_calls s W hs)
  rw [hX] at HWD
  obtain ⟨R, hR⟩ : ∃ R, hashL X = R := ⟨_, rfl⟩
  rw [hR]
  have HR := Aside0.mk hR
  clear hX hN hR
  go_enter Try.func16, Try.ntmps16
  go_wp2_with (first
    | ((with_reducible refine gate_dst (N := 2) rfl ?_); refine box_event ?hg (N := 2) ?hd (cs := arrC .u32 zeros5) (t := 23) ?hr ?_; (case hd => rfl); (case hg => rfl); (case hr => first | (go_simp; done) | (go_simp; rfl)); intro g hgW w1 hbox hb1; have HB := Aside0.mk hb1; have BK := Aside0.mk hbox; have HG : Aside0 (w.heap.size ≤ g) := ⟨by omega⟩; clear hb1 hbox hgW))
  refine (HWD.out _).mono ?_
  rintro e w2 ⟨v, rfl, ho, hb2⟩
  obtain ⟨A, c, rfl, hc, hrd⟩ := Kd.R_reads ho
  have HA : Aside0 (∀ ad, A = some ad → w1.heap.size ≤ ad.block ∧ ad.block < w2.heap.size) := Aside0.mk (fun ad e => by (subst e; have h := (Kd.R_bound ho).1 ad.block (by simp [Value.ownBlock]); exact And.intro h.2.1 h.2.2.1))
  have HRD := Aside0.mk (Kd.reads_of_C (d := ByteArray.empty) hrd)
  have HBb := Aside0.mk (below_step HB.out hb2)
  have BKb := Aside0.mk (blk_below BK.out hb2)
  have hrun := HRD.out.2.1
  clear ho hb2 hrd HWD HB BK
  by_cases h5 : X.length = 5
  · obtain ⟨ad, hA, hcell⟩ := HRD.out.2.2 (by omega)
    subst hA
    have had := HA.out ad rfl
    have HCL : Aside0 (∀ j < 5, w2.cell? (ad.add j) = some (.string (X.getD j ByteArray.empty))) := ⟨fun j hj => hcell j (by omega)⟩
    have HAD : Aside0 (ad.block < w2.heap.size) := ⟨had.2⟩
    clear HA HRD hcell had
    have HX5 := Aside0.mk h5
    rw [h5]
    clear h5
    go_wp2_with (first
      | ((with_reducible refine gate_dst (N := 5) rfl ?_); refine box_event ?hg (N := 5) ?hd (cs := arrC .u32 zeros5) (t := 23) ?hr ?_; (case hd => rfl); (case hg => rfl); (case hr => first | (go_simp; done) | (go_simp; rfl)); intro g2 hgW w3 hbox hb3; have HB3 := Aside0.mk (below_step HBb.out hb3); have BQ := Aside0.mk hbox; have BK3 := Aside0.mk (blk_below BKb.out hb3); have HC3 : Aside0 (∀ j < 5, w3.cell? (ad.add j) = some (.string (X.getD j ByteArray.empty))) := ⟨fun j hj => pw_cell_below hb3 (HCL.out j hj)⟩; have HG2 : Aside0 (w.heap.size ≤ g2) := ⟨by rw [hgW]; exact below_size HBb.out⟩; have HNE : Aside0 (ad.block ≠ g2) := ⟨by have := HAD.out; omega⟩; have HGG : Aside0 (g ≠ g2) := ⟨by have := blk_lt BKb.out; omega⟩; clear hb3 hbox hgW HBb BKb HCL HAD))
    go_loopw [6] (fun i wr => ∃ k : Nat, k ≤ 5 ∧ i = .int .i64 (k : Int) ∧ Aside0 (wr.heap[g2]? = some (.cells (arrC .u32 (outK X k)) 23 (0, 0))) ∧ Aside0 (wr.heap[g]? = some (.cells (arrC .u32 zeros5) 23 (0, 0))) ∧ Aside0 (∀ j < 5, wr.cell? (ad.add j) = some (.string (X.getD j ByteArray.empty))) ∧ Aside0 (∀ i < k, (wordN (X.getD i ByteArray.empty)).2 = true) ∧ Aside0 (Below w.heap.size w wr)) (fun i _ => 5 - (intOf i).toNat)
    case atStart => exact ⟨0, by omega, rfl, BQ, BK3, HC3, ⟨fun i hi => by omega⟩, HB3⟩
    case round =>
      obtain ⟨k, hk, rfl, HK, HZ, HC, HOK, HB2⟩ := hrel
      clear BQ BK3 HC3 HB3
      have hW5 := outK_length X k
      by_cases hlt : k < 5
      · have hx := HC.out k hlt
        have HN : Aside0 (outK X (k + 1) = (outK X k).set k (wordN (X.getD k ByteArray.empty)).1) := ⟨rfl⟩
        obtain ⟨x, hxx⟩ : ∃ x, X.getD k ByteArray.empty = x := ⟨_, rfl⟩
        rw [hxx] at hx HN
        have HXX := Aside0.mk hxx
        obtain ⟨n, b, hnb⟩ : ∃ n b, wordN x = (n, b) := ⟨_, _, rfl⟩
        have HWC := Aside0.mk (fun W => refword_calls x W)
        rw [hnb] at HWC HN
        have HNB := Aside0.mk hnb
        clear hxx hnb
        have hf := blk_frozen HK.out k
        have hc2 := (blk_cell HK.out k).trans (arrC_at (k := .u32) (L := outK X k) (i := k) (by omega))
        go_wp2_with fail
        refine (HWC.out _).mono ?_
        rintro e w3 ⟨rfl, ⟨nd, rfl⟩⟩
        cases b with
        | true =>
          go_wp2
          exact ⟨⟨k + 1, by omega, by go_num, ⟨by rw [HN.out]; exact blk_put (blk_drewN HK.out nd) k _ (arrC_set _ _ _ _)⟩, ⟨blk_far (blk_drewN HZ.out nd) HGG.out _⟩, ⟨fun j hj => (cell_far (a := ad.add j) (by rw [add_block]; exact HNE.out)).trans (HC.out j hj)⟩, ⟨fun i hi => by
            rcases Nat.lt_or_ge i k with h | h
            · exact HOK.out i h
            · obtain rfl : i = k := by omega
              rw [HXX.out, HNB.out]⟩, ⟨below_set (pw_below_drewN HB2.out nd) HG2.out⟩⟩, by simp [intOf]; omega⟩
        | false =>
          have HR' := HR.out
          rw [hash_bad (k := k) (by have := HX5.out; omega) (by rw [HXX.out, HNB.out])] at HR'
          subst HR'
          have HZ4 := Aside0.mk (blk_drewN HZ.out nd)
          go_wp2_with (first
            | ((with_reducible refine gate_store (t := 23) (p := 2) (v := .tmp 29) rfl ?_); refine storeAll_event (cs := arrC .u32 zeros5) ?hg ?hd rfl rfl rfl HZ4.out ?hi rfl (arrC_one _ _) ?_; (case hd => rfl); (case hg => rfl); (case hi => rfl)))
          refine bodyPost_ret (v := .tuple #[.agg (arrC .u32 zeros5), .bool false]) ?_ rfl ⟨rfl, below_setRow (pw_below_drewN HB2.out nd) HG.out _⟩
          exact results_cell2 rfl rfl rfl (setRow_heap _ _ _ _ _ _ HZ4.out) (by rfl) (by rfl)
      · obtain rfl : k = 5 := by omega
        have HR' := HR.out
        rw [hash_good HX5.out HOK.out] at HR'
        obtain ⟨D, hD⟩ : ∃ D, outK X 5 = D := ⟨_, rfl⟩
        rw [hD] at HR' HK hW5
        subst HR'
        clear hD HOK HC
        go_wp2_with (first
          | ((with_reducible refine gate_dst (N := 33) rfl ?_); refine load_event ?hg (N := 33) ?hd rfl rfl HK.out (by rfl) ?hi ?_; (case hd => rfl); (case hg => rfl); (case hi => rw [arrC_size, hW5]; rfl))
          | ((with_reducible refine gate_store (t := 23) (p := 2) (v := .tmp 33) rfl ?_); refine storeAll_event (cs := arrC .u32 D) ?hg ?hd rfl rfl rfl HZ.out ?hi ?hs (arrC_one _ _) ?_; (case hd => rfl); (case hg => rfl); (case hi => rw [arrC_size, hW5]; rfl); (case hs => rw [arrC_size, arrC_size, hW5]; rfl)))
        refine bodyPost_ret (v := .tuple #[.agg (arrC .u32 D), .bool true]) ?_ rfl ⟨rfl, below_setRow HB2.out HG.out _⟩
        exact results_cell2 rfl rfl rfl (setRow_heap _ _ _ _ _ _ HZ.out) (by rfl) (by rw [arrC_size, hW5]; rfl)
  · have e5 : ((X.length : Int) != 5) = true := by simp; omega
    have HR' := HR.out
    rw [hash_short h5] at HR'
    subst HR'
    go_wp2_with (first
      | ((with_reducible refine gate_store (t := 23) (p := 2) (v := .tmp 14) rfl ?_); refine storeAll_event (cs := arrC .u32 zeros5) ?hg ?hd rfl rfl rfl BKb.out ?hi rfl (arrC_one _ _) ?_; (case hd => rfl); (case hg => rfl); (case hi => rfl)))
    refine bodyPost_ret (v := .tuple #[.agg (arrC .u32 zeros5), .bool false]) ?_ rfl ⟨rfl, below_setRow HBb.out HG.out _⟩
    exact results_cell2 rfl rfl rfl (setRow_heap _ _ _ _ _ _ BKb.out) (by rfl) (by rfl)
end Go.Proofs.Ytncbhlionllpmaa.Nt
