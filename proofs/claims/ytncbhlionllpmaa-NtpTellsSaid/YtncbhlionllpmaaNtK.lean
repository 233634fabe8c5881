/- NtpTells: seconds of both epochs, words and hashes, as the document tells; condition: numbers of 64 bits, five words of 32 bits. -/
import Derived.Test.YtncbhlionllpmaaNtY
import Derived.Test.YtncbhlionllpmaaNtF
import Derived.Test.YtncbhlionllpmaaNtH
import Derived.Test.YtncbhlionllpmaaNtI
import Derived.Test.YtncbhlionllpmaaPRPosx1
import Derived.Test.YtncbhlionllpmaaPRNtpx1
import Derived.Deep.RegionHeld3
namespace Go.Proofs.Ytncbhlionllpmaa.Nt
open Go.RowKit Go.Proofs.YtncbhlionllpmaaW.PrintWords Go.Proofs.YtncbhlionllpmaaW.PrintLast Go.Proofs.YtncbhlionllpmaaW.PrintMore Ln

theorem fiveCells {W : World} {g : Nat} {x0 x1 x2 x3 x4 : Int} {T : Nat} (h : W.heap[g]? = some (.cells (arrC .u32 [x0, x1, x2, x3, x4]) T (0, 0))) :
    W.cell? ⟨g, 0, none⟩ = some (.int .u32 x0) ∧ W.cell? ⟨g, 1, none⟩ = some (.int .u32 x1) ∧ W.cell? ⟨g, 2, none⟩ = some (.int .u32 x2) ∧ W.cell? ⟨g, 3, none⟩ = some (.int .u32 x3) ∧ W.cell? ⟨g, 4, none⟩ = some (.int .u32 x4) :=
  ⟨(blk_cell h 0).trans rfl, (blk_cell h 1).trans rfl, (blk_cell h 2).trans rfl, (blk_cell h 3).trans rfl, (blk_cell h 4).trans rfl⟩
theorem posix_both (n : Int) (h : -9223372036854775808 ≤ n ∧ n ≤ 9223372036854775807) : ∃ a b, PNPos.ntp_Posix.f n = some (a, b) ∧ PRPos.epactref07_Posix.f n = some (a, b) := by
  by_cases h0 : n < 0
  · refine ⟨0, false, ?_, ?_⟩
    · unfold PNPos.ntp_Posix.f; rw [if_pos h0]
    · unfold PRPos.epactref07_Posix.f; rw [if_pos h0]
  · refine ⟨n - 2208988800, true, ?_, ?_⟩
    · unfold PNPos.ntp_Posix.f PNPos.num_Sub.f
      rw [if_neg h0, w64 (by omega), decide_eq_true (show n - 2208988800 < n by omega), if_neg (by decide)]
      rfl
    · unfold PRPos.epactref07_Posix.f
      rw [if_neg h0, w64 (by omega)]
theorem ntp_both (p : Int) (h : -9223372036854775808 ≤ p ∧ p ≤ 9223372036854775807) : ∃ a b, PNNtp.ntp_Ntp.f p = some (a, b) ∧ PRNtp.epactref07_Ntp.f p = some (a, b) := by
  unfold PNNtp.ntp_Ntp.f PNNtp.num_Add.f PRNtp.epactref07_Ntp.f
  by_cases h1 : p < -2208988800
  · refine ⟨0, false, ?_, by rw [if_pos h1]⟩
    rw [w64 (by omega), decide_eq_true (show p + 2208988800 > p by omega), if_neg (by decide)]
    simp only [Option.bind_some, if_true]
    rw [if_pos (by omega)]
  · by_cases h2 : p > 9223372034645787007
    · refine ⟨0, false, ?_, by rw [if_neg h1, if_pos h2]⟩
      have e : wrap64 (p + 2208988800) = p + 2208988800 - 18446744073709551616 := by unfold wrap64; omega
      rw [e, decide_eq_false (show ¬ (p + 2208988800 - 18446744073709551616 > p) by omega), if_pos (by decide), if_neg (by decide)]
      rfl
    · refine ⟨p + 2208988800, true, ?_, by rw [if_neg h1, if_neg h2, w64 (by omega)]⟩
      rw [w64 (by omega), decide_eq_true (show p + 2208988800 > p by omega), if_neg (by decide)]
      simp only [Option.bind_some, if_true]
      rw [if_neg (by omega)]
theorem hashN_five (s : ByteArray) : ∃ x0 x1 x2 x3 x4, (hashN s).1 = [x0, x1, x2, x3, x4] := by
  have h : (hashN s).1.length = 5 := by
    unfold hashN hashL
    split
    · exact outK_length _ 5
    · rfl
  exact ⟨_, _, _, _, _, five_list h⟩
set_option maxHeartbeats 1000000 in
set_option maxRecDepth 100000 in
theorem tells_long (n : Int) (s : ByteArray) (L : List Int) (w : World) (hs : 200 < s.size) (hsm : s.size ≤ 140737488351232) :
    Calls Try.prog 3 #[.int .i64 n, .string s, .agg (arrC .u32 L)] w fun e w' => e = .returned (.bool true) ∧ Below w.heap.size w w' := by
  go_enter Try.func3, Try.ntmps3
  go_wp2_with (first
    | ((with_reducible refine gate_dst (N := 5) rfl ?_); refine box_event ?hg (N := 5) ?hd (cs := arrC .u32 L) (t := 23) ?hr ?_; (case hd => rfl); (case hg => rfl); (case hr => first | (go_simp; done) | (go_simp; rfl)); intro g hgW w1 hbox hb1; have HB := Aside0.mk hb1; have BK := Aside0.mk hbox; have HG : Aside0 (w.heap.size ≤ g) := ⟨by omega⟩; clear hb1 hbox hgW))
  refine (small_calls _).mono ?_
  rintro e w2 ⟨rfl, hb2⟩
  have HB2 := Aside0.mk (below_step HB.out hb2)
  clear hb2 HB BK
  go_wp2
  go_ret
  exact ⟨rfl, HB2.out⟩
theorem keepS {w W W2 : World} {g g1 g2 : Nat} {y0 y1 y2 y3 y4 x0 x1 x2 x3 x4 : Int} (h : W.cell? ⟨g, 0, none⟩ = some (.int .u32 y0) ∧ W.cell? ⟨g, 1, none⟩ = some (.int .u32 y1) ∧ W.cell? ⟨g, 2, none⟩ = some (.int .u32 y2) ∧ W.cell? ⟨g, 3, none⟩ = some (.int .u32 y3) ∧ W.cell? ⟨g, 4, none⟩ = some (.int .u32 y4) ∧ W.cell? ⟨g1, 0, none⟩ = some (.int .u32 x0) ∧ W.cell? ⟨g1, 1, none⟩ = some (.int .u32 x1) ∧ W.cell? ⟨g1, 2, none⟩ = some (.int .u32 x2) ∧ W.cell? ⟨g1, 3, none⟩ = some (.int .u32 x3) ∧ W.cell? ⟨g1, 4, none⟩ = some (.int .u32 x4) ∧ W.cell? ⟨g2, 0, none⟩ = some (.int .u32 x0) ∧ W.cell? ⟨g2, 1, none⟩ = some (.int .u32 x1) ∧ W.cell? ⟨g2, 2, none⟩ = some (.int .u32 x2) ∧ W.cell? ⟨g2, 3, none⟩ = some (.int .u32 x3) ∧ W.cell? ⟨g2, 4, none⟩ = some (.int .u32 x4) ∧ Below w.heap.size w W) (hb : Below W.heap.size W W2) : W2.cell? ⟨g, 0, none⟩ = some (.int .u32 y0) ∧ W2.cell? ⟨g, 1, none⟩ = some (.int .u32 y1) ∧ W2.cell? ⟨g, 2, none⟩ = some (.int .u32 y2) ∧ W2.cell? ⟨g, 3, none⟩ = some (.int .u32 y3) ∧ W2.cell? ⟨g, 4, none⟩ = some (.int .u32 y4) ∧ W2.cell? ⟨g1, 0, none⟩ = some (.int .u32 x0) ∧ W2.cell? ⟨g1, 1, none⟩ = some (.int .u32 x1) ∧ W2.cell? ⟨g1, 2, none⟩ = some (.int .u32 x2) ∧ W2.cell? ⟨g1, 3, none⟩ = some (.int .u32 x3) ∧ W2.cell? ⟨g1, 4, none⟩ = some (.int .u32 x4) ∧ W2.cell? ⟨g2, 0, none⟩ = some (.int .u32 x0) ∧ W2.cell? ⟨g2, 1, none⟩ = some (.int .u32 x1) ∧ W2.cell? ⟨g2, 2, none⟩ = some (.int .u32 x2) ∧ W2.cell? ⟨g2, 3, none⟩ = some (.int .u32 x3) ∧ W2.cell? ⟨g2, 4, none⟩ = some (.int .u32 x4) ∧ Below w.heap.size w W2 :=
  ⟨pw_cell_below hb h.1, pw_cell_below hb h.2.1, pw_cell_below hb h.2.2.1, pw_cell_below hb h.2.2.2.1, pw_cell_below hb h.2.2.2.2.1, pw_cell_below hb h.2.2.2.2.2.1, pw_cell_below hb h.2.2.2.2.2.2.1, pw_cell_below hb h.2.2.2.2.2.2.2.1, pw_cell_below hb h.2.2.2.2.2.2.2.2.1, pw_cell_below hb h.2.2.2.2.2.2.2.2.2.1, pw_cell_below hb h.2.2.2.2.2.2.2.2.2.2.1, pw_cell_below hb h.2.2.2.2.2.2.2.2.2.2.2.1, pw_cell_below hb h.2.2.2.2.2.2.2.2.2.2.2.2.1, pw_cell_below hb h.2.2.2.2.2.2.2.2.2.2.2.2.2.1, pw_cell_below hb h.2.2.2.2.2.2.2.2.2.2.2.2.2.2.1, below_step (h.2.2.2.2.2.2.2.2.2.2.2.2.2.2.2) hb⟩
theorem startS {w W : World} {g g1 g2 : Nat} {y0 y1 y2 y3 y4 x0 x1 x2 x3 x4 : Int} (h : W.heap[g]? = some (.cells (arrC .u32 [y0, y1, y2, y3, y4]) 23 (0, 0))) (h1 : W.heap[g1]? = some (.cells (arrC .u32 [x0, x1, x2, x3, x4]) 23 (0, 0))) (h2 : W.heap[g2]? = some (.cells (arrC .u32 [x0, x1, x2, x3, x4]) 23 (0, 0))) (hb : Below w.heap.size w W) : W.cell? ⟨g, 0, none⟩ = some (.int .u32 y0) ∧ W.cell? ⟨g, 1, none⟩ = some (.int .u32 y1) ∧ W.cell? ⟨g, 2, none⟩ = some (.int .u32 y2) ∧ W.cell? ⟨g, 3, none⟩ = some (.int .u32 y3) ∧ W.cell? ⟨g, 4, none⟩ = some (.int .u32 y4) ∧ W.cell? ⟨g1, 0, none⟩ = some (.int .u32 x0) ∧ W.cell? ⟨g1, 1, none⟩ = some (.int .u32 x1) ∧ W.cell? ⟨g1, 2, none⟩ = some (.int .u32 x2) ∧ W.cell? ⟨g1, 3, none⟩ = some (.int .u32 x3) ∧ W.cell? ⟨g1, 4, none⟩ = some (.int .u32 x4) ∧ W.cell? ⟨g2, 0, none⟩ = some (.int .u32 x0) ∧ W.cell? ⟨g2, 1, none⟩ = some (.int .u32 x1) ∧ W.cell? ⟨g2, 2, none⟩ = some (.int .u32 x2) ∧ W.cell? ⟨g2, 3, none⟩ = some (.int .u32 x3) ∧ W.cell? ⟨g2, 4, none⟩ = some (.int .u32 x4) ∧ Below w.heap.size w W :=
  have c := fiveCells h
  have a := fiveCells h1
  have b := fiveCells h2
  ⟨c.1, c.2.1, c.2.2.1, c.2.2.2.1, c.2.2.2.2, a.1, a.2.1, a.2.2.1, a.2.2.2.1, a.2.2.2.2, b.1, b.2.1, b.2.2.1, b.2.2.2.1, b.2.2.2.2, hb⟩
set_option maxHeartbeats 2000000 in
set_option maxRecDepth 100000 in
theorem tells_walk (n : Int) (s : ByteArray) (L : List Int) (w : World) (hn : -9223372036854775808 ≤ n ∧ n ≤ 9223372036854775807) (hs : s.size ≤ 200) (hl : L.length = 5) (hb : ∀ i < 5, 0 ≤ L.getD i 0 ∧ L.getD i 0 < 4294967296) :
    Calls Try.prog 3 #[.int .i64 n, .string s, .agg (arrC .u32 L)] w fun e w' => e = .returned (.bool true) ∧ Below w.heap.size w w' := by
  obtain ⟨pa, pb, hp1, hp2⟩ := posix_both n hn
  obtain ⟨qa, qb, hq1, hq2⟩ := ntp_both n hn
  have HP1 := Aside0.mk (fun W => PNPos.ntp_Posix.calls n pa pb W hp1)
  have HP2 := Aside0.mk (fun W => PRPos.epactref07_Posix.calls n pa pb W hp2)
  have HQ1 := Aside0.mk (fun W => PNNtp.ntp_Ntp.calls n qa qb W hq1)
  have HQ2 := Aside0.mk (fun W => PRNtp.epactref07_Ntp.calls n qa qb W hq2)
  have HW1 := Aside0.mk (fun W => word_calls s W)
  have HW2 := Aside0.mk (fun W => refword_calls s W)
  have HH1 := Aside0.mk (fun W => hash_calls s W (by omega))
  have HH2 := Aside0.mk (fun W => refhash_calls s W (by omega))
  obtain ⟨wa, wb, hw⟩ : ∃ a b, wordN s = (a, b) := ⟨_, _, rfl⟩
  rw [hw] at HW1 HW2
  obtain ⟨x0, x1, x2, x3, x4, hx⟩ := hashN_five s
  obtain ⟨hb2, hbb⟩ : ∃ b, (hashN s).2 = b := ⟨_, rfl⟩
  rw [hx, hbb] at HH1 HH2
  obtain ⟨y0, y1, y2, y3, y4, rfl⟩ : ∃ y0 y1 y2 y3 y4, L = [y0, y1, y2, y3, y4] := ⟨_, _, _, _, _, five_list hl⟩
  obtain ⟨T, hT⟩ : ∃ T, textN [y0, y1, y2, y3, y4] = T := ⟨_, rfl⟩
  have HT1 : Aside0 (∀ W, Calls Try.prog 17 #[.agg #[.int .u32 y0, .int .u32 y1, .int .u32 y2, .int .u32 y3, .int .u32 y4]] W fun e w' => e = .returned (.string T) ∧ Below W.heap.size W w') := ⟨fun W => by rw [← hT]; exact text_calls _ W hl hb⟩
  have HT2 : Aside0 (∀ W, Calls Try.prog 18 #[.agg #[.int .u32 y0, .int .u32 y1, .int .u32 y2, .int .u32 y3, .int .u32 y4]] W fun e w' => e = .returned (.string T) ∧ Below W.heap.size W w') := ⟨fun W => by rw [← hT, text_same]; exact reftext_calls _ W hl hb⟩
  have HEQ := Aside0.mk (fun W => eq5_same x0 x1 x2 x3 x4 W)
  clear hp1 hp2 hq1 hq2 hw hx hbb hT hn hb hl
  go_enter Try.func3, Try.ntmps3
  go_wp2_with (first
    | ((with_reducible refine gate_dst (N := 5) rfl ?_); refine box_event ?hg (N := 5) ?hd (cs := arrC .u32 [y0, y1, y2, y3, y4]) (t := 23) ?hr ?_; (case hd => rfl); (case hg => rfl); (case hr => first | (go_simp; done) | (go_simp; rfl)); intro g hgW w1 hbox hb1; have HB := Aside0.mk hb1; have BK := Aside0.mk hbox; have HG : Aside0 (w.heap.size ≤ g) := ⟨by omega⟩; clear hb1 hbox hgW))
  refine (small_calls _).mono ?_
  rintro e w2 ⟨rfl, hb2⟩
  have HB2 := Aside0.mk (below_step HB.out hb2)
  have BK2 := Aside0.mk (blk_below BK.out hb2)
  clear hb2 HB BK
  go_wp2_with fail
  refine (HP1.out _).mono ?_
  rintro e w3 ⟨rfl, ⟨n1, rfl⟩⟩
  go_wp2_with fail
  refine (HP2.out _).mono ?_
  rintro e w3 ⟨rfl, ⟨n2, rfl⟩⟩
  go_wp2_with fail
  refine (HQ1.out _).mono ?_
  rintro e w3 ⟨rfl, ⟨n3, rfl⟩⟩
  go_wp2_with fail
  refine (HQ2.out _).mono ?_
  rintro e w3 ⟨rfl, ⟨n4, rfl⟩⟩
  go_wp2_with fail
  have HB3 := Aside0.mk (pw_below_drewN HB2.out (n1 + n2 + n3 + n4))
  have BK3 := Aside0.mk (blk_drewN BK2.out (n1 + n2 + n3 + n4))
  clear HB2 BK2
  generalize w2.drewN (n1 + n2 + n3 + n4) = w3 at *
  refine (HW1.out _).mono ?_
  rintro e w4 ⟨rfl, hb4⟩
  have HB4 := Aside0.mk (below_step HB3.out hb4)
  have BK4 := Aside0.mk (blk_below BK3.out hb4)
  clear hb4 HB3 BK3
  go_wp2_with fail
  refine (HW2.out _).mono ?_
  rintro e w5 ⟨rfl, ⟨n5, rfl⟩⟩
  have HB5 := Aside0.mk (pw_below_drewN HB4.out n5)
  have BK5 := Aside0.mk (blk_drewN BK4.out n5)
  clear HB4 BK4
  generalize w4.drewN n5 = w5 at *
  go_wp2_with fail
  refine (HH1.out _).mono ?_
  rintro e w6 ⟨rfl, hb6⟩
  have HB6 := Aside0.mk (below_step HB5.out hb6)
  have BK6 := Aside0.mk (blk_below BK5.out hb6)
  clear hb6 HB5 BK5
  go_wp2_with (first
    | ((with_reducible refine gate_dst (N := 20) rfl ?_); refine box_event ?hg (N := 20) ?hd (cs := arrC .u32 zeros5) (t := 23) ?hr ?_; (case hd => rfl); (case hg => rfl); (case hr => first | (go_simp; done) | (go_simp; rfl)); intro g1 hgW w7 hbox hbx; have HB7 := Aside0.mk (below_step HB6.out hbx); have Q7 := Aside0.mk hbox; have BK7 := Aside0.mk (blk_below BK6.out hbx); have G7 : Aside0 (w.heap.size ≤ g1) := ⟨by rw [hgW]; exact below_size HB6.out⟩; have N7 : Aside0 (g ≠ g1) := ⟨by have := blk_lt BK6.out; omega⟩; clear hbx hbox hgW)
    | ((with_reducible refine gate_store (t := 23) (p := 20) (v := .tmp 62) rfl ?_); refine storeAll_event (cs := arrC .u32 [x0, x1, x2, x3, x4]) ?hg ?hd rfl rfl rfl Q7.out ?hi ?hs (arrC_one _ _) ?_; (case hd => rfl); (case hg => rfl); (case hi => rfl); (case hs => rfl); have Q8 := Aside0.mk (setRow_heap _ _ _ (arrC .u32 [x0, x1, x2, x3, x4]) _ _ Q7.out); have HB8 := Aside0.mk (below_setRow HB7.out G7.out (arrC .u32 [x0, x1, x2, x3, x4])); have BK8 := Aside0.mk ((setRow_other w7 g1 g (arrC .u32 [x0, x1, x2, x3, x4]) N7.out).trans BK7.out); clear Q7 HB7 BK7; generalize w7.setRow g1 (arrC .u32 [x0, x1, x2, x3, x4]) = w8 at *))
  refine (HH2.out _).mono ?_
  rintro e w9 ⟨rfl, hb9⟩
  have HB9 := Aside0.mk (below_step HB8.out hb9)
  have BK9 := Aside0.mk (blk_below BK8.out hb9)
  have Q9 := Aside0.mk (blk_below Q8.out hb9)
  clear hb9 HB8 BK8 Q8
  go_wp2_with (first
    | ((with_reducible refine gate_dst (N := 22) rfl ?_); refine box_event ?hg (N := 22) ?hd (cs := arrC .u32 zeros5) (t := 23) ?hr ?_; (case hd => rfl); (case hg => rfl); (case hr => first | (go_simp; done) | (go_simp; rfl)); intro g2 hgW w10 hbox hbx; have HB7 := Aside0.mk (below_step HB9.out hbx); have R7 := Aside0.mk hbox; have BK7 := Aside0.mk (blk_below BK9.out hbx); have Q7 := Aside0.mk (blk_below Q9.out hbx); have G7b : Aside0 (w.heap.size ≤ g2) := ⟨by rw [hgW]; exact below_size HB9.out⟩; have N7b : Aside0 (g ≠ g2) := ⟨by have := blk_lt BK9.out; omega⟩; have N7c : Aside0 (g1 ≠ g2) := ⟨by have := blk_lt Q9.out; omega⟩; clear hbx hbox hgW)
    | ((with_reducible refine gate_store (t := 23) (p := 22) (v := .tmp 67) rfl ?_); refine storeAll_event (cs := arrC .u32 [x0, x1, x2, x3, x4]) ?hg ?hd rfl rfl rfl R7.out ?hi ?hs (arrC_one _ _) ?_; (case hd => rfl); (case hg => rfl); (case hi => rfl); (case hs => rfl); have R8 := Aside0.mk (setRow_heap _ _ _ (arrC .u32 [x0, x1, x2, x3, x4]) _ _ R7.out); have HB8 := Aside0.mk (below_setRow HB7.out G7b.out (arrC .u32 [x0, x1, x2, x3, x4])); have BK8 := Aside0.mk ((setRow_other w10 g2 g (arrC .u32 [x0, x1, x2, x3, x4]) N7b.out).trans BK7.out); have Q8 := Aside0.mk ((setRow_other w10 g2 g1 (arrC .u32 [x0, x1, x2, x3, x4]) N7c.out).trans Q7.out); clear Q7 HB7 BK7 R7; generalize w10.setRow g2 (arrC .u32 [x0, x1, x2, x3, x4]) = w11 at *))
  have hS := startS BK8.out Q8.out R8.out HB8.out
  have heq := HEQ.out
  clear BK8 Q8 R8 HP1 HP2 HQ1 HQ2 HW1 HW2 HH1 HH2
  go_region_held3 (fun w' => w'.cell? ⟨g, 0, none⟩ = some (.int .u32 y0) ∧ w'.cell? ⟨g, 1, none⟩ = some (.int .u32 y1) ∧ w'.cell? ⟨g, 2, none⟩ = some (.int .u32 y2) ∧ w'.cell? ⟨g, 3, none⟩ = some (.int .u32 y3) ∧ w'.cell? ⟨g, 4, none⟩ = some (.int .u32 y4) ∧ w'.cell? ⟨g1, 0, none⟩ = some (.int .u32 x0) ∧ w'.cell? ⟨g1, 1, none⟩ = some (.int .u32 x1) ∧ w'.cell? ⟨g1, 2, none⟩ = some (.int .u32 x2) ∧ w'.cell? ⟨g1, 3, none⟩ = some (.int .u32 x3) ∧ w'.cell? ⟨g1, 4, none⟩ = some (.int .u32 x4) ∧ w'.cell? ⟨g2, 0, none⟩ = some (.int .u32 x0) ∧ w'.cell? ⟨g2, 1, none⟩ = some (.int .u32 x1) ∧ w'.cell? ⟨g2, 2, none⟩ = some (.int .u32 x2) ∧ w'.cell? ⟨g2, 3, none⟩ = some (.int .u32 x3) ∧ w'.cell? ⟨g2, 4, none⟩ = some (.int .u32 x4) ∧ Below w.heap.size w w')
    (first | exact hS | exact keepS hS (below_drew (Below.refl _ _)) | exact keepS (keepS hS (below_drew (Below.refl _ _))) hb12 | exact keepS (keepS (keepS hS (below_drew (Below.refl _ _))) hb12) hb13)
    (first | (go_at_call 17; refine (HT1.out _).mono ?_; rintro e w12 ⟨rfl, hb12⟩) | (go_at_call 18; refine (HT2.out _).mono ?_; rintro e w13 ⟨rfl, hb13⟩))
  have HBZ := Aside0.mk (below_step (below_step (below_drew HB8.out) hb12) hb13)
  clear hb12 hb13 hS heq
  go_wp2
  go_ret
  exact ⟨rfl, HBZ.out⟩
end Go.Proofs.Ytncbhlionllpmaa.Nt
