/- NtpHashes: hashes are read of their texts, in great letters, too, and without the first noughts of a word, and with more blanks; condition: five words of 32 bits. -/
import Derived.Test.YtncbhlionllpmaaNtY
import Derived.Test.YtncbhlionllpmaaNtF
namespace Go.Proofs.Ytncbhlionllpmaa.Nt
open Go.RowKit Go.Proofs.YtncbhlionllpmaaW.PrintWords Go.Proofs.YtncbhlionllpmaaW.PrintLast Go.Proofs.YtncbhlionllpmaaW.PrintMore Ln

theorem five_cells {W : World} {g : Nat} {x0 x1 x2 x3 x4 : Int} {T : Nat} (h : W.heap[g]? = some (.cells (arrC .u32 [x0, x1, x2, x3, x4]) T (0, 0))) :
    W.cell? ⟨g, 0, none⟩ = some (.int .u32 x0) ∧ W.cell? ⟨g, 1, none⟩ = some (.int .u32 x1) ∧ W.cell? ⟨g, 2, none⟩ = some (.int .u32 x2) ∧ W.cell? ⟨g, 3, none⟩ = some (.int .u32 x3) ∧ W.cell? ⟨g, 4, none⟩ = some (.int .u32 x4) :=
  ⟨(blk_cell h 0).trans rfl, (blk_cell h 1).trans rfl, (blk_cell h 2).trans rfl, (blk_cell h 3).trans rfl, (blk_cell h 4).trans rfl⟩
/-- A sign in great letters, as a number. -/
def upI (c : UInt8) : Int := if 97 ≤ c.toNat then (c.toNat : Int) - 32 else c.toNat
theorem up_same (c : UInt8) : UInt8.ofNat (upI c).toNat = upU c := by
  have key : ∀ n : Fin 256, UInt8.ofNat (upI (UInt8.ofNat n.val)).toNat = upU (UInt8.ofNat n.val) := by decide +kernel
  have h := key ⟨c.toNat, UInt8.toNat_lt _⟩
  simpa using h
theorem up_str (y : ByteArray) : strOfNums (y.data.toList.map upI) = upS y := by
  refine bytes_eq ?_
  show ((y.data.toList.map upI).map fun n => UInt8.ofNat n.toNat) = y.data.toList.map upU
  rw [List.map_map]
  exact List.map_congr_left fun c _ => up_same c
theorem conv_R {W : World} {base : Nat} {p : Nat → Prop} {v : Value} {l : List Int} (h : Kd.R (Kd.int .u8) 5 W base p v l) {s : ByteArray} (hs : strOfNums l = s) : (convert 36 9 v).run Try.prog W = .ok (.string s) W := by
  obtain ⟨A, c, rfl, _, hr⟩ := Kd.R_reads h
  rw [← hs]
  exact Kd.C_string Try.underlying36 Try.underlying5 Try.underlying9 hr
theorem first_at {y : ByteArray} {a : UInt8} {r : List UInt8} (hl : y.data.toList = a :: r) (h : 0 < y.size) : y[0]'h = a := by
  have e0 : y.data.toList[0]'(by rw [size_len]; exact h) = y[0]'h := rfl
  rw [← e0]
  simp only [hl]
  rfl
theorem strip_go {y : ByteArray} (h : 1 < y.size) (h0 : (((y[0]'(by omega)).toNat : Int) == 48) = true) : strip y.data.toList = strip (y.extract 1 y.size).data.toList := by
  have hs := size_len y
  rw [Lib.extract_data]
  obtain ⟨l, hl⟩ : ∃ l, y.data.toList = l := ⟨_, rfl⟩
  rw [hl] at hs
  rcases l with _ | ⟨a, _ | ⟨b, r⟩⟩
  · simp at hs; omega
  · simp at hs; omega
  · have ha : a = 48 := by
      rw [first_at hl] at h0
      have h1 : (a.toNat : Int) = 48 := by simpa using h0
      exact UInt8.toNat_inj.mp (show a.toNat = 48 by omega)
    rw [hl, ← hs]
    subst ha
    show (if (48 : UInt8) = 48 then strip (b :: r) else _) = _
    rw [if_pos rfl]
    simp
theorem strip_stay {y : ByteArray} (h : ∀ h : 1 < y.size, ¬ (((y[0]'(by omega)).toNat : Int) == 48) = true) : strip y.data.toList = y.data.toList := by
  have hs := size_len y
  obtain ⟨l, hl⟩ : ∃ l, y.data.toList = l := ⟨_, rfl⟩
  rw [hl] at hs ⊢
  rcases l with _ | ⟨a, _ | ⟨b, r⟩⟩
  · rfl
  · rfl
  · have h1 : 1 < y.size := by simp at hs; omega
    have hne : ¬ a = 48 := fun e => h h1 (by rw [first_at hl, e]; rfl)
    show (if a = 48 then _ else _) = _
    rw [if_neg hne]
theorem up_take {y : ByteArray} {m : Nat} (h : m < y.size) : (y.data.toList.take (m + 1)).map upI = (y.data.toList.take m).map upI ++ [upI (y[m]'h)] := by
  have h' : m < y.data.toList.length := by rw [size_len]; exact h
  rw [List.take_succ_eq_append_getElem h', List.map_append]
  rfl
theorem blk_keep' {W W1 : World} {h : Nat} {o : Obj} (hh : Aside0 (W.heap[h]? = some o)) (hb : Aside0 (Below W.heap.size W W1)) : Aside0 (W1.heap[h]? = some o) := ⟨(hb.out.block _ (blk_lt hh.out)).trans hh.out⟩
theorem word_at {H : List Int} (hb : ∀ i < 5, 0 ≤ H.getD i 0 ∧ H.getD i 0 < 4294967296) {k : Nat} (hk : k < 5) : ((wordsN (textN H)).getD k ByteArray.empty).data.toList = w8 (H.getD k 0) := by
  rw [text_words H hb]
  have : k = 0 ∨ k = 1 ∨ k = 2 ∨ k = 3 ∨ k = 4 := by omega
  rcases this with rfl | rfl | rfl | rfl | rfl <;> rfl
set_option maxHeartbeats 2000000 in
set_option maxRecDepth 100000 in
theorem hashes_walk (L : List Int) (w : World) (hl : L.length = 5) (hb : ∀ i < 5, 0 ≤ L.getD i 0 ∧ L.getD i 0 < 4294967296) :
    Calls Try.prog 5 #[.agg (arrC .u32 L)] w fun e w' => e = .returned (.bool true) ∧ Below w.heap.size w w' := by
  have HTX := Aside0.mk (fun W => text_calls L W hl hb)
  have HS1 := hash_text hl hb
  have HS2 := hash_t hl hb
  have HS3 := hash_u hl hb
  have HWA := Aside0.mk (fun k (hk : k < 5) => word_at hb hk)
  have hXW := text_words L hb
  obtain ⟨s, hs⟩ : ∃ s, textN L = s := ⟨_, rfl⟩
  have hsz : s.size = 44 := by rw [← hs, Lib.size_eq, text_data]; rfl
  rw [hs] at HTX HS1 HS2 HS3 HWA hXW
  obtain ⟨X, hX⟩ : ∃ X, wordsN s = X := ⟨_, rfl⟩
  have hX5 : X.length = 5 := by rw [← hX, hXW]; rfl
  have HWD := Aside0.mk (fun W => Ln.words_calls s W (by omega))
  rw [show wordsR s (s ++ ⟨#[32]⟩) (s.size + 1) 0 (-1) [] = X from hX] at HWD
  rw [hX] at HS2 HS3 HWA
  have HZ8 : Aside0 (∀ i < 5, (X.getD i ByteArray.empty).size = 8) := ⟨fun i hi => by rw [Lib.size_eq, HWA.out i hi]; rfl⟩
  have HC1 := Aside0.mk (fun W => hash_calls s W (by omega))
  have HC2 := Aside0.mk (fun W => hash_calls (tN X 5) W (by have := tN_size (X := X) (fun i hi => by rw [HZ8.out i hi]; exact Nat.le_refl _) 5 (Nat.le_refl _); omega))
  have HC3 := Aside0.mk (fun W => hash_calls (uN X 5) W (by have := uN_size (X := X) (fun i hi => by rw [HZ8.out i hi]; exact Nat.le_refl _) 5 (Nat.le_refl _); omega))
  rw [HS1] at HC1
  rw [HS2] at HC2
  rw [HS3] at HC3
  obtain ⟨x0, x1, x2, x3, x4, rfl⟩ : ∃ x0 x1 x2 x3 x4, L = [x0, x1, x2, x3, x4] := ⟨_, _, _, _, _, five_list hl⟩
  have HEQ := Aside0.mk (fun W => eq5_same x0 x1 x2 x3 x4 W)
  have HHs : Aside0 ((arrC .u32 [x0, x1, x2, x3, x4]).size = 5) := ⟨by rw [arrC_size, hl]⟩
  clear hs hX hXW HS1 HS2 HS3 hb hl HWA
  go_enter Try.func5, Try.ntmps5
  go_wp2_with (first
    | ((with_reducible refine gate_dst (N := 1) rfl ?_); refine box_event ?hg (N := 1) ?hd (cs := arrC .u32 [x0, x1, x2, x3, x4]) (t := 23) ?hr ?_; (case hd => rfl); (case hg => rfl); (case hr => first | (go_simp; done) | (go_simp; rfl)); intro g hgW w1 hbox hb1; have HB := Aside0.mk hb1; have BK := Aside0.mk hbox; have HG : Aside0 (w.heap.size ≤ g) := ⟨by omega⟩; clear hb1 hbox hgW))
  refine (small_calls _).mono ?_
  rintro e w2 ⟨rfl, hb2⟩
  have HB2 := Aside0.mk (below_step HB.out hb2)
  have BK2 := Aside0.mk (blk_below BK.out hb2)
  clear hb2 HB BK
  go_wp2_with (first
    | ((with_reducible refine gate_dst (N := 20) rfl ?_); refine load_event ?hg (N := 20) ?hd rfl rfl BK2.out (by rfl) ?hi ?_; (case hd => rfl); (case hg => rfl); (case hi => rw [HHs.out]; rfl)))
  refine (HTX.out _).mono ?_
  rintro e w3 ⟨rfl, hb3⟩
  have HB3 := Aside0.mk (below_step HB2.out hb3)
  have BK3 := Aside0.mk (blk_below BK2.out hb3)
  clear hb3 HB2 BK2 HTX
  go_wp2_with fail
  refine (HWD.out _).mono ?_
  rintro e w4 ⟨v, rfl, ho, hb4⟩
  obtain ⟨A, c, rfl, hc, hrd⟩ := Kd.R_reads ho
  have HA : Aside0 (∀ ad, A = some ad → w3.heap.size ≤ ad.block ∧ ad.block < w4.heap.size) := Aside0.mk (fun ad e => by (subst e; have h := (Kd.R_bound ho).1 ad.block (by simp [Value.ownBlock]); exact And.intro h.2.1 h.2.2.1))
  have HRD := Aside0.mk (Kd.reads_of_C (d := ByteArray.empty) hrd)
  have HB4 := Aside0.mk (below_step HB3.out hb4)
  have BK4 := Aside0.mk (blk_below BK3.out hb4)
  obtain ⟨ad, hA, hcell⟩ := HRD.out.2.2 (by omega)
  subst hA
  have HCL : Aside0 (∀ j < 5, w4.cell? (ad.add j) = some (.string (X.getD j ByteArray.empty))) := ⟨fun j hj => hcell j (by omega)⟩
  clear ho hb4 hrd HWD HB3 BK3 HA HRD hcell hc
  rw [hX5]
  clear hX5
  go_wp2
  go_loopw [6, 7, 8] (fun t u i wr => ∃ k : Nat, k ≤ 5 ∧ i = .int .i64 (k : Int) ∧ t = .string (tN X k) ∧ u = .string (uN X k) ∧ Aside0 (wr.heap[g]? = some (.cells (arrC .u32 [x0, x1, x2, x3, x4]) 23 (0, 0))) ∧ Aside0 (∀ j < 5, wr.cell? (ad.add j) = some (.string (X.getD j ByteArray.empty))) ∧ Aside0 (Below w.heap.size w wr)) (fun _ _ i _ => 5 - (intOf i).toNat)
  case atStart => exact ⟨0, by omega, rfl, rfl, rfl, BK4, HCL, HB4⟩
  case round =>
    obtain ⟨k, hk, rfl, rfl, rfl, HH, HC, HB5⟩ := hrel
    clear BK4 HCL HB4
    by_cases hlt : k < 5
    · have hx := HC.out k hlt
      have hx8 := HZ8.out k hlt
      have HT1 : Aside0 (tN X (k + 1) = tN X k ++ stripS (X.getD k ByteArray.empty) ++ (⟨#[32, 32]⟩ : ByteArray)) := ⟨rfl⟩
      have HU1 : Aside0 (uN X (k + 1) = uN X k ++ (⟨#[32]⟩ : ByteArray) ++ upS (stripS (X.getD k ByteArray.empty))) := ⟨rfl⟩
      have hts := tN_size (X := X) (fun i hi => by rw [HZ8.out i hi]; exact Nat.le_refl _) k hk
      have hus := uN_size (X := X) (fun i hi => by rw [HZ8.out i hi]; exact Nat.le_refl _) k hk
      obtain ⟨x, hxx⟩ : ∃ x, X.getD k ByteArray.empty = x := ⟨_, rfl⟩
      rw [hxx] at hx hx8 HT1 HU1
      generalize htk : tN X k = tk at *
      generalize huk : uN X k = uk at *
      clear hxx htk huk
      have HX8 := Aside0.mk hx8
      have hd5 : decide ((k : Int) < 5) = true := decide_eq_true (by omega)
      go_wp2
      have HHW := HH
      have HCW := HC
      have HB5W := HB5
      clear HH HC HB5
      obtain ⟨wo, rfl⟩ : ∃ wo : World, wo = wr := ⟨_, rfl⟩
      go_loop [9] (fun v => ∃ y : ByteArray, v = .string y ∧ 1 ≤ y.size ∧ y.size ≤ 8 ∧ Aside0 (strip y.data.toList = strip x.data.toList)) (fun v => match v with | .string y => y.size | _ => 0)
      case atStart => exact ⟨x, rfl, by have := HX8.out; omega, by have := HX8.out; omega, ⟨rfl⟩⟩
      case round =>
        obtain ⟨y, rfl, hy1, hy8, HST⟩ := hrel
        by_cases h1 : 1 < y.size
        · by_cases h2 : (((y[0]'(by omega)).toNat : Int) == 48) = true
          · have HST2 : Aside0 (strip (y.extract 1 y.size).data.toList = strip x.data.toList) := ⟨(strip_go h1 h2).symm.trans HST.out⟩
            go_wp2
            go_round
            case rel => exact ⟨y.extract 1 y.size, rfl, by rw [ByteArray.size_extract]; omega, by rw [ByteArray.size_extract]; omega, HST2⟩
            case measure => simp only [ByteArray.size_extract]; omega
          · have HSTAY := strip_stay (y := y) (fun _ => h2)
            have h2 := Bool.eq_false_iff.mpr h2
            have HYS : Aside0 (stripS x = y) := ⟨by
              refine bytes_eq ?_
              show strip x.data.toList = _
              rw [← HST.out, HSTAY]⟩
            rw [HYS.out] at HT1 HU1
            have hsum1 : tk.size + y.size ≤ 9223372036854775807 := by omega
            go_wp2
            go_loopw [10, 11] (fun bv i wr => ∃ m : Nat, m ≤ y.size ∧ i = .int .i64 (m : Int) ∧ Aside0 (Kd.R (Kd.int .u8) 5 wr wo.heap.size (fun _ => True) bv ((y.data.toList.take m).map upI)) ∧ Aside0 (Below wo.heap.size wo wr)) (fun _ i _ => y.size - (intOf i).toNat)
            case atStart => exact ⟨0, by omega, rfl, ⟨Kd.R_nil _ _ _ _ _⟩, ⟨Below.refl _ _⟩⟩
            case round =>
              obtain ⟨m, hm, rfl, HR, HBr⟩ := hrel
              by_cases hmy : m < y.size
              · have HN : Aside0 ((y.data.toList.take (m + 1)).map upI = (y.data.toList.take m).map upI ++ [upI (y[m]'hmy)]) := ⟨by rw [up_take hmy]⟩
                have HLN : Aside0 (((y.data.toList.take m).map upI).length ≤ 8) := ⟨by rw [List.length_map, List.length_take]; omega⟩
                generalize (y.data.toList.take m).map upI = pre at *
                have hcb := UInt8.toNat_lt (y[m]'hmy)
                by_cases h97 : 97 ≤ (y[m]'hmy).toNat
                · have HUP : Aside0 (upI (y[m]'hmy) = ((y[m]'hmy).toNat : Int) - 32) := ⟨if_pos h97⟩
                  rw [HUP.out] at HN
                  go_wp2_with (first
                    | ((with_reducible refine gate_builtin (b := .append) (xs := #[.tmp 70, .tmp 72]) rfl ?_); at_builtin; refine Kd.R_append (Kd.int .u8) (w0 := wo) wo.heap.size rfl (.tmp 70) (.tmp 72) 36 5 (.int .u8 0) 1 rfl Try.underlying36 info5 rfl (by decide) (by omega) u10 pre _ [.int .u8 _] (fun _ => True) (fun _ => False) rfl rfl rfl (fun _ hk => hk.elim) (fun _ _ => trivial) HR.out HBr.out (below_size HBr.out) (by have := HLN.out; omega) ?_; intro v2 w2 ho hb hg hat; have HO2 := Aside0.mk ho; have HB3 := Aside0.mk hb; clear ho hb hg hat))
                  exact ⟨⟨m + 1, by omega, by go_num, ⟨by rw [HN.out]; exact HO2.out⟩, HB3⟩, by simp [intOf]; omega⟩
                · have HUP : Aside0 (upI (y[m]'hmy) = ((y[m]'hmy).toNat : Int)) := ⟨if_neg h97⟩
                  rw [HUP.out] at HN
                  go_wp2_with (first
                    | ((with_reducible refine gate_builtin (b := .append) (xs := #[.tmp 70, .tmp 72]) rfl ?_); at_builtin; refine Kd.R_append (Kd.int .u8) (w0 := wo) wo.heap.size rfl (.tmp 70) (.tmp 72) 36 5 (.int .u8 0) 1 rfl Try.underlying36 info5 rfl (by decide) (by omega) u10 pre _ [.int .u8 _] (fun _ => True) (fun _ => False) rfl rfl rfl (fun _ hk => hk.elim) (fun _ _ => trivial) HR.out HBr.out (below_size HBr.out) (by have := HLN.out; omega) ?_; intro v2 w2 ho hb hg hat; have HO2 := Aside0.mk ho; have HB3 := Aside0.mk hb; clear ho hb hg hat))
                  exact ⟨⟨m + 1, by omega, by go_num, ⟨by rw [HN.out]; exact HO2.out⟩, HB3⟩, by simp [intOf]; omega⟩
              · obtain rfl : m = y.size := by omega
                have hcv := conv_R HR.out (s := upS y) (by rw [List.take_of_length_le (by rw [size_len]; exact Nat.le_refl _)]; exact up_str y)
                have hup := upS_size y
                generalize upS y = z at *
                go_wp2
                exact ⟨⟨k + 1, by omega, by go_num, congrArg Value.string HT1.out.symm, congrArg Value.string HU1.out.symm, blk_keep' HHW HBr, ⟨fun j hj => pw_cell_below HBr.out (HCW.out j hj)⟩, ⟨below_step HB5W.out HBr.out⟩⟩, by simp [intOf] <;> omega⟩
        · have HSTAY := strip_stay (y := y) (fun h => absurd h h1)
          have HYS : Aside0 (stripS x = y) := ⟨by
            refine bytes_eq ?_
            show strip x.data.toList = _
            rw [← HST.out, HSTAY]⟩
          rw [HYS.out] at HT1 HU1
          have hsum1 : tk.size + y.size ≤ 9223372036854775807 := by omega
          go_wp2
          go_loopw [10, 11] (fun bv i wr => ∃ m : Nat, m ≤ y.size ∧ i = .int .i64 (m : Int) ∧ Aside0 (Kd.R (Kd.int .u8) 5 wr wo.heap.size (fun _ => True) bv ((y.data.toList.take m).map upI)) ∧ Aside0 (Below wo.heap.size wo wr)) (fun _ i _ => y.size - (intOf i).toNat)
          case atStart => exact ⟨0, by omega, rfl, ⟨Kd.R_nil _ _ _ _ _⟩, ⟨Below.refl _ _⟩⟩
          case round =>
            obtain ⟨m, hm, rfl, HR, HBr⟩ := hrel
            by_cases hmy : m < y.size
            · have HN : Aside0 ((y.data.toList.take (m + 1)).map upI = (y.data.toList.take m).map upI ++ [upI (y[m]'hmy)]) := ⟨by rw [up_take hmy]⟩
              have HLN : Aside0 (((y.data.toList.take m).map upI).length ≤ 8) := ⟨by rw [List.length_map, List.length_take]; omega⟩
              generalize (y.data.toList.take m).map upI = pre at *
              have hcb := UInt8.toNat_lt (y[m]'hmy)
              by_cases h97 : 97 ≤ (y[m]'hmy).toNat
              · have HUP : Aside0 (upI (y[m]'hmy) = ((y[m]'hmy).toNat : Int) - 32) := ⟨if_pos h97⟩
                rw [HUP.out] at HN
                go_wp2_with (first
                  | ((with_reducible refine gate_builtin (b := .append) (xs := #[.tmp 70, .tmp 72]) rfl ?_); at_builtin; refine Kd.R_append (Kd.int .u8) (w0 := wo) wo.heap.size rfl (.tmp 70) (.tmp 72) 36 5 (.int .u8 0) 1 rfl Try.underlying36 info5 rfl (by decide) (by omega) u10 pre _ [.int .u8 _] (fun _ => True) (fun _ => False) rfl rfl rfl (fun _ hk => hk.elim) (fun _ _ => trivial) HR.out HBr.out (below_size HBr.out) (by have := HLN.out; omega) ?_; intro v2 w2 ho hb hg hat; have HO2 := Aside0.mk ho; have HB3 := Aside0.mk hb; clear ho hb hg hat))
                exact ⟨⟨m + 1, by omega, by go_num, ⟨by rw [HN.out]; exact HO2.out⟩, HB3⟩, by simp [intOf]; omega⟩
              · have HUP : Aside0 (upI (y[m]'hmy) = ((y[m]'hmy).toNat : Int)) := ⟨if_neg h97⟩
                rw [HUP.out] at HN
                go_wp2_with (first
                  | ((with_reducible refine gate_builtin (b := .append) (xs := #[.tmp 70, .tmp 72]) rfl ?_); at_builtin; refine Kd.R_append (Kd.int .u8) (w0 := wo) wo.heap.size rfl (.tmp 70) (.tmp 72) 36 5 (.int .u8 0) 1 rfl Try.underlying36 info5 rfl (by decide) (by omega) u10 pre _ [.int .u8 _] (fun _ => True) (fun _ => False) rfl rfl rfl (fun _ hk => hk.elim) (fun _ _ => trivial) HR.out HBr.out (below_size HBr.out) (by have := HLN.out; omega) ?_; intro v2 w2 ho hb hg hat; have HO2 := Aside0.mk ho; have HB3 := Aside0.mk hb; clear ho hb hg hat))
                exact ⟨⟨m + 1, by omega, by go_num, ⟨by rw [HN.out]; exact HO2.out⟩, HB3⟩, by simp [intOf]; omega⟩
            · obtain rfl : m = y.size := by omega
              have hcv := conv_R HR.out (s := upS y) (by rw [List.take_of_length_le (by rw [size_len]; exact Nat.le_refl _)]; exact up_str y)
              have hup := upS_size y
              generalize upS y = z at *
              go_wp2
              exact ⟨⟨k + 1, by omega, by go_num, congrArg Value.string HT1.out.symm, congrArg Value.string HU1.out.symm, blk_keep' HHW HBr, ⟨fun j hj => pw_cell_below HBr.out (HCW.out j hj)⟩, ⟨below_step HB5W.out HBr.out⟩⟩, by simp [intOf] <;> omega⟩
    · obtain rfl : k = 5 := by omega
      obtain ⟨tq, htq⟩ : ∃ q, tN X 5 = q := ⟨_, rfl⟩
      obtain ⟨uq, huq⟩ : ∃ q, uN X 5 = q := ⟨_, rfl⟩
      rw [htq] at HC2 ⊢
      rw [huq] at HC3 ⊢
      clear htq huq HC HZ8
      go_wp2_with fail
      refine (HC1.out _).mono ?_
      rintro e w5 ⟨rfl, hb5⟩
      have HB6 := Aside0.mk (below_step HB5.out hb5)
      have HH6 := Aside0.mk (blk_below HH.out hb5)
      clear hb5 HB5 HH HC1
      go_wp2_with (first
        | ((with_reducible refine gate_dst (N := 13) rfl ?_); refine box_event ?hg (N := 13) ?hd (cs := arrC .u32 zeros5) (t := 23) ?hr ?_; (case hd => rfl); (case hg => rfl); (case hr => first | (go_simp; done) | (go_simp; rfl)); intro g1 hgW w6 hbox hbx; have HB7 := Aside0.mk (below_step HB6.out hbx); have Q7 := Aside0.mk hbox; have HH7 := Aside0.mk (blk_below HH6.out hbx); have G7 : Aside0 (w.heap.size ≤ g1) := ⟨by rw [hgW]; exact below_size HB6.out⟩; have N7 : Aside0 (g ≠ g1) := ⟨by have := blk_lt HH6.out; omega⟩; clear hbx hbox hgW)
        | ((with_reducible refine gate_store (t := 23) (p := 13) (v := .tmp 82) rfl ?_); refine storeAll_event (cs := arrC .u32 [x0, x1, x2, x3, x4]) ?hg ?hd rfl rfl rfl Q7.out ?hi ?hs (arrC_one _ _) ?_; (case hd => rfl); (case hg => rfl); (case hi => rw [HHs.out]; rfl); (case hs => rw [HHs.out]; rfl)))
      have Q8 := Aside0.mk (setRow_heap _ _ _ (arrC .u32 [x0, x1, x2, x3, x4]) _ _ Q7.out)
      have HB8 := Aside0.mk (below_setRow HB7.out G7.out (arrC .u32 [x0, x1, x2, x3, x4]))
      have HH8 := Aside0.mk ((setRow_other w6 g1 g (arrC .u32 [x0, x1, x2, x3, x4]) N7.out).trans HH7.out)
      clear Q7 HB7 HH7
      generalize w6.setRow g1 (arrC .u32 [x0, x1, x2, x3, x4]) = w8 at *
      refine (HC2.out _).mono ?_
      rintro e w9 ⟨rfl, hb9⟩
      have HB9 := Aside0.mk (below_step HB8.out hb9)
      have HH9 := Aside0.mk (blk_below HH8.out hb9)
      have Q9 := Aside0.mk (blk_below Q8.out hb9)
      clear hb9 HB8 HH8 Q8 HC2
      go_wp2_with (first
        | ((with_reducible refine gate_dst (N := 15) rfl ?_); refine box_event ?hg (N := 15) ?hd (cs := arrC .u32 zeros5) (t := 23) ?hr ?_; (case hd => rfl); (case hg => rfl); (case hr => first | (go_simp; done) | (go_simp; rfl)); intro g2 hgW w6b hbox hbx; have HB7 := Aside0.mk (below_step HB9.out hbx); have R7 := Aside0.mk hbox; have HH7 := Aside0.mk (blk_below HH9.out hbx); have Q7 := Aside0.mk (blk_below Q9.out hbx); have G7b : Aside0 (w.heap.size ≤ g2) := ⟨by rw [hgW]; exact below_size HB9.out⟩; have N7b : Aside0 (g ≠ g2) := ⟨by have := blk_lt HH9.out; omega⟩; have N7c : Aside0 (g1 ≠ g2) := ⟨by have := blk_lt Q9.out; omega⟩; clear hbx hbox hgW)
        | ((with_reducible refine gate_store (t := 23) (p := 15) (v := .tmp 87) rfl ?_); refine storeAll_event (cs := arrC .u32 [x0, x1, x2, x3, x4]) ?hg ?hd rfl rfl rfl R7.out ?hi ?hs (arrC_one _ _) ?_; (case hd => rfl); (case hg => rfl); (case hi => rw [HHs.out]; rfl); (case hs => rw [HHs.out]; rfl)))
      have R8 := Aside0.mk (setRow_heap _ _ _ (arrC .u32 [x0, x1, x2, x3, x4]) _ _ R7.out)
      have HB8 := Aside0.mk (below_setRow HB7.out G7b.out (arrC .u32 [x0, x1, x2, x3, x4]))
      have HH8 := Aside0.mk ((setRow_other w6b g2 g (arrC .u32 [x0, x1, x2, x3, x4]) N7b.out).trans HH7.out)
      have Q8 := Aside0.mk ((setRow_other w6b g2 g1 (arrC .u32 [x0, x1, x2, x3, x4]) N7c.out).trans Q7.out)
      clear Q7 HB7 HH7 R7
      generalize w6b.setRow g2 (arrC .u32 [x0, x1, x2, x3, x4]) = w8 at *
      refine (HC3.out _).mono ?_
      rintro e w9 ⟨rfl, hb9⟩
      have HB9 := Aside0.mk (below_step HB8.out hb9)
      have HH9 := Aside0.mk (blk_below HH8.out hb9)
      have Q9 := Aside0.mk (blk_below Q8.out hb9)
      have R9 := Aside0.mk (blk_below R8.out hb9)
      clear hb9 HB8 HH8 Q8 R8 HC3
      go_wp2_with (first
        | ((with_reducible refine gate_dst (N := 17) rfl ?_); refine box_event ?hg (N := 17) ?hd (cs := arrC .u32 zeros5) (t := 23) ?hr ?_; (case hd => rfl); (case hg => rfl); (case hr => first | (go_simp; done) | (go_simp; rfl)); intro g3 hgW w6c hbox hbx; have HB7 := Aside0.mk (below_step HB9.out hbx); have S7 := Aside0.mk hbox; have HH7 := Aside0.mk (blk_below HH9.out hbx); have Q7 := Aside0.mk (blk_below Q9.out hbx); have R7 := Aside0.mk (blk_below R9.out hbx); have G7d : Aside0 (w.heap.size ≤ g3) := ⟨by rw [hgW]; exact below_size HB9.out⟩; have N7d : Aside0 (g ≠ g3) := ⟨by have := blk_lt HH9.out; omega⟩; have N7e : Aside0 (g1 ≠ g3) := ⟨by have := blk_lt Q9.out; omega⟩; have N7f : Aside0 (g2 ≠ g3) := ⟨by have := blk_lt R9.out; omega⟩; clear hbx hbox hgW)
        | ((with_reducible refine gate_store (t := 23) (p := 17) (v := .tmp 92) rfl ?_); refine storeAll_event (cs := arrC .u32 [x0, x1, x2, x3, x4]) ?hg ?hd rfl rfl rfl S7.out ?hi ?hs (arrC_one _ _) ?_; (case hd => rfl); (case hg => rfl); (case hi => rw [HHs.out]; rfl); (case hs => rw [HHs.out]; rfl); have S8 := Aside0.mk (setRow_heap _ _ _ (arrC .u32 [x0, x1, x2, x3, x4]) _ _ S7.out); have HB8 := Aside0.mk (below_setRow HB7.out G7d.out (arrC .u32 [x0, x1, x2, x3, x4])); have HH8 := Aside0.mk ((setRow_other w6c g3 g (arrC .u32 [x0, x1, x2, x3, x4]) N7d.out).trans HH7.out); have Q8 := Aside0.mk ((setRow_other w6c g3 g1 (arrC .u32 [x0, x1, x2, x3, x4]) N7e.out).trans Q7.out); have R8 := Aside0.mk ((setRow_other w6c g3 g2 (arrC .u32 [x0, x1, x2, x3, x4]) N7f.out).trans R7.out); clear Q7 HB7 HH7 R7 S7; generalize w6c.setRow g3 (arrC .u32 [x0, x1, x2, x3, x4]) = w8 at *; obtain ⟨h0, h1, h2, h3, h4⟩ := five_cells HH8.out; obtain ⟨p0, p1, p2, p3, p4⟩ := five_cells Q8.out; obtain ⟨q0, q1, q2, q3, q4⟩ := five_cells R8.out; obtain ⟨r0, r1, r2, r3, r4⟩ := five_cells S8.out; have heq := HEQ.out))
      go_ret
      exact ⟨rfl, HB8.out⟩
end Go.Proofs.Ytncbhlionllpmaa.Nt
