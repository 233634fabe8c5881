/- A hash's text, byte by byte, and what is read of it: plain laws; condition: five words of 32 bits. -/
import Derived.Test.YtncbhlionllpmaaNtG
import Derived.Test.YtncbhlionllpmaaNtX
import Derived.Test.YtncbhlionllpmaaNtI
import Derived.Test.YtncbhlionllpmaaNtT
namespace Go.Proofs.Ytncbhlionllpmaa.Nt
open Go.RowKit Go.Proofs.YtncbhlionllpmaaW.PrintWords Go.Proofs.YtncbhlionllpmaaW.PrintLast Go.Proofs.YtncbhlionllpmaaW.PrintMore

/-- A digit's sign. -/
def sgnD (d : Nat) : UInt8 := UInt8.ofNat (if d < 10 then 48 + d else 87 + d)
theorem sgnD_digit {d : Nat} (h : d < 16) : digN (sgnD d).toNat = some d := by
  have key : ∀ d : Fin 16, digN (sgnD d.val).toNat = some d.val := by decide
  exact key ⟨d, h⟩
theorem sgnD_cut {d : Nat} (h : d < 16) : (DIG.extract d (d + 1)).data.toList = [sgnD d] := by
  rw [Lib.extract_data]
  have key : ∀ d : Fin 16, (DIG.data.toList.drop d.val).take (d.val + 1 - d.val) = [sgnD d.val] := by decide
  exact key ⟨d, h⟩
def dg (x : Int) (m : Nat) : UInt8 := sgnD (digAt x m)
/-- A word's eight digits. -/
def w8 (x : Int) : List UInt8 := [dg x 0, dg x 1, dg x 2, dg x 3, dg x 4, dg x 5, dg x 6, dg x 7]
theorem cut_dig (x : Int) (m : Nat) : (DIG.extract (digAt x m) (digAt x m + 1)).data.toList = [dg x m] := sgnD_cut (digAt_lt x m)
theorem refW_data (b : ByteArray) (x : Int) : (refW b x 8).data.toList = b.data.toList ++ w8 x := by
  simp only [refW, ByteArray.data_append, Array.toList_append, cut_dig, List.append_assoc]
  rfl
/-- A hash's text. -/
def five (H : List Int) : List UInt8 := w8 (H.getD 0 0) ++ ([32] ++ (w8 (H.getD 1 0) ++ ([32] ++ (w8 (H.getD 2 0) ++ ([32] ++ (w8 (H.getD 3 0) ++ ([32] ++ w8 (H.getD 4 0))))))))
theorem refSep_data (b : ByteArray) (i : Nat) : (refSep b (i + 1)).data.toList = b.data.toList ++ [32] := by
  unfold refSep
  rw [if_neg (by omega), ByteArray.data_append, Array.toList_append]
theorem refB_data (H : List Int) : (refB H 5).data.toList = five H := by
  have e0 : (refB H 1).data.toList = w8 (H.getD 0 0) := by
    show (refW (refSep (refB H 0) 0) (H.getD 0 0) 8).data.toList = _
    rw [refW_data]
    rfl
  have st : ∀ i, (refB H (i + 2)).data.toList = (refB H (i + 1)).data.toList ++ ([32] ++ w8 (H.getD (i + 1) 0)) := fun i => by
    show (refW (refSep (refB H (i + 1)) (i + 1)) (H.getD (i + 1) 0) 8).data.toList = _
    rw [refW_data, refSep_data, List.append_assoc]
  rw [st 3, st 2, st 1, st 0, e0]
  simp only [List.append_assoc]
  rfl
theorem sgn_hex {d : Int} (h0 : 0 ≤ d) (h1 : d < 16) : UInt8.ofNat (hexD d).toNat = sgnD d.toNat := by
  unfold hexD sgnD
  congr 1
  split <;> split <;> omega
theorem hi_dig (x : Int) (r : Nat) (hr : r < 4) : (x / 2 ^ (24 - r * 8) % 256) / 16 = x / 2 ^ (28 - 4 * (2 * r)) % 16 := by
  have : r = 0 ∨ r = 1 ∨ r = 2 ∨ r = 3 := by omega
  rcases this with rfl | rfl | rfl | rfl <;> simp <;> omega
theorem lo_dig (x : Int) (r : Nat) (hr : r < 4) : (x / 2 ^ (24 - r * 8) % 256) % 16 = x / 2 ^ (28 - 4 * (2 * r + 1)) % 16 := by
  have : r = 0 ∨ r = 1 ∨ r = 2 ∨ r = 3 := by omega
  rcases this with rfl | rfl | rfl | rfl <;> simp <;> omega
theorem pair_dig (H : List Int) (q r : Nat) (hr : r < 4) : [UInt8.ofNat (hexD (byteAt H (4 * q + r) / 16)).toNat, UInt8.ofNat (hexD (byteAt H (4 * q + r) % 16)).toNat] = [dg (H.getD q 0) (2 * r), dg (H.getD q 0) (2 * r + 1)] := by
  have e1 : (4 * q + r) / 4 = q := by omega
  have e2 : (4 * q + r) % 4 = r := by omega
  have hb : 0 ≤ byteAt H (4 * q + r) ∧ byteAt H (4 * q + r) < 256 := by unfold byteAt; omega
  rw [sgn_hex (by omega) (by omega), sgn_hex (by omega) (by omega)]
  unfold byteAt dg digAt
  rw [e1, e2, hi_dig _ r hr, lo_dig _ r hr]
theorem hex_data (H : List Int) : (strOfNums (hexL (bytesK H 20))).data.toList = w8 (H.getD 0 0) ++ (w8 (H.getD 1 0) ++ (w8 (H.getD 2 0) ++ (w8 (H.getD 3 0) ++ w8 (H.getD 4 0)))) := by
  have e : bytesK H 20 = [byteAt H (4 * 0 + 0), byteAt H (4 * 0 + 1), byteAt H (4 * 0 + 2), byteAt H (4 * 0 + 3), byteAt H (4 * 1 + 0), byteAt H (4 * 1 + 1), byteAt H (4 * 1 + 2), byteAt H (4 * 1 + 3), byteAt H (4 * 2 + 0), byteAt H (4 * 2 + 1), byteAt H (4 * 2 + 2), byteAt H (4 * 2 + 3), byteAt H (4 * 3 + 0), byteAt H (4 * 3 + 1), byteAt H (4 * 3 + 2), byteAt H (4 * 3 + 3), byteAt H (4 * 4 + 0), byteAt H (4 * 4 + 1), byteAt H (4 * 4 + 2), byteAt H (4 * 4 + 3)] := by
    have e1 : bytesK H 20 = (List.range 20).map (byteAt H) := list_ext (by rw [bytesK_length]; rfl) fun i hi => by
      rw [bytesK_length] at hi
      rw [bytesK_at H 20 (Nat.le_refl _) i, if_pos hi]
      simp [List.getD, hi]
    rw [e1, show List.range 20 = [0, 1, 2, 3, 4, 5, 6, 7, 8, 9, 10, 11, 12, 13, 14, 15, 16, 17, 18, 19] by decide]
    rfl
  have key : ∀ l : List Int, (strOfNums (hexL l)).data.toList = l.flatMap (fun x => [UInt8.ofNat (hexD (x / 16)).toNat, UInt8.ofNat (hexD (x % 16)).toNat]) := fun l => by
    show (hexL l).map _ = _
    unfold hexL
    rw [List.map_flatMap]
    rfl
  rw [key, e]
  simp only [List.flatMap_cons, List.flatMap_nil, pair_dig H 0 0 (by decide), pair_dig H 0 1 (by decide), pair_dig H 0 2 (by decide), pair_dig H 0 3 (by decide), pair_dig H 1 0 (by decide), pair_dig H 1 1 (by decide), pair_dig H 1 2 (by decide), pair_dig H 1 3 (by decide), pair_dig H 2 0 (by decide), pair_dig H 2 1 (by decide), pair_dig H 2 2 (by decide), pair_dig H 2 3 (by decide), pair_dig H 3 0 (by decide), pair_dig H 3 1 (by decide), pair_dig H 3 2 (by decide), pair_dig H 3 3 (by decide), pair_dig H 4 0 (by decide), pair_dig H 4 1 (by decide), pair_dig H 4 2 (by decide), pair_dig H 4 3 (by decide)]
  rfl
theorem text_data (H : List Int) : (textN H).data.toList = five H := by
  unfold textN
  obtain ⟨s, hs⟩ : ∃ s, strOfNums (hexL (bytesK H 20)) = s := ⟨_, rfl⟩
  have hd := hex_data H
  rw [hs] at hd ⊢
  unfold textS
  rw [pieces_join]
  simp only [Lib.extract_data, hd]
  rfl
theorem text_same (H : List Int) : textN H = refB H 5 := bytes_eq ((text_data H).trans (refB_data H).symm)

/-! What is read of it. -/
def IsHex (l : List UInt8) : Prop := ∀ c ∈ l, ∃ d, d < 16 ∧ c = sgnD d
theorem w8_hex (x : Int) : IsHex (w8 x) := fun c hc => by
  unfold w8 at hc
  simp only [List.mem_cons, List.not_mem_nil, or_false] at hc
  rcases hc with rfl | rfl | rfl | rfl | rfl | rfl | rfl | rfl <;> exact ⟨_, digAt_lt _ _, rfl⟩
theorem hex_word {l : List UInt8} (h : IsHex l) (hn : l ≠ []) : IsWord l := ⟨hn, fun b hb => by
  obtain ⟨d, hd, rfl⟩ := h b hb
  have key : ∀ d : Fin 16, blankU (sgnD d.val) = false := by decide
  exact key ⟨d, hd⟩⟩
theorem dig_step (x : Int) (m : Nat) (hm : m < 8) (h0 : 0 ≤ x) : (x / 2 ^ (32 - 4 * m)).toNat * 16 + digAt x m = (x / 2 ^ (32 - 4 * (m + 1))).toNat := by
  unfold digAt
  have : m = 0 ∨ m = 1 ∨ m = 2 ∨ m = 3 ∨ m = 4 ∨ m = 5 ∨ m = 6 ∨ m = 7 := by omega
  rcases this with rfl | rfl | rfl | rfl | rfl | rfl | rfl | rfl <;> simp <;> omega
theorem wordB_cons {d : Nat} (hd : d < 16) (l : List UInt8) (n : Nat) : wordB (sgnD d :: l) n = wordB l (n * 16 + d) := by
  show (match digN (sgnD d).toNat with | some d => wordB l (n * 16 + d) | none => none) = _
  rw [sgnD_digit hd]
theorem w8_read (x : Int) (h0 : 0 ≤ x) (h1 : x < 4294967296) : wordB (w8 x) 0 = some x.toNat := by
  have hz : (x / 2 ^ (32 - 4 * 0)).toNat = 0 := by simp; omega
  suffices h : wordB (w8 x) (x / 2 ^ (32 - 4 * 0)).toNat = some x.toNat by rw [hz] at h; exact h
  unfold w8 dg
  rw [wordB_cons (digAt_lt _ _), dig_step x 0 (by decide) h0, wordB_cons (digAt_lt _ _), dig_step x 1 (by decide) h0, wordB_cons (digAt_lt _ _), dig_step x 2 (by decide) h0, wordB_cons (digAt_lt _ _), dig_step x 3 (by decide) h0,
    wordB_cons (digAt_lt _ _), dig_step x 4 (by decide) h0, wordB_cons (digAt_lt _ _), dig_step x 5 (by decide) h0, wordB_cons (digAt_lt _ _), dig_step x 6 (by decide) h0, wordB_cons (digAt_lt _ _), dig_step x 7 (by decide) h0]
  show some _ = some _
  congr 2
  simp
/-- Without the first noughts, but for the last sign. -/
def strip : List UInt8 → List UInt8
  | c :: d :: r => if c = 48 then strip (d :: r) else c :: d :: r
  | l => l
theorem strip_sub : ∀ l : List UInt8, ∀ c ∈ strip l, c ∈ l
  | [], c, h => h
  | [x], c, h => h
  | x :: y :: r, c, h => by
    unfold strip at h
    split at h
    · exact List.mem_cons_of_mem _ (strip_sub (y :: r) c h)
    · exact h
theorem strip_some : ∀ l : List UInt8, l ≠ [] → strip l ≠ []
  | [], h => h
  | [x], _ => by simp [strip]
  | x :: y :: r, _ => by
    unfold strip
    split
    · exact strip_some (y :: r) (by simp)
    · simp
theorem strip_len : ∀ l : List UInt8, (strip l).length ≤ l.length
  | [] => Nat.le_refl _
  | [x] => Nat.le_refl _
  | x :: y :: r => by
    unfold strip
    split
    · have := strip_len (y :: r)
      simp only [List.length_cons] at *
      omega
    · exact Nat.le_refl _
theorem strip_read : ∀ l : List UInt8, wordB (strip l) 0 = wordB l 0
  | [] => rfl
  | [x] => rfl
  | x :: y :: r => by
    unfold strip
    split
    · rename_i h
      subst h
      rw [strip_read (y :: r)]
      exact (wordB_cons (d := 0) (by decide) (y :: r) 0).symm
    · rfl
/-- A sign in great letters. -/
def upU (c : UInt8) : UInt8 := if 97 ≤ c.toNat then c - 32 else c
theorem up_digit {d : Nat} (h : d < 16) : digN (upU (sgnD d)).toNat = some d := by
  have key : ∀ d : Fin 16, digN (upU (sgnD d.val)).toNat = some d.val := by decide
  exact key ⟨d, h⟩
theorem up_read : ∀ (l : List UInt8) (n : Nat), IsHex l → wordB (l.map upU) n = wordB l n
  | [], _, _ => rfl
  | c :: l, n, h => by
    obtain ⟨d, hd, rfl⟩ := h c (by simp)
    rw [wordB_cons hd, ← up_read l (n * 16 + d) (fun x hx => h x (by simp [hx]))]
    show (match digN (upU (sgnD d)).toNat with | some d => wordB (l.map upU) (n * 16 + d) | none => none) = _
    rw [up_digit hd]
theorem up_word {l : List UInt8} (h : IsHex l) (hn : l ≠ []) : IsWord (l.map upU) := ⟨by simpa using hn, fun b hb => by
  obtain ⟨c, hc, rfl⟩ := List.mem_map.1 hb
  obtain ⟨d, hd, rfl⟩ := h c hc
  have key : ∀ d : Fin 16, blankU (upU (sgnD d.val)) = false := by decide
  exact key ⟨d, hd⟩⟩
/-- A word that is a number's. -/
def Says (l : List UInt8) (x : Int) : Prop := IsWord l ∧ 1 ≤ l.length ∧ l.length ≤ 8 ∧ wordB l 0 = some x.toNat
theorem says_w8 {x : Int} (h0 : 0 ≤ x) (h1 : x < 4294967296) : Says (w8 x) x := ⟨hex_word (w8_hex x) (by simp [w8]), by simp [w8], by simp [w8], w8_read x h0 h1⟩
theorem len_pos {l : List UInt8} (h : l ≠ []) : 1 ≤ l.length := by cases l with | nil => exact absurd rfl h | cons _ _ => simp
theorem strip_hex {l : List UInt8} (h : IsHex l) : IsHex (strip l) := fun c hc => h c (strip_sub l c hc)
theorem says_strip {x : Int} (h0 : 0 ≤ x) (h1 : x < 4294967296) : Says (strip (w8 x)) x :=
  have hn : strip (w8 x) ≠ [] := strip_some _ (by simp [w8])
  ⟨hex_word (strip_hex (w8_hex x)) hn, len_pos hn, Nat.le_trans (strip_len _) (by simp [w8]), (strip_read _).trans (w8_read x h0 h1)⟩
theorem says_up {x : Int} (h0 : 0 ≤ x) (h1 : x < 4294967296) : Says ((strip (w8 x)).map upU) x :=
  have hn : strip (w8 x) ≠ [] := strip_some _ (by simp [w8])
  ⟨up_word (strip_hex (w8_hex x)) hn, by rw [List.length_map]; exact len_pos hn, by rw [List.length_map]; exact Nat.le_trans (strip_len _) (by simp [w8]), (up_read _ 0 (strip_hex (w8_hex x))).trans ((strip_read _).trans (w8_read x h0 h1))⟩
theorem says_read {s : ByteArray} {x : Int} (h0 : 0 ≤ x) (h : Says s.data.toList x) : wordN s = (x, true) := by
  have hs := size_len s
  have h2 := h.2.1
  have h3 := h.2.2.1
  rw [wordN_B, if_neg (by omega), h.2.2.2]
  show ((x.toNat : Int), true) = _
  rw [Int.toNat_of_nonneg h0]
/-- A text of five words is read as their hash. -/
theorem five_read {s : ByteArray} {x0 x1 x2 x3 x4 : Int} {l0 l1 l2 l3 l4 : List UInt8} (hw : toks [] s.data.toList = [l0, l1, l2, l3, l4]) (h0 : 0 ≤ x0) (h1 : 0 ≤ x1) (h2 : 0 ≤ x2) (h3 : 0 ≤ x3) (h4 : 0 ≤ x4)
    (s0 : Says l0 x0) (s1 : Says l1 x1) (s2 : Says l2 x2) (s3 : Says l3 x3) (s4 : Says l4 x4) : hashN s = ([x0, x1, x2, x3, x4], true) := by
  have hX : wordsN s = bytesL [l0, l1, l2, l3, l4] := data_inj (by rw [words_data, hw, bytesL_data])
  have r0 := says_read (s := ⟨l0.toArray⟩) h0 s0
  have r1 := says_read (s := ⟨l1.toArray⟩) h1 s1
  have r2 := says_read (s := ⟨l2.toArray⟩) h2 s2
  have r3 := says_read (s := ⟨l3.toArray⟩) h3 s3
  have r4 := says_read (s := ⟨l4.toArray⟩) h4 s4
  unfold hashN
  rw [hX, hash_good rfl (fun i hi => by
    have : i = 0 ∨ i = 1 ∨ i = 2 ∨ i = 3 ∨ i = 4 := by omega
    rcases this with rfl | rfl | rfl | rfl | rfl
    · exact congrArg Prod.snd r0
    · exact congrArg Prod.snd r1
    · exact congrArg Prod.snd r2
    · exact congrArg Prod.snd r3
    · exact congrArg Prod.snd r4)]
  show ([(wordN ⟨l0.toArray⟩).1, (wordN ⟨l1.toArray⟩).1, (wordN ⟨l2.toArray⟩).1, (wordN ⟨l3.toArray⟩).1, (wordN ⟨l4.toArray⟩).1], true) = _
  rw [r0, r1, r2, r3, r4]
theorem toks_then {w : List UInt8} (h : IsWord w) (r : List UInt8) : toks [] (w ++ ([32] ++ r)) = w :: toks [] r := by
  rw [toks_more w [] _ h.2, List.nil_append]
  show toks w (32 :: r) = _
  rw [toks_blank (by decide), if_neg h.1]
theorem toks_last {w : List UInt8} (h : IsWord w) : toks [] w = [w] := by
  have e := toks_more w [] [] h.2
  rw [List.append_nil, List.nil_append] at e
  rw [e]
  show (if w = [] then [] else [w]) = _
  rw [if_neg h.1]
theorem toks_skip {b : UInt8} (h : blankU b = true) (r : List UInt8) : toks [] (b :: r) = toks [] r := by
  rw [toks_blank h, if_pos rfl]
section
variable {H : List Int} {x0 x1 x2 x3 x4 : Int}
theorem five_toks {l0 l1 l2 l3 l4 : List UInt8} (s0 : IsWord l0) (s1 : IsWord l1) (s2 : IsWord l2) (s3 : IsWord l3) (s4 : IsWord l4) :
    toks [] (l0 ++ ([32] ++ (l1 ++ ([32] ++ (l2 ++ ([32] ++ (l3 ++ ([32] ++ l4)))))))) = [l0, l1, l2, l3, l4] := by
  rw [toks_then s0, toks_then s1, toks_then s2, toks_then s3, toks_last s4]
end
/-- The words of a hash's text. -/
theorem text_words (H : List Int) (hb : ∀ i < 5, 0 ≤ H.getD i 0 ∧ H.getD i 0 < 4294967296) : wordsN (textN H) = bytesL [w8 (H.getD 0 0), w8 (H.getD 1 0), w8 (H.getD 2 0), w8 (H.getD 3 0), w8 (H.getD 4 0)] :=
  have w := fun i (hi : i < 5) => (says_w8 (hb i hi).1 (hb i hi).2).1
  data_inj (by rw [words_data, text_data, bytesL_data]; exact five_toks (w 0 (by decide)) (w 1 (by decide)) (w 2 (by decide)) (w 3 (by decide)) (w 4 (by decide)))
theorem five_list {H : List Int} (hl : H.length = 5) : H = [H.getD 0 0, H.getD 1 0, H.getD 2 0, H.getD 3 0, H.getD 4 0] := by
  rcases H with _ | ⟨a, _ | ⟨b, _ | ⟨c, _ | ⟨d, _ | ⟨e, _ | ⟨f, r⟩⟩⟩⟩⟩⟩ <;> simp at hl
  rfl
theorem hash_text {H : List Int} (hl : H.length = 5) (hb : ∀ i < 5, 0 ≤ H.getD i 0 ∧ H.getD i 0 < 4294967296) : hashN (textN H) = (H, true) := by
  have w := fun i (hi : i < 5) => says_w8 (hb i hi).1 (hb i hi).2
  have e := five_read (s := textN H) (by rw [text_data]; exact five_toks (w 0 (by decide)).1 (w 1 (by decide)).1 (w 2 (by decide)).1 (w 3 (by decide)).1 (w 4 (by decide)).1)
    (hb 0 (by decide)).1 (hb 1 (by decide)).1 (hb 2 (by decide)).1 (hb 3 (by decide)).1 (hb 4 (by decide)).1 (w 0 (by decide)) (w 1 (by decide)) (w 2 (by decide)) (w 3 (by decide)) (w 4 (by decide))
  rw [e, ← five_list hl]
/-- The texts that the law writes: without the first noughts; in great letters. -/
def stripS (s : ByteArray) : ByteArray := ⟨(strip s.data.toList).toArray⟩
def upS (s : ByteArray) : ByteArray := ⟨(s.data.toList.map upU).toArray⟩
def tN (X : List ByteArray) : Nat → ByteArray
  | 0 => ⟨#[9]⟩
  | i + 1 => tN X i ++ stripS (X.getD i ByteArray.empty) ++ (⟨#[32, 32]⟩ : ByteArray)
def uN (X : List ByteArray) : Nat → ByteArray
  | 0 => ⟨#[]⟩
  | i + 1 => uN X i ++ (⟨#[32]⟩ : ByteArray) ++ upS (stripS (X.getD i ByteArray.empty))
theorem stripS_size (s : ByteArray) : (stripS s).size ≤ s.size := by
  rw [Lib.size_eq, Lib.size_eq]; exact strip_len _
theorem tN_size {X : List ByteArray} (h : ∀ i < 5, (X.getD i ByteArray.empty).size ≤ 8) : ∀ i, i ≤ 5 → (tN X i).size ≤ 1 + 10 * i
  | 0, _ => Nat.le_refl _
  | i + 1, hi => by
    have h1 := tN_size h i (by omega)
    have h2 := stripS_size (X.getD i ByteArray.empty)
    have h3 := h i (by omega)
    unfold tN
    rw [ByteArray.size_append, ByteArray.size_append]
    show _ + 2 ≤ _
    omega
theorem upS_size (s : ByteArray) : (upS s).size = s.size := by
  rw [Lib.size_eq, Lib.size_eq]; exact List.length_map ..
theorem uN_size {X : List ByteArray} (h : ∀ i < 5, (X.getD i ByteArray.empty).size ≤ 8) : ∀ i, i ≤ 5 → (uN X i).size ≤ 9 * i
  | 0, _ => Nat.le_refl _
  | i + 1, hi => by
    have h1 := uN_size h i (by omega)
    have h2 := stripS_size (X.getD i ByteArray.empty)
    have h3 := h i (by omega)
    unfold uN
    rw [ByteArray.size_append, ByteArray.size_append, upS_size]
    show _ + 1 + _ ≤ _
    omega
theorem app_data (a b : ByteArray) : (a ++ b).data.toList = a.data.toList ++ b.data.toList := by rw [ByteArray.data_append, Array.toList_append]
theorem hash_t {H : List Int} (hl : H.length = 5) (hb : ∀ i < 5, 0 ≤ H.getD i 0 ∧ H.getD i 0 < 4294967296) : hashN (tN (wordsN (textN H)) 5) = (H, true) := by
  have w := fun i (hi : i < 5) => says_strip (hb i hi).1 (hb i hi).2
  rw [text_words H hb]
  have e : (tN (bytesL [w8 (H.getD 0 0), w8 (H.getD 1 0), w8 (H.getD 2 0), w8 (H.getD 3 0), w8 (H.getD 4 0)]) 5).data.toList =
      9 :: (strip (w8 (H.getD 0 0)) ++ ([32] ++ (32 :: (strip (w8 (H.getD 1 0)) ++ ([32] ++ (32 :: (strip (w8 (H.getD 2 0)) ++ ([32] ++ (32 :: (strip (w8 (H.getD 3 0)) ++ ([32] ++ (32 :: (strip (w8 (H.getD 4 0)) ++ ([32] ++ (32 :: [])))))))))))))))  := by
    simp only [tN, app_data]
    simp [stripS, bytesL]
  have e2 := five_read (s := tN (bytesL [w8 (H.getD 0 0), w8 (H.getD 1 0), w8 (H.getD 2 0), w8 (H.getD 3 0), w8 (H.getD 4 0)]) 5)
    (by rw [e, toks_skip (by decide), toks_then (w 0 (by decide)).1, toks_skip (by decide), toks_then (w 1 (by decide)).1, toks_skip (by decide), toks_then (w 2 (by decide)).1, toks_skip (by decide), toks_then (w 3 (by decide)).1, toks_skip (by decide), toks_then (w 4 (by decide)).1, toks_skip (by decide)]; rfl)
    (hb 0 (by decide)).1 (hb 1 (by decide)).1 (hb 2 (by decide)).1 (hb 3 (by decide)).1 (hb 4 (by decide)).1 (w 0 (by decide)) (w 1 (by decide)) (w 2 (by decide)) (w 3 (by decide)) (w 4 (by decide))
  rw [e2, ← five_list hl]
theorem hash_u {H : List Int} (hl : H.length = 5) (hb : ∀ i < 5, 0 ≤ H.getD i 0 ∧ H.getD i 0 < 4294967296) : hashN (uN (wordsN (textN H)) 5) = (H, true) := by
  have w := fun i (hi : i < 5) => says_up (hb i hi).1 (hb i hi).2
  rw [text_words H hb]
  have e : (uN (bytesL [w8 (H.getD 0 0), w8 (H.getD 1 0), w8 (H.getD 2 0), w8 (H.getD 3 0), w8 (H.getD 4 0)]) 5).data.toList =
      32 :: ((strip (w8 (H.getD 0 0))).map upU ++ ([32] ++ ((strip (w8 (H.getD 1 0))).map upU ++ ([32] ++ ((strip (w8 (H.getD 2 0))).map upU ++ ([32] ++ ((strip (w8 (H.getD 3 0))).map upU ++ ([32] ++ (strip (w8 (H.getD 4 0))).map upU)))))))) := by
    simp only [uN, app_data]
    simp [stripS, upS, bytesL]
  have e2 := five_read (s := uN (bytesL [w8 (H.getD 0 0), w8 (H.getD 1 0), w8 (H.getD 2 0), w8 (H.getD 3 0), w8 (H.getD 4 0)]) 5)
    (by rw [e, toks_skip (by decide)]; exact five_toks (w 0 (by decide)).1 (w 1 (by decide)).1 (w 2 (by decide)).1 (w 3 (by decide)).1 (w 4 (by decide)).1)
    (hb 0 (by decide)).1 (hb 1 (by decide)).1 (hb 2 (by decide)).1 (hb 3 (by decide)).1 (hb 4 (by decide)).1 (w 0 (by decide)) (w 1 (by decide)) (w 2 (by decide)) (w 3 (by decide)) (w 4 (by decide))
  rw [e2, ← five_list hl]
end Go.Proofs.Ytncbhlionllpmaa.Nt
