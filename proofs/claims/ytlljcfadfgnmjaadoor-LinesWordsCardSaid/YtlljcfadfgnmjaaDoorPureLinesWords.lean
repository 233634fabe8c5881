/- LinesWords: words have no blanks, are not empty, and words with blanks between are cut as they were: the plain law; no condition. -/
import Derived.Test.YtlljcfadfgnmjaaDoorPLinesWordsx1
import Derived.Test.YtlljcfadfgnmjaaDoorLnT
namespace Go.Proofs.YtlljcfadfgnmjaaDoor.Pure
open Go.RowKit Go.Proofs.YtlljcfadfgnmjaaDoor.PLinesWords Go.Proofs.YtlljcfadfgnmjaaDoorW.PrintWords Go.Proofs.YtlljcfadfgnmjaaDoorW.PrintLast Ln

theorem same_ev (a : List ByteArray) (ha : a.length ≤ 1000000000) : Evn (fun k => epactref05_Same.f k a a) true := by
  have key : ∀ d j : Nat, j + d = a.length → Evn (fun k => epactref05_Same.l0 k a a (j : Int)) true := by
    intro d
    induction d with
    | zero => intro j hj; exact Evn.now fun k => by rw [epactref05_Same.l0, if_neg (by omega)]
    | succ d ih =>
      intro j hj
      refine Evn.step (ih (j + 1) (by omega)) fun k => ?_
      rw [epactref05_Same.l0, if_pos (by omega), if_pos (by omega), if_pos (by omega), if_pos rfl, next_i (by omega)]
  obtain ⟨k0, hk⟩ := key a.length 0 (by omega)
  refine ⟨k0, fun k h => ?_⟩
  show epactref05_Same.f k a a = _
  unfold epactref05_Same.f
  rw [if_pos rfl]
  exact hk k h
theorem rdOf_at {l : List ByteArray} {i : Nat} (h : i < l.length) : l[i]? = some (rdOf ByteArray.empty l (i : Int)) := by
  unfold rdOf
  rw [Int.toNat_natCast, List.getElem?_eq_getElem h]
  simp [List.getD, h]
def cat (y : List UInt8) (l : List ByteArray) : List UInt8 := (l.map (·.data.toList)).flatMap (fun x => x ++ y)
theorem cat_snoc (y : List UInt8) (l : List ByteArray) (s : ByteArray) : cat y (l ++ [s]) = cat y l ++ (s.data.toList ++ y) := by
  unfold cat
  rw [List.map_append, List.flatMap_append]
  simp
def tot (l : List ByteArray) : Nat := ((l.map (·.data.toList)).map List.length).sum
theorem tot_snoc (l : List ByteArray) (s : ByteArray) : tot (l ++ [s]) = tot l + s.size := by
  unfold tot
  rw [List.map_append, List.map_append, List.sum_append]
  simp
theorem tot_take (l : List ByteArray) : ∀ i, tot (l.take i) ≤ tot l := fun i => by
  have h : tot l = tot (l.take i) + tot (l.drop i) := by
    unfold tot
    rw [← List.sum_append, ← List.map_append, ← List.map_append, List.take_append_drop]
  omega
theorem len_tot : ∀ (l : List ByteArray), (∀ s ∈ l, IsWord s.data.toList) → l.length ≤ tot l
  | [], _ => Nat.le_refl _
  | s :: l, h => by
    have ih := len_tot l (fun x hx => h x (by simp [hx]))
    have h1 : 1 ≤ s.data.toList.length := List.length_pos_iff.2 (h s (by simp)).1
    have e : tot (s :: l) = s.data.toList.length + tot l := by unfold tot; simp
    rw [e, List.length_cons]
    omega
theorem words_cat {l : List ByteArray} (h : ∀ s ∈ l, IsWord s.data.toList) {t : ByteArray} (ht : t.data.toList = 9 :: cat [32, 9] l) : wordsN t = l := data_inj (by
  rw [words_data, ht, toks_blank (by decide), if_pos rfl]
  exact toks_cat _ (fun x hx => by
    obtain ⟨s, hs, rfl⟩ := List.mem_map.1 hx
    exact h s hs))
theorem words_count {s t : ByteArray} {l : List ByteArray} (hl : l.length ≤ 500) (hs : s.size ≤ 500) (ht : t.size ≤ 100000) (hw : wordsN t = l) : ∀ (d j n : Nat), j + d = s.size → n + (s.data.toList.drop j).countP blankU = s.size →
    Evn (fun k => epactlaw05_LinesWords.l2 k s true l t (n : Int) (j : Int)) true
  | 0, j, n, hj, hn => by
    rw [List.drop_of_length_le (by rw [size_len]; omega)] at hn
    obtain ⟨k0, hk⟩ := same_ev l (by omega)
    refine ⟨k0 + 1, fun k h => ?_⟩
    obtain ⟨m, rfl⟩ : ∃ m, k = m + 1 := ⟨k - 1, by omega⟩
    have h1 : epactref05_Same.f m l l = some true := hk m (by omega)
    have hn' : n = s.size := hn
    show epactlaw05_LinesWords.l2 (m + 1) s true l t (n : Int) (j : Int) = some true
    rw [epactlaw05_LinesWords.l2, if_neg (by omega), if_pos rfl, if_pos (by omega)]
    unfold lines_Words.f
    rw [wordsF_some (by omega), Option.bind_some, hw, h1]
    rfl
  | d + 1, j, n, hj, hn => by
    have hlt : j < s.size := by omega
    obtain ⟨x, hx⟩ := has_at hlt
    have hb := bt_get hx
    have hdr : s.data.toList.drop j = x :: s.data.toList.drop (j + 1) := by
      have h2 : s.data.toList[j]? = some x := by rw [Array.getElem?_toList]; exact hx
      obtain ⟨h3, h4⟩ := List.getElem?_eq_some_iff.1 h2
      rw [← h4]
      exact List.drop_eq_getElem_cons h3
    rw [hdr] at hn
    by_cases hbl : blankU x = true
    · rw [List.countP_cons_of_pos hbl] at hn
      refine Evn.step (words_count hl hs ht hw d (j + 1) (n + 1) (by omega) (by omega)) fun k => ?_
      rw [epactlaw05_LinesWords.l2, if_pos (by omega), if_pos (by omega), next_i (by omega), next_i (by omega)]
      by_cases h32 : bt s (j : Int) = 32
      · rw [if_pos h32]
      · rw [if_neg h32, if_pos]
        rw [hb] at h32 ⊢
        unfold blankU at hbl
        rcases Bool.or_eq_true_iff.1 hbl with e | e
        · rw [beq_iff_eq.1 e] at h32; exact absurd rfl h32
        · rw [beq_iff_eq.1 e]; rfl
    · rw [List.countP_cons_of_neg hbl] at hn
      refine Evn.step (words_count hl hs ht hw d (j + 1) n (by omega) (by omega)) fun k => ?_
      rw [epactlaw05_LinesWords.l2, if_pos (by omega), if_pos (by omega), hb, if_neg (fun e => hbl (by
        rw [show x = 32 from UInt8.toNat_inj.mp (by show x.toNat = 32; omega)]; rfl)), if_neg (fun e => hbl (by
        rw [show x = 9 from UInt8.toNat_inj.mp (by show x.toNat = 9; omega)]; rfl))]
      rw [next_i (by omega)]
theorem words_inner {s : ByteArray} {l : List ByteArray} (hl : l.length ≤ 500) {i : Nat} (hi : i < l.length) {t : ByteArray} {n : Nat} (hts : t.size ≤ 10000) (hn : n ≤ 10000) (hz : (rdOf ByteArray.empty l (i : Int)).size ≤ 500) (hgood : IsWord (rdOf ByteArray.empty l (i : Int)).data.toList)
    (hnext : Evn (fun k => epactlaw05_LinesWords.l0 k s true l ((t ++ rdOf ByteArray.empty l (i : Int)) ++ (⟨#[32, 9]⟩ : ByteArray)) ((n + (rdOf ByteArray.empty l (i : Int)).size : Nat) : Int) ((i + 1 : Nat) : Int)) true) :
    ∀ d j : Nat, j + d = (rdOf ByteArray.empty l (i : Int)).size → Evn (fun k => epactlaw05_LinesWords.l1 k s true l t (n : Int) (i : Int) (j : Int)) true
  | 0, j, hj => by
    refine Evn.step hnext fun k => ?_
    rw [epactlaw05_LinesWords.l1, if_pos (by omega), if_pos (by omega), if_neg (by omega), if_pos (by omega), if_pos (by rw [ByteArray.size_append]; omega), next_i (by omega), w64 (by omega)]
    congr 1
  | d + 1, j, hj => by
    have hlt : j < (rdOf ByteArray.empty l (i : Int)).size := by omega
    obtain ⟨x, hx⟩ := has_at hlt
    have hb := bt_get hx
    have hbl : blankU x = false := hgood.2 x (by
      rw [← Array.getElem?_toList] at hx
      exact List.mem_of_getElem? hx)
    refine Evn.step (words_inner hl hi hts hn hz hgood hnext d (j + 1) (by omega)) fun k => ?_
    rw [epactlaw05_LinesWords.l1, if_pos (by omega), if_pos (by omega), if_pos (by omega), if_pos (by omega), hb, next_i (by omega), if_neg, if_neg]
    · intro e
      have : x = 9 := UInt8.toNat_inj.mp (by show x.toNat = 9; omega)
      rw [this] at hbl; exact absurd hbl (by decide)
    · intro e
      have : x = 32 := UInt8.toNat_inj.mp (by show x.toNat = 32; omega)
      rw [this] at hbl; exact absurd hbl (by decide)
theorem words_outer {s : ByteArray} {l : List ByteArray} (hs : s.size ≤ 500) (hg : ∀ s ∈ l, IsWord s.data.toList) (hsum : tot l + s.data.toList.countP blankU = s.size) : ∀ (d i n : Nat) (t : ByteArray), i + d = l.length → t.data.toList = 9 :: cat [32, 9] (l.take i) → t.size = 1 + 2 * i + tot (l.take i) → n = tot (l.take i) →
    Evn (fun k => epactlaw05_LinesWords.l0 k s true l t (n : Int) (i : Int)) true
  | 0, i, n, t, hi, ht, htz, hn => by
    have hll := len_tot l hg
    obtain rfl : i = l.length := by omega
    rw [List.take_length] at ht htz hn
    refine Evn.step (words_count (by omega) hs (by omega) (words_cat hg ht) s.size 0 n (Nat.zero_add _) (by rw [List.drop_zero]; omega)) fun k => ?_
    rw [epactlaw05_LinesWords.l0, if_neg (by omega)]
    rfl
  | d + 1, i, n, t, hi, ht, htz, hn => by
    have hll := len_tot l hg
    have hlt : i < l.length := by omega
    have htk : l.take (i + 1) = l.take i ++ [rdOf ByteArray.empty l (i : Int)] := by
      rw [List.take_add_one, rdOf_at hlt]; rfl
    have hword : IsWord (rdOf ByteArray.empty l (i : Int)).data.toList := hg _ (List.mem_of_getElem? (rdOf_at hlt))
    have htt := tot_take l (i + 1)
    have ht0 := tot_take l i
    rw [htk, tot_snoc] at htt
    have z2 : (⟨#[32, 9]⟩ : ByteArray).size = 2 := rfl
    refine Evn.step (words_inner (n := n) (t := t) (by omega) hlt (by omega) (by omega) (by omega) hword (words_outer hs hg hsum d (i + 1) _ _ (by omega) ?_ ?_ ?_) _ 0 (Nat.zero_add _)) fun k => ?_
    · rw [htk, cat_snoc, ByteArray.data_append, Array.toList_append, ByteArray.data_append, Array.toList_append, List.append_assoc, ht]
      rfl
    · rw [htk, tot_snoc, ByteArray.size_append, ByteArray.size_append]; omega
    · rw [htk, tot_snoc, hn]
    · rw [epactlaw05_LinesWords.l0, if_pos (by omega), if_pos (by omega), if_neg]
      · rfl
      · intro e
        rw [ByteArray.toList_eq] at e
        exact hword.1 e
theorem words_pure (s : ByteArray) : ∃ k, epactlaw05_LinesWords.f k s = some true := by
  unfold epactlaw05_LinesWords.f epactlaw05_small.f
  simp only [Option.bind_some]
  by_cases hl : (s.size : Int) > 500
  · exact ⟨0, by rw [if_pos hl]⟩
  have hg : ∀ w ∈ wordsN s, IsWord w.data.toList := fun w hw =>
    toks_good s.data.toList [] (fun x hx => by cases hx) _ (by rw [← words_data]; exact List.mem_map_of_mem hw)
  have hsum : tot (wordsN s) + s.data.toList.countP blankU = s.size := by
    unfold tot
    rw [words_data, toks_sum, size_len]
    exact Nat.zero_add _
  obtain ⟨k, hk⟩ := (words_outer (by omega) hg hsum (wordsN s).length 0 0 ⟨#[9]⟩ (by omega) rfl rfl rfl).get
  refine ⟨k, ?_⟩
  rw [if_neg hl]
  unfold lines_Words.f
  rw [wordsF_some (by omega), Option.bind_some]
  exact hk
theorem words_walk (a0 : ByteArray) (w : World) (hmax : MaxIs w) :
    Calls Tryd.prog 5 #[.string a0] w fun e w' => e = .returned (.bool true) ∧ Below w.heap.size w w' := by
  obtain ⟨k, hk⟩ := words_pure a0
  exact epactlaw05_LinesWords.calls k a0 true w hmax hk
end Go.Proofs.YtlljcfadfgnmjaaDoor.Pure
