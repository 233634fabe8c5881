/- LinesTells: lines, words, numbers, what is cut, and folded, as the document tells: the plain law; no condition. -/
import Derived.Test.YtlljcfadfgnmjaaDoorPLinesTellsx2
import Derived.Test.YtlljcfadfgnmjaaDoorLnT
namespace Go.Proofs.YtlljcfadfgnmjaaDoor.Pure
open Go.RowKit Go.Proofs.YtlljcfadfgnmjaaDoor.PLinesTells Go.Proofs.YtlljcfadfgnmjaaDoorW.PrintWords Go.Proofs.YtlljcfadfgnmjaaDoorW.PrintLast Ln

theorem same_ev (a : List ByteArray) (ha : a.length ≤ 1000000000) : Evn (fun k => epactref05_Same.f k a a) true := by
  have key : ∀ d j : Nat, j + d = a.length → Evn (fun k => epactref05_Same.l0 k a a (j : Int)) true := by
    intro d
    induction d with
    | zero => intro j hj; exact Evn.now fun k => by rw [epactref05_Same.l0, if_neg (by omega)]
    | succ d ih =>
      intro j hj
      refine Evn.step (ih (j + 1) (by omega)) fun k => ?_
      rw [epactref05_Same.l0, if_pos (by omega), if_pos (by omega), if_pos (by omega), if_pos rfl, next_i (by omega)]
  obtain ⟨k0, hk⟩ := key a.length 0 (by omega)
  refine ⟨k0, fun k h => ?_⟩
  show epactref05_Same.f k a a = _
  unfold epactref05_Same.f
  rw [if_pos rfl]
  exact hk k h
theorem cut_empty {s t : ByteArray} (h : t.toList = []) : cutN s t = (s, ⟨#[]⟩, false) := by
  unfold cutN
  rw [h]
  rfl
theorem cut_miss {s t : ByteArray} (h : Lib.index s.data.toList t.data.toList = -1) : cutN s t = (s, ⟨#[]⟩, false) := by
  unfold cutN
  cases (t.toList == []) with
  | true => rfl
  | false =>
    unfold Lib.cut
    rw [if_neg (by omega)]
theorem cut_hit {s t : ByteArray} {i : Nat} (h0 : t.toList ≠ []) (h : Lib.index s.data.toList t.data.toList = (i : Int)) : cutN s t = (⟨(s.data.toList.take i).toArray⟩, ⟨(s.data.toList.drop (i + t.data.toList.length)).toArray⟩, true) := by
  unfold cutN
  rw [beq_eq_false_iff_ne.mpr h0]
  unfold Lib.cut
  rw [if_pos (by omega), h]
  rfl

theorem drop_at {s : ByteArray} {j : Nat} {x : UInt8} (hx : s.data[j]? = some x) : s.data.toList.drop j = x :: s.data.toList.drop (j + 1) := by
  have h2 : s.data.toList[j]? = some x := by rw [Array.getElem?_toList]; exact hx
  obtain ⟨h3, h4⟩ := List.getElem?_eq_some_iff.1 h2
  rw [← h4]
  exact List.drop_eq_getElem_cons h3
theorem take_at {s : ByteArray} {j : Nat} {x : UInt8} (hx : s.data[j]? = some x) : s.data.toList.take (j + 1) = s.data.toList.take j ++ [x] := by
  rw [List.take_add_one, Array.getElem?_toList, hx]; rfl
theorem cur_at {s : ByteArray} {a j : Nat} {x : UInt8} (ha : a ≤ j) (hx : s.data[j]? = some x) : (s.data.toList.drop a).take (j + 1 - a) = (s.data.toList.drop a).take (j - a) ++ [x] := by
  have e : j + 1 - a = (j - a) + 1 := by omega
  rw [e, List.take_add_one, List.getElem?_drop, show a + (j - a) = j from by omega, Array.getElem?_toList, hx]
  rfl
def bytesL (l : List (List UInt8)) : List ByteArray := l.map (fun x => (⟨x.toArray⟩ : ByteArray))
theorem bytesL_data (l : List (List UInt8)) : (bytesL l).map (·.data.toList) = l := by
  unfold bytesL
  rw [List.map_map]
  exact List.map_id _
/-! Number -/
theorem numS_ok {b : UInt8} {r : List UInt8} {n : Int} (h1 : 48 ≤ b.toNat ∧ b.toNat ≤ 57) (h2 : 10 * n + ((b.toNat : Int) - 48) ≤ 9223372036854775807) : numS (b :: r) n = numS r (10 * n + ((b.toNat : Int) - 48)) := by
  rw [numS, decide_eq_true h1, decide_eq_true h2]; rfl
theorem numS_no {b : UInt8} {r : List UInt8} {n : Int} (h : ¬((48 ≤ b.toNat ∧ b.toNat ≤ 57) ∧ 10 * n + ((b.toNat : Int) - 48) ≤ 9223372036854775807)) : numS (b :: r) n = none := by
  rw [numS, ← Bool.decide_and, decide_eq_false h]
theorem not_nil (s : ByteArray) : (s.toList != ([] : List UInt8)) = decide (0 < s.size) := by
  rw [ByteArray.toList_eq, Lib.size_eq]
  cases s.data.toList with
  | nil => rfl
  | cons a l => rw [decide_eq_true (by simp)]; rfl
theorem ref_number {s : ByteArray} (hs : s.size ≤ 500) : ∀ (d j : Nat) (n : Int), j + d = s.size → 0 ≤ n ∧ n ≤ 9223372036854775807 →
    Evn (fun k => epactref05_Number.l0 k s n (j : Int)) (numE s (numS (s.data.toList.drop j) n))
  | 0, j, n, hj, hn => by
    rw [List.drop_of_length_le (by rw [size_len]; omega)]
    refine Evn.now fun k => ?_
    rw [epactref05_Number.l0, if_neg (by omega), not_nil]
    rfl
  | d + 1, j, n, hj, hn => by
    obtain ⟨x, hx⟩ := has_at (s := s) (j := j) (by omega)
    have hb := bt_get hx
    have h256 : x.toNat < 256 := UInt8.toNat_lt _
    have e1 : wrap64 ((wrap64 (bt s (j : Int))) - 48) = (x.toNat : Int) - 48 := by
      rw [hb, w64 (x := (x.toNat : Int)) (by omega), w64 (by omega)]
    rw [drop_at hx]
    by_cases h1 : 48 ≤ x.toNat ∧ x.toNat ≤ 57
    · have e2 : wrap64 (Int.tdiv (wrap64 (9223372036854775807 - ((x.toNat : Int) - 48))) 10) = (9223372036854775807 - ((x.toNat : Int) - 48)) / 10 := by
        rw [w64 (x := 9223372036854775807 - ((x.toNat : Int) - 48)) (by omega), Int.tdiv_eq_ediv_of_nonneg (by omega), w64 (by omega)]
      by_cases h2 : 10 * n + ((x.toNat : Int) - 48) ≤ 9223372036854775807
      · rw [numS_ok h1 h2]
        refine Evn.step (ref_number hs d (j + 1) _ (by omega) ⟨by omega, h2⟩) fun k => ?_
        rw [epactref05_Number.l0, if_pos (by omega), if_pos (by omega), e1, if_neg (by omega), if_neg (by omega), e2, if_neg (by omega), next_i (by omega), w64 (x := 10 * n) (by omega), w64 (by omega)]
      · rw [numS_no (fun h => h2 h.2)]
        refine Evn.now fun k => ?_
        rw [epactref05_Number.l0, if_pos (by omega), if_pos (by omega), e1, if_neg (by omega), if_neg (by omega), e2, if_pos (by omega)]
        rfl
    · rw [numS_no (fun h => h1 h.1)]
      refine Evn.now fun k => ?_
      rw [epactref05_Number.l0, if_pos (by omega), if_pos (by omega), e1]
      by_cases h3 : (x.toNat : Int) - 48 < 0
      · rw [if_pos h3]; rfl
      · rw [if_neg h3, if_pos (by omega)]; rfl
/-! Cut -/
theorem occ_ext {s t : ByteArray} {j : Nat} : (s.extract j (j + t.size)).toList = t.toList ↔ Lib.occAt s.data.toList t.data.toList j = true := by
  unfold Lib.occAt
  rw [List.isPrefixOf_iff_prefix, List.prefix_iff_eq_take, Lib.extract_toList, ByteArray.toList_eq, Nat.add_sub_cancel_left, Lib.size_eq]
  exact eq_comm
theorem ref_cut_loop {s t : ByteArray} (hs : s.size ≤ 500) (ht : t.size ≤ 100) (h0 : t.toList ≠ []) : ∀ (d j : Nat), j + d = s.size + 1 → Lib.NoOcc s.data.toList t.data.toList j →
    Evn (fun k => epactref05_Cut.l0 k s t (j : Int)) (cutN s t)
  | d, j, hj, hn => by
    have hss := Lib.size_eq s
    have hts := Lib.size_eq t
    have h1 : 1 ≤ t.size := by
      rw [ByteArray.toList_eq] at h0
      rw [hts]; exact List.length_pos_iff.2 h0
    have e1 : wrap64 ((j : Int) + (t.size : Int)) = ((j + t.size : Nat) : Int) := by rw [w64 (by omega)]; omega
    by_cases hfit : j + t.size ≤ s.size
    · by_cases ho : Lib.occAt s.data.toList t.data.toList j = true
      · rw [cut_hit h0 (Lib.index_hit hn (by omega) ho)]
        refine Evn.step (Evn.now (g := fun k => epactref05_Cut.j1 k s t (j : Int) true) fun k => ?_) fun k => ?_
        · rw [epactref05_Cut.j1, if_pos rfl, if_pos (by omega), e1, if_pos (by omega), if_pos (by omega), Int.toNat_natCast, Int.toNat_natCast, if_pos (occ_ext.2 ho), if_pos (by omega), if_pos (by omega)]
          congr 1
          refine Prod.ext (bytes_eq ?_) (Prod.ext (bytes_eq ?_) rfl)
          · rw [Lib.extract_data, List.drop_zero, Nat.sub_zero]
          · rw [Lib.extract_data, List.take_of_length_le (by rw [List.length_drop]; omega), hts]
        · rw [epactref05_Cut.l0, e1, if_pos (by omega), show (t.toList != ([] : List UInt8)) = true from by rw [not_nil, decide_eq_true (by omega)]]
      · cases d with
        | zero => omega
        | succ d =>
          have hn2 : Lib.NoOcc s.data.toList t.data.toList (j + 1) := fun i hi => by
            rcases Nat.lt_or_ge i j with h | h
            · exact hn i h
            · obtain rfl : i = j := by omega
              exact Bool.eq_false_iff.2 ho
          refine Evn.step (Evn.step (g := fun k => epactref05_Cut.j1 k s t (j : Int) true) (ref_cut_loop hs ht h0 d (j + 1) (by omega) hn2) fun k => ?_) fun k => ?_
          · rw [epactref05_Cut.j1, if_pos rfl, if_pos (by omega), e1, if_pos (by omega), if_pos (by omega), Int.toNat_natCast, Int.toNat_natCast, if_neg (fun e => ho (occ_ext.1 e)), next_i (by omega)]
          · rw [epactref05_Cut.l0, e1, if_pos (by omega), show (t.toList != ([] : List UInt8)) = true from by rw [not_nil, decide_eq_true (by omega)]]
    · rw [cut_miss (Lib.index_past (by rw [ByteArray.toList_eq] at h0; exact h0) hn (by omega))]
      refine Evn.step (Evn.now (g := fun k => epactref05_Cut.j1 k s t (j : Int) false) fun k => ?_) fun k => ?_
      · rw [epactref05_Cut.j1, if_neg Bool.false_ne_true]
      · rw [epactref05_Cut.l0, e1, if_neg (by omega)]
theorem ref_cut {s t : ByteArray} (hs : s.size ≤ 500) (ht : t.size ≤ 100) : Evn (fun k => epactref05_Cut.f k s t) (cutN s t) := by
  by_cases h0 : t.toList = []
  · rw [cut_empty h0]
    have hz : t.size = 0 := by rw [Lib.size_eq, ← ByteArray.toList_eq, h0]; rfl
    refine Evn.step (Evn.now (g := fun k => epactref05_Cut.j1 k s t 0 false) fun k => ?_) fun k => ?_
    · rw [epactref05_Cut.j1, if_neg Bool.false_ne_true]
    · show epactref05_Cut.l0 (k + 1) s t 0 = _
      rw [epactref05_Cut.l0, not_nil, decide_eq_false (by omega)]
      split <;> rfl
  · exact ref_cut_loop hs ht h0 (s.size + 1) 0 (by omega) (Lib.NoOcc.zero _ _)
/-! Split -/
theorem trimL_13 {p : List UInt8} : trimL (p ++ [13]) = p := by
  unfold trimL Lib.trimSuffix
  rw [if_pos (by unfold Lib.hasSuffix; simp [List.isSuffixOf])]
  simp
theorem trimL_no {p : List UInt8} (h : p.getLast? ≠ some 13) : trimL p = p := by
  unfold trimL Lib.trimSuffix
  rw [if_neg]
  intro hc
  unfold Lib.hasSuffix at hc
  obtain ⟨q, rfl⟩ := List.isSuffixOf_iff_suffix.1 hc
  exact h (by simp)
theorem ref_trimmed {x : ByteArray} (hx : x.size ≤ 500) : epactref05_trimmed.f x = some ⟨(trimL x.data.toList).toArray⟩ := by
  have hxs := Lib.size_eq x
  unfold epactref05_trimmed.f
  by_cases h0 : (x.size : Int) > 0
  · have e : wrap64 ((x.size : Int) - 1) = ((x.size - 1 : Nat) : Int) := by rw [w64 (by omega)]; omega
    obtain ⟨c, hc⟩ := has_at (s := x) (j := x.size - 1) (by omega)
    have hl : x.data.toList = x.data.toList.take (x.size - 1) ++ [c] := by
      rw [← take_at hc, show x.size - 1 + 1 = x.size from by omega, hxs, List.take_length]
    rw [if_pos h0, e, if_pos (by omega), if_pos (by omega), bt_get hc]
    by_cases h13 : (c.toNat : Int) = 13
    · rw [if_pos h13, if_pos (by omega), Int.toNat_natCast]
      have : c = 13 := UInt8.toNat_inj.mp (by show c.toNat = 13; omega)
      rw [this] at hl
      congr 1
      refine bytes_eq ?_
      rw [Lib.extract_data, List.drop_zero, Nat.sub_zero]
      conv => rhs; rw [hl]
      rw [trimL_13]
    · rw [if_neg h13, trimL_no]
      rw [hl, List.getLast?_append]
      intro e2
      simp at e2
      exact h13 (by rw [e2]; rfl)
  · have hz : x.data.toList = [] := List.eq_nil_of_length_eq_zero (by omega)
    rw [if_neg h0, trimL_no (by rw [hz]; simp)]
theorem linesL_hit {p r : List UInt8} (h : (10 : UInt8) ∉ p) : linesL (p ++ 10 :: r) = trimL p :: linesL r := by
  unfold linesL
  rw [pieces_hit h, show p :: pieces r = [p] ++ pieces r from rfl, endL_app (pieces_ne r)]
  rfl
theorem linesL_end {p : List UInt8} (h : (10 : UInt8) ∉ p) (h0 : p ≠ []) : linesL p = [trimL p] := by
  unfold linesL endL
  rw [pieces_no h, if_neg (by simpa using h0)]
  rfl
theorem ref_split {s : ByteArray} (hs : s.size ≤ 500) : ∀ (d j a : Nat) (out : List ByteArray), j + d = s.size → a ≤ j → (10 : UInt8) ∉ (s.data.toList.drop a).take (j - a) → out.length ≤ j →
    Evn (fun k => epactref05_Split.l0 k s out (a : Int) (j : Int)) (out ++ bytesL (linesL (s.data.toList.drop a)))
  | 0, j, a, out, hj, ha, hno, hout => by
    have hss := Lib.size_eq s
    rw [List.take_of_length_le (by rw [List.length_drop]; omega)] at hno
    refine Evn.now fun k => ?_
    rw [epactref05_Split.l0, if_neg (by omega)]
    by_cases hlt : a < s.size
    · rw [if_pos (by omega), if_pos (by omega), if_pos (by omega), ref_trimmed (by rw [Lib.size_eq, Lib.extract_data, List.length_take, List.length_drop]; omega), Option.bind_some, if_pos (by omega), linesL_end hno (fun e => by
        have := congrArg List.length e
        rw [List.length_drop] at this
        simp at this
        omega), Int.toNat_natCast, Lib.extract_data, List.take_of_length_le (by rw [List.length_drop]; omega)]
      rfl
    · rw [if_neg (by omega), List.drop_of_length_le (by omega)]
      show some out = some (out ++ [])
      rw [List.append_nil]
  | d + 1, j, a, out, hj, ha, hno, hout => by
    have hss := Lib.size_eq s
    obtain ⟨x, hx⟩ := has_at (s := s) (j := j) (by omega)
    have hb := bt_get hx
    have hdd : s.data.toList.drop a = (s.data.toList.drop a).take (j - a) ++ s.data.toList.drop j := by
      conv => lhs; rw [← List.take_append_drop (j - a) (s.data.toList.drop a), List.drop_drop, show a + (j - a) = j from by omega]
    by_cases h10 : (x.toNat : Int) = 10
    · have hx10 : x = 10 := UInt8.toNat_inj.mp (by show x.toNat = 10; omega)
      have e1 : linesL (s.data.toList.drop a) = trimL ((s.data.toList.drop a).take (j - a)) :: linesL (s.data.toList.drop (j + 1)) := by
        conv => lhs; rw [hdd, drop_at hx, hx10, linesL_hit hno]
      have ih := ref_split hs d (j + 1) (j + 1) (out ++ [⟨(trimL ((s.data.toList.drop a).take (j - a))).toArray⟩]) (by omega) (by omega) (by simp) (by rw [List.length_append, List.length_singleton]; omega)
      rw [List.append_assoc] at ih
      rw [e1]
      refine Evn.step ih fun k => ?_
      rw [epactref05_Split.l0, if_pos (by omega), if_pos (by omega), hb, if_pos h10, if_pos (by omega), if_pos (by omega), if_pos (by omega), ref_trimmed (by rw [Lib.size_eq, Lib.extract_data, List.length_take, List.length_drop]; omega), Option.bind_some, if_pos (by omega), Int.toNat_natCast, Int.toNat_natCast, Lib.extract_data, next_i (by omega)]
    · refine Evn.step (ref_split hs d (j + 1) a out (by omega) (by omega) ?_ (by omega)) fun k => ?_
      · rw [cur_at ha hx, List.mem_append, List.mem_singleton]
        rintro (h | h)
        · exact hno h
        · exact h10 (by rw [← h]; rfl)
      · rw [epactref05_Split.l0, if_pos (by omega), if_pos (by omega), hb, if_neg h10, next_i (by omega)]
/-! Words -/
theorem ref_blank (x : UInt8) : epactref05_blank.f (x.toNat : Int) = some (blankU x) := by
  unfold epactref05_blank.f blankU
  by_cases h : (x.toNat : Int) = 32
  · rw [if_pos h, show x = 32 from UInt8.toNat_inj.mp (by show x.toNat = 32; omega)]; rfl
  · rw [if_neg h]
    congr 1
    rw [beq_eq_false_iff_ne.mpr (show x ≠ 32 from fun e => h (by rw [e]; rfl)), Bool.false_or, Bool.eq_iff_iff, beq_iff_eq, beq_iff_eq]
    constructor
    · intro e; exact UInt8.toNat_inj.mp (by show x.toNat = 9; omega)
    · intro e; rw [e]; rfl
theorem toks_one {b : UInt8} (h : blankU b = false) (cur r : List UInt8) : toks cur (b :: r) = toks (cur ++ [b]) r := by
  show (if blankU b = true then _ else _) = _
  rw [h, if_neg Bool.false_ne_true]
theorem ref_words {s : ByteArray} (hs : s.size ≤ 500) : ∀ (d j : Nat) (out : List ByteArray), j + d = s.size → out.length ≤ j →
    Evn (fun k => epactref05_Words.l0 k s out (j : Int)) (out ++ bytesL (toks [] (s.data.toList.drop j))) ∧
    ∀ a, a < j → Evn (fun k => epactref05_Words.l1 k s out (j : Int) (a : Int)) (out ++ bytesL (toks ((s.data.toList.drop a).take (j - a)) (s.data.toList.drop j)))
  | 0, j, out, hj, hout => by
    have hss := Lib.size_eq s
    have hd : s.data.toList.drop j = [] := List.drop_of_length_le (by omega)
    rw [hd]
    constructor
    · refine Evn.now fun k => ?_
      rw [epactref05_Words.l0, if_neg (by omega)]
      show some out = some (out ++ [])
      rw [List.append_nil]
    · intro a ha
      have hne : (s.data.toList.drop a).take (j - a) ≠ [] := fun e => by
        have := congrArg List.length e
        rw [List.length_take, List.length_drop] at this
        simp only [List.length_nil] at this
        omega
      have e1 : toks ((s.data.toList.drop a).take (j - a)) [] = [(s.data.toList.drop a).take (j - a)] := by
        show (if _ = [] then _ else _) = _
        rw [if_neg hne]
      rw [e1]
      refine Evn.step (Evn.now (g := fun k => epactref05_Words.l0 k s (out ++ [s.extract a j]) ((j + 1 : Nat) : Int)) fun k => ?_) fun k => ?_
      · rw [epactref05_Words.l0, if_neg (by omega)]
        congr 2
        show [s.extract a j] = [_]
        congr 1
        exact bytes_eq (Lib.extract_data _ _ _)
      · rw [epactref05_Words.l1, if_neg (by omega), if_pos (by omega), if_pos (by omega), if_pos (by omega), if_pos (by omega), Int.toNat_natCast, Int.toNat_natCast, next_i (by omega)]
  | d + 1, j, out, hj, hout => by
    have hss := Lib.size_eq s
    obtain ⟨x, hx⟩ := has_at (s := s) (j := j) (by omega)
    have hb := bt_get hx
    rw [drop_at hx]
    cases hbl : blankU x with
    | true =>
      constructor
      · rw [toks_blank hbl, if_pos rfl]
        refine Evn.step (ref_words hs d (j + 1) out (by omega) (by omega)).1 fun k => ?_
        rw [epactref05_Words.l0, if_pos (by omega), if_pos (by omega), hb, ref_blank, hbl, Option.bind_some, if_pos rfl, next_i (by omega)]
      · intro a ha
        have hne : (s.data.toList.drop a).take (j - a) ≠ [] := fun e => by
          have := congrArg List.length e
          rw [List.length_take, List.length_drop] at this
          simp only [List.length_nil] at this
          omega
        rw [toks_blank hbl, if_neg hne]
        have ih := (ref_words hs d (j + 1) (out ++ [s.extract a j]) (by omega) (by rw [List.length_append, List.length_singleton]; omega)).1
        rw [List.append_assoc, show s.extract a j = ⟨((s.data.toList.drop a).take (j - a)).toArray⟩ from bytes_eq (Lib.extract_data _ _ _)] at ih
        refine Evn.step ih fun k => ?_
        rw [epactref05_Words.l1, if_pos (by omega), if_pos (by omega), hb, ref_blank, hbl, Option.bind_some, if_pos rfl, if_pos (by omega), if_pos (by omega), if_pos (by omega), if_pos (by omega), Int.toNat_natCast, Int.toNat_natCast, next_i (by omega), show s.extract a j = ⟨((s.data.toList.drop a).take (j - a)).toArray⟩ from bytes_eq (Lib.extract_data _ _ _)]
    | false =>
      constructor
      · have ih := (ref_words hs d (j + 1) out (by omega) (by omega)).2 j (by omega)
        rw [cur_at (Nat.le_refl j) hx, Nat.sub_self, List.take_zero] at ih
        rw [toks_one hbl]
        refine Evn.step (Evn.step (g := fun k => epactref05_Words.l1 k s out (j : Int) (j : Int)) ih fun k => ?_) fun k => ?_
        · rw [epactref05_Words.l1, if_pos (by omega), if_pos (by omega), hb, ref_blank, hbl, Option.bind_some, if_neg Bool.false_ne_true, next_i (by omega)]
        · rw [epactref05_Words.l0, if_pos (by omega), if_pos (by omega), hb, ref_blank, hbl, Option.bind_some, if_neg Bool.false_ne_true]
      · intro a ha
        have ih := (ref_words hs d (j + 1) out (by omega) (by omega)).2 a (by omega)
        rw [cur_at (by omega) hx] at ih
        rw [toks_one hbl]
        refine Evn.step ih fun k => ?_
        rw [epactref05_Words.l1, if_pos (by omega), if_pos (by omega), hb, ref_blank, hbl, Option.bind_some, if_neg Bool.false_ne_true, next_i (by omega)]
/-! Fold -/
theorem ref_fold {s : ByteArray} (hs : s.size ≤ 500) : ∀ (d j : Nat), j + d = s.size →
    Evn (fun k => epactref05_Fold.l0 k s ((s.data.toList.take j).map (fun b => ((foldU b).toNat : Int))) (j : Int)) (foldS s)
  | 0, j, hj => by
    have hss := Lib.size_eq s
    refine Evn.now fun k => ?_
    rw [epactref05_Fold.l0, if_neg (by omega), List.take_of_length_le (by omega)]
    congr 1
    refine bytes_eq ?_
    rw [strOfNums_data, List.map_map]
    show _ = (s.data.map foldU).toList
    rw [Array.toList_map]
    refine List.map_congr_left fun b _ => ?_
    show UInt8.ofNat (Int.toNat ((foldU b).toNat : Int)) = foldU b
    rw [Int.toNat_natCast, UInt8.ofNat_toNat]
  | d + 1, j, hj => by
    have hss := Lib.size_eq s
    obtain ⟨x, hx⟩ := has_at (s := s) (j := j) (by omega)
    have hb := bt_get hx
    have h256 : x.toNat < 256 := UInt8.toNat_lt _
    have ih := ref_fold hs d (j + 1) (by omega)
    rw [take_at hx, List.map_append] at ih
    have hl : ((s.data.toList.take j).map (fun b => ((foldU b).toNat : Int))).length < 140737488355328 := by
      rw [List.length_map, List.length_take]; omega
    refine Evn.step ih fun k => ?_
    rw [epactref05_Fold.l0, if_pos (by omega), if_pos (by omega), hb, next_i (by omega)]
    by_cases h1 : (x.toNat : Int) ≥ 65
    · by_cases h2 : (x.toNat : Int) ≤ 90
      · rw [if_pos h1, if_pos h2, if_pos hl]
        congr 2
        show [_] = [((foldU x).toNat : Int)]
        unfold foldU
        rw [if_pos (by omega), UInt8.toNat_add]
        have : (32 : UInt8).toNat = 32 := rfl
        rw [this]
        congr 1
      · rw [if_pos h1, if_neg h2, if_pos hl]
        congr 2
        show [_] = [((foldU x).toNat : Int)]
        unfold foldU
        rw [if_neg (by omega)]
    · rw [if_neg h1, if_pos hl]
      congr 2
      show [_] = [((foldU x).toNat : Int)]
      unfold foldU
      rw [if_neg (by omega)]
theorem toks_many (s : ByteArray) (hs : s.size ≤ 500) : (wordsN s).length ≤ 1000 := by
  have h1 := toks_sum s.data.toList []
  have hg := toks_good s.data.toList [] (fun x hx => by cases hx)
  have h2 : ∀ l : List (List UInt8), (∀ w ∈ l, IsWord w) → l.length ≤ (l.map List.length).sum := by
    intro l
    induction l with
    | nil => intro _; exact Nat.le_refl _
    | cons w l ih =>
      intro h
      have i1 := ih (fun x hx => h x (by simp [hx]))
      have i2 : 1 ≤ w.length := List.length_pos_iff.2 (h w (by simp)).1
      rw [List.map_cons, List.sum_cons, List.length_cons]
      omega
  have h3 := h2 _ hg
  have h4 : (wordsN s).length = (toks [] s.data.toList).length := by rw [← words_data, List.length_map]
  have hss := Lib.size_eq s
  simp only [List.length_nil] at h1
  omega
theorem split_len (s : ByteArray) : (splitN s).length ≤ s.size + 1 := by
  have hlen := Lib.splitB_all ⟨#[10]⟩ (by decide) 0 _ s rfl
  have hle := Lib.countB_le ⟨#[10]⟩ (by decide) s.size s (Nat.le_refl _)
  unfold splitN linesE
  split
  · rw [List.length_map, List.length_take]; omega
  · rw [List.length_map]; omega
theorem tells_pure (s t : ByteArray) : ∃ k, epactlaw05_LinesTells.f k s t = some true := by
  unfold epactlaw05_LinesTells.f epactlaw05_small.f
  simp only [Option.bind_some]
  by_cases h3 : (s.size : Int) > 500
  · exact ⟨1, by rw [if_pos h3, epactlaw05_LinesTells.j0, if_pos rfl]⟩
  by_cases h1 : (t.size : Int) > 100
  · exact ⟨1, by rw [if_neg h3, decide_eq_true h1, epactlaw05_LinesTells.j0, if_pos rfl]⟩
  have hs : s.size ≤ 500 := by omega
  have ht : t.size ≤ 100 := by omega
  have en : Evn (fun k => epactref05_Number.f k s) (numN s) := ref_number hs s.size 0 0 (by omega) (by omega)
  have ec := ref_cut hs ht
  have es : Evn (fun k => epactref05_Split.f k s) (splitN s) := by
    have h := ref_split hs s.size 0 0 [] (by omega) (by omega) (by simp) (by simp)
    rw [List.drop_zero, List.nil_append, show bytesL (linesL s.data.toList) = splitN s from data_inj (by rw [bytesL_data, split_data])] at h
    exact h
  have ew : Evn (fun k => epactref05_Words.f k s) (wordsN s) := by
    have h := (ref_words hs s.size 0 [] (by omega) (by simp)).1
    rw [List.drop_zero, List.nil_append, show bytesL (toks [] s.data.toList) = wordsN s from data_inj (by rw [bytesL_data, words_data])] at h
    exact h
  have ef : Evn (fun k => epactref05_Fold.f k s) (foldS s) := ref_fold hs s.size 0 (by omega)
  have e1 := same_ev (splitN s) (by have := split_len s; omega)
  have e2 := same_ev (wordsN s) (by have := toks_many s hs; omega)
  obtain ⟨k0, en⟩ := en
  obtain ⟨k1, ec⟩ := ec
  obtain ⟨k2, es⟩ := es
  obtain ⟨k3, ew⟩ := ew
  obtain ⟨k4, ef⟩ := ef
  obtain ⟨k5, e1⟩ := e1
  obtain ⟨k6, e2⟩ := e2
  refine ⟨(k0 + k1 + k2 + k3 + k4 + k5 + k6) + 1, ?_⟩
  generalize hK : k0 + k1 + k2 + k3 + k4 + k5 + k6 = K
  rw [if_neg h3, decide_eq_false h1, epactlaw05_LinesTells.j0, if_neg Bool.false_ne_true]
  have en := en K (by omega)
  have ec := ec K (by omega)
  have es := es K (by omega)
  have ew := ew K (by omega)
  have ef := ef K (by omega)
  have e1 := e1 K (by omega)
  have e2 := e2 K (by omega)
  simp only at en ec es ew ef e1 e2
  unfold lines_Number.f lines_Cut.f lines_Split.f lines_Words.f lines_Fold.f
  rw [numF_some (by omega), cutF_some (by omega), splitF_some (by omega), wordsF_some (by omega), foldF_some (by omega)]
  simp only [Option.bind_some, en, ec, es, ew, ef, e1, e2, if_true, beq_self_eq_true]
theorem tells_walk (a0 a1 : ByteArray) (w : World) (hmax : MaxIs w) :
    Calls Tryd.prog 3 #[.string a0, .string a1] w fun e w' => e = .returned (.bool true) ∧ Below w.heap.size w w' := by
  obtain ⟨k, hk⟩ := tells_pure a0 a1
  exact epactlaw05_LinesTells.calls k a0 a1 true w hmax hk
end Go.Proofs.YtlljcfadfgnmjaaDoor.Pure
