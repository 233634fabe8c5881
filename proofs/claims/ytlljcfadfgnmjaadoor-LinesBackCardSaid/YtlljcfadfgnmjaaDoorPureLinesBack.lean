/- LinesBack: lines without line feeds, with no byte 13 at their ends, are split as they were, with a byte 13 ahead of each line feed, too: the plain law; no condition. -/
import Derived.Test.YtlljcfadfgnmjaaDoorPLinesBackx1
import Derived.Test.YtlljcfadfgnmjaaDoorLnL
namespace Go.Proofs.YtlljcfadfgnmjaaDoor.Pure
open Go.RowKit Go.Proofs.YtlljcfadfgnmjaaDoor.PLinesBack Go.Proofs.YtlljcfadfgnmjaaDoorW.PrintWords Go.Proofs.YtlljcfadfgnmjaaDoorW.PrintLast Ln

theorem same_ev (a : List ByteArray) (ha : a.length ≤ 1000000000) : Evn (fun k => epactref05_Same.f k a a) true := by
  have key : ∀ d j : Nat, j + d = a.length → Evn (fun k => epactref05_Same.l0 k a a (j : Int)) true := by
    intro d
    induction d with
    | zero => intro j hj; exact Evn.now fun k => by rw [epactref05_Same.l0, if_neg (by omega)]
    | succ d ih =>
      intro j hj
      refine Evn.step (ih (j + 1) (by omega)) fun k => ?_
      rw [epactref05_Same.l0, if_pos (by omega), if_pos (by omega), if_pos (by omega), if_pos rfl, next_i (by omega)]
  obtain ⟨k0, hk⟩ := key a.length 0 (by omega)
  refine ⟨k0, fun k h => ?_⟩
  show epactref05_Same.f k a a = _
  unfold epactref05_Same.f
  rw [if_pos rfl]
  exact hk k h
theorem rdOf_at {l : List ByteArray} {i : Nat} (h : i < l.length) : l[i]? = some (rdOf ByteArray.empty l (i : Int)) := by
  unfold rdOf
  rw [Int.toNat_natCast, List.getElem?_eq_getElem h]
  simp [List.getD, h]
def cat (y : List UInt8) (l : List ByteArray) : List UInt8 := (l.map (·.data.toList)).flatMap (fun x => x ++ y)
theorem cat_snoc (y : List UInt8) (l : List ByteArray) (s : ByteArray) : cat y (l ++ [s]) = cat y l ++ (s.data.toList ++ y) := by
  unfold cat
  rw [List.map_append, List.flatMap_append]
  simp
theorem back_end {l : List ByteArray} (hl : l.length ≤ 50) (hg : ∀ s ∈ l, IsLine s.data.toList) {a b : ByteArray} (ha : a.data.toList = cat [10] l) (hb : b.data.toList = cat [13, 10] l) (hsa : a.size < 4294967281) (hsb : b.size < 4294967281) :
    Evn (fun k => epactlaw05_LinesBack.l0 k l true a b (l.length : Int)) true := by
  have hc := lines_cat (l.map (·.data.toList)) (fun x hx => by
    obtain ⟨s, hs, rfl⟩ := List.mem_map.1 hx
    exact hg s hs)
  have e1 : splitN a = l := data_inj (by rw [split_data, ha]; exact hc.1)
  have e2 : splitN b = l := data_inj (by rw [split_data, hb]; exact hc.2)
  obtain ⟨k0, hk⟩ := same_ev l (by omega)
  refine ⟨k0 + 1, fun k h => ?_⟩
  obtain ⟨m, rfl⟩ : ∃ m, k = m + 1 := ⟨k - 1, by omega⟩
  have h1 : epactref05_Same.f m l l = some true := hk m (by omega)
  show epactlaw05_LinesBack.l0 (m + 1) l true a b (l.length : Int) = some true
  rw [epactlaw05_LinesBack.l0, if_neg (by omega), if_pos rfl]
  unfold lines_Split.f
  rw [splitF_some hsa, splitF_some hsb, e1, e2]
  simp only [Option.bind_some, h1, if_true]
/-- A text, byte by byte: whatever stops early answers true. -/
theorem back_inner {l : List ByteArray} (hl : l.length ≤ 50) {i : Nat} (hi : i < l.length) {a b : ByteArray} (hsa : a.size ≤ 102 * i) (hsb : b.size ≤ 102 * i) (hz : (rdOf ByteArray.empty l (i : Int)).size ≤ 100)
    (hnext : IsLine (rdOf ByteArray.empty l (i : Int)).data.toList → Evn (fun k => epactlaw05_LinesBack.l0 k l true ((a ++ rdOf ByteArray.empty l (i : Int)) ++ (⟨#[10]⟩ : ByteArray)) ((b ++ rdOf ByteArray.empty l (i : Int)) ++ (⟨#[13, 10]⟩ : ByteArray)) ((i + 1 : Nat) : Int)) true) :
    ∀ d j : Nat, j + d = (rdOf ByteArray.empty l (i : Int)).size → (∀ m < j, (rdOf ByteArray.empty l (i : Int)).data[m]? ≠ some 10 ∧ ((rdOf ByteArray.empty l (i : Int)).data[m]? = some 13 → m + 1 ≠ (rdOf ByteArray.empty l (i : Int)).size)) →
      Evn (fun k => epactlaw05_LinesBack.l1 k l true a b (i : Int) (j : Int)) true
  | 0, j, hj, hn => by
    refine Evn.step (hnext ⟨fun hm => ?_, fun hm => ?_⟩) fun k => ?_
    · obtain ⟨m, hm1, hm2⟩ := List.mem_iff_getElem.1 hm
      have hlt : m < (rdOf ByteArray.empty l (i : Int)).size := by rw [Lib.size_eq]; exact hm1
      have h1 : (rdOf ByteArray.empty l (i : Int)).data[m]? = some 10 := by
        rw [← Array.getElem?_toList, List.getElem?_eq_getElem hm1, hm2]
      exact (hn m (by omega)).1 h1
    · rw [List.getLast?_eq_getElem?, Array.getElem?_toList] at hm
      have hlt := get_lt hm
      have hse := Lib.size_eq (rdOf ByteArray.empty l (i : Int))
      exact (hn _ (by omega)).2 hm (by omega)
    · rw [epactlaw05_LinesBack.l1, if_pos (by omega), if_pos (by omega), if_neg (by omega), if_pos (by omega), if_pos (by rw [ByteArray.size_append]; omega), if_pos (by omega), if_pos (by rw [ByteArray.size_append]; omega), next_i (by omega)]
  | d + 1, j, hj, hn => by
    have hlt : j < (rdOf ByteArray.empty l (i : Int)).size := by omega
    obtain ⟨x, hx⟩ := has_at hlt
    have hb := bt_get hx
    by_cases h10 : bt (rdOf ByteArray.empty l (i : Int)) (j : Int) = 10
    · exact Evn.now fun k => by rw [epactlaw05_LinesBack.l1, if_pos (by omega), if_pos (by omega), if_pos (by omega), if_pos (by omega), if_pos h10]
    · have hx10 : x ≠ 10 := fun e => h10 (by rw [hb, e]; rfl)
      by_cases h13 : bt (rdOf ByteArray.empty l (i : Int)) (j : Int) = 13
      · by_cases hl13 : (j : Int) = wrap64 (((rdOf ByteArray.empty l (i : Int)).size : Int) - 1)
        · exact Evn.now fun k => by rw [epactlaw05_LinesBack.l1, if_pos (by omega), if_pos (by omega), if_pos (by omega), if_pos (by omega), if_neg h10, if_pos h13, if_pos hl13]
        · refine Evn.step (back_inner hl hi hsa hsb hz hnext d (j + 1) (by omega) (fun m hm => ?_)) fun k => ?_
          · rcases Nat.lt_or_ge m j with h | h
            · exact hn m h
            · obtain rfl : m = j := by omega
              refine ⟨by rw [hx]; intro e; exact hx10 (Option.some.inj e), fun _ e => hl13 ?_⟩
              rw [w64 (by omega)]; omega
          · rw [epactlaw05_LinesBack.l1, if_pos (by omega), if_pos (by omega), if_pos (by omega), if_pos (by omega), if_neg h10, if_pos h13, if_neg hl13, next_i (by omega)]
      · have hx13 : x ≠ 13 := fun e => h13 (by rw [hb, e]; rfl)
        refine Evn.step (back_inner hl hi hsa hsb hz hnext d (j + 1) (by omega) (fun m hm => ?_)) fun k => ?_
        · rcases Nat.lt_or_ge m j with h | h
          · exact hn m h
          · obtain rfl : m = j := by omega
            exact ⟨by rw [hx]; intro e; exact hx10 (Option.some.inj e), fun e => by rw [hx] at e; exact absurd (Option.some.inj e) hx13⟩
        · rw [epactlaw05_LinesBack.l1, if_pos (by omega), if_pos (by omega), if_pos (by omega), if_pos (by omega), if_neg h10, if_neg h13, next_i (by omega)]
theorem back_outer {l : List ByteArray} (hl : l.length ≤ 50) : ∀ (d i : Nat) (a b : ByteArray), i + d = l.length → (∀ s ∈ l.take i, IsLine s.data.toList) → a.data.toList = cat [10] (l.take i) → b.data.toList = cat [13, 10] (l.take i) → a.size ≤ 102 * i → b.size ≤ 102 * i →
    Evn (fun k => epactlaw05_LinesBack.l0 k l true a b (i : Int)) true
  | 0, i, a, b, hi, hg, ha, hb, hsa, hsb => by
    obtain rfl : i = l.length := by omega
    rw [List.take_length] at hg ha hb
    exact back_end hl hg ha hb (by omega) (by omega)
  | d + 1, i, a, b, hi, hg, ha, hb, hsa, hsb => by
    have hlt : i < l.length := by omega
    have htk : l.take (i + 1) = l.take i ++ [rdOf ByteArray.empty l (i : Int)] := by
      rw [List.take_add_one, rdOf_at hlt]; rfl
    by_cases h100 : ((rdOf ByteArray.empty l (i : Int)).size : Int) > 100
    · exact Evn.now fun k => by rw [epactlaw05_LinesBack.l0, if_pos (by omega), if_pos (by omega), if_pos h100]
    · refine Evn.step (back_inner hl hlt hsa hsb (by omega) (fun hline => ?_) _ 0 (Nat.zero_add _) (fun m hm => by omega)) fun k => ?_
      · have z1 : (⟨#[10]⟩ : ByteArray).size = 1 := rfl
        have z2 : (⟨#[13, 10]⟩ : ByteArray).size = 2 := rfl
        refine back_outer hl d (i + 1) _ _ (by omega) (fun s hs => ?_) ?_ ?_ ?_ ?_
        · rw [htk, List.mem_append] at hs
          rcases hs with hs | hs
          · exact hg s hs
          · rw [List.mem_singleton] at hs; rw [hs]; exact hline
        · rw [htk, cat_snoc, ← ha, ByteArray.data_append, Array.toList_append, ByteArray.data_append, Array.toList_append, List.append_assoc]
        · rw [htk, cat_snoc, ← hb, ByteArray.data_append, Array.toList_append, ByteArray.data_append, Array.toList_append, List.append_assoc]
        · rw [ByteArray.size_append, ByteArray.size_append]; omega
        · rw [ByteArray.size_append, ByteArray.size_append]; omega
      · rw [epactlaw05_LinesBack.l0, if_pos (by omega), if_pos (by omega), if_neg h100]
        rfl
theorem back_pure (l : List ByteArray) : ∃ k, epactlaw05_LinesBack.f k l = some true := by
  unfold epactlaw05_LinesBack.f epactlaw05_small.f
  simp only [Option.bind_some]
  by_cases hl : (l.length : Int) > 50
  · exact ⟨0, by rw [if_pos hl]⟩
  obtain ⟨k, hk⟩ := (back_outer (l := l) (by omega) l.length 0 ⟨#[]⟩ ⟨#[]⟩ (by omega) (fun s h => by simp at h) rfl rfl (by decide) (by decide)).get
  refine ⟨k, ?_⟩
  rw [if_neg hl]
  exact hk
theorem back_walk (A : Option Addr) (c : Nat) (l : List ByteArray) (w : World) (hmax : MaxIs w) (hr : Kd.C Kd.string w A l.length l) (hc : l.length ≤ c) (_ : ∀ s ∈ l, s.size ≤ 9223372036854775807) :
    Calls Tryd.prog 4 #[.slice A l.length c] w fun e w' => e = .returned (.bool true) ∧ Below w.heap.size w w' := by
  obtain ⟨k, hk⟩ := back_pure l
  exact epactlaw05_LinesBack.calls k A c l true w hr hc hmax hk
end Go.Proofs.YtlljcfadfgnmjaaDoor.Pure
