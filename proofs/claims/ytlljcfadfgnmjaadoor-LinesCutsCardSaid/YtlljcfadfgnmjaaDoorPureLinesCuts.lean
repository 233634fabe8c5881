/- LinesCuts: what is cut, with the cut between, is what it was, and there is none ahead of it: the plain law; no condition. -/
import Derived.Test.YtlljcfadfgnmjaaDoorPLinesCutsx1
import Derived.Test.YtlljcfadfgnmjaaDoorLnP
namespace Go.Proofs.YtlljcfadfgnmjaaDoor.Pure
open Go.RowKit Go.Proofs.YtlljcfadfgnmjaaDoor.PLinesCuts Go.Proofs.YtlljcfadfgnmjaaDoorW.PrintWords Go.Proofs.YtlljcfadfgnmjaaDoorW.PrintLast Ln

theorem cut_empty {s t : ByteArray} (h : t.toList = []) : cutN s t = (s, ⟨#[]⟩, false) := by
  unfold cutN
  rw [h]
  rfl
theorem cut_miss {s t : ByteArray} (h : Lib.index s.data.toList t.data.toList = -1) : cutN s t = (s, ⟨#[]⟩, false) := by
  unfold cutN
  cases (t.toList == []) with
  | true => rfl
  | false =>
    unfold Lib.cut
    rw [if_neg (by omega)]
theorem cut_hit {s t : ByteArray} {i : Nat} (h0 : t.toList ≠ []) (h : Lib.index s.data.toList t.data.toList = (i : Int)) : cutN s t = (⟨(s.data.toList.take i).toArray⟩, ⟨(s.data.toList.drop (i + t.data.toList.length)).toArray⟩, true) := by
  unfold cutN
  rw [beq_eq_false_iff_ne.mpr h0]
  unfold Lib.cut
  rw [if_pos (by omega), h]
  rfl
/-- Ahead of the first one, with the most of one behind, there is none. -/
theorem no_again {s t : List UInt8} {i : Nat} (hn : Lib.NoOcc s t i) (ho : Lib.occAt s t i = true) (hm : 1 ≤ t.length) : Lib.index (s.take i ++ t.take (t.length - 1)) t = -1 := by
  refine Lib.index_none fun j hj => ?_
  cases hc : Lib.occAt (s.take i ++ t.take (t.length - 1)) t j with
  | false => rfl
  | true =>
    exfalso
    have hroom : j + t.length ≤ (s.take i ++ t.take (t.length - 1)).length := by
      rcases Lib.occAt_room hc with h | h
      · exact h
      · rw [h] at hm; simp at hm
    have hlen : (s.take i ++ t.take (t.length - 1)).length ≤ i + (t.length - 1) := by
      rw [List.length_append, List.length_take, List.length_take]; omega
    have hp1 : t <+: s.drop i := List.isPrefixOf_iff_prefix.mp ho
    obtain ⟨r, hr⟩ := hp1
    have hs : s = (s.take i ++ t.take (t.length - 1)) ++ (t.drop (t.length - 1) ++ r) := by
      rw [List.append_assoc, ← List.append_assoc (t.take _), List.take_append_drop, hr, List.take_append_drop]
    have hp2 : t <+: (s.take i ++ t.take (t.length - 1)).drop j := List.isPrefixOf_iff_prefix.mp hc
    have hp3 : t <+: s.drop j := by
      rw [hs, List.drop_append_of_le_length hj]
      exact hp2.trans (List.prefix_append _ _)
    have h1 := hn j (by omega)
    have h2 : Lib.occAt s t j = true := List.isPrefixOf_iff_prefix.mpr hp3
    rw [h1] at h2
    cases h2
theorem cuts_pure (s t : ByteArray) : ∃ k, epactlaw05_LinesCuts.f k s t = some true := by
  unfold epactlaw05_LinesCuts.f epactlaw05_small.f
  simp only [Option.bind_some]
  refine ⟨1, ?_⟩
  by_cases h3 : (s.size : Int) > 300
  · rw [if_pos h3, epactlaw05_LinesCuts.j0, if_pos rfl]
  by_cases h1 : (t.size : Int) > 100
  · rw [if_neg h3, decide_eq_true h1, epactlaw05_LinesCuts.j0, if_pos rfl]
  rw [if_neg h3, decide_eq_false h1, epactlaw05_LinesCuts.j0, if_neg Bool.false_ne_true]
  unfold lines_Cut.f
  rw [cutF_some (by omega)]
  simp only [Option.bind_some]
  by_cases h0 : t.toList = []
  · rw [cut_empty h0]
    simp
  rcases Lib.index_spec s.data.toList t.data.toList with ⟨hi, _⟩ | ⟨i, hi, hil, ho, hn⟩
  · rw [cut_miss hi]
    simp
  · have hts : t.size = t.data.toList.length := Lib.size_eq t
    have hss : s.size = s.data.toList.length := Lib.size_eq s
    have hm : 1 ≤ t.data.toList.length := by
      rcases Nat.eq_zero_or_pos t.data.toList.length with h | h
      · exact absurd (by rw [ByteArray.toList_eq]; exact List.eq_nil_of_length_eq_zero h) h0
      · exact h
    have hag := no_again hn ho hm
    have hp1 : t.data.toList <+: s.data.toList.drop i := List.isPrefixOf_iff_prefix.mp ho
    obtain ⟨r, hr⟩ := hp1
    have hsl : s.data.toList = s.data.toList.take i ++ (t.data.toList ++ r) := by rw [hr, List.take_append_drop]
    have hdr : s.data.toList.drop (i + t.data.toList.length) = r := by
      rw [← List.drop_drop, ← hr, List.drop_left' rfl]
    rw [cut_hit h0 hi, hdr]
    have hlr : i + (t.data.toList.length + r.length) = s.data.toList.length := by
      have := congrArg List.length hsl
      rw [List.length_append, List.length_append, List.length_take] at this
      omega
    have e1 : ((⟨(s.data.toList.take i).toArray⟩ : ByteArray) ++ t.extract 0 (wrap64 ((t.size : Int) - 1)).toNat).data.toList = s.data.toList.take i ++ t.data.toList.take (t.data.toList.length - 1) := by
      rw [ByteArray.data_append, Array.toList_append, Lib.extract_data, w64 (by omega), List.drop_zero]
      congr 2
      omega
    have e2 : (((⟨(s.data.toList.take i).toArray⟩ : ByteArray) ++ t) ++ ⟨r.toArray⟩ : ByteArray) = s := bytes_eq (by
      rw [ByteArray.data_append, Array.toList_append, ByteArray.data_append, Array.toList_append]
      show (s.data.toList.take i ++ t.data.toList) ++ r = s.data.toList
      rw [List.append_assoc, ← hsl])
    have hsz : (⟨(s.data.toList.take i).toArray⟩ : ByteArray).size = i := by
      rw [Lib.size_eq]
      show (s.data.toList.take i).length = i
      rw [List.length_take]; omega
    have hsr : (⟨r.toArray⟩ : ByteArray).size = r.length := by rw [Lib.size_eq]
    have hs2 : ((⟨(s.data.toList.take i).toArray⟩ : ByteArray) ++ t.extract 0 (wrap64 ((t.size : Int) - 1)).toNat).size < 4294967281 := by
      rw [ByteArray.size_append, hsz, ByteArray.size_extract]; omega
    have hcs : cutN ((⟨(s.data.toList.take i).toArray⟩ : ByteArray) ++ t.extract 0 (wrap64 ((t.size : Int) - 1)).toNat) t = (_, ⟨#[]⟩, false) := cut_miss (by rw [e1]; exact hag)
    rw [if_pos rfl, if_neg (by omega), w64 (by omega), if_pos (by omega), if_pos (by omega)]
    rw [w64 (by omega)] at hcs hs2
    rw [if_pos (by rw [hsz, ByteArray.size_extract]; omega), cutF_some hs2, hcs]
    simp only [Option.bind_some, if_true]
    rw [if_pos (by rw [hsz]; omega), if_pos (by rw [ByteArray.size_append, hsz, hsr]; omega), if_pos (by rw [e2])]
    rfl
theorem cuts_walk (a0 a1 : ByteArray) (w : World) (hmax : MaxIs w) :
    Calls Tryd.prog 7 #[.string a0, .string a1] w fun e w' => e = .returned (.bool true) ∧ Below w.heap.size w w' := by
  obtain ⟨k, hk⟩ := cuts_pure a0 a1
  exact epactlaw05_LinesCuts.calls k a0 a1 true w hmax hk
end Go.Proofs.YtlljcfadfgnmjaaDoor.Pure
