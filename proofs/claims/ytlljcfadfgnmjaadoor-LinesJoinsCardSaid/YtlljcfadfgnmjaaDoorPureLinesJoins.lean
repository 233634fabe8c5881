/- LinesJoins: a text that ends with a line feed, and another one behind it, has the lines of both: the plain law; no condition. -/
import Derived.Test.YtlljcfadfgnmjaaDoorPLinesJoinsx1
import Derived.Test.YtlljcfadfgnmjaaDoorLnL
namespace Go.Proofs.YtlljcfadfgnmjaaDoor.Pure
open Go.RowKit Go.Proofs.YtlljcfadfgnmjaaDoor.PLinesJoins Go.Proofs.YtlljcfadfgnmjaaDoorW.PrintWords Go.Proofs.YtlljcfadfgnmjaaDoorW.PrintLast Ln

theorem same_ev (a : List ByteArray) (ha : a.length ≤ 1000000000) : Evn (fun k => epactref05_Same.f k a a) true := by
  have key : ∀ d j : Nat, j + d = a.length → Evn (fun k => epactref05_Same.l0 k a a (j : Int)) true := by
    intro d
    induction d with
    | zero => intro j hj; exact Evn.now fun k => by rw [epactref05_Same.l0, if_neg (by omega)]
    | succ d ih =>
      intro j hj
      refine Evn.step (ih (j + 1) (by omega)) fun k => ?_
      rw [epactref05_Same.l0, if_pos (by omega), if_pos (by omega), if_pos (by omega), if_pos rfl, next_i (by omega)]
  obtain ⟨k0, hk⟩ := key a.length 0 (by omega)
  refine ⟨k0, fun k h => ?_⟩
  show epactref05_Same.f k a a = _
  unfold epactref05_Same.f
  rw [if_pos rfl]
  exact hk k h
theorem split_join (s t : ByteArray) : splitN ((s ++ ⟨#[10]⟩) ++ t) = splitN (s ++ ⟨#[10]⟩) ++ splitN t := data_inj (by
  rw [List.map_append, split_data, split_data, split_data]
  have e1 : (s ++ (⟨#[10]⟩ : ByteArray)).data.toList = s.data.toList ++ [10] := by rw [ByteArray.data_append, Array.toList_append]
  have e2 : ((s ++ (⟨#[10]⟩ : ByteArray)) ++ t).data.toList = s.data.toList ++ 10 :: t.data.toList := by
    rw [ByteArray.data_append, Array.toList_append, e1, List.append_assoc]; rfl
  rw [e2, e1]
  exact lines_join _ _)
theorem split_some (s : ByteArray) : 1 ≤ (splitN (s ++ ⟨#[10]⟩)).length := by
  have h := congrArg List.length (split_data (s ++ ⟨#[10]⟩))
  rw [List.length_map] at h
  rw [h, show (s ++ (⟨#[10]⟩ : ByteArray)).data.toList = s.data.toList ++ [10] by rw [ByteArray.data_append, Array.toList_append]]
  exact lines_some _
theorem split_len (s : ByteArray) : (splitN s).length ≤ s.size + 1 := by
  have hlen := Lib.splitB_all ⟨#[10]⟩ (by decide) 0 _ s rfl
  have hle := Lib.countB_le ⟨#[10]⟩ (by decide) s.size s (Nat.le_refl _)
  unfold splitN linesE
  split
  · rw [List.length_map, List.length_take]; omega
  · rw [List.length_map]; omega
theorem joins_pure (s t : ByteArray) : ∃ k, epactlaw05_LinesJoins.f k s t = some true := by
  unfold epactlaw05_LinesJoins.f epactlaw05_small.f
  simp only [Option.bind_some]
  by_cases h3 : (s.size : Int) > 300
  · exact ⟨1, by rw [if_pos h3, epactlaw05_LinesJoins.j0, if_pos rfl]⟩
  by_cases h1 : (t.size : Int) > 300
  · exact ⟨1, by rw [if_neg h3, decide_eq_true h1, epactlaw05_LinesJoins.j0, if_pos rfl]⟩
  have z1 : (s ++ (⟨#[10]⟩ : ByteArray)).size = s.size + 1 := by rw [ByteArray.size_append]; rfl
  have z2 : ((s ++ (⟨#[10]⟩ : ByteArray)) ++ t).size = s.size + 1 + t.size := by rw [ByteArray.size_append, z1]
  have l1 := split_len (s ++ ⟨#[10]⟩)
  have l2 := split_len t
  have l3 := split_some s
  obtain ⟨k, hk⟩ := (same_ev (splitN (s ++ ⟨#[10]⟩) ++ splitN t) (by rw [List.length_append]; omega)).get
  refine ⟨k + 1, ?_⟩
  rw [if_neg h3, decide_eq_false h1, epactlaw05_LinesJoins.j0, if_neg Bool.false_ne_true, if_pos (by omega)]
  unfold lines_Split.f
  rw [splitF_some (by omega), splitF_some (by omega), splitF_some (by omega), split_join]
  simp only [Option.bind_some, if_true, List.nil_append, List.length_nil, Nat.zero_add]
  rw [if_pos (by omega), if_pos (by omega), if_pos (by omega), if_pos (by omega), hk]
  rfl
theorem joins_walk (a0 a1 : ByteArray) (w : World) (hmax : MaxIs w) (_ : a0.size ≤ 140737488351232) (_ : a1.size ≤ 140737488351232) :
    Calls Tryd.prog 9 #[.string a0, .string a1] w fun e w' => e = .returned (.bool true) ∧ Below w.heap.size w w' := by
  obtain ⟨k, hk⟩ := joins_pure a0 a1
  exact epactlaw05_LinesJoins.calls k a0 a1 true w hmax hk
end Go.Proofs.YtlljcfadfgnmjaaDoor.Pure
