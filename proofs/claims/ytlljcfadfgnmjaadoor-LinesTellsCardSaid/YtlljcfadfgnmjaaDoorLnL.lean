/- lines: plain laws on texts cut at line feeds; no condition. -/
import Derived.Test.YtlljcfadfgnmjaaDoorLnP
namespace Go.Proofs.YtlljcfadfgnmjaaDoor.Ln
open Go.RowKit Go.Proofs.YtlljcfadfgnmjaaDoorW.PrintWords Go.Proofs.YtlljcfadfgnmjaaDoorW.PrintLast Go.Proofs.YtlljcfadfgnmjaaDoorW.PrintMore

def pieces (l : List UInt8) : List (List UInt8) := Lib.splitK [10] 0 (l.count 10) l
theorem pieces_no {l : List UInt8} (h : (10 : UInt8) ∉ l) : pieces l = [l] := by
  unfold pieces
  rw [List.count_eq_zero.2 h]
  rfl
theorem index_at {a r : List UInt8} (h : (10 : UInt8) ∉ a) : Lib.index (a ++ 10 :: r) [10] = (a.length : Int) := by
  refine Lib.index_first (by simp) ?_ (fun j hj => ?_)
  · unfold Lib.occAt
    rw [List.drop_left' rfl]
    simp [List.isPrefixOf]
  · unfold Lib.occAt
    rw [List.drop_append_of_le_length (by omega), List.drop_eq_getElem_cons hj]
    have : a[j] ≠ 10 := fun e => h (e ▸ List.getElem_mem hj)
    rw [List.cons_append]
    show (([10] : List UInt8).isPrefixOf (a[j] :: _)) = false
    unfold List.isPrefixOf
    rw [beq_eq_false_iff_ne.mpr (Ne.symm this)]
    rfl
theorem pieces_hit {a r : List UInt8} (h : (10 : UInt8) ∉ a) : pieces (a ++ 10 :: r) = a :: pieces r := by
  have hc : (a ++ 10 :: r).count 10 = r.count 10 + 1 := by
    rw [List.count_append, List.count_eq_zero.2 h, List.count_cons_self]; omega
  unfold pieces
  rw [hc]
  have e : Lib.splitK [10] 0 (r.count 10 + 1) (a ++ 10 :: r) = if Lib.index (a ++ 10 :: r) [10] == -1 then [a ++ 10 :: r] else (a ++ 10 :: r).take ((Lib.index (a ++ 10 :: r) [10]).toNat + 0) :: Lib.splitK [10] 0 (r.count 10) ((a ++ 10 :: r).drop ((Lib.index (a ++ 10 :: r) [10]).toNat + 1)) := rfl
  rw [e, index_at h, if_neg (by rw [beq_iff_eq]; omega)]
  simp only [Int.toNat_natCast, Nat.add_zero]
  rw [List.take_left' rfl, ← List.drop_drop, List.drop_left' rfl]
  rfl
theorem pieces_ne (l : List UInt8) : pieces l ≠ [] := by
  by_cases h : (10 : UInt8) ∈ l
  · obtain ⟨a, r, rfl, ha⟩ := List.eq_append_cons_of_mem h
    rw [pieces_hit ha]
    simp
  · rw [pieces_no h]
    simp
theorem pieces_app : ∀ (n : Nat) (s t : List UInt8), s.length ≤ n → pieces (s ++ 10 :: t) = pieces s ++ pieces t
  | n, s, t, hn => by
    by_cases h : (10 : UInt8) ∈ s
    · obtain ⟨a, r, rfl, ha⟩ := List.eq_append_cons_of_mem h
      cases n with
      | zero => simp at hn
      | succ n =>
        have ih := pieces_app n r t (by simp at hn; omega)
        rw [List.append_assoc, List.cons_append, pieces_hit ha, pieces_hit ha, ih]
        rfl
    · rw [pieces_hit h, pieces_no h]
      rfl
def trimL (t : List UInt8) : List UInt8 := Lib.trimSuffix t [13]
def endL (P : List (List UInt8)) : List (List UInt8) := if P.getLast? = some [] then P.dropLast else P
def linesL (l : List UInt8) : List (List UInt8) := (endL (pieces l)).map trimL
theorem endL_app {P Q : List (List UInt8)} (h : Q ≠ []) : endL (P ++ Q) = P ++ endL Q := by
  unfold endL
  rw [List.getLast?_append, List.getLast?_eq_some_getLast h, Option.some_or, List.dropLast_append_of_ne_nil h]
  split <;> rfl
theorem pieces_nil : pieces [] = [[]] := rfl
theorem lines_join (s t : List UInt8) : linesL (s ++ 10 :: t) = linesL (s ++ [10]) ++ linesL t := by
  unfold linesL
  rw [pieces_app _ s t (Nat.le_refl _), pieces_app _ s [] (Nat.le_refl _), endL_app (pieces_ne t), endL_app (pieces_ne []), pieces_nil]
  have : endL [[]] = [] := rfl
  rw [this, List.append_nil, List.map_append]
theorem lines_some (s : List UInt8) : 1 ≤ (linesL (s ++ [10])).length := by
  unfold linesL
  rw [pieces_app _ s [] (Nat.le_refl _), endL_app (pieces_ne []), pieces_nil]
  have : endL [[]] = [] := rfl
  rw [this, List.append_nil, List.length_map]
  exact List.length_pos_iff.mpr (pieces_ne s)
theorem trimS_data (t : ByteArray) : (trimS t).data.toList = trimL t.data.toList := rfl
theorem split_data (s : ByteArray) : (splitN s).map (·.data.toList) = linesL s.data.toList := by
  have hlen := Lib.splitB_all ⟨#[10]⟩ (by decide) 0 _ s rfl
  have hP := Lib.splitB_data ⟨#[10]⟩ 0 (Lib.countB s ⟨#[10]⟩) s
  have hcnt : Lib.countB s ⟨#[10]⟩ = s.data.toList.count 10 := Lib.count_one 10 s.data.toList
  have hP' : (Lib.splitB ⟨#[10]⟩ 0 (Lib.countB s ⟨#[10]⟩) s).map (·.data.toList) = pieces s.data.toList := by
    rw [hP, hcnt]; rfl
  unfold splitN
  generalize Lib.splitB ⟨#[10]⟩ 0 (Lib.countB s ⟨#[10]⟩) s = ps at *
  generalize Lib.countB s ⟨#[10]⟩ = n at *
  unfold linesL
  rw [← hP']
  have hg : ps[n]? = some (rdOf ByteArray.empty ps (n : Int)) := by
    unfold rdOf
    rw [Int.toNat_natCast, List.getElem?_eq_getElem (by omega)]
    simp [List.getD, List.getElem?_eq_getElem (show n < ps.length by omega)]
  have hlast : (ps.map (·.data.toList)).getLast? = some (rdOf ByteArray.empty ps (n : Int)).data.toList := by
    rw [List.getLast?_eq_getElem?, List.length_map, hlen, List.getElem?_map]
    show Option.map _ ps[n]? = _
    rw [hg]
    rfl
  unfold linesE endL
  rw [hlast, ByteArray.toList_eq]
  cases hb : (rdOf ByteArray.empty ps (n : Int)).data.toList.isEmpty with
  | true =>
    have he : (rdOf ByteArray.empty ps (n : Int)).data.toList = [] := List.isEmpty_iff.mp hb
    rw [he, if_pos rfl, List.dropLast_eq_take, List.length_map, hlen, ← List.map_take, List.map_map, List.map_map]
    rfl
  | false =>
    have he : (rdOf ByteArray.empty ps (n : Int)).data.toList ≠ [] := fun e => by rw [e] at hb; cases hb
    rw [if_neg (fun e => he (Option.some.inj e)), List.map_map, List.map_map]
    rfl
theorem data_inj {l m : List ByteArray} (h : l.map (·.data.toList) = m.map (·.data.toList)) : l = m := by
  have : ∀ (l m : List ByteArray), l.map (·.data.toList) = m.map (·.data.toList) → l = m := by
    intro l
    induction l with
    | nil => intro m h; cases m with
      | nil => rfl
      | cons _ _ => cases h
    | cons x l ih =>
      intro m h
      cases m with
      | nil => cases h
      | cons y m =>
        injection h with h1 h2
        rw [bytes_eq h1, ih m h2]
  exact this l m h
theorem trim_id {x : List UInt8} (h : x.getLast? ≠ some 13) : trimL x = x := by
  unfold trimL Lib.trimSuffix
  rw [if_neg]
  intro hs
  apply h
  have hs' : [13] <:+ x := List.isSuffixOf_iff_suffix.mp hs
  obtain ⟨r, rfl⟩ := hs'
  simp
theorem trim_13 (x : List UInt8) : trimL (x ++ [13]) = x := by
  have h : Lib.hasSuffix (x ++ [13]) [13] = true := List.isSuffixOf_iff_suffix.mpr (List.suffix_append _ _)
  unfold trimL Lib.trimSuffix
  rw [if_pos h]
  simp
/-- A line: no line feed in it, no byte 13 at its end. -/
def IsLine (x : List UInt8) : Prop := (10 : UInt8) ∉ x ∧ x.getLast? ≠ some 13
theorem pieces_cat : ∀ (l : List (List UInt8)) (y : List UInt8), (∀ x ∈ l, (10 : UInt8) ∉ x ++ y) → pieces (l.flatMap (fun x => x ++ y ++ [10])) = l.map (· ++ y) ++ [[]]
  | [], _, _ => rfl
  | x :: l, y, h => by
    have h1 : (x :: l).flatMap (fun x => x ++ y ++ [10]) = (x ++ y) ++ 10 :: l.flatMap (fun x => x ++ y ++ [10]) := by simp
    rw [h1, pieces_hit (h x (by simp)), pieces_cat l y (fun z hz => h z (by simp [hz]))]
    rfl
theorem lines_cat (l : List (List UInt8)) (h : ∀ x ∈ l, IsLine x) : linesL (l.flatMap (fun x => x ++ [10])) = l ∧ linesL (l.flatMap (fun x => x ++ [13, 10])) = l := by
  constructor
  · have h1 := pieces_cat l [] (fun x hx => by rw [List.append_nil]; exact (h x hx).1)
    simp only [List.append_nil] at h1
    unfold linesL
    rw [h1, endL_app (by simp)]
    have : endL [[]] = [] := rfl
    rw [this, List.append_nil]
    rw [List.map_map]
    exact (List.map_congr_left fun x hx => (trim_id (h x hx).2)).trans (List.map_id _)
  · have h1 := pieces_cat l [13] (fun x hx => by
      intro hm
      rcases List.mem_append.1 hm with hm | hm
      · exact (h x hx).1 hm
      · simp at hm)
    have e : (fun x : List UInt8 => x ++ [13] ++ [10]) = fun x => x ++ [13, 10] := by funext x; simp
    rw [e] at h1
    unfold linesL
    rw [h1, endL_app (by simp)]
    have : endL [[]] = [] := rfl
    rw [this, List.append_nil, List.map_map]
    exact (List.map_congr_left fun x _ => trim_13 x).trans (List.map_id _)
end Go.Proofs.YtlljcfadfgnmjaaDoor.Ln
