/- HeadTells: the document's Decode answers as the program's: the plain law. -/
import Derived.Test.YthgghbmckpflcaaHeadRD
import Derived.Test.YthgghbmckpflcaaHeadBack
namespace Go.Proofs.Ythgghbmckpflcaa.Oct
open Go.RowKit Go.Proofs.YthgghbmckpflcaaW.PrintWords Go.Proofs.YthgghbmckpflcaaW.PrintLast Go.Proofs.YthgghbmckpflcaaW.PrintMore

theorem takeS_left2 {l : List Int} {bad : Bool} {n : Int} (h : (takeS l bad n).2.2 = false) : bad = false ∧ 0 ≤ n ∧ ((takeS l bad n).2.1.length : Int) + n = l.length := by
  unfold takeS at h ⊢
  split at h
  · cases h
  · rename_i hc
    rw [if_neg hc]
    refine ⟨by cases bad <;> simp_all, by omega, ?_⟩
    simp only [List.length_drop]; omega
theorem numS_left2 {l : List Int} {bad : Bool} (h : (numS l bad 4).2.2 = false) : bad = false ∧ ((numS l bad 4).2.1.length : Int) + 4 = l.length := by
  have := takeS_left2 (l := l) (bad := bad) (n := 4) h
  exact ⟨this.1, this.2.2⟩
theorem fillS_left2 : ∀ (n : Nat) (xs l : List Int) (bad : Bool), (fillS n xs l bad).2.2 = false → bad = false ∧ ((fillS n xs l bad).2.1.length : Int) + 4 * n = l.length
  | 0, _, _, _, h => ⟨h, by simp [fillS]⟩
  | n + 1, xs, l, bad, h => by
    rw [fillS] at h ⊢
    obtain ⟨h1, h2⟩ := fillS_left2 n _ _ _ h
    obtain ⟨h3, h4⟩ := numS_left2 h1
    exact ⟨h3, by omega⟩
theorem okS_bad2 (s : ByteArray) (z : List Int) (v : Int) (xs : List Int) : okS s z true v xs = false := by
  unfold okS; split <;> simp
/-- Too few bytes are no head. -/
theorem decT_short2 {b : List Int} (h : b.length < 44) : decT b = ([0, 0, 0, 0, 0, 0, 0], false) := by
  have hb : (fillS 6 [0, 0, 0, 0, 0, 0] (takeS (numS (takeS b false 4).2.1 (takeS b false 4).2.2 1).2.1 (numS (takeS b false 4).2.1 (takeS b false 4).2.2 1).2.2 15).2.1 (takeS (numS (takeS b false 4).2.1 (takeS b false 4).2.2 1).2.1 (numS (takeS b false 4).2.1 (takeS b false 4).2.2 1).2.2 15).2.2).2.2 = true := by
    rw [← Bool.not_eq_false]
    intro hf
    obtain ⟨h1, h2⟩ := fillS_left2 _ _ _ _ hf
    obtain ⟨h3, _, h4⟩ := takeS_left2 h1
    obtain ⟨h5, _, h6⟩ := takeS_left2 (l := (takeS b false 4).2.1) (bad := (takeS b false 4).2.2) (n := 1) h3
    obtain ⟨_, _, h8⟩ := takeS_left2 h5
    have h6' : ((numS (takeS b false 4).2.1 (takeS b false 4).2.2 1).2.1.length : Int) + 1 = (takeS b false 4).2.1.length := h6
    omega
  unfold decT
  simp only [hb, okS_bad2]
  rfl
/-- Bytes in pieces of four. -/
theorem piece4 {l : List Int} (h : 4 ≤ l.length) (hb : B8 l) : ∃ q r, q.length = 4 ∧ B8 q ∧ B8 r ∧ l = q ++ r ∧ r.length + 4 = l.length :=
  ⟨l.take 4, l.drop 4, by rw [List.length_take]; omega, fun x hx => hb x (List.mem_of_mem_take hx), fun x hx => hb x (List.mem_of_mem_drop hx), (List.take_append_drop 4 l).symm, by rw [List.length_drop]; omega⟩
theorem hv_enc {v : Int} (h : 1 ≤ v ∧ v ≤ 4) : hvS (if v > 1 then 48 + v else 0) = v := by
  unfold hvS
  (repeat' split) <;> omega
theorem num_b {n : Int} (h : 0 ≤ n ∧ n ≤ 2000) : numL 4 true 0 (bytesS n 4) = n :=
  read_back (n := n) (size := 4) (by omega) (decide_eq_true (by omega))
theorem take_parts {b q1 q2 q3 q4 q5 q6 : List Int} {v u s l t ty c : Int} (he : encS v u s l t ty c = b.take 44)
    (hmid : (b.take 44).drop 20 = q1 ++ (q2 ++ (q3 ++ (q4 ++ (q5 ++ (q6 ++ [])))))) (hq : q1.length = 4 ∧ q2.length = 4 ∧ q3.length = 4 ∧ q4.length = 4 ∧ q5.length = 4 ∧ q6.length = 4) :
    bytesS u 4 = q1 ∧ bytesS s 4 = q2 ∧ bytesS l 4 = q3 ∧ bytesS t 4 = q4 ∧ bytesS ty 4 = q5 ∧ bytesS c 4 = q6 := by
  rw [← he] at hmid
  have h20 : (encS v u s l t ty c).drop 20 = restS [u, s, l, t, ty, c] := by unfold encS; rw [List.drop_left' (by simp [preS])]
  rw [h20] at hmid
  simp only [restS] at hmid
  obtain ⟨e1, hmid⟩ := List.append_inj hmid (by rw [bytesS_length]; omega)
  obtain ⟨e2, hmid⟩ := List.append_inj hmid (by rw [bytesS_length]; omega)
  obtain ⟨e3, hmid⟩ := List.append_inj hmid (by rw [bytesS_length]; omega)
  obtain ⟨e4, hmid⟩ := List.append_inj hmid (by rw [bytesS_length]; omega)
  obtain ⟨e5, hmid⟩ := List.append_inj hmid (by rw [bytesS_length]; omega)
  obtain ⟨e6, _⟩ := List.append_inj hmid (by rw [bytesS_length]; omega)
  exact ⟨e1, e2, e3, e4, e5, e6⟩
theorem take_four {b : List Int} {v u s l t ty c : Int} (he : encS v u s l t ty c = b.take 44) : b[4]? = some (if v > 1 then 48 + v else 0) := by
  have h : (b.take 44)[4]? = b[4]? := by rw [List.getElem?_take]; simp
  rw [← h, ← he]
  rfl
/-- What the document makes of bytes is what decT makes of them. -/
theorem rdecS_eq {b : List Int} (hB : B8 b) {x4 : Int} (hx : b[4]? = some x4) {q1 q2 q3 q4 q5 q6 : List Int}
    (hmid : (b.take 44).drop 20 = q1 ++ (q2 ++ (q3 ++ (q4 ++ (q5 ++ (q6 ++ [])))))) (hq : q1.length = 4 ∧ q2.length = 4 ∧ q3.length = 4 ∧ q4.length = 4 ∧ q5.length = 4 ∧ q6.length = 4) :
    rdecS (hvS x4) (numL 4 true 0 q1) (numL 4 true 0 q2) (numL 4 true 0 q3) (numL 4 true 0 q4) (numL 4 true 0 q5) (numL 4 true 0 q6) b = decT b := by
  obtain ⟨ys, ok, hT⟩ : ∃ ys ok, decT b = (ys, ok) := ⟨_, _, rfl⟩
  rw [hT]
  cases ok with
  | true =>
    obtain ⟨v, u, s, l, t, ty, c, rfl, hr, he, _⟩ := decT_back hB hT
    obtain ⟨rfl, rfl, rfl, rfl, rfl, rfl⟩ := take_parts he hmid hq
    obtain ⟨n0, n1, n2, n3, n4, n5, n6⟩ := right_nums hr
    rw [take_four he] at hx
    injection hx with hx
    rw [← hx, hv_enc n0, num_b n1, num_b n2, num_b n3, num_b n4, num_b n5, num_b n6]
    unfold rdecS
    rw [hr, he]
    simp
  | false =>
    obtain rfl := decT_false hT
    unfold rdecS
    cases hr : rightS (hvS x4) (numL 4 true 0 q1) (numL 4 true 0 q2) (numL 4 true 0 q3) (numL 4 true 0 q4) (numL 4 true 0 q5) (numL 4 true 0 q6) with
    | false => rfl
    | true =>
      cases heq : ((strOfNums (encS (hvS x4) (numL 4 true 0 q1) (numL 4 true 0 q2) (numL 4 true 0 q3) (numL 4 true 0 q4) (numL 4 true 0 q5) (numL 4 true 0 q6))).toList == (strOfNums (b.take 44)).toList) with
      | false => rfl
      | true =>
        exfalso
        have h1 := str_inj (B8_enc hr) (fun x hx => hB x (List.mem_of_mem_take hx)) (toList_inj (beq_iff_eq.mp heq))
        have h2 := decT_enc (b.drop 44) hr
        rw [h1, List.take_append_drop, hT] at h2
        injection h2 with _ h2
        cases h2
/-- The document's Decode, as the program's. -/
theorem rdecode_is (A : Option Addr) (c : Nat) (b : List Int) (v u s l t ty ch : Int) (ok : Bool) (w : World) (hr : Kd.C (Kd.int .u8) w A b.length b) (hc : b.length ≤ c) (hB : B8 b) (hl : b.length ≤ 1000) (hT : decT b = ([v, u, s, l, t, ty, ch], ok)) :
    Calls Try.prog 12 #[.slice A b.length c] w fun e w' => e = .returned (.tuple #[.agg #[.int .i64 v, .int .i64 u, .int .i64 s, .int .i64 l, .int .i64 t, .int .i64 ty, .int .i64 ch], .bool ok]) ∧ Below w.heap.size w w' := by
  by_cases h44 : b.length < 44
  · rw [decT_short2 h44] at hT
    injection hT with h1 h2
    injection h1 with e0 h1
    injection h1 with e1 h1
    injection h1 with e2 h1
    injection h1 with e3 h1
    injection h1 with e4 h1
    injection h1 with e5 h1
    injection h1 with e6 _
    subst e0 e1 e2 e3 e4 e5 e6 h2
    exact rdecode_short A c b w h44
  · have hlen : ((b.take 44).drop 20).length = 24 := by simp; omega
    have hBm : B8 ((b.take 44).drop 20) := fun x hx => hB x (List.mem_of_mem_take (List.mem_of_mem_drop hx))
    obtain ⟨q1, r1, l1, b1, c1, e1, k1⟩ := piece4 (by omega) hBm
    obtain ⟨q2, r2, l2, b2, c2, e2, k2⟩ := piece4 (by omega) c1
    obtain ⟨q3, r3, l3, b3, c3, e3, k3⟩ := piece4 (by omega) c2
    obtain ⟨q4, r4, l4, b4, c4, e4, k4⟩ := piece4 (by omega) c3
    obtain ⟨q5, r5, l5, b5, c5, e5, k5⟩ := piece4 (by omega) c4
    obtain ⟨q6, r6, l6, b6, c6, e6, k6⟩ := piece4 (by omega) c5
    have e7 : r6 = [] := List.eq_nil_of_length_eq_zero (by omega)
    have hmid : (b.take 44).drop 20 = q1 ++ (q2 ++ (q3 ++ (q4 ++ (q5 ++ (q6 ++ []))))) := by rw [e1, e2, e3, e4, e5, e6, e7]
    have h4 : 4 < b.length := by omega
    have hx : b[4]? = some (b[4]) := List.getElem?_eq_getElem h4
    have hx8 := hB b[4] (List.getElem_mem h4)
    refine (rdecode_long A c b q1 q2 q3 q4 q5 q6 b[4] _ _ _ _ _ _ w hr hc (by omega) hl hmid (by simp [rd, hx]) hx8 ⟨⟨l1, l2, l3, l4, l5, l6⟩, b1, b2, b3, b4, b5, b6⟩ ⟨rfl, rfl, rfl, rfl, rfl, rfl⟩).mono ?_
    rintro e w' ⟨ys, ok', rfl, hys, hbel⟩
    rw [rdecS_eq hB hx hmid ⟨l1, l2, l3, l4, l5, l6⟩, hT] at hys
    injection hys with h1 h2
    subst h1 h2
    exact ⟨rfl, hbel⟩
theorem w64 {x : Int} (h : -9223372036854775808 ≤ x ∧ x ≤ 9223372036854775807) : wrap64 x = x := by
  unfold wrap64; omega
theorem rsize_f (v u s l t ty c size : Int) : PSize.epactref15_Size.f v u s l t ty c size = some (sizeF v u s l t ty c size) := by
  unfold PSize.epactref15_Size.f sizeF
  rw [rright_f]
  cases hr : rightS v u s l t ty c with
  | false => rfl
  | true =>
    have hR := of_decide_eq_true hr
    simp only [Option.bind_some, if_true]
    by_cases h4 : size = 4
    · subst h4
      rw [if_pos rfl, if_pos (Or.inl rfl), show wrap64 (4 + 1) = 5 from (w64 (by omega)).trans (by omega), show wrap64 (4 + 4) = 8 from (w64 (by omega)).trans (by omega)]
      rw [w64 (x := 5 * t) (by omega), w64 (x := 6 * ty) (by omega), w64 (x := 8 * l) (by omega), w64 (x := 5 * t + 6 * ty) (by omega), w64 (x := 5 * t + 6 * ty + c) (by omega), w64 (x := 5 * t + 6 * ty + c + 8 * l) (by omega), w64 (x := 5 * t + 6 * ty + c + 8 * l + s) (by omega), w64 (by omega)]
      congr 1; omega
    · rw [if_neg h4]
      by_cases h8 : size = 8
      · subst h8
        rw [if_pos rfl, if_pos (Or.inr rfl), show wrap64 (8 + 1) = 9 from (w64 (by omega)).trans (by omega), show wrap64 (8 + 4) = 12 from (w64 (by omega)).trans (by omega)]
        rw [w64 (x := 9 * t) (by omega), w64 (x := 6 * ty) (by omega), w64 (x := 12 * l) (by omega), w64 (x := 9 * t + 6 * ty) (by omega), w64 (x := 9 * t + 6 * ty + c) (by omega), w64 (x := 9 * t + 6 * ty + c + 12 * l) (by omega), w64 (x := 9 * t + 6 * ty + c + 12 * l + s) (by omega), w64 (by omega)]
        congr 1; omega
      · rw [if_neg h8, if_neg (by omega)]
end Go.Proofs.Ythgghbmckpflcaa.Oct
