/- HeadBack: heads and their bytes are each other's: the plain law. -/
import Derived.Test.YthgghbmckpflcaaHeadApart
namespace Go.Proofs.Ythgghbmckpflcaa.Oct
open Go.RowKit Go.Proofs.YthgghbmckpflcaaW.PrintWords Go.Proofs.YthgghbmckpflcaaW.PrintLast Go.Proofs.YthgghbmckpflcaaW.PrintMore

theorem takeS_app {p q : List Int} {n : Int} (h : (p.length : Int) = n) : takeS (p ++ q) false n = (p, q, false) := by
  unfold takeS
  rw [if_neg (by rw [List.length_append]; rintro (h1 | h1 | h1); · cases h1
                 · omega
                 · push_cast at h1; omega)]
  rw [List.take_left' (by omega), List.drop_left' (by omega)]
theorem numS_app1 {x : Int} {q : List Int} (h : 0 ≤ x ∧ x ≤ 255) : numS ([x] ++ q) false 1 = (x, q, false) := by
  unfold numS
  rw [show sizeS 1 = 1 by decide, takeS_app (by rfl)]
  rw [val1 x (B8_cons h (fun _ hh => by cases hh))]
theorem numS_app4 {n : Int} {q : List Int} (h : 0 ≤ n ∧ n ≤ 2000) : numS (bytesS n 4 ++ q) false 4 = (n, q, false) := by
  unfold numS
  rw [show sizeS 4 = 4 by decide, takeS_app (by rw [bytesS_length]; rfl)]
  have h1 := read_back (n := n) (size := 4) (by omega) (decide_eq_true (by omega))
  rw [show bytesS n 4 = bytesS n (4 : Int).toNat from rfl, h1]
theorem decT_enc {v u s l t ty c : Int} (b : List Int) (h : rightS v u s l t ty c = true) : decT (encS v u s l t ty c ++ b) = ([v, u, s, l, t, ty, c], true) := by
  obtain ⟨n0, n1, n2, n3, n4, n5, n6⟩ := right_nums h
  have he : encS v u s l t ty c ++ b = [84, 90, 105, 102] ++ ([if v > 1 then 48 + v else 0] ++ (List.replicate 15 0 ++ (bytesS u 4 ++ (bytesS s 4 ++ (bytesS l 4 ++ (bytesS t 4 ++ (bytesS ty 4 ++ (bytesS c 4 ++ b)))))))) := by
    simp [encS, preS, restS]
  have hv : verS (if v > 1 then 48 + v else 0) = v := by
    unfold verS; split <;> (repeat' split) <;> omega
  rw [he]
  unfold decT
  simp only [takeS_app (p := [84, 90, 105, 102]) (n := 4) rfl, numS_app1 (x := if v > 1 then 48 + v else 0) (by split <;> omega), takeS_app (p := List.replicate 15 0) (n := 15) rfl, fillS, numS_app4 n1, numS_app4 n2, numS_app4 n3, numS_app4 n4, numS_app4 n5, numS_app4 n6, hv]
  have hk : okS (strOfNums [84, 90, 105, 102]) (List.replicate 15 0) false v [u, s, l, t, ty, c] = true := by
    simp only [okS, h]; decide +kernel
  show (hdS (okS (strOfNums [84, 90, 105, 102]) (List.replicate 15 0) false v [u, s, l, t, ty, c]) v [u, s, l, t, ty, c], okS (strOfNums [84, 90, 105, 102]) (List.replicate 15 0) false v [u, s, l, t, ty, c]) = _
  rw [hk]
  rfl

theorem takeS_inv {l p q : List Int} {bad : Bool} {n : Int} (h : takeS l bad n = (p, q, false)) : bad = false ∧ l = p ++ q ∧ (p.length : Int) = n := by
  unfold takeS at h
  split at h
  · injection h with _ h; injection h with _ h; cases h
  · rename_i hc
    injection h with h1 h; injection h with h2 _
    subst h1 h2
    refine ⟨by cases bad <;> simp_all, by simp, ?_⟩
    rw [List.length_take]; omega
theorem numS4_inv {l q : List Int} {bad b : Bool} {n : Int} (h : numS l bad 4 = (n, q, b)) (hb : b = false) : bad = false ∧ ∃ p, p.length = 4 ∧ l = p ++ q ∧ n = numL 4 true 0 p := by
  subst hb
  unfold numS at h
  rw [show sizeS 4 = 4 by decide] at h
  obtain ⟨p, q2, b2, e⟩ : ∃ p q2 b2, takeS l bad 4 = (p, q2, b2) := ⟨_, _, _, rfl⟩
  rw [e] at h
  injection h with h1 h; injection h with h2 h3
  subst h2 h3
  obtain ⟨g1, g2, g3⟩ := takeS_inv e
  exact ⟨g1, p, by omega, g2, h1.symm⟩
theorem numS1_inv {l q : List Int} {bad b : Bool} {n : Int} (h : numS l bad 1 = (n, q, b)) (hb : b = false) : bad = false ∧ ∃ p, p.length = 1 ∧ l = p ++ q ∧ n = numL 1 true 0 p := by
  subst hb
  unfold numS at h
  rw [show sizeS 1 = 1 by decide] at h
  obtain ⟨p, q2, b2, e⟩ : ∃ p q2 b2, takeS l bad 1 = (p, q2, b2) := ⟨_, _, _, rfl⟩
  rw [e] at h
  injection h with h1 h; injection h with h2 h3
  subst h2 h3
  obtain ⟨g1, g2, g3⟩ := takeS_inv e
  exact ⟨g1, p, by omega, g2, h1.symm⟩
theorem fill_inv (l : List Int) (bad : Bool) (h : (fillS 6 [0, 0, 0, 0, 0, 0] l bad).2.2 = false) : bad = false ∧ ∃ p1 p2 p3 p4 p5 p6 r : List Int, (p1.length = 4 ∧ p2.length = 4 ∧ p3.length = 4 ∧ p4.length = 4 ∧ p5.length = 4 ∧ p6.length = 4) ∧
    l = p1 ++ (p2 ++ (p3 ++ (p4 ++ (p5 ++ (p6 ++ r))))) ∧ (fillS 6 [0, 0, 0, 0, 0, 0] l bad).1 = [numL 4 true 0 p1, numL 4 true 0 p2, numL 4 true 0 p3, numL 4 true 0 p4, numL 4 true 0 p5, numL 4 true 0 p6] := by
  obtain ⟨n1, l1, b1, e1⟩ : ∃ n1 l1 b1, numS l bad 4 = (n1, l1, b1) := ⟨_, _, _, rfl⟩
  obtain ⟨n2, l2, b2, e2⟩ : ∃ n2 l2 b2, numS l1 b1 4 = (n2, l2, b2) := ⟨_, _, _, rfl⟩
  obtain ⟨n3, l3, b3, e3⟩ : ∃ n3 l3 b3, numS l2 b2 4 = (n3, l3, b3) := ⟨_, _, _, rfl⟩
  obtain ⟨n4, l4, b4, e4⟩ : ∃ n4 l4 b4, numS l3 b3 4 = (n4, l4, b4) := ⟨_, _, _, rfl⟩
  obtain ⟨n5, l5, b5, e5⟩ : ∃ n5 l5 b5, numS l4 b4 4 = (n5, l5, b5) := ⟨_, _, _, rfl⟩
  obtain ⟨n6, l6, b6, e6⟩ : ∃ n6 l6 b6, numS l5 b5 4 = (n6, l6, b6) := ⟨_, _, _, rfl⟩
  have hf : fillS 6 [0, 0, 0, 0, 0, 0] l bad = ([n1, n2, n3, n4, n5, n6], l6, b6) := by simp [fillS, e1, e2, e3, e4, e5, e6]
  rw [hf] at h ⊢
  obtain ⟨g6, p6, q6, m6, v6⟩ := numS4_inv e6 h
  obtain ⟨g5, p5, q5, m5, v5⟩ := numS4_inv e5 g6
  obtain ⟨g4, p4, q4, m4, v4⟩ := numS4_inv e4 g5
  obtain ⟨g3, p3, q3, m3, v3⟩ := numS4_inv e3 g4
  obtain ⟨g2, p2, q2, m2, v2⟩ := numS4_inv e2 g3
  obtain ⟨g1, p1, q1, m1, v1⟩ := numS4_inv e1 g2
  refine ⟨g1, p1, p2, p3, p4, p5, p6, l6, ⟨q1, q2, q3, q4, q5, q6⟩, ?_, ?_⟩
  · rw [m1, m2, m3, m4, m5, m6]
  · rw [v1, v2, v3, v4, v5, v6]
theorem B8_left {a b : List Int} (h : B8 (a ++ b)) : B8 a := fun x hx => h x (by simp [hx])
theorem B8_right {a b : List Int} (h : B8 (a ++ b)) : B8 b := fun x hx => h x (by simp [hx])
theorem okS_bad' (s : ByteArray) (z : List Int) (v : Int) (xs : List Int) : okS s z true v xs = false := by
  unfold okS; split <;> simp
theorem back4 {p : List Int} (hb : B8 p) (hl : p.length = 4) : bytesS (numL 4 true 0 p) 4 = p := (back_read (size := 4) hb (by decide) hl).2
theorem decT_back {b ys : List Int} (hb : B8 b) (h : decT b = (ys, true)) :
    ∃ v u s l t ty c, ys = [v, u, s, l, t, ty, c] ∧ rightS v u s l t ty c = true ∧ encS v u s l t ty c = b.take 44 ∧ 44 ≤ b.length := by
  obtain ⟨nm, l1, b1, e1⟩ : ∃ nm l1 b1, takeS b false 4 = (nm, l1, b1) := ⟨_, _, _, rfl⟩
  obtain ⟨x, l2, b2, e2⟩ : ∃ x l2 b2, numS l1 b1 1 = (x, l2, b2) := ⟨_, _, _, rfl⟩
  obtain ⟨z, l3, b3, e3⟩ : ∃ z l3 b3, takeS l2 b2 15 = (z, l3, b3) := ⟨_, _, _, rfl⟩
  obtain ⟨xs, l4, b4, e4⟩ : ∃ xs l4 b4, fillS 6 [0, 0, 0, 0, 0, 0] l3 b3 = (xs, l4, b4) := ⟨_, _, _, rfl⟩
  unfold decT at h
  simp only [e1, e2, e3, e4] at h
  injection h with hy hok
  rw [hok] at hy
  have h4 : b4 = false := by
    cases b4 with
    | false => rfl
    | true => rw [okS_bad'] at hok; cases hok
  subst h4
  obtain ⟨h3, p1, p2, p3, p4, p5, p6, r, ⟨q1, q2, q3, q4, q5, q6⟩, m, vx⟩ := fill_inv l3 b3 (by rw [e4])
  rw [e4] at vx
  subst h3
  obtain ⟨h2, m3, hz⟩ := takeS_inv e3
  obtain ⟨h1, px, hpx, m2, vpx⟩ := numS1_inv e2 h2
  subst h1
  obtain ⟨_, m1, hnm⟩ := takeS_inv e1
  simp only at vx
  rw [vx] at hok hy
  simp only [okS, Bool.and_eq_true, Bool.not_eq_true', beq_iff_eq] at hok
  obtain ⟨⟨⟨_, hs⟩, hza⟩, hr⟩ := hok
  obtain ⟨x0, rfl⟩ := len1 hpx
  rw [m1, m2, m3, m] at hb
  have Bnm := B8_left hb
  have B1 := B8_right hb
  have Bx := B8_left B1
  have B2 := B8_right (B8_right B1)
  have Bp1 := B8_left B2
  have Bp2 := B8_left (B8_right B2)
  have Bp3 := B8_left (B8_right (B8_right B2))
  have Bp4 := B8_left (B8_right (B8_right (B8_right B2)))
  have Bp5 := B8_left (B8_right (B8_right (B8_right (B8_right B2))))
  have Bp6 := B8_left (B8_right (B8_right (B8_right (B8_right (B8_right B2)))))
  rw [val1 x0 Bx] at vpx
  subst vpx
  have hnm' : nm = [84, 90, 105, 102] := str_inj Bnm (fun y hy => by simp at hy; omega) (toList_inj (hs.trans (by decide +kernel)))
  have hz' : z = List.replicate 15 0 := by
    have hzl : z.length = 15 := by omega
    rw [← hzl]
    refine List.eq_replicate_of_mem (fun y hy => ?_)
    have := List.any_eq_false.1 hza y hy
    simpa using this
  have hx0 := Bx x (by simp)
  have hv : (if verS x > 1 then 48 + verS x else 0) = x := by
    obtain ⟨hv, _⟩ := right_nums hr
    revert hv
    unfold verS
    split
    · intro _; simp; omega
    · split
      · intro _; rw [if_pos (by omega)]; omega
      · intro hv; omega
  have henc : encS (verS x) (numL 4 true 0 p1) (numL 4 true 0 p2) (numL 4 true 0 p3) (numL 4 true 0 p4) (numL 4 true 0 p5) (numL 4 true 0 p6) = nm ++ ([x] ++ (z ++ (p1 ++ (p2 ++ (p3 ++ (p4 ++ (p5 ++ p6))))))) := by
    unfold encS preS
    rw [hv, hnm', hz']
    simp only [restS]
    rw [back4 Bp1 q1, back4 Bp2 q2, back4 Bp3 q3, back4 Bp4 q4, back4 Bp5 q5, back4 Bp6 q6]
    simp
  have hcat : b = encS (verS x) (numL 4 true 0 p1) (numL 4 true 0 p2) (numL 4 true 0 p3) (numL 4 true 0 p4) (numL 4 true 0 p5) (numL 4 true 0 p6) ++ r := by
    rw [henc, m1, m2, m3, m]
    simp
  refine ⟨_, _, _, _, _, _, _, hy.symm, hr, ?_, ?_⟩
  · rw [hcat, List.take_left' (encS_length _ _ _ _ _ _ _)]
  · rw [hcat, List.length_append, encS_length]; omega
end Go.Proofs.Ythgghbmckpflcaa.Oct
