/- AbbrAgain: names that are handed in once more lay nothing more, and the same begin at one place: the plain law; no condition. -/
import Derived.Test.YtahknjlhlfooeaaPAbbrAgainx1
import Derived.Test.YtahknjlhlfooeaaAbQ
namespace Go.Proofs.Ytahknjlhlfooeaa.Pure
open Go.RowKit Go.Proofs.Ytahknjlhlfooeaa.PAbbrAgain Go.Proofs.YtahknjlhlfooeaaW.PrintWords Go.Proofs.YtahknjlhlfooeaaW.PrintLast Ab

/-- What the loops of AbbrAgain look at. -/
structure Good (l : List ByteArray) (a e : List Int) : Prop where
  la : a.length = l.length
  le : e.length = l.length + l.length
  one : ∀ i j : Nat, i < l.length → j < l.length → (rd a i == rd a j) = decide (rdOf ByteArray.empty l i = rdOf ByteArray.empty l j)
  same : ∀ i : Nat, i < l.length → rd e i = rd a i ∧ rd e ((l.length + i : Nat) : Int) = rd a i
theorem again_inner {l : List ByteArray} {a e : List Int} {p q : ByteArray} (hl : l.length ≤ 50) (G : Good l a e) {i : Nat} (hi : i < l.length) (hnext : ∃ k, epactlaw14_AbbrAgain.l0 k l true p a q e true ((i + 1 : Nat) : Int) = some true) :
    ∀ n j : Nat, j + n = l.length → ∃ k, epactlaw14_AbbrAgain.l1 k l true p a q e true (i : Int) (j : Int) = some true
  | 0, j, hj => by
    obtain ⟨k, hk⟩ := hnext
    refine ⟨k + 1, ?_⟩
    have hla := G.la
    have hle := G.le
    obtain ⟨h1, h2⟩ := G.same i hi
    rw [epactlaw14_AbbrAgain.l1, if_neg (by omega), if_pos (by omega), if_pos (by omega), if_pos (by omega), if_pos h1, w64 (by omega), if_pos (by omega), if_pos (by omega)]
    have e1 : (l.length : Int) + (i : Int) = ((l.length + i : Nat) : Int) := by omega
    have e2 : wrap64 ((i : Int) + 1) = ((i + 1 : Nat) : Int) := by rw [w64 (by omega)]; omega
    rw [e1, if_pos h2, e2]
    exact hk
  | n + 1, j, hj => by
    obtain ⟨k, hk⟩ := again_inner hl G hi hnext n (j + 1) (by omega)
    refine ⟨k + 1, ?_⟩
    have hla := G.la
    have h1 := G.one i j hi (by omega)
    have e2 : wrap64 ((j : Int) + 1) = ((j + 1 : Nat) : Int) := by rw [w64 (by omega)]; omega
    rw [epactlaw14_AbbrAgain.l1, if_pos (by omega), if_pos (by omega), if_pos (by omega), if_pos (by omega), if_pos (by omega), if_pos (by omega), h1, str_beq, if_neg (by simp), e2]
    exact hk
theorem again_outer {l : List ByteArray} {a e : List Int} {p : ByteArray} (hl : l.length ≤ 50) (G : Good l a e) :
    ∀ n i : Nat, i + n = l.length → ∃ k, epactlaw14_AbbrAgain.l0 k l true p a p e true (i : Int) = some true
  | 0, i, hi => ⟨1, by rw [epactlaw14_AbbrAgain.l0, if_neg (by omega), if_pos rfl, if_pos rfl]; simp⟩
  | n + 1, i, hi => by
    obtain ⟨k, hk⟩ := again_inner (p := p) (q := p) hl G (by omega) (again_outer hl G n (i + 1) (by omega)) l.length 0 (by omega)
    refine ⟨k + 1, ?_⟩
    rw [epactlaw14_AbbrAgain.l0, if_pos (by omega)]
    exact hk
theorem rdOf_at {l : List ByteArray} {i : Nat} (h : i < l.length) : l[i]? = some (rdOf ByteArray.empty l (i : Int)) := by
  unfold rdOf
  rw [Int.toNat_natCast, List.getElem?_eq_getElem h]
  simp [List.getD, h]
theorem rd_of {a : List Int} {i : Nat} {k : Int} (h : a[i]? = some k) : rd a (i : Int) = k := by
  unfold rd
  rw [Int.toNat_natCast]
  simp [List.getD, h]
theorem again_good {l : List ByteArray} (h : ∀ s ∈ l, rightN s = true) : Good l (steps St0 l).ats (steps St0 (l ++ l)).ats ∧ (steps St0 (l ++ l)).p = (steps St0 l).p := by
  have I := inv_steps l St0 [] inv0 h
  have I2 := inv_steps (l ++ l) St0 [] inv0 (fun s hs => h s (by simpa using hs))
  rw [List.nil_append] at I I2
  have hh := steps_had l (steps St0 l) (fun s hs => I.mem hs)
  rw [← steps_app] at hh
  have look1 : ∀ i : Nat, i < l.length → ∃ k, Ab.look (steps St0 l).had (rdOf ByteArray.empty l i) = some k ∧ rd (steps St0 l).ats i = k := fun i hi => by
    obtain ⟨k, h1, h2⟩ := I.at_ i _ (rdOf_at hi)
    exact ⟨k, h1, rd_of h2⟩
  refine ⟨⟨I.len, by rw [I2.len, List.length_append], fun i j hi hj => ?_, fun i hi => ?_⟩, hh.1⟩
  · obtain ⟨ki, a1, a2⟩ := look1 i hi
    obtain ⟨kj, b1, b2⟩ := look1 j hj
    rw [a2, b2]
    by_cases hk : ki = kj
    · subst hk
      rw [I.same a1 b1]
      simp
    · rw [beq_eq_false_iff_ne.mpr hk, eq_comm]
      refine decide_eq_false fun hs => hk ?_
      rw [hs, b1] at a1
      injection a1 with a1
      exact a1.symm
  · obtain ⟨ki, a1, a2⟩ := look1 i hi
    have at2 : ∀ m : Nat, (l ++ l)[m]? = some (rdOf ByteArray.empty l i) → rd (steps St0 (l ++ l)).ats m = ki := fun m hm => by
      obtain ⟨k, h1, h2⟩ := I2.at_ m _ hm
      rw [hh.2, a1] at h1
      injection h1 with h1
      rw [rd_of h2, h1]
    rw [a2]
    exact ⟨at2 i (by rw [List.getElem?_append_left hi]; exact rdOf_at hi), at2 (l.length + i) (by rw [List.getElem?_append_right (by omega), Nat.add_sub_cancel_left]; exact rdOf_at hi)⟩
theorem again_pure (l : List ByteArray) (hs : ∀ s ∈ l, s.size ≤ 9223372036854775807) : ∃ k, epactlaw14_AbbrAgain.f k l = some true := by
  unfold epactlaw14_AbbrAgain.f epactlaw14_small.f abbr_Pool.f
  simp only [Option.bind_some, List.nil_append, List.length_nil, Nat.zero_add]
  by_cases hl : (l.length : Int) > 50
  · exact ⟨0, by rw [if_pos hl]⟩
  have hP1 := poolF_some (l := l) (by omega) hs
  have hP2 := poolF_some (l := l ++ l) (by rw [List.length_append]; omega) (fun s h => hs s (by simpa using h))
  have c1 : l.length < 8796093022208 := by omega
  have c2 : l.length + l.length < 8796093022208 := by omega
  simp only [if_neg hl, hP1, hP2, Option.bind_some, if_pos c1, if_pos c2]
  rcases right_or l with hr | hw
  · obtain ⟨G, hp⟩ := again_good hr
    rw [poolT_right hr, poolT_right (l := l ++ l) (fun s h => hr s (by simpa using h)), hp]
    by_cases h256 : (steps St0 l).p.size > 256
    · refine ⟨0, ?_⟩
      simp [poolE, h256]
    · have hE : ∀ a, poolE (some ((steps St0 l).p, a)) = ((steps St0 l).p, a, true) := fun a => by simp only [poolE, decide_eq_false h256]
      rw [hE, hE]
      obtain ⟨k, hk⟩ := again_outer (p := (steps St0 l).p) (by omega) G l.length 0 (by omega)
      refine ⟨k + 1, ?_⟩
      have h1 : (((steps St0 (l ++ l)).ats.length : Int) != wrap64 (2 * (l.length : Int))) = false := by
        rw [G.le, w64 (by omega), bne_eq_false_iff_eq]; omega
      simp only [if_true, h1]
      rw [if_pos (by rw [G.la]), epactlaw14_AbbrAgain.j0, if_neg (by simp)]
      exact hk
  · refine ⟨0, ?_⟩
    obtain ⟨s, hs1, hs2⟩ := hw
    rw [poolT_wrong ⟨s, hs1, hs2⟩, poolT_wrong ⟨s, by simp [hs1], hs2⟩]
    simp
theorem again_walk (A : Option Addr) (c : Nat) (l : List ByteArray) (w : World) (hr : Kd.C Kd.string w A l.length l) (hc : l.length ≤ c) (hs : ∀ s ∈ l, s.size ≤ 9223372036854775807) :
    Calls Try.prog 5 #[.slice A l.length c] w fun e w' => e = .returned (.bool true) ∧ Below w.heap.size w w' := by
  obtain ⟨k, hk⟩ := again_pure l hs
  exact epactlaw14_AbbrAgain.calls k A c l true w hr hc hk
end Go.Proofs.Ytahknjlhlfooeaa.Pure
