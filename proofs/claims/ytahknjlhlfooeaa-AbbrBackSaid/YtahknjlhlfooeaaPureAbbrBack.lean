/- AbbrBack: each name of a pool is where it is said to begin, and a pool is made just if all names are right, and there is room: the plain law; no condition. -/
import Derived.Test.YtahknjlhlfooeaaPAbbrBackx1
import Derived.Test.YtahknjlhlfooeaaAbQ
namespace Go.Proofs.Ytahknjlhlfooeaa.Pure
open Go.RowKit Go.Proofs.Ytahknjlhlfooeaa.PAbbrBack Go.Proofs.YtahknjlhlfooeaaW.PrintWords Go.Proofs.YtahknjlhlfooeaaW.PrintLast Ab

theorem rdOf_at {l : List ByteArray} {i : Nat} (h : i < l.length) : l[i]? = some (rdOf ByteArray.empty l (i : Int)) := by
  unfold rdOf
  rw [Int.toNat_natCast, List.getElem?_eq_getElem h]
  simp [List.getD, h]
theorem rd_of {a : List Int} {i : Nat} {k : Int} (h : a[i]? = some k) : rd a (i : Int) = k := by
  unfold rd
  rw [Int.toNat_natCast]
  simp [List.getD, h]
theorem next_i {i : Nat} (h : i < 1000) : wrap64 ((i : Int) + 1) = ((i + 1 : Nat) : Int) := by
  rw [w64 (by omega)]; omega
/-- Behind a wrong name: whatever is counted. -/
def Wrong (l : List ByteArray) (i : Nat) : Prop := ∀ n, ∃ k, epactlaw14_AbbrBack.l0 k l true false n (i : Int) = some true
theorem wrong_inner {l : List ByteArray} (hl : l.length ≤ 100) {i : Nat} (hi : i < l.length) (hnext : Wrong l (i + 1)) :
    ∀ (d j : Nat) (x7 : Bool) (n : Int), j + d = i → ∃ k, epactlaw14_AbbrBack.l1 k l true false n (i : Int) x7 (j : Int) = some true
  | 0, j, x7, n, hj => by
    cases x7 with
    | true =>
      obtain ⟨k, hk⟩ := hnext n
      refine ⟨k + 1, ?_⟩
      rw [epactlaw14_AbbrBack.l1, if_neg (by omega), if_pos rfl, if_neg Bool.false_ne_true, next_i (by omega)]
      exact hk
    | false =>
      obtain ⟨k, hk⟩ := hnext (wrap64 ((wrap64 (n + ((rdOf ByteArray.empty l (i : Int)).size : Int))) + 1))
      refine ⟨k + 1, ?_⟩
      rw [epactlaw14_AbbrBack.l1, if_neg (by omega), if_neg Bool.false_ne_true, if_pos (by omega), if_pos (by omega), if_neg Bool.false_ne_true, next_i (by omega)]
      exact hk
  | d + 1, j, x7, n, hj => by
    cases x7 with
    | true =>
      obtain ⟨k, hk⟩ := wrong_inner hl hi hnext d (j + 1) true n (by omega)
      refine ⟨k + 1, ?_⟩
      rw [epactlaw14_AbbrBack.l1, if_pos (by omega), if_pos rfl, next_i (by omega)]
      exact hk
    | false =>
      obtain ⟨k, hk⟩ := wrong_inner hl hi hnext d (j + 1) ((rdOf ByteArray.empty l (j : Int)).toList == (rdOf ByteArray.empty l (i : Int)).toList) n (by omega)
      refine ⟨k + 1, ?_⟩
      rw [epactlaw14_AbbrBack.l1, if_pos (by omega), if_neg Bool.false_ne_true, if_pos (by omega), if_pos (by omega), if_pos (by omega), if_pos (by omega), next_i (by omega)]
      exact hk
theorem wrong_outer {l : List ByteArray} (hl : l.length ≤ 100) (hP : poolF l = some (⟨#[]⟩, [], false)) : ∀ d i : Nat, i + d = l.length → Wrong l i
  | 0, i, hi => fun n => ⟨2, by
    rw [epactlaw14_AbbrBack.l0, if_neg (by omega)]
    unfold abbr_Pool.f
    rw [hP]
    simp [epactlaw14_AbbrBack.j2]⟩
  | d + 1, i, hi => fun n => by
    obtain ⟨k, hk⟩ := wrong_inner hl (by omega) (wrong_outer hl hP d (i + 1) (by omega)) i 0 false n (by omega)
    refine ⟨k + 1, ?_⟩
    rw [epactlaw14_AbbrBack.l0, if_pos (by omega)]
    exact hk
/-- The last loop: each name is at its place. -/
theorem back_last {l : List ByteArray} {p : ByteArray} {a : List Int} (hl : l.length ≤ 100) (hp : p.size ≤ 17000) (ha : a.length = l.length) (hat : ∀ i : Nat, i < l.length → atN p (rd a i) = (rdOf ByteArray.empty l i, true)) :
    ∀ d i : Nat, i + d = l.length → ∃ k, epactlaw14_AbbrBack.l2 k l true (p.size : Int) p a (i : Int) = some true
  | 0, i, hi => ⟨1, by
    rw [epactlaw14_AbbrBack.l2, if_neg (by omega), if_pos rfl, if_pos rfl, ha]; simp⟩
  | d + 1, i, hi => by
    obtain ⟨k, hk⟩ := back_last hl hp ha hat d (i + 1) (by omega)
    refine ⟨k + 1, ?_⟩
    rw [epactlaw14_AbbrBack.l2, if_pos (by omega), if_pos (by omega)]
    unfold abbr_At.f
    rw [atF_some (by omega), hat i (by omega)]
    simp only [Option.bind_some, if_true]
    rw [if_pos (by omega), next_i (by omega)]
    exact hk
/-- As long as all names are right. -/
theorem right_inner {l : List ByteArray} (hl : l.length ≤ 100) (hs : ∀ s ∈ l, s.size ≤ 9223372036854775807) {i : Nat} (hi : i < l.length) {n : Int} (hn : 0 ≤ n ∧ n ≤ 17000)
    (hold : (∃ j : Nat, j < i ∧ rdOf ByteArray.empty l (j : Int) = rdOf ByteArray.empty l (i : Int)) → ∃ k, epactlaw14_AbbrBack.l0 k l true (rightN (rdOf ByteArray.empty l (i : Int))) n ((i + 1 : Nat) : Int) = some true)
    (hnew : (¬ ∃ j : Nat, j < i ∧ rdOf ByteArray.empty l (j : Int) = rdOf ByteArray.empty l (i : Int)) → ∃ k, epactlaw14_AbbrBack.l0 k l true (rightN (rdOf ByteArray.empty l (i : Int))) (wrap64 ((wrap64 (n + ((rdOf ByteArray.empty l (i : Int)).size : Int))) + 1)) ((i + 1 : Nat) : Int) = some true) :
    ∀ (d j : Nat) (x7 : Bool), j + d = i → (x7 = decide (∃ m : Nat, m < j ∧ rdOf ByteArray.empty l (m : Int) = rdOf ByteArray.empty l (i : Int))) → ∃ k, epactlaw14_AbbrBack.l1 k l true true n (i : Int) x7 (j : Int) = some true
  | 0, j, x7, hj, hx => by
    obtain rfl : j = i := by omega
    have hsz : (rdOf ByteArray.empty l (j : Int)).size ≤ 9223372036854775807 := hs _ (List.mem_of_getElem? (rdOf_at hi))
    cases x7 with
    | true =>
      obtain ⟨k, hk⟩ := hold (of_decide_eq_true hx.symm)
      refine ⟨k + 1, ?_⟩
      rw [epactlaw14_AbbrBack.l1, if_neg (by omega), if_pos rfl, if_pos rfl, if_pos (by omega), if_pos (by omega)]
      unfold abbr_Right.f
      rw [rightF_some hsz, Option.bind_some, next_i (by omega)]
      exact hk
    | false =>
      obtain ⟨k, hk⟩ := hnew (of_decide_eq_false hx.symm)
      refine ⟨k + 1, ?_⟩
      rw [epactlaw14_AbbrBack.l1, if_neg (by omega), if_neg Bool.false_ne_true, if_pos (by omega), if_pos (by omega), if_pos rfl]
      unfold abbr_Right.f
      rw [rightF_some hsz, Option.bind_some, next_i (by omega)]
      exact hk
  | d + 1, j, x7, hj, hx => by
    cases x7 with
    | true =>
      have hx' : true = decide (∃ m : Nat, m < j + 1 ∧ rdOf ByteArray.empty l (m : Int) = rdOf ByteArray.empty l (i : Int)) := by
        obtain ⟨m, h1, h2⟩ := of_decide_eq_true hx.symm
        exact (decide_eq_true ⟨m, by omega, h2⟩).symm
      obtain ⟨k, hk⟩ := right_inner hl hs hi hn hold hnew d (j + 1) true (by omega) hx'
      refine ⟨k + 1, ?_⟩
      rw [epactlaw14_AbbrBack.l1, if_pos (by omega), if_pos rfl, next_i (by omega)]
      exact hk
    | false =>
      have hno := of_decide_eq_false hx.symm
      have hx' : ((rdOf ByteArray.empty l (j : Int)).toList == (rdOf ByteArray.empty l (i : Int)).toList) = decide (∃ m : Nat, m < j + 1 ∧ rdOf ByteArray.empty l (m : Int) = rdOf ByteArray.empty l (i : Int)) := by
        rw [str_beq, decide_eq_decide]
        constructor
        · intro h; exact ⟨j, by omega, h⟩
        · rintro ⟨m, h1, h2⟩
          rcases Nat.lt_or_ge m j with h | h
          · exact absurd ⟨m, h, h2⟩ hno
          · obtain rfl : m = j := by omega
            exact h2
      obtain ⟨k, hk⟩ := right_inner hl hs hi hn hold hnew d (j + 1) _ (by omega) hx'
      refine ⟨k + 1, ?_⟩
      rw [epactlaw14_AbbrBack.l1, if_pos (by omega), if_neg Bool.false_ne_true, if_pos (by omega), if_pos (by omega), if_pos (by omega), if_pos (by omega), next_i (by omega)]
      exact hk
theorem mem_take {l : List ByteArray} {i : Nat} (hi : i < l.length) (s : ByteArray) : s ∈ l.take i ↔ ∃ j : Nat, j < i ∧ rdOf ByteArray.empty l (j : Int) = s := by
  constructor
  · intro h
    obtain ⟨j, hj, he⟩ := List.mem_iff_getElem?.1 h |>.imp fun j h => (⟨List.getElem?_eq_some_iff.1 h |>.1, h⟩ : ∃ _ : j < (l.take i).length, (l.take i)[j]? = some s)
    have hji : j < i := by rw [List.length_take] at hj; omega
    rw [List.getElem?_take, if_pos hji, rdOf_at (by omega)] at he
    injection he with he
    exact ⟨j, hji, he⟩
  · rintro ⟨j, hj, rfl⟩
    refine List.mem_of_getElem? (i := j) ?_
    rw [List.getElem?_take, if_pos hj, rdOf_at (by omega)]
theorem right_outer {l : List ByteArray} (hl : l.length ≤ 100) (hs : ∀ s ∈ l, s.size ≤ 9223372036854775807) :
    ∀ d i : Nat, i + d = l.length → (∀ s ∈ l.take i, rightN s = true) → ∃ k, epactlaw14_AbbrBack.l0 k l true true ((steps St0 (l.take i)).p.size : Int) (i : Int) = some true
  | 0, i, hi, hr => by
    obtain rfl : i = l.length := by omega
    rw [List.take_length] at hr ⊢
    have I := inv_steps l St0 [] inv0 hr
    rw [List.nil_append] at I
    have hroom := I.room
    have hP := poolF_some (l := l) (by omega) hs
    rw [poolT_right hr] at hP
    by_cases h256 : (steps St0 l).p.size > 256
    · refine ⟨2, ?_⟩
      rw [epactlaw14_AbbrBack.l0, if_neg (by omega)]
      unfold abbr_Pool.f
      rw [hP]
      have h1 : decide (((steps St0 l).p.size : Int) ≤ 256) = false := decide_eq_false (by omega)
      simp [poolE, h256, h1, epactlaw14_AbbrBack.j2]
    · obtain ⟨k, hk⟩ := back_last (l := l) (p := (steps St0 l).p) (a := (steps St0 l).ats) hl (by omega) I.len (fun i hi => by
        obtain ⟨k, h1, h2⟩ := I.at_ i _ (rdOf_at hi)
        rw [rd_of h2]
        exact place_at (I.place _ _ h1)) l.length 0 (by omega)
      refine ⟨k + 2, ?_⟩
      have hE : poolE (some ((steps St0 l).p, (steps St0 l).ats)) = ((steps St0 l).p, (steps St0 l).ats, true) := by simp only [poolE, decide_eq_false h256]
      rw [hE] at hP
      rw [epactlaw14_AbbrBack.l0, if_neg (by omega)]
      unfold abbr_Pool.f
      rw [hP]
      have h1 : decide (((steps St0 l).p.size : Int) ≤ 256) = true := decide_eq_true (by omega)
      have h2 : decide (((steps St0 l).ats.length : Int) > (l.length : Int)) = false := decide_eq_false (by rw [I.len]; omega)
      simp only [Option.bind_some, h1, h2, if_true, bne_self_eq_false, Bool.false_eq_true, if_false]
      rw [epactlaw14_AbbrBack.j2, if_neg Bool.false_ne_true, if_pos rfl]
      exact hk
  | d + 1, i, hi, hr => by
    have hlt : i < l.length := by omega
    have I := inv_steps (l.take i) St0 [] inv0 hr
    rw [List.nil_append] at I
    have hroom := I.room
    rw [List.length_take] at hroom
    have hpn : (steps St0 (l.take i)).p.size ≤ 17000 := by omega
    have htk : l.take (i + 1) = l.take i ++ [rdOf ByteArray.empty l (i : Int)] := by
      rw [List.take_add_one, rdOf_at hlt]; rfl
    have hnext : ∀ n : Int, (rightN (rdOf ByteArray.empty l (i : Int)) = true → n = (Ab.step (steps St0 (l.take i)) (rdOf ByteArray.empty l (i : Int))).p.size) → ∃ k, epactlaw14_AbbrBack.l0 k l true (rightN (rdOf ByteArray.empty l (i : Int))) n ((i + 1 : Nat) : Int) = some true := fun n hn => by
      cases hq : rightN (rdOf ByteArray.empty l (i : Int)) with
      | false =>
        have hP := poolF_some (l := l) (by omega) hs
        rw [poolT_wrong ⟨_, List.mem_of_getElem? (rdOf_at hlt), hq⟩] at hP
        exact wrong_outer hl hP d (i + 1) (by omega) n
      | true =>
        have h1 := right_outer hl hs d (i + 1) (by omega) (fun s h => by
          rw [htk, List.mem_append] at h
          rcases h with h | h
          · exact hr s h
          · rw [List.mem_singleton] at h; rw [h]; exact hq)
        rw [htk, steps_app] at h1
        rw [hn hq]
        exact h1
    obtain ⟨k, hk⟩ := right_inner hl hs hlt (n := ((steps St0 (l.take i)).p.size : Int)) (by omega)
      (fun h => hnext _ (fun _ => by
        obtain ⟨k, hk⟩ := I.mem ((mem_take hlt _).2 h)
        unfold Ab.step
        rw [hk]))
      (fun h => hnext _ (fun hq => by
        have hz := (right_size hq).2
        have hk : Ab.look (steps St0 (l.take i)).had (rdOf ByteArray.empty l (i : Int)) = none := by
          cases hk : Ab.look (steps St0 (l.take i)).had (rdOf ByteArray.empty l (i : Int)) with
          | none => rfl
          | some k => exact absurd ((mem_take hlt _).1 (I.only _ _ hk)) h
        unfold Ab.step
        rw [hk]
        simp only
        rw [ByteArray.size_append, ByteArray.size_append, show (⟨#[0]⟩ : ByteArray).size = 1 from rfl, w64 (x := ((steps St0 (l.take i)).p.size : Int) + _) (by omega), w64 (by omega)]
        omega)) i 0 false (by omega) (by
          refine (decide_eq_false ?_).symm
          rintro ⟨m, h, _⟩
          omega)
    refine ⟨k + 1, ?_⟩
    rw [epactlaw14_AbbrBack.l0, if_pos (by omega)]
    exact hk
theorem back_pure (l : List ByteArray) (hs : ∀ s ∈ l, s.size ≤ 9223372036854775807) : ∃ k, epactlaw14_AbbrBack.f k l = some true := by
  unfold epactlaw14_AbbrBack.f epactlaw14_small.f
  simp only [Option.bind_some]
  by_cases hl : (l.length : Int) > 100
  · exact ⟨0, by rw [if_pos hl]⟩
  obtain ⟨k, hk⟩ := right_outer (l := l) (by omega) hs l.length 0 (by omega) (fun s h => by simp at h)
  refine ⟨k, ?_⟩
  rw [if_neg hl]
  exact hk
theorem back_walk (A : Option Addr) (c : Nat) (l : List ByteArray) (w : World) (hr : Kd.C Kd.string w A l.length l) (hc : l.length ≤ c) (hs : ∀ s ∈ l, s.size ≤ 9223372036854775807) :
    Calls Try.prog 4 #[.slice A l.length c] w fun e w' => e = .returned (.bool true) ∧ Below w.heap.size w w' := by
  obtain ⟨k, hk⟩ := back_pure l hs
  exact epactlaw14_AbbrBack.calls k A c l true w hr hc hk
end Go.Proofs.Ytahknjlhlfooeaa.Pure
