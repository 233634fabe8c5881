/- AbbrTells: which names are right, pools, and what stands where: the plain law; no condition. -/
import Derived.Test.YtahknjlhlfooeaaPAbbrTellsx3
import Derived.Test.YtahknjlhlfooeaaAbQ
namespace Go.Proofs.Ytahknjlhlfooeaa.Pure
open Go.RowKit Go.Proofs.Ytahknjlhlfooeaa.PAbbrTells Go.Proofs.YtahknjlhlfooeaaW.PrintWords Go.Proofs.YtahknjlhlfooeaaW.PrintLast Ab

/-- From some number of rounds on. -/
def Ev {α : Type} (f : Nat → Option α) (r : α) : Prop := ∃ k0, ∀ k, k0 ≤ k → f k = some r
theorem Ev.step {α : Type} {f g : Nat → Option α} {r : α} (h : Ev f r) (hg : ∀ k, g (k + 1) = f k) : Ev g r := by
  obtain ⟨k0, hk⟩ := h
  refine ⟨k0 + 1, fun k hk' => ?_⟩
  obtain ⟨m, rfl⟩ : ∃ m, k = m + 1 := ⟨k - 1, by omega⟩
  rw [hg]
  exact hk m (by omega)
theorem Ev.now {α : Type} {g : Nat → Option α} {r : α} (hg : ∀ k, g (k + 1) = some r) : Ev g r :=
  Ev.step (f := fun _ => some r) ⟨0, fun _ _ => rfl⟩ hg
theorem Ev.bind {α β : Type} {f : Nat → Option α} {g : Nat → α → Option β} {a : α} {r : β} (h1 : Ev f a) (h2 : Ev (fun k => g k a) r) : Ev (fun k => (f k).bind (g k)) r := by
  obtain ⟨k1, e1⟩ := h1
  obtain ⟨k2, e2⟩ := h2
  refine ⟨max k1 k2, fun k hk => ?_⟩
  show (f k).bind (g k) = some r
  rw [e1 k (by omega), Option.bind_some]
  exact e2 k (by omega)
theorem rdOf_at {l : List ByteArray} {i : Nat} (h : i < l.length) : l[i]? = some (rdOf ByteArray.empty l (i : Int)) := by
  unfold rdOf
  rw [Int.toNat_natCast, List.getElem?_eq_getElem h]
  simp [List.getD, h]
theorem rd_of {a : List Int} {i : Nat} {k : Int} (h : a[i]? = some k) : rd a (i : Int) = k := by
  unfold rd
  rw [Int.toNat_natCast]
  simp [List.getD, h]
theorem next_i {i : Nat} (h : i < 9223372036854775807) : wrap64 ((i : Int) + 1) = ((i + 1 : Nat) : Int) := by
  rw [w64 (by omega)]; omega
theorem get_bt {s : ByteArray} {j : Nat} (h : j < s.size) : s.data[j]? = some (s.get! j) ∧ bt s (j : Int) = (s.get! j).toNat := by
  have h1 : s.data.toList.drop j = s.get! j :: s.data.toList.drop (j + 1) := Ab.get_at h
  have h2 : s.data[j]? = some (s.get! j) := by
    rw [← Array.getElem?_toList]
    have := congrArg (fun l => l[0]?) h1
    simpa using this
  exact ⟨h2, bt_get h2⟩
set_option maxHeartbeats 2000000 in
theorem right_step (k : Nat) {s : ByteArray} {j : Nat} (h : j < s.size) (hs : s.size ≤ 9223372036854775807) :
    epactref14_Right.l0 (k + 1) s (j : Int) = if goodB (bt s j) = true then epactref14_Right.l0 k s ((j + 1 : Nat) : Int) else some false := by
  rw [epactref14_Right.l0, if_pos (by omega), if_pos (by omega), next_i (by omega)]
  generalize epactref14_Right.l0 k s ((j + 1 : Nat) : Int) = X
  generalize bt s (j : Int) = b
  by_cases hg : goodB b = true
  · rw [if_pos hg]
    have := of_decide_eq_true hg
    (repeat' split) <;> first | rfl | (exfalso; omega)
  · rw [if_neg hg]
    have := of_decide_eq_false (Bool.eq_false_iff.mpr hg)
    (repeat' split) <;> first | rfl | (exfalso; omega)
theorem right_ev (s : ByteArray) (hs : s.size ≤ 9223372036854775807) : Ev (fun k => epactref14_Right.f k s) (rightN s) := by
  have key : ∀ d j : Nat, j + d = s.size → Ev (fun k => epactref14_Right.l0 k s (j : Int)) (decide (3 ≤ s.size ∧ s.size ≤ 16) && (s.data.toList.drop j).all (fun b => goodB (b.toNat : Int))) := by
    intro d
    induction d with
    | zero =>
      intro j hj
      refine Ev.now fun k => ?_
      rw [List.drop_of_length_le (by rw [Array.length_toList]; have : s.data.size = s.size := rfl; omega)]
      rw [epactref14_Right.l0, if_neg (by omega)]
      by_cases h3 : (s.size : Int) ≥ 3
      · rw [if_pos h3]
        have : decide ((s.size : Int) ≤ 16) = decide (3 ≤ s.size ∧ s.size ≤ 16) := decide_eq_decide.mpr (by omega)
        rw [this]
        simp
      · rw [if_neg h3, decide_eq_false (by omega)]
        rfl
    | succ d ih =>
      intro j hj
      have hlt : j < s.size := by omega
      rw [Ab.get_at hlt, List.all_cons, ← (get_bt hlt).2]
      by_cases hg : goodB (bt s j) = true
      · have h : Ev (fun k => epactref14_Right.l0 k s (j : Int)) (decide (3 ≤ s.size ∧ s.size ≤ 16) && (s.data.toList.drop (j + 1)).all (fun b => goodB (b.toNat : Int))) :=
          Ev.step (ih (j + 1) (by omega)) (fun k => by rw [right_step k hlt hs, if_pos hg])
        rw [hg, Bool.true_and]
        exact h
      · refine Ev.now fun k => ?_
        rw [right_step k hlt hs, if_neg hg, Bool.eq_false_iff.mpr hg]
        simp
  have h0 := key s.size 0 (by omega)
  rw [List.drop_zero] at h0
  exact h0
theorem atR_ev (s : ByteArray) (hs : s.size ≤ 9223372036854775807) : Ev (fun k => (epactref14_Right.f k s).bind fun t => if t = true then some (s, true) else some ((⟨#[]⟩ : ByteArray), false)) (atR s) := by
  refine Ev.bind (right_ev s hs) ?_
  unfold atR
  cases rightN s with
  | true => exact ⟨0, fun k _ => rfl⟩
  | false => exact ⟨0, fun k _ => rfl⟩
theorem at_loop {pool : ByteArray} {a : Nat} (hs : pool.size ≤ 9223372036854775807) :
    ∀ d j : Nat, a + j + d = pool.size → (∀ m < j, pool.data[a + m]? ≠ some 0) → Ev (fun k => epactref14_At.l0 k pool (a : Int) ((a + j : Nat) : Int)) (atN pool (a : Int))
  | 0, j, hj, hn => by
    rw [at_miss (pool := pool) (a := a) (fun m hm => by
      rcases Nat.lt_or_ge m j with h | h
      · exact hn m h hm
      · have := get_lt hm; omega)]
    exact Ev.now fun k => by rw [epactref14_At.l0, if_neg (by omega)]
  | d + 1, j, hj, hn => by
    have hlt : a + j < pool.size := by omega
    obtain ⟨h1, h2⟩ := get_bt hlt
    by_cases hz : pool.get! (a + j) = 0
    · rw [hz] at h1 h2
      have h2' : bt pool ((a + j : Nat) : Int) = 0 := h2
      rw [at_hit h1 hn]
      refine Ev.step (atR_ev (pool.extract a (a + j)) (by rw [ByteArray.size_extract]; omega)) fun k => ?_
      rw [epactref14_At.l0, if_pos (by omega), if_pos (by omega), if_pos h2', if_pos (by omega), if_pos (by omega), if_pos (by omega)]
      simp only [Int.toNat_natCast]
    · have hne : bt pool ((a + j : Nat) : Int) ≠ 0 := by
        rw [h2]
        intro e
        apply hz
        have e' : (pool.get! (a + j)).toNat = 0 := by omega
        exact UInt8.toNat_inj.mp e'
      refine Ev.step (at_loop hs d (j + 1) (by omega) (fun m hm => ?_)) fun k => ?_
      · rcases Nat.lt_or_ge m j with h | h
        · exact hn m h
        · obtain rfl : m = j := by omega
          rw [h1]
          intro e
          injection e with e
          exact hz e
      · rw [epactref14_At.l0, if_pos (by omega), if_pos (by omega), if_neg hne, next_i (by omega)]
        rfl
theorem at_ev (pool : ByteArray) (x : Int) (hs : pool.size ≤ 9223372036854775807) : Ev (fun k => epactref14_At.f k pool x) (atN pool x) := by
  by_cases h0 : x < 0
  · rw [at_out (by omega)]
    refine Ev.now fun k => ?_
    unfold epactref14_At.f
    rw [if_pos h0, epactref14_At.j0, if_pos rfl]
  · by_cases h1 : x ≥ (pool.size : Int)
    · rw [at_out (by omega)]
      refine Ev.now fun k => ?_
      unfold epactref14_At.f
      rw [if_neg h0, decide_eq_true h1, epactref14_At.j0, if_pos rfl]
    · obtain ⟨a, rfl⟩ : ∃ a : Nat, x = a := ⟨x.toNat, by omega⟩
      refine Ev.step (at_loop (pool := pool) (a := a) hs (pool.size - a) 0 (by omega) (fun m hm => by omega)) fun k => ?_
      unfold epactref14_At.f
      rw [if_neg h0, decide_eq_false h1, epactref14_At.j0, if_neg Bool.false_ne_true]
      rfl
theorem ints_ev (a : List Int) (ha : a.length ≤ 9223372036854775807) : Ev (fun k => epactref14_Ints.f k a a) true := by
  have key : ∀ d j : Nat, j + d = a.length → Ev (fun k => epactref14_Ints.l0 k a a (j : Int)) true := by
    intro d
    induction d with
    | zero => intro j hj; exact Ev.now fun k => by rw [epactref14_Ints.l0, if_neg (by omega)]
    | succ d ih =>
      intro j hj
      refine Ev.step (ih (j + 1) (by omega)) fun k => ?_
      rw [epactref14_Ints.l0, if_pos (by omega), if_pos (by omega), if_pos (by omega), if_pos rfl, next_i (by omega)]
  obtain ⟨k0, hk⟩ := key a.length 0 (by omega)
  refine ⟨k0, fun k h => ?_⟩
  show epactref14_Ints.f k a a = _
  unfold epactref14_Ints.f
  rw [if_pos rfl]
  exact hk k h
theorem mem_take {l : List ByteArray} {i : Nat} (hi : i < l.length) (s : ByteArray) : s ∈ l.take i ↔ ∃ j : Nat, j < i ∧ rdOf ByteArray.empty l (j : Int) = s := by
  constructor
  · intro h
    obtain ⟨j, he⟩ := List.mem_iff_getElem?.1 h
    have hj := (List.getElem?_eq_some_iff.1 he).1
    have hji : j < i := by rw [List.length_take] at hj; omega
    rw [List.getElem?_take, if_pos hji, rdOf_at (by omega)] at he
    injection he with he
    exact ⟨j, hji, he⟩
  · rintro ⟨j, hj, rfl⟩
    refine List.mem_of_getElem? (i := j) ?_
    rw [List.getElem?_take, if_pos hj, rdOf_at (by omega)]
/-- The document's inner loop: where a name stands already. -/
theorem pool_inner {l : List ByteArray} (hl : l.length ≤ 100) {i : Nat} (hi : i < l.length) {st : St} (I : Inv st (l.take i)) (hq : rightN (rdOf ByteArray.empty l (i : Int)) = true) {R : ByteArray × List Int × Bool}
    (hold : ∀ K, Ab.look st.had (rdOf ByteArray.empty l (i : Int)) = some K → Ev (fun k => epactref14_Pool.l0 k l st.p (st.ats ++ [K]) ((i + 1 : Nat) : Int)) R)
    (hnew : Ab.look st.had (rdOf ByteArray.empty l (i : Int)) = none → Ev (fun k => epactref14_Pool.l0 k l ((st.p ++ rdOf ByteArray.empty l (i : Int)) ++ (⟨#[0]⟩ : ByteArray)) (st.ats ++ [(st.p.size : Int)]) ((i + 1 : Nat) : Int)) R) :
    ∀ (d j : Nat) (x8 : Int), j + d = i → ((x8 = -1 ∧ ∀ m : Nat, m < j → rdOf ByteArray.empty l (m : Int) ≠ rdOf ByteArray.empty l (i : Int)) ∨ Ab.look st.had (rdOf ByteArray.empty l (i : Int)) = some x8) → Ev (fun k => epactref14_Pool.l1 k l st.p st.ats (i : Int) x8 (j : Int)) R
  | 0, j, x8, hj, hx => by
    obtain rfl : j = i := by omega
    have hroom := I.room
    rw [List.length_take] at hroom
    have hlen := I.len
    rw [List.length_take] at hlen
    have hz := (right_size hq).2
    rcases hx with ⟨rfl, hno⟩ | hK
    · have hn : Ab.look st.had (rdOf ByteArray.empty l (j : Int)) = none := by
        cases hk : Ab.look st.had (rdOf ByteArray.empty l (j : Int)) with
        | none => rfl
        | some k =>
          obtain ⟨m, h1, h2⟩ := (mem_take hi _).1 (I.only _ _ hk)
          exact absurd h2 (hno m h1)
      refine Ev.step (hnew hn) fun k => ?_
      rw [epactref14_Pool.l1, if_neg (by omega), if_pos (by omega), if_pos (by omega), if_pos (by omega), if_pos (by omega), if_pos (by rw [ByteArray.size_append]; omega), if_pos (by omega), next_i (by omega)]
    · obtain ⟨pre, post, _, hp, _⟩ := I.place _ _ hK
      refine Ev.step (hold x8 hK) fun k => ?_
      rw [epactref14_Pool.l1, if_neg (by omega), if_neg (by omega), if_pos (by omega), next_i (by omega)]
  | d + 1, j, x8, hj, hx => by
    have hlen := I.len
    rw [List.length_take] at hlen
    by_cases he : rdOf ByteArray.empty l (j : Int) = rdOf ByteArray.empty l (i : Int)
    · obtain ⟨K, h1, h2⟩ := I.at_ j (rdOf ByteArray.empty l (j : Int)) (by rw [List.getElem?_take, if_pos (by omega), rdOf_at (by omega)])
      rw [he] at h1
      refine Ev.step (pool_inner hl hi I hq hold hnew d (j + 1) K (by omega) (.inr h1)) fun k => ?_
      rw [epactref14_Pool.l1, if_pos (by omega), if_pos (by omega), if_pos (by omega), if_pos (by omega), if_pos (by omega), if_pos (by rw [he]), if_pos (by omega), rd_of h2, next_i (by omega)]
    · have hx' : (x8 = -1 ∧ ∀ m : Nat, m < j + 1 → rdOf ByteArray.empty l (m : Int) ≠ rdOf ByteArray.empty l (i : Int)) ∨ Ab.look st.had (rdOf ByteArray.empty l (i : Int)) = some x8 := by
        rcases hx with ⟨h1, h2⟩ | h
        · refine .inl ⟨h1, fun m hm => ?_⟩
          rcases Nat.lt_or_ge m j with h | h
          · exact h2 m h
          · obtain rfl : m = j := by omega
            exact he
        · exact .inr h
      refine Ev.step (pool_inner hl hi I hq hold hnew d (j + 1) x8 (by omega) hx') fun k => ?_
      have hne : (rdOf ByteArray.empty l (j : Int)).toList ≠ (rdOf ByteArray.empty l (i : Int)).toList := fun e => he (by
          have := str_beq (s := rdOf ByteArray.empty l (j : Int)) (t := rdOf ByteArray.empty l (i : Int))
          rw [e, beq_self_eq_true] at this
          exact of_decide_eq_true this.symm)
      rw [epactref14_Pool.l1, if_pos (by omega), if_pos (by omega), if_pos (by omega), if_pos (by omega), if_pos (by omega), if_neg hne, next_i (by omega)]
theorem pool_outer {l : List ByteArray} (hl : l.length ≤ 100) (hs : ∀ s ∈ l, s.size ≤ 9223372036854775807) :
    ∀ d i : Nat, i + d = l.length → (∀ s ∈ l.take i, rightN s = true) → Ev (fun k => epactref14_Pool.l0 k l (steps St0 (l.take i)).p (steps St0 (l.take i)).ats (i : Int)) (poolT l)
  | 0, i, hi, hr => by
    obtain rfl : i = l.length := by omega
    rw [List.take_length] at hr ⊢
    rw [poolT_right hr]
    refine Ev.now fun k => ?_
    rw [epactref14_Pool.l0, if_neg (by omega)]
    by_cases h256 : (steps St0 l).p.size > 256
    · rw [if_pos (by omega)]
      simp only [poolE, decide_eq_true h256]
    · rw [if_neg (by omega)]
      simp only [poolE, decide_eq_false h256]
  | d + 1, i, hi, hr => by
    have hlt : i < l.length := by omega
    have I := inv_steps (l.take i) St0 [] inv0 hr
    rw [List.nil_append] at I
    have hmem : rdOf ByteArray.empty l (i : Int) ∈ l := List.mem_of_getElem? (rdOf_at hlt)
    have htk : l.take (i + 1) = l.take i ++ [rdOf ByteArray.empty l (i : Int)] := by
      rw [List.take_add_one, rdOf_at hlt]; rfl
    have hst : ∀ k, epactref14_Pool.l0 (k + 1) l (steps St0 (l.take i)).p (steps St0 (l.take i)).ats (i : Int) = (epactref14_Right.f k (rdOf ByteArray.empty l (i : Int))).bind fun t102 => (if t102 = true then (epactref14_Pool.l1 k l (steps St0 (l.take i)).p (steps St0 (l.take i)).ats (i : Int) (-1) 0) else (some ((⟨#[]⟩ : ByteArray), ([] : List Int), false))) := fun k => by
      rw [epactref14_Pool.l0, if_pos (by omega), if_pos (by omega)]
    refine Ev.step (Ev.bind (right_ev _ (hs _ hmem)) ?_) hst
    cases hq : rightN (rdOf ByteArray.empty l (i : Int)) with
    | false =>
      rw [poolT_wrong ⟨_, hmem, hq⟩]
      exact ⟨0, fun k _ => rfl⟩
    | true =>
      have hnext := pool_outer hl hs d (i + 1) (by omega) (fun s h => by
        rw [htk, List.mem_append] at h
        rcases h with h | h
        · exact hr s h
        · rw [List.mem_singleton] at h; rw [h]; exact hq)
      rw [htk, steps_app] at hnext
      refine pool_inner hl hlt I hq (fun K hK => ?_) (fun hn => ?_) i 0 (-1) (by omega) (.inl ⟨rfl, fun m hm => by omega⟩)
      · have e : steps (steps St0 (l.take i)) [rdOf ByteArray.empty l (i : Int)] = Ab.step (steps St0 (l.take i)) (rdOf ByteArray.empty l (i : Int)) := rfl
        rw [e] at hnext
        unfold Ab.step at hnext
        rw [hK] at hnext
        exact hnext
      · have e : steps (steps St0 (l.take i)) [rdOf ByteArray.empty l (i : Int)] = Ab.step (steps St0 (l.take i)) (rdOf ByteArray.empty l (i : Int)) := rfl
        rw [e] at hnext
        unfold Ab.step at hnext
        rw [hn] at hnext
        rw [ByteArray.append_assoc]
        exact hnext
theorem pool_ev (l : List ByteArray) (hl : l.length ≤ 100) (hs : ∀ s ∈ l, s.size ≤ 9223372036854775807) : Ev (fun k => epactref14_Pool.f k l) (poolT l) :=
  pool_outer hl hs l.length 0 (by omega) (fun s h => by simp at h)
theorem poolT_len (l : List ByteArray) (hl : l.length ≤ 100) : (poolT l).2.1.length ≤ 9223372036854775807 := by
  rcases right_or l with hr | hw
  · have I := inv_steps l St0 [] inv0 hr
    rw [List.nil_append] at I
    rw [poolT_right hr]
    unfold poolE
    simp only
    split
    · simp
    · simp only; rw [I.len]; omega
  · rw [poolT_wrong hw]; simp
theorem tells_end (l : List ByteArray) (s : ByteArray) (x : Int) (hl : l.length ≤ 100) (hs : ∀ s ∈ l, s.size ≤ 9223372036854775807) (hz : s.size ≤ 500) :
    Ev (fun k => epactlaw14_AbbrTells.l0 k l s x true (l.length : Int)) true := by
  obtain ⟨k1, e1⟩ := pool_ev l hl hs
  obtain ⟨k2, e2⟩ := at_ev s x (by omega)
  obtain ⟨k3, e3⟩ := ints_ev (poolT l).2.1 (poolT_len l hl)
  obtain ⟨k4, e4⟩ := right_ev s (by omega)
  refine ⟨k1 + k2 + k3 + k4 + 1, fun k hk => ?_⟩
  obtain ⟨m, rfl⟩ : ∃ m, k = m + 1 := ⟨k - 1, by omega⟩
  have f1 : epactref14_Pool.f m l = some (poolT l) := e1 m (by omega)
  have f2 : epactref14_At.f m s x = some (atN s x) := e2 m (by omega)
  have f3 : epactref14_Ints.f m (poolT l).2.1 (poolT l).2.1 = some true := e3 m (by omega)
  have f4 : epactref14_Right.f m s = some (rightN s) := e4 m (by omega)
  show epactlaw14_AbbrTells.l0 (m + 1) l s x true (l.length : Int) = some true
  rw [epactlaw14_AbbrTells.l0, if_neg (by omega)]
  unfold abbr_Pool.f abbr_At.f abbr_Right.f
  rw [poolF_some (by omega) hs, f1, atF_some (by omega), f2, rightF_some (by omega), f4]
  simp only [Option.bind_some, f3, if_true, beq_self_eq_true]
theorem tells_loop (l : List ByteArray) (s : ByteArray) (x : Int) (hl : l.length ≤ 100) (hs : ∀ s ∈ l, s.size ≤ 9223372036854775807) (hz : s.size ≤ 500) :
    ∀ d i : Nat, i + d = l.length → Ev (fun k => epactlaw14_AbbrTells.l0 k l s x true (i : Int)) true
  | 0, i, hi => by
    obtain rfl : i = l.length := by omega
    exact tells_end l s x hl hs hz
  | d + 1, i, hi => by
    by_cases h100 : ((rdOf ByteArray.empty l (i : Int)).size : Int) > 100
    · exact Ev.now fun k => by rw [epactlaw14_AbbrTells.l0, if_pos (by omega), if_pos (by omega), if_pos h100]
    · refine Ev.step (tells_loop l s x hl hs hz d (i + 1) (by omega)) fun k => ?_
      rw [epactlaw14_AbbrTells.l0, if_pos (by omega), if_pos (by omega), if_neg h100, next_i (by omega)]
theorem tells_pure (l : List ByteArray) (s : ByteArray) (x : Int) (hs : ∀ s ∈ l, s.size ≤ 9223372036854775807) : ∃ k, epactlaw14_AbbrTells.f k l s x = some true := by
  unfold epactlaw14_AbbrTells.f epactlaw14_small.f
  simp only [Option.bind_some]
  by_cases hl : (l.length : Int) > 100
  · exact ⟨1, by rw [if_pos hl, epactlaw14_AbbrTells.j0, if_pos rfl]⟩
  by_cases hz : (s.size : Int) > 500
  · exact ⟨1, by rw [if_neg hl, decide_eq_true hz, epactlaw14_AbbrTells.j0, if_pos rfl]⟩
  obtain ⟨k0, hk⟩ := tells_loop l s x (by omega) hs (by omega) l.length 0 (by omega)
  refine ⟨k0 + 1, ?_⟩
  rw [if_neg hl, decide_eq_false hz, epactlaw14_AbbrTells.j0, if_neg Bool.false_ne_true]
  exact hk k0 (Nat.le_refl _)
theorem tells_walk (A : Option Addr) (c : Nat) (l : List ByteArray) (s : ByteArray) (x : Int) (w : World) (hr : Kd.C Kd.string w A l.length l) (hc : l.length ≤ c) (hs : ∀ s ∈ l, s.size ≤ 9223372036854775807) :
    Calls Try.prog 3 #[.slice A l.length c, .string s, .int .i64 x] w fun e w' => e = .returned (.bool true) ∧ Below w.heap.size w w' := by
  obtain ⟨k, hk⟩ := tells_pure l s x hs
  exact epactlaw14_AbbrTells.calls k A c l s x true w hr hc hk
end Go.Proofs.Ytahknjlhlfooeaa.Pure
