/- abbr: plain laws on pools; no condition. -/
import Derived.Test.YtahknjlhlfooeaaAbP
namespace Go.Proofs.Ytahknjlhlfooeaa.Ab
open Go.RowKit Go.Proofs.YtahknjlhlfooeaaW.PrintWords Go.Proofs.YtahknjlhlfooeaaW.PrintLast Go.Proofs.YtahknjlhlfooeaaW.PrintMore

theorem bytes_eq {s t : ByteArray} (h : s.data.toList = t.data.toList) : s = t := by
  cases s; cases t
  congr
  exact Array.toList_inj.mp h
/-- The state of a pool: its bytes, which names it has and where, where each name begins. -/
structure St where
  p : ByteArray
  had : List (ByteArray × Int)
  ats : List Int
def St0 : St := ⟨⟨#[]⟩, [], []⟩
def step (st : St) (s : ByteArray) : St := match look st.had s with
  | some k => ⟨st.p, st.had, st.ats ++ [k]⟩
  | none => ⟨st.p ++ (s ++ ⟨#[0]⟩), (s, st.p.size) :: st.had, st.ats ++ [(st.p.size : Int)]⟩
def steps (st : St) (l : List ByteArray) : St := l.foldl step st
theorem poolS_right : ∀ (l : List ByteArray) (st : St), (∀ s ∈ l, rightN s = true) → poolS l st.p st.had st.ats = some ((steps st l).p, (steps st l).ats)
  | [], st, _ => rfl
  | s :: r, st, h => by
    have hs := h s (by simp)
    have hr := poolS_right r (step st s) (fun t ht => h t (by simp [ht]))
    unfold poolS
    rw [hs]
    show _ = some ((steps (step st s) r).p, (steps (step st s) r).ats)
    rw [← hr]
    unfold step
    cases look st.had s <;> rfl
theorem poolS_wrong : ∀ (l : List ByteArray) (p : ByteArray) (had : List (ByteArray × Int)) (ats : List Int), (∃ s ∈ l, rightN s = false) → poolS l p had ats = none
  | [], _, _, _, ⟨_, h, _⟩ => by cases h
  | s :: r, p, had, ats, h => by
    unfold poolS
    cases hs : rightN s with
    | false => rfl
    | true =>
      have hr : ∃ t ∈ r, rightN t = false := by
        obtain ⟨t, ht, hf⟩ := h
        rcases List.mem_cons.1 ht with rfl | ht
        · rw [hs] at hf; cases hf
        · exact ⟨t, ht, hf⟩
      cases hl : look had s with
      | some k => exact poolS_wrong r _ _ _ hr
      | none => exact poolS_wrong r _ _ _ hr
/-- A name stands at a place of a pool. -/
def Place (p s : ByteArray) (k : Int) : Prop := ∃ pre post : List UInt8, p.data.toList = pre ++ (s.data.toList ++ 0 :: post) ∧ (pre.length : Int) = k ∧ rightN s = true
theorem place_more {p s q : ByteArray} {k : Int} (h : Place p s k) : Place (p ++ q) s k := by
  obtain ⟨pre, post, h1, h2, h3⟩ := h
  refine ⟨pre, post ++ q.data.toList, ?_, h2, h3⟩
  rw [ByteArray.data_append, Array.toList_append, h1]
  simp
theorem place_new {p s : ByteArray} (h : rightN s = true) : Place (p ++ (s ++ ⟨#[0]⟩)) s p.size := by
  refine ⟨p.data.toList, [], ?_, by rw [Array.length_toList]; rfl, h⟩
  rw [ByteArray.data_append, Array.toList_append, ByteArray.data_append, Array.toList_append]
theorem right_no0 {s : ByteArray} (h : rightN s = true) : ∀ j : Nat, s.data[j]? ≠ some 0 := fun j hj => by
  unfold rightN at h
  rw [Bool.and_eq_true, List.all_eq_true] at h
  have hm : (0 : UInt8) ∈ s.data.toList := by
    rw [Array.mem_toList_iff]
    exact Array.mem_of_getElem? hj
  have := h.2 0 hm
  revert this
  decide
theorem place_at {p s : ByteArray} {k : Int} (h : Place p s k) : atN p k = (s, true) := by
  obtain ⟨pre, post, h1, rfl, h3⟩ := h
  have hg : ∀ j, p.data[j]? = (pre ++ (s.data.toList ++ 0 :: post))[j]? := fun j => by rw [← h1, Array.getElem?_toList]
  have hsz : s.data.toList.length = s.size := by rw [Array.length_toList]; rfl
  have h0 : p.data[pre.length + s.size]? = some 0 := by
    rw [hg, List.getElem?_append_right (by omega), List.getElem?_append_right (by omega)]
    have : pre.length + s.size - pre.length - s.data.toList.length = 0 := by omega
    rw [this]
    rfl
  have hn : ∀ j < s.size, p.data[pre.length + j]? ≠ some 0 := fun j hj => by
    rw [hg, List.getElem?_append_right (by omega), List.getElem?_append_left (by omega)]
    have : pre.length + j - pre.length = j := by omega
    rw [this, Array.getElem?_toList]
    exact right_no0 h3 j
  rw [at_hit h0 hn]
  have he : p.extract pre.length (pre.length + s.size) = s := bytes_eq (by
    rw [ByteArray.data_extract, Array.toList_extract, h1]
    simp only [List.extract]
    rw [List.drop_left' rfl, List.take_left' (by omega)])
  rw [he]
  unfold atR
  rw [h3]
theorem look_cons_same (s : ByteArray) (k : Int) (had : List (ByteArray × Int)) : look ((s, k) :: had) s = some k := if_pos rfl
theorem look_cons_ne {s t : ByteArray} (k : Int) (had : List (ByteArray × Int)) (h : s ≠ t) : look ((s, k) :: had) t = look had t := if_neg h
/-- What holds of a state behind names that are all right. -/
structure Inv (st : St) (done : List ByteArray) : Prop where
  len : st.ats.length = done.length
  at_ : ∀ (i : Nat) (s : ByteArray), done[i]? = some s → ∃ k, look st.had s = some k ∧ st.ats[i]? = some k
  place : ∀ s k, look st.had s = some k → Place st.p s k
  only : ∀ s k, look st.had s = some k → s ∈ done
  room : st.p.size ≤ 17 * done.length
theorem inv0 : Inv St0 [] := ⟨rfl, fun i s h => by simp at h, (fun s k h => by cases h), (fun s k h => by cases h), by decide⟩
theorem Inv.mem {st : St} {done : List ByteArray} (h : Inv st done) {s : ByteArray} (hs : s ∈ done) : ∃ k, look st.had s = some k := by
  obtain ⟨i, hi, rfl⟩ := List.mem_iff_getElem.1 hs
  obtain ⟨k, h1, _⟩ := h.at_ i _ (List.getElem?_eq_getElem hi)
  exact ⟨k, h1⟩
theorem inv_step {st : St} {done : List ByteArray} (h : Inv st done) {s : ByteArray} (hs : rightN s = true) : Inv (step st s) (done ++ [s]) := by
  unfold step
  cases hl : look st.had s with
  | some k =>
    refine ⟨by simp [h.len], fun i t ht => ?_, h.place, fun t k' ht => by simp [h.only t k' ht], by rw [List.length_append]; have := h.room; simp only; omega⟩
    by_cases hi : i < done.length
    · rw [List.getElem?_append_left hi] at ht
      obtain ⟨k', h1, h2⟩ := h.at_ i t ht
      exact ⟨k', h1, by simp only; rw [List.getElem?_append_left (by rw [h.len]; exact hi)]; exact h2⟩
    · rw [List.getElem?_append_right (by omega)] at ht
      have hz : i - done.length = 0 := by
        rcases Nat.eq_zero_or_pos (i - done.length) with h0 | h0
        · exact h0
        · rw [List.getElem?_eq_none (by simp; omega)] at ht; cases ht
      rw [hz] at ht
      injection ht with ht
      subst ht
      refine ⟨k, hl, ?_⟩
      simp only
      rw [List.getElem?_append_right (by rw [h.len]; omega), h.len, hz]
      rfl
  | none =>
    have hnew : ∀ t, t ∈ done → s ≠ t := fun t ht e => by
      subst e
      obtain ⟨k, hk⟩ := h.mem ht
      rw [hl] at hk; cases hk
    refine ⟨by simp [h.len], fun i t ht => ?_, fun t k ht => ?_, fun t k ht => ?_, ?_⟩
    · by_cases hi : i < done.length
      · rw [List.getElem?_append_left hi] at ht
        obtain ⟨k', h1, h2⟩ := h.at_ i t ht
        refine ⟨k', ?_, by simp only; rw [List.getElem?_append_left (by rw [h.len]; exact hi)]; exact h2⟩
        simp only
        rw [look_cons_ne _ _ (hnew t (List.mem_of_getElem? ht))]
        exact h1
      · rw [List.getElem?_append_right (by omega)] at ht
        have hz : i - done.length = 0 := by
          rcases Nat.eq_zero_or_pos (i - done.length) with h0 | h0
          · exact h0
          · rw [List.getElem?_eq_none (by simp; omega)] at ht; cases ht
        rw [hz] at ht
        injection ht with ht
        subst ht
        refine ⟨_, look_cons_same _ _ _, ?_⟩
        simp only
        rw [List.getElem?_append_right (by rw [h.len]; omega), h.len, hz]
        rfl
    · simp only at ht ⊢
      by_cases hst : s = t
      · subst hst
        rw [look_cons_same] at ht
        injection ht with ht
        subst ht
        exact place_new hs
      · rw [look_cons_ne _ _ hst] at ht
        exact place_more (h.place t k ht)
    · simp only at ht
      by_cases hst : s = t
      · simp [hst]
      · rw [look_cons_ne _ _ hst] at ht
        simp [h.only t k ht]
    · simp only
      rw [ByteArray.size_append, ByteArray.size_append, List.length_append]
      have h1 := h.room
      have h2 := (right_size hs).2
      have h3 : (⟨#[0]⟩ : ByteArray).size = 1 := rfl
      simp only [List.length_singleton]
      omega
theorem inv_steps : ∀ (l : List ByteArray) (st : St) (done : List ByteArray), Inv st done → (∀ s ∈ l, rightN s = true) → Inv (steps st l) (done ++ l)
  | [], st, done, h, _ => by simpa [steps] using h
  | s :: r, st, done, h, hr => by
    have h1 := inv_steps r (step st s) (done ++ [s]) (inv_step h (hr s (by simp))) (fun t ht => hr t (by simp [ht]))
    rw [List.append_assoc] at h1
    exact h1
/-- Names that are had lay nothing. -/
theorem steps_had : ∀ (l : List ByteArray) (st : St), (∀ s ∈ l, ∃ k, look st.had s = some k) → (steps st l).p = st.p ∧ (steps st l).had = st.had
  | [], st, _ => ⟨rfl, rfl⟩
  | s :: r, st, h => by
    obtain ⟨k, hk⟩ := h s (by simp)
    have hst : step st s = ⟨st.p, st.had, st.ats ++ [k]⟩ := by unfold step; rw [hk]
    have h1 := steps_had r (step st s) (fun t ht => by rw [hst]; exact h t (by simp [ht]))
    rw [hst] at h1
    show (steps (step st s) r).p = _ ∧ (steps (step st s) r).had = _
    rw [hst]
    exact h1
theorem steps_app (st : St) (l r : List ByteArray) : steps st (l ++ r) = steps (steps st l) r := List.foldl_append
/-- Like places, like names. -/
theorem Inv.same {st : St} {done : List ByteArray} (h : Inv st done) {s t : ByteArray} {k : Int} (h1 : look st.had s = some k) (h2 : look st.had t = some k) : s = t := by
  have e1 := place_at (h.place s k h1)
  have e2 := place_at (h.place t k h2)
  rw [e1] at e2
  injection e2
theorem poolF_some {l : List ByteArray} (h : l.length ≤ 1000) (hs : ∀ s ∈ l, s.size ≤ 9223372036854775807) : poolF l = some (poolT l) := by
  unfold poolF
  rw [decide_eq_true h, List.all_eq_true.2 (fun s hh => decide_eq_true (hs s hh))]
  rfl
theorem poolT_wrong {l : List ByteArray} (h : ∃ s ∈ l, rightN s = false) : poolT l = (⟨#[]⟩, [], false) := by
  unfold poolT; rw [poolS_wrong l _ _ _ h]; rfl
theorem poolT_right {l : List ByteArray} (h : ∀ s ∈ l, rightN s = true) : poolT l = poolE (some ((steps St0 l).p, (steps St0 l).ats)) := by
  unfold poolT; exact congrArg poolE (poolS_right l St0 h)
theorem right_or (l : List ByteArray) : (∀ s ∈ l, rightN s = true) ∨ ∃ s ∈ l, rightN s = false := by
  by_cases h : ∃ s ∈ l, rightN s = false
  · exact .inr h
  · refine .inl fun s hs => ?_
    cases hr : rightN s with
    | true => rfl
    | false => exact absurd ⟨s, hs, hr⟩ h
theorem str_beq {s t : ByteArray} : (s.toList == t.toList) = decide (s = t) := by
  by_cases h : s = t
  · subst h; simp
  · rw [decide_eq_false h]
    refine beq_eq_false_iff_ne.mpr fun e => h ?_
    rw [ByteArray.toList_eq, ByteArray.toList_eq] at e
    exact bytes_eq e
end Go.Proofs.Ytahknjlhlfooeaa.Ab
