/- Texts of chapter 16 laid together, without what none of them names (wip/block/prune.py; those whose names begin with W are the kit's printed words, cut): AbT, BkP, PRCnt, BkCr, OctJ, BkRe, BkRs, Pmarksx0, Pmarksx1, BkRn. -/
import Derived.Test.YtpgjcnjojfehjaaQ4
import Derived.Test.YtpgjcnjojfehjaaQ2
import Derived.Test.YtpgjcnjojfehjaaQ1
import Derived.Test.YtpgjcnjojfehjaaQ3
import Derived.Outline
import Derived.Test.YtpgjcnjojfehjaaProg
import Derived.Below
import Derived.Deep.Draws
import Derived.Deep.AppendLies
import Derived.Maps.AppendAt
import Derived.OwnWalk
import Derived.Laws.BytesArg
import Derived.Laws.MakeOwn
import Derived.Laws.OwnMore
import Derived.Deep.OwnRows
import Derived.Tactics
import Derived.Lib.ConvBytes
import Derived.Laws.Slices
import Derived.WalkKit
import Derived.KernelRfl
import Derived.RowKit3
import Derived.Deep.LoopGhost
import Derived.Deep.QuietTactic
import Derived.BigQuiet
import Derived.WideLaws
import Derived.Deep.DeepCutAuto
import Derived.Deep.CutBlock
import Derived.Deep.RegionHeld3
import Derived.Laws.Rows
import Derived.Lib.AppendStr
import Derived.ArgAppend
import Derived.Laws.IdiomCopy
import Derived.OrdersHeld
import Derived.Laws.BitsLemmas
import Derived.RowKit
namespace Go.Proofs.Ytpgjcnjojfehjaa.AbT
open Go.RowKit Go.Proofs.YtpgjcnjojfehjaaW.PrintWords Go.Proofs.YtpgjcnjojfehjaaW.PrintLast Go.Proofs.YtpgjcnjojfehjaaW.PrintMore Ab
namespace A
open PAt
set_option maxHeartbeats 2000000 in
theorem right_step (k : Nat) {s : ByteArray} {j : Nat} (h : j < s.size) (hs : s.size ≤ 9223372036854775807) :
  epactref14_Right.l0 (k + 1) s (j : Int) = if goodB (bt s j) = true then epactref14_Right.l0 k s ((j + 1 : Nat) : Int) else some false := by
 rw [epactref14_Right.l0, if_pos (by omega), if_pos (by omega), next_i (by omega)]
 generalize epactref14_Right.l0 k s ((j + 1 : Nat) : Int) = X
 generalize bt s (j : Int) = b
 by_cases hg : goodB b = true
 ·rw [if_pos hg]
  have := of_decide_eq_true hg
  (repeat' split) <;> first | rfl | (exfalso; omega)
 ·rw [if_neg hg]
  have := of_decide_eq_false (Bool.eq_false_iff.mpr hg)
  (repeat' split) <;> first | rfl | (exfalso; omega)
theorem right_ev (s : ByteArray) (hs : s.size ≤ 9223372036854775807) : Evr (fun k => epactref14_Right.f k s) (rightN s) := by
 have key : ∀ d j : Nat, j + d = s.size → Evr (fun k => epactref14_Right.l0 k s (j : Int)) (decide (3 ≤ s.size ∧ s.size ≤ 16) && (s.data.toList.drop j).all (fun b => goodB (b.toNat : Int))) := by
  intro d
  induction d with
  | zero =>
   intro j hj
   refine Evr.now fun k => ?_
   rw [List.drop_of_length_le (by rw [Array.length_toList]; have : s.data.size = s.size := rfl; omega)]
   rw [epactref14_Right.l0, if_neg (by omega)]
   by_cases h3 : (s.size : Int) ≥ 3
   ·rw [if_pos h3]
    have : decide ((s.size : Int) ≤ 16) = decide (3 ≤ s.size ∧ s.size ≤ 16) := decide_eq_decide.mpr (by omega)
    rw [this]
    simp
   ·rw [if_neg h3, decide_eq_false (by omega)]
    rfl
  | succ d ih =>
   intro j hj
   have hlt : j < s.size := by omega
   rw [Ab.get_at hlt, List.all_cons, ← (get_bt hlt).2]
   by_cases hg : goodB (bt s j) = true
   ·have h : Evr (fun k => epactref14_Right.l0 k s (j : Int)) (decide (3 ≤ s.size ∧ s.size ≤ 16) && (s.data.toList.drop (j + 1)).all (fun b => goodB (b.toNat : Int))) :=
     Evr.step (ih (j + 1) (by omega)) (fun k => by rw [right_step k hlt hs, if_pos hg])
    rw [hg, Bool.true_and]
    exact h
   ·refine Evr.now fun k => ?_
    rw [right_step k hlt hs, if_neg hg, Bool.eq_false_iff.mpr hg]
    simp
 have h0 := key s.size 0 (by omega)
 rw [List.drop_zero] at h0
 exact h0
theorem atR_ev (s : ByteArray) (hs : s.size ≤ 9223372036854775807) : Evr (fun k => (epactref14_Right.f k s).bind fun t => if t = true then some (s, true) else some ((⟨#[]⟩ : ByteArray), false)) (atR s) := by
 refine Evr.bind (right_ev s hs) ?_
 unfold atR
 cases rightN s with
 | true => exact ⟨0, fun k _ => rfl⟩
 | false => exact ⟨0, fun k _ => rfl⟩
theorem at_loop {pool : ByteArray} {a : Nat} (hs : pool.size ≤ 9223372036854775807) :
  ∀ d j : Nat, a + j + d = pool.size → (∀ m < j, pool.data[a + m]? ≠ some 0) → Evr (fun k => epactref14_At.l0 k pool (a : Int) ((a + j : Nat) : Int)) (atN pool (a : Int))
 | 0, j, hj, hn => by
  rw [at_miss (pool := pool) (a := a) (fun m hm => by
   rcases Nat.lt_or_ge m j with h | h
   ·exact hn m h hm
   ·have := get_lt hm; omega)]
  exact Evr.now fun k => by rw [epactref14_At.l0, if_neg (by omega)]
 | d + 1, j, hj, hn => by
  have hlt : a + j < pool.size := by omega
  obtain ⟨h1, h2⟩ := get_bt hlt
  by_cases hz : pool.get! (a + j) = 0
  ·rw [hz] at h1 h2
   have h2' : bt pool ((a + j : Nat) : Int) = 0 := h2
   rw [at_hit h1 hn]
   refine Evr.step (atR_ev (pool.extract a (a + j)) (by rw [ByteArray.size_extract]; omega)) fun k => ?_
   rw [epactref14_At.l0, if_pos (by omega), if_pos (by omega), if_pos h2', if_pos (by omega), if_pos (by omega), if_pos (by omega)]
   simp only [Int.toNat_natCast]
  ·have hne : bt pool ((a + j : Nat) : Int) ≠ 0 := by
    rw [h2]
    intro e
    apply hz
    have e' : (pool.get! (a + j)).toNat = 0 := by omega
    exact UInt8.toNat_inj.mp e'
   refine Evr.step (at_loop hs d (j + 1) (by omega) (fun m hm => ?_)) fun k => ?_
   ·rcases Nat.lt_or_ge m j with h | h
    ·exact hn m h
    ·obtain rfl : m = j := by omega
     rw [h1]
     intro e
     injection e with e
     exact hz e
   ·rw [epactref14_At.l0, if_pos (by omega), if_pos (by omega), if_neg hne, next_i (by omega)]
    rfl
theorem at_ev (pool : ByteArray) (x : Int) (hs : pool.size ≤ 9223372036854775807) : Evr (fun k => epactref14_At.f k pool x) (atN pool x) := by
 by_cases h0 : x < 0
 ·rw [at_out (by omega)]
  refine Evr.now fun k => ?_
  unfold epactref14_At.f
  rw [if_pos h0, epactref14_At.j0, if_pos rfl]
 ·by_cases h1 : x ≥ (pool.size : Int)
  ·rw [at_out (by omega)]
   refine Evr.now fun k => ?_
   unfold epactref14_At.f
   rw [if_neg h0, decide_eq_true h1, epactref14_At.j0, if_pos rfl]
  ·obtain ⟨a, rfl⟩ : ∃ a : Nat, x = a := ⟨x.toNat, by omega⟩
   refine Evr.step (at_loop (pool := pool) (a := a) hs (pool.size - a) 0 (by omega) (fun m hm => by omega)) fun k => ?_
   unfold epactref14_At.f
   rw [if_neg h0, decide_eq_false h1, epactref14_At.j0, if_neg Bool.false_ne_true]
   rfl
end A
namespace B
open PPool
set_option maxHeartbeats 2000000 in
theorem right_step (k : Nat) {s : ByteArray} {j : Nat} (h : j < s.size) (hs : s.size ≤ 9223372036854775807) :
  epactref14_Right.l0 (k + 1) s (j : Int) = if goodB (bt s j) = true then epactref14_Right.l0 k s ((j + 1 : Nat) : Int) else some false := by
 rw [epactref14_Right.l0, if_pos (by omega), if_pos (by omega), next_i (by omega)]
 generalize epactref14_Right.l0 k s ((j + 1 : Nat) : Int) = X
 generalize bt s (j : Int) = b
 by_cases hg : goodB b = true
 ·rw [if_pos hg]
  have := of_decide_eq_true hg
  (repeat' split) <;> first | rfl | (exfalso; omega)
 ·rw [if_neg hg]
  have := of_decide_eq_false (Bool.eq_false_iff.mpr hg)
  (repeat' split) <;> first | rfl | (exfalso; omega)
theorem right_ev (s : ByteArray) (hs : s.size ≤ 9223372036854775807) : Evr (fun k => epactref14_Right.f k s) (rightN s) := by
 have key : ∀ d j : Nat, j + d = s.size → Evr (fun k => epactref14_Right.l0 k s (j : Int)) (decide (3 ≤ s.size ∧ s.size ≤ 16) && (s.data.toList.drop j).all (fun b => goodB (b.toNat : Int))) := by
  intro d
  induction d with
  | zero =>
   intro j hj
   refine Evr.now fun k => ?_
   rw [List.drop_of_length_le (by rw [Array.length_toList]; have : s.data.size = s.size := rfl; omega)]
   rw [epactref14_Right.l0, if_neg (by omega)]
   by_cases h3 : (s.size : Int) ≥ 3
   ·rw [if_pos h3]
    have : decide ((s.size : Int) ≤ 16) = decide (3 ≤ s.size ∧ s.size ≤ 16) := decide_eq_decide.mpr (by omega)
    rw [this]
    simp
   ·rw [if_neg h3, decide_eq_false (by omega)]
    rfl
  | succ d ih =>
   intro j hj
   have hlt : j < s.size := by omega
   rw [Ab.get_at hlt, List.all_cons, ← (get_bt hlt).2]
   by_cases hg : goodB (bt s j) = true
   ·have h : Evr (fun k => epactref14_Right.l0 k s (j : Int)) (decide (3 ≤ s.size ∧ s.size ≤ 16) && (s.data.toList.drop (j + 1)).all (fun b => goodB (b.toNat : Int))) :=
     Evr.step (ih (j + 1) (by omega)) (fun k => by rw [right_step k hlt hs, if_pos hg])
    rw [hg, Bool.true_and]
    exact h
   ·refine Evr.now fun k => ?_
    rw [right_step k hlt hs, if_neg hg, Bool.eq_false_iff.mpr hg]
    simp
 have h0 := key s.size 0 (by omega)
 rw [List.drop_zero] at h0
 exact h0
theorem mem_take {l : List ByteArray} {i : Nat} (hi : i < l.length) (s : ByteArray) : s ∈ l.take i ↔ ∃ j : Nat, j < i ∧ rdOf ByteArray.empty l (j : Int) = s := by
 constructor
 ·intro h
  obtain ⟨j, he⟩ := List.mem_iff_getElem?.1 h
  have hj := (List.getElem?_eq_some_iff.1 he).1
  have hji : j < i := by rw [List.length_take] at hj; omega
  rw [List.getElem?_take, if_pos hji, rdOf_at (by omega)] at he
  injection he with he
  exact ⟨j, hji, he⟩
 ·rintro ⟨j, hj, rfl⟩
  refine List.mem_of_getElem? (i := j) ?_
  rw [List.getElem?_take, if_pos hj, rdOf_at (by omega)]
theorem pool_inner {l : List ByteArray} (hl : l.length ≤ 100) {i : Nat} (hi : i < l.length) {st : St} (I : Inv st (l.take i)) (hq : rightN (rdOf ByteArray.empty l (i : Int)) = true) {R : ByteArray × List Int × Bool}
  (hold : ∀ K, Ab.look st.had (rdOf ByteArray.empty l (i : Int)) = some K → Evr (fun k => epactref14_Pool.l0 k l st.p (st.ats ++ [K]) ((i + 1 : Nat) : Int)) R)
  (hnew : Ab.look st.had (rdOf ByteArray.empty l (i : Int)) = none → Evr (fun k => epactref14_Pool.l0 k l ((st.p ++ rdOf ByteArray.empty l (i : Int)) ++ (⟨#[0]⟩ : ByteArray)) (st.ats ++ [(st.p.size : Int)]) ((i + 1 : Nat) : Int)) R) :
  ∀ (d j : Nat) (x8 : Int), j + d = i → ((x8 = -1 ∧ ∀ m : Nat, m < j → rdOf ByteArray.empty l (m : Int) ≠ rdOf ByteArray.empty l (i : Int)) ∨ Ab.look st.had (rdOf ByteArray.empty l (i : Int)) = some x8) → Evr (fun k => epactref14_Pool.l1 k l st.p st.ats (i : Int) x8 (j : Int)) R
 | 0, j, x8, hj, hx => by
  obtain rfl : j = i := by omega
  have hroom := I.room
  rw [List.length_take] at hroom
  have hlen := I.len
  rw [List.length_take] at hlen
  have hz := (right_size hq).2
  rcases hx with ⟨rfl, hno⟩ | hK
  ·have hn : Ab.look st.had (rdOf ByteArray.empty l (j : Int)) = none := by
    cases hk : Ab.look st.had (rdOf ByteArray.empty l (j : Int)) with
    | none => rfl
    | some k =>
     obtain ⟨m, h1, h2⟩ := (mem_take hi _).1 (I.only _ _ hk)
     exact absurd h2 (hno m h1)
   refine Evr.step (hnew hn) fun k => ?_
   rw [epactref14_Pool.l1, if_neg (by omega), if_pos (by omega), if_pos (by omega), if_pos (by omega), if_pos (by omega), if_pos (by rw [ByteArray.size_append]; omega), if_pos (by omega), next_i (by omega)]
  ·obtain ⟨pre, post, _, hp, _⟩ := I.place _ _ hK
   refine Evr.step (hold x8 hK) fun k => ?_
   rw [epactref14_Pool.l1, if_neg (by omega), if_neg (by omega), if_pos (by omega), next_i (by omega)]
 | d + 1, j, x8, hj, hx => by
  have hlen := I.len
  rw [List.length_take] at hlen
  by_cases he : rdOf ByteArray.empty l (j : Int) = rdOf ByteArray.empty l (i : Int)
  ·obtain ⟨K, h1, h2⟩ := I.at_ j (rdOf ByteArray.empty l (j : Int)) (by rw [List.getElem?_take, if_pos (by omega), rdOf_at (by omega)])
   rw [he] at h1
   refine Evr.step (pool_inner hl hi I hq hold hnew d (j + 1) K (by omega) (.inr h1)) fun k => ?_
   rw [epactref14_Pool.l1, if_pos (by omega), if_pos (by omega), if_pos (by omega), if_pos (by omega), if_pos (by omega), if_pos (by rw [he]), if_pos (by omega), rd_of h2, next_i (by omega)]
  ·have hx' : (x8 = -1 ∧ ∀ m : Nat, m < j + 1 → rdOf ByteArray.empty l (m : Int) ≠ rdOf ByteArray.empty l (i : Int)) ∨ Ab.look st.had (rdOf ByteArray.empty l (i : Int)) = some x8 := by
    rcases hx with ⟨h1, h2⟩ | h
    ·refine .inl ⟨h1, fun m hm => ?_⟩
     rcases Nat.lt_or_ge m j with h | h
     ·exact h2 m h
     ·obtain rfl : m = j := by omega
      exact he
    ·exact .inr h
   refine Evr.step (pool_inner hl hi I hq hold hnew d (j + 1) x8 (by omega) hx') fun k => ?_
   have hne : (rdOf ByteArray.empty l (j : Int)).toList ≠ (rdOf ByteArray.empty l (i : Int)).toList := fun e => he (by
     have := str_beq (s := rdOf ByteArray.empty l (j : Int)) (t := rdOf ByteArray.empty l (i : Int))
     rw [e, beq_self_eq_true] at this
     exact of_decide_eq_true this.symm)
   rw [epactref14_Pool.l1, if_pos (by omega), if_pos (by omega), if_pos (by omega), if_pos (by omega), if_pos (by omega), if_neg hne, next_i (by omega)]
theorem pool_outer {l : List ByteArray} (hl : l.length ≤ 100) (hs : ∀ s ∈ l, s.size ≤ 9223372036854775807) :
  ∀ d i : Nat, i + d = l.length → (∀ s ∈ l.take i, rightN s = true) → Evr (fun k => epactref14_Pool.l0 k l (steps St0 (l.take i)).p (steps St0 (l.take i)).ats (i : Int)) (poolT l)
 | 0, i, hi, hr => by
  obtain rfl : i = l.length := by omega
  rw [List.take_length] at hr ⊢
  rw [poolT_right hr]
  refine Evr.now fun k => ?_
  rw [epactref14_Pool.l0, if_neg (by omega)]
  by_cases h256 : (steps St0 l).p.size > 256
  ·rw [if_pos (by omega)]
   simp only [poolE, decide_eq_true h256]
  ·rw [if_neg (by omega)]
   simp only [poolE, decide_eq_false h256]
 | d + 1, i, hi, hr => by
  have hlt : i < l.length := by omega
  have I := inv_steps (l.take i) St0 [] inv0 hr
  rw [List.nil_append] at I
  have hmem : rdOf ByteArray.empty l (i : Int) ∈ l := List.mem_of_getElem? (rdOf_at hlt)
  have htk : l.take (i + 1) = l.take i ++ [rdOf ByteArray.empty l (i : Int)] := by
   rw [List.take_add_one, rdOf_at hlt]; rfl
  have hst : ∀ k, epactref14_Pool.l0 (k + 1) l (steps St0 (l.take i)).p (steps St0 (l.take i)).ats (i : Int) = (epactref14_Right.f k (rdOf ByteArray.empty l (i : Int))).bind fun t102 => (if t102 = true then (epactref14_Pool.l1 k l (steps St0 (l.take i)).p (steps St0 (l.take i)).ats (i : Int) (-1) 0) else (some ((⟨#[]⟩ : ByteArray), ([] : List Int), false))) := fun k => by
   rw [epactref14_Pool.l0, if_pos (by omega), if_pos (by omega)]
  refine Evr.step (Evr.bind (right_ev _ (hs _ hmem)) ?_) hst
  cases hq : rightN (rdOf ByteArray.empty l (i : Int)) with
  | false =>
   rw [poolT_wrong ⟨_, hmem, hq⟩]
   exact ⟨0, fun k _ => rfl⟩
  | true =>
   have hnext := pool_outer hl hs d (i + 1) (by omega) (fun s h => by
    rw [htk, List.mem_append] at h
    rcases h with h | h
    ·exact hr s h
    ·rw [List.mem_singleton] at h; rw [h]; exact hq)
   rw [htk, steps_app] at hnext
   refine pool_inner hl hlt I hq (fun K hK => ?_) (fun hn => ?_) i 0 (-1) (by omega) (.inl ⟨rfl, fun m hm => by omega⟩)
   ·have e : steps (steps St0 (l.take i)) [rdOf ByteArray.empty l (i : Int)] = Ab.step (steps St0 (l.take i)) (rdOf ByteArray.empty l (i : Int)) := rfl
    rw [e] at hnext
    unfold Ab.step at hnext
    rw [hK] at hnext
    exact hnext
   ·have e : steps (steps St0 (l.take i)) [rdOf ByteArray.empty l (i : Int)] = Ab.step (steps St0 (l.take i)) (rdOf ByteArray.empty l (i : Int)) := rfl
    rw [e] at hnext
    unfold Ab.step at hnext
    rw [hn] at hnext
    rw [ByteArray.append_assoc]
    exact hnext
theorem pool_ev (l : List ByteArray) (hl : l.length ≤ 100) (hs : ∀ s ∈ l, s.size ≤ 9223372036854775807) : Evr (fun k => epactref14_Pool.f k l) (poolT l) :=
 pool_outer hl hs l.length 0 (by omega) (fun s h => by simp at h)
end B
theorem rat_calls (pool : ByteArray) (x : Int) (w : World) (hs : pool.size ≤ 9223372036854775807) :
  Calls Try.prog 36 #[.string pool, .int .i64 x] w fun e w' => e = .returned (.tuple #[.string (atN pool x).1, .bool (atN pool x).2]) ∧ Drawn0 w w' := by
 obtain ⟨k, hk⟩ := (A.at_ev pool x hs).get
 exact PAt.epactref14_At.calls k pool x _ _ w hk
theorem rpool_calls (A : Option Addr) (c : Nat) (l : List ByteArray) (w : World) (hr : Kd.C Kd.string w A l.length l) (hc : l.length ≤ c) (hl : l.length ≤ 100) (hs : ∀ s ∈ l, s.size ≤ 9223372036854775807) :
  Calls Try.prog 20 #[.slice A l.length c] w fun e w' => ∃ v1_ : Value, e = .returned (.tuple #[.string (poolT l).1, v1_, .bool (poolT l).2.2]) ∧ Kd.R (Kd.int .i64) 3 w' w.heap.size (fun _ => True) v1_ (poolT l).2.1 ∧ Below w.heap.size w w' := by
 obtain ⟨k, hk⟩ := (B.pool_ev l hl hs).get
 exact PPool.epactref14_Pool.calls k A c l _ _ _ w hr hc hk
end Go.Proofs.Ytpgjcnjojfehjaa.AbT
namespace Go.Proofs.Ytpgjcnjojfehjaa.Bk
open Go.RowKit Go.Proofs.YtpgjcnjojfehjaaW.PrintWords Go.Proofs.YtpgjcnjojfehjaaW.PrintLast Go.Proofs.YtpgjcnjojfehjaaW.PrintMore Ab
def rpoolF (l : List ByteArray) : Option (ByteArray × List Int × Bool) := match decide (l.length ≤ 100) && l.all (fun s => decide (s.size ≤ 9223372036854775807)) with
 | true => some (poolT l)
 | false => none
theorem rpool_is (A0 : Option Addr) (c0 : Nat) (l0 : List ByteArray) (r1 : ByteArray) (r2 : List Int) (r3 : Bool) (w : World) (hr0 : Kd.C Kd.string w A0 l0.length l0) (hc0 : l0.length ≤ c0) (h : rpoolF l0 = some (r1, r2, r3)) :
  Calls Try.prog 20 #[.slice A0 l0.length c0] w fun e w' => ∃ v1_ : Value, e = .returned (.tuple #[.string r1, v1_, .bool r3]) ∧ Kd.R (Kd.int .i64) 3 w' w.heap.size (fun _ => True) v1_ r2 ∧ Below w.heap.size w w' := by
 unfold rpoolF at h
 cases hg : (decide (l0.length ≤ 100) && l0.all (fun s => decide (s.size ≤ 9223372036854775807))) with
 | false => rw [hg] at h; cases h
 | true =>
  rw [hg] at h
  injection h with h
  rw [Bool.and_eq_true, decide_eq_true_eq] at hg
  have h2 := AbT.rpool_calls A0 c0 l0 w hr0 hc0 hg.1 (fun s hs => of_decide_eq_true (List.all_eq_true.1 hg.2 s hs))
  rw [h] at h2
  exact h2
theorem rpoolF_some {l : List ByteArray} (h : l.length ≤ 100) (hs : ∀ s ∈ l, s.size ≤ 9223372036854775807) : rpoolF l = some (poolT l) := by
 unfold rpoolF
 rw [decide_eq_true h, List.all_eq_true.2 (fun s hx => decide_eq_true (hs s hx))]
 rfl
end Go.Proofs.Ytpgjcnjojfehjaa.Bk
namespace Go.Proofs.Ytpgjcnjojfehjaa.PRCnt
open Go.RowKit Go.Proofs.YtpgjcnjojfehjaaW.PrintWords Go.Proofs.YtpgjcnjojfehjaaW.PrintLast Go.Proofs.YtpgjcnjojfehjaaW.PrintMore Kx
attribute [local go_sem] max2_int min2_int max_two min_two max_three min_three max_four min_four   -- for this text's walks alone
set_option linter.unusedVariables false
set_option linter.unusedSimpArgs false
def epactref14_Pool.f (l0 : List ByteArray) : Option (ByteArray × List Int × Bool) := Go.Proofs.Ytpgjcnjojfehjaa.Bk.rpoolF l0
set_option maxHeartbeats 8000000 in
set_option maxRecDepth 100000 in
theorem epactref14_Pool.calls (A0 : Option Addr) (c0 : Nat) (l0 : List ByteArray) (r1 : ByteArray) (r2 : List Int) (r3 : Bool) (w : World) (hr0 : Kd.C Kd.string w A0 l0.length l0) (hc0 : l0.length ≤ c0) (h : epactref14_Pool.f l0 = some (r1, r2, r3)) :
  Calls Try.prog 20 #[.slice A0 l0.length c0] w fun e w' => ∃ v1_ : Value, e = .returned (.tuple #[.string r1, v1_, .bool r3]) ∧ Kd.R (Kd.int .i64) 3 w' w.heap.size (fun _ => True) v1_ r2 ∧ Below w.heap.size w w' := by
 exact Go.Proofs.Ytpgjcnjojfehjaa.Bk.rpool_is A0 c0 l0 r1 r2 r3 w hr0 hc0 h
def epactref16_names.l0 : Nat → List ByteArray → Int → List (S46) → List (S48) → List (S50) → ByteArray → Int → Option (List ByteArray)
 | 0, _, _, _, _, _, _, _ => none
 | k + 1, x3, x4, x102000, x102001, x102002, x102003, x102004 => if x4 < (x102000.length : Int) then (if 0 ≤ x4 then (if x3.length < 8796093022208 then (epactref16_names.l0 k (x3 ++ [(rd_T46 x102000 x4).f2]) (wrap64 (x4 + 1)) x102000 x102001 x102002 x102003 x102004) else (none)) else (none)) else (some x3)
def epactref16_names.f (k : Nat) (l0_0 : List (S46)) (l0_1 : List (S48)) (l0_2 : List (S50)) (a0_3 : ByteArray) (a0_4 : Int) : Option (List ByteArray) := epactref16_names.l0 k ([] : List ByteArray) 0 l0_0 l0_1 l0_2 a0_3 a0_4
theorem epactref16_names.mono_l : ∀ k, (∀ y0 y1 y2 y3 y4 y5 y6, LeO (epactref16_names.l0 k y0 y1 y2 y3 y4 y5 y6) (epactref16_names.l0 (k + 1) y0 y1 y2 y3 y4 y5 y6))
 | 0 => fun _ _ _ _ _ _ _ r h => by simp [epactref16_names.l0] at h
 | k + 1 => by
  have ih0 := epactref16_names.mono_l k
  ·intro y0 y1 y2 y3 y4 y5 y6
   unfold epactref16_names.l0
   repeat' first
   | (with_reducible exact ih0 _ _ _ _ _ _ _)
   | (with_reducible exact LeO.refl _)
   | (with_reducible exact LeO.none _)
   | (with_reducible refine LeO.ite ?_ ?_)
   | (with_reducible refine LeO.bind ?_ (fun _ => ?_))
   | exact ih0 _ _ _ _ _ _ _
   | exact LeO.none _
   | refine LeO.ite ?_ ?_
   | refine LeO.bind ?_ (fun _ => ?_)
theorem epactref16_names.mono : ∀ a0 a1 a2 a3 a4 k, LeO (epactref16_names.f k a0 a1 a2 a3 a4) (epactref16_names.f (k + 1) a0 a1 a2 a3 a4) := by
 intro a0 a1 a2 a3 a4 k
 have ih0 := epactref16_names.mono_l k
 unfold epactref16_names.f
 repeat' first
   | (with_reducible exact ih0 _ _ _ _ _ _ _)
   | (with_reducible exact LeO.refl _)
   | (with_reducible exact LeO.none _)
   | (with_reducible refine LeO.ite ?_ ?_)
   | (with_reducible refine LeO.bind ?_ (fun _ => ?_))
   | exact ih0 _ _ _ _ _ _ _
   | exact LeO.none _
   | refine LeO.ite ?_ ?_
   | refine LeO.bind ?_ (fun _ => ?_)
set_option maxHeartbeats 8000000 in
set_option maxRecDepth 100000 in
theorem epactref16_names.calls (k : Nat) (A0_0 : Option Addr) (c0_0 : Nat) (l0_0 : List (S46)) (A0_1 : Option Addr) (c0_1 : Nat) (l0_1 : List (S48)) (A0_2 : Option Addr) (c0_2 : Nat) (l0_2 : List (S50)) (a0_3 : ByteArray) (a0_4 : Int) (r : List ByteArray) (w : World) (hr0_0 : Kd.C k46 w A0_0 l0_0.length l0_0) (hc0_0 : l0_0.length ≤ c0_0) (hr0_1 : Kd.C k48 w A0_1 l0_1.length l0_1) (hc0_1 : l0_1.length ≤ c0_1) (hr0_2 : Kd.C k50 w A0_2 l0_2.length l0_2) (hc0_2 : l0_2.length ≤ c0_2) (h : epactref16_names.f k l0_0 l0_1 l0_2 a0_3 a0_4 = some r) :
  Calls Try.prog 21 #[.agg #[.slice A0_0 l0_0.length c0_0, .slice A0_1 l0_1.length c0_1, .slice A0_2 l0_2.length c0_2, .string a0_3, .int .i64 a0_4]] w fun e w' => ∃ v0_ : Value, e = .returned (v0_) ∧ Kd.R Kd.string 9 w' w.heap.size (fun _ => True) v0_ r ∧ Below w.heap.size w w' := by
 have hu26 := Try.underlying26
 have HR0_0 := Aside0.mk hr0_0
 have HC0_0 := Aside0.mk hc0_0
 clear hr0_0 hc0_0
 have HR0_1 := Aside0.mk hr0_1
 have HC0_1 := Aside0.mk hc0_1
 clear hr0_1 hc0_1
 have HR0_2 := Aside0.mk hr0_2
 have HC0_2 := Aside0.mk hc0_2
 clear hr0_2 hc0_2
 have HB := Aside0.mk (Below.refl w.heap.size w)
 have H : (epactref16_names.l0 k ([] : List ByteArray) 0 l0_0 l0_1 l0_2 a0_3 a0_4) = some r := h
 clear h
 have H' := Aside0.mk H
 clear H
 go_enter Try.func21, Try.ntmps21
 go_wp2_with (first | ((with_reducible refine gate_dst (N := 1) rfl ?_); refine box_event ?hg (N := 1) ?hd (cs := #[.slice A0_0 l0_0.length c0_0, .slice A0_1 l0_1.length c0_1, .slice A0_2 l0_2.length c0_2, .string a0_3, .int .i64 a0_4]) (t := 26) ?hr ?_; (case hd => rfl); (case hg => rfl); (case hr => first | (go_simp; done) | (go_simp; rfl)); intro gb101 hg w2 hbox hb; have n0_ := Aside0.mk (below_step (by repeat (first | (with_reducible first | exact HB.out | apply below_alloc | apply pw_below_drewN | apply below_drew1) | exact HB.out)) hb); have n1_ := Aside0.mk (hbox); have n2_ := Aside0.mk ((by rw [hg]; exact (below_size (by repeat (first | (with_reducible first | exact HB.out | apply below_alloc | apply pw_below_drewN | apply below_drew1) | exact HB.out))) : w.heap.size ≤ gb101)); have n3_ := Aside0.mk ((by rw [hg]; exact (below_size (by repeat (first | (with_reducible first | exact HB.out | apply below_alloc | apply pw_below_drewN | apply below_drew1) | exact HB.out))) : w.heap.size ≤ gb101)); clear HB; have HB := n0_; have BK101 := n1_; have GW101 := n2_; have GE101 := n3_; clear n0_ n1_ n2_ n3_; clear hb hbox hg))
 go_loopg [3, 4] k (fun kq v3 v4 w' => ∃ (x3_1 : List ByteArray) (x4_1 : Int), v4 = .int .i64 x4_1 ∧ Aside0 (epactref16_names.l0 kq x3_1 x4_1 l0_0 l0_1 l0_2 a0_3 a0_4 = some r) ∧ Aside0 (kq ≤ k) ∧ Aside0 (Kd.R Kd.string 9 w' w.heap.size (fun _ => True) v3 x3_1) ∧ Aside0 (w'.heap[gb101]? = some (.cells #[(.slice A0_0 l0_0.length c0_0), (.slice A0_1 l0_1.length c0_1), (.slice A0_2 l0_2.length c0_2), .string a0_3, .int .i64 a0_4] 26 (0, 0))) ∧ Aside0 (Below w.heap.size w w'))
 case atStart => exact ⟨(([] : List ByteArray)), (0), (by first | rfl | (simp; done) | (simp [*]; done)), H', ⟨Nat.le_refl _⟩, ⟨by first | exact Kd.R_nil _ _ _ _ _ | exact Kd.N_nil _ _ _ _ _ | exact Kd.V_nil _ _ _ _ _ | exact Kd.Q_nil _ _ _ _ _ | exact Kd.S_nil _ _ _ _ _⟩, ⟨by (with_reducible repeat (first | refine blk_drewN ?_ _ | refine blk_drew ?_ | refine blk_alloc ?_ _)); exact BK101.out⟩, ⟨by repeat (first | (with_reducible first | exact HB.out | apply below_alloc | apply pw_below_drewN | apply below_drew1 | refine below_set ?_ GE101.out) | exact HB.out)⟩⟩
 case round =>
  clear H'
  try clear c2
  try clear p2
  obtain ⟨x3_1, x4_1, rfl, HA, HK1, HO_3, BK101, HB⟩ := hrel
  cases gk with
  | zero => exact absurd HA.out (by simp [epactref16_names.l0])
  | succ k1 =>
   have H := HA.out
   clear HA
   simp only [epactref16_names.l0] at H
   by_cases c3 : x4_1 < (l0_0.length : Int)
   ·rw [if_pos c3] at H
    have c3b0 : decide (x4_1 < (l0_0.length : Int)) = true := decide_eq_true c3
    clear c3
    by_cases c4 : 0 ≤ x4_1
    ·rw [if_pos c4] at H
     have c4b0 : decide (0 ≤ x4_1) = true := decide_eq_true c4
     clear c4
     by_cases c5 : x3_1.length < 8796093022208
     ·rw [if_pos c5] at H
      have LMc5 := Aside0.mk c5
      clear c5
      obtain ⟨y103, hy103⟩ : ∃ y_ : List ByteArray, y_ = (x3_1 ++ [(rd_T46 l0_0 x4_1).f2]) := ⟨_, rfl⟩
      replace H : (epactref16_names.l0 k1 y103 (wrap64 (x4_1 + 1)) l0_0 l0_1 l0_2 a0_3 a0_4) = some r := by first | (rw [hy103]; with_reducible exact H) | (have H2_ := (Option.bind_some _ _).symm.trans H; rw [hy103]; with_reducible exact H2_) | (have H2_ := (Option.bind_some _ _).symm.trans H; with_reducible exact H2_) | with_reducible exact H | (rw [hy103]; exact H) | exact H
      have Ny103 := Aside0.mk hy103
      clear hy103
      have H' := Aside0.mk H
      clear H
      have hcz6_0 : wr.cell? ⟨gb101, 0, none⟩ = some (.slice A0_0 l0_0.length c0_0) := (blk_cell BK101.out 0).trans rfl
      have hcz6_1 : wr.cell? ⟨gb101, 1, none⟩ = some (.slice A0_1 l0_1.length c0_1) := (blk_cell BK101.out 1).trans rfl
      have hcz6_2 : wr.cell? ⟨gb101, 2, none⟩ = some (.slice A0_2 l0_2.length c0_2) := (blk_cell BK101.out 2).trans rfl
      have hcz6_3 : wr.cell? ⟨gb101, 3, none⟩ = some (.string a0_3) := (blk_cell BK101.out 3).trans rfl
      have hcz6_4 : wr.cell? ⟨gb101, 4, none⟩ = some (.int .i64 a0_4) := (blk_cell BK101.out 4).trans rfl
      have hfz6_0 := blk_frozen BK101.out 0
      have hfz6_1 := blk_frozen BK101.out 1
      have hfz6_2 := blk_frozen BK101.out 2
      have hfz6_3 := blk_frozen BK101.out 3
      have hfz6_4 := blk_frozen BK101.out 4
      have p102 : 0 ≤ (x4_1 : Int) := of_decide_eq_true (by first | (with_reducible assumption) | assumption)
      have q102 : x4_1 < (l0_0.length : Int) := of_decide_eq_true (by first | (with_reducible assumption) | assumption)
      obtain ⟨ad102, e102, hx102_0, hx102_1, hx102_2⟩ := at_T46 HR0_0.out x4_1 p102 q102
      cases e102
      replace hx102_0 := (HB.out.cell (World.block_lt_of_cell? w _ hx102_0)).trans hx102_0
      replace hx102_1 := (HB.out.cell (World.block_lt_of_cell? w _ hx102_1)).trans hx102_1
      replace hx102_2 := (HB.out.cell (World.block_lt_of_cell? w _ hx102_2)).trans hx102_2
      replace p102 := eq_true p102
      replace q102 := eq_true q102
      go_wp2_with (first | ((with_reducible refine gate_builtin (b := .append) (xs := #[.tmp 12, .tmp 19]) rfl ?_); at_builtin; refine Kd.R_append Kd.string (w0 := w) w.heap.size rfl (.tmp 12) (.tmp 19) 55 9 (.string ⟨#[]⟩) 16 rfl Try.underlying55 info9 rfl (by decide) (by omega) u3 x3_1 ((rd_T46 l0_0 x4_1).f2) [.string ((rd_T46 l0_0 x4_1).f2)] (fun _ => True) (fun _ => False) rfl rfl ?aP (fun _ hk => hk.elim) ?aF ?aO ?aB ?aS ?aL ?_; (case aP => exact rfl); (case aB => exact (by repeat (first | (with_reducible first | exact HB.out | apply below_alloc | apply pw_below_drewN | apply below_drew1 | refine below_set ?_ GE101.out) | exact HB.out))); (case aF => exact (fun _ _ => trivial)); (case aO => exact (by (with_reducible repeat (first | apply Kd.R_alloc | apply Kd.R_drewN | apply Kd.R_drew)); exact HO_3.out)); (case aS => exact (below_size (by repeat (first | (with_reducible first | exact HB.out | apply below_alloc | apply pw_below_drewN | apply below_drew1 | refine below_set ?_ GE101.out) | exact HB.out)))); (case aL => have := LMc5.out; omega); intro v104 w7 ho hb hg hat; rw [← Ny103.out] at ho; have n0_ := Aside0.mk (blk_grown (g := gb101) (o := .cells #[.slice (some ad102) l0_0.length c0_0, .slice A0_1 l0_1.length c0_1, .slice A0_2 l0_2.length c0_2, .string a0_3, .int .i64 a0_4] 26 (0, 0)) (by (with_reducible repeat (first | refine blk_drewN ?_ _ | refine blk_drew ?_ | refine blk_alloc ?_ _)); exact BK101.out) hg (Kd.R_ne HO_3.out BK101.out (by decide))); have n1_ := Aside0.mk (hb); have n2_ := Aside0.mk (ho); clear BK101; clear HB; clear HO_3; have BK101 := n0_; have HB := n1_; have HO105 := n2_; clear n0_ n1_ n2_; clear ho hb hg hat))
      go_roundg k1
      case measure => have := HK1.out; omega
      case rel => exact ⟨(y103), (wrap64 (x4_1 + 1)), (by first | rfl | (simp; done) | (simp [*]; done)), H', ⟨by have := HK1.out; omega⟩, ⟨by (with_reducible repeat (first | apply Kd.R_alloc | apply Kd.R_drewN | apply Kd.R_drew)); exact HO105.out⟩, ⟨by (with_reducible repeat (first | refine blk_drewN ?_ _ | refine blk_drew ?_ | refine blk_alloc ?_ _)); exact BK101.out⟩, ⟨by repeat (first | (with_reducible first | exact HB.out | apply below_alloc | apply pw_below_drewN | apply below_drew1 | refine below_set ?_ GE101.out) | exact HB.out)⟩⟩
     ·rw [if_neg c5] at H
      exact absurd H (by simp)
    ·rw [if_neg c4] at H
     exact absurd H (by simp)
   ·rw [if_neg c3] at H
    have c3b0 : decide (x4_1 < (l0_0.length : Int)) = false := decide_eq_false c3
    clear c3
    obtain rfl := Option.some.inj H
    have hcz8_0 : wr.cell? ⟨gb101, 0, none⟩ = some (.slice A0_0 l0_0.length c0_0) := (blk_cell BK101.out 0).trans rfl
    have hcz8_1 : wr.cell? ⟨gb101, 1, none⟩ = some (.slice A0_1 l0_1.length c0_1) := (blk_cell BK101.out 1).trans rfl
    have hcz8_2 : wr.cell? ⟨gb101, 2, none⟩ = some (.slice A0_2 l0_2.length c0_2) := (blk_cell BK101.out 2).trans rfl
    have hcz8_3 : wr.cell? ⟨gb101, 3, none⟩ = some (.string a0_3) := (blk_cell BK101.out 3).trans rfl
    have hcz8_4 : wr.cell? ⟨gb101, 4, none⟩ = some (.int .i64 a0_4) := (blk_cell BK101.out 4).trans rfl
    have hfz8_0 := blk_frozen BK101.out 0
    have hfz8_1 := blk_frozen BK101.out 1
    have hfz8_2 := blk_frozen BK101.out 2
    have hfz8_3 := blk_frozen BK101.out 3
    have hfz8_4 := blk_frozen BK101.out 4
    go_wp2
    go_ret
    exact ⟨_, by first | rfl | (simp [errW_none, errW_some] <;> rfl) | (simp [*, errW_none, errW_some] <;> rfl), by (with_reducible repeat (first | apply Kd.R_alloc | apply Kd.R_drewN | apply Kd.R_drew)); exact HO_3.out, by repeat (first | (with_reducible first | exact HB.out | apply below_alloc | apply pw_below_drewN | apply below_drew1 | refine below_set ?_ GE101.out) | exact HB.out)⟩
def epactref15_Right.f (a0_0 : Int) (a0_1 : Int) (a0_2 : Int) (a0_3 : Int) (a0_4 : Int) (a0_5 : Int) (a0_6 : Int) : Option (Bool) := some (Go.Proofs.Ytpgjcnjojfehjaa.Oct.rightS a0_0 a0_1 a0_2 a0_3 a0_4 a0_5 a0_6)
set_option maxHeartbeats 8000000 in
set_option maxRecDepth 100000 in
theorem epactref15_Right.calls (a0_0 : Int) (a0_1 : Int) (a0_2 : Int) (a0_3 : Int) (a0_4 : Int) (a0_5 : Int) (a0_6 : Int) (r : Bool) (w : World) (h : epactref15_Right.f a0_0 a0_1 a0_2 a0_3 a0_4 a0_5 a0_6 = some r) :
  Calls Try.prog 22 #[.agg #[.int .i64 a0_0, .int .i64 a0_1, .int .i64 a0_2, .int .i64 a0_3, .int .i64 a0_4, .int .i64 a0_5, .int .i64 a0_6]] w fun e w' => e = .returned (.bool r) ∧ Below w.heap.size w w' := by
 obtain rfl := Option.some.inj h
 exact Go.Proofs.Ytpgjcnjojfehjaa.Oct.rright_calls _ _ _ _ _ _ _ w
def epactref16_Count.f (k : Nat) (l0_0 : List (S46)) (l0_1 : List (S48)) (l0_2 : List (S50)) (a0_3 : ByteArray) (a0_4 : Int) : Option (Int × Int × Int × Int × Int × Int × Int × Bool) := (epactref16_names.f k l0_0 l0_1 l0_2 a0_3 a0_4).bind fun t108 => ((epactref14_Pool.f t108).bind fun bt111 => (if bt111.2.2 = true then ((epactref15_Right.f a0_4 0 0 (l0_2.length : Int) (l0_1.length : Int) (l0_0.length : Int) (bt111.1.size : Int)).bind fun t117 => (if t117 = true then (some (a0_4, 0, 0, (l0_2.length : Int), (l0_1.length : Int), (l0_0.length : Int), (bt111.1.size : Int), true)) else (some (0, 0, 0, 0, 0, 0, 0, false)))) else (some (0, 0, 0, 0, 0, 0, 0, false))))
theorem epactref16_Count.mono : ∀ a0 a1 a2 a3 a4 k, LeO (epactref16_Count.f k a0 a1 a2 a3 a4) (epactref16_Count.f (k + 1) a0 a1 a2 a3 a4) := by
 intro a0 a1 a2 a3 a4 k
 unfold epactref16_Count.f
 repeat' first
   | (with_reducible exact epactref16_names.mono _ _ _ _ _ _)
   | (with_reducible exact LeO.refl _)
   | (with_reducible exact LeO.none _)
   | (with_reducible refine LeO.ite ?_ ?_)
   | (with_reducible refine LeO.bind ?_ (fun _ => ?_))
   | exact epactref16_names.mono _ _ _ _ _ _
   | exact LeO.none _
   | refine LeO.ite ?_ ?_
   | refine LeO.bind ?_ (fun _ => ?_)
set_option maxHeartbeats 8000000 in
set_option maxRecDepth 100000 in
theorem epactref16_Count.calls (k : Nat) (A0_0 : Option Addr) (c0_0 : Nat) (l0_0 : List (S46)) (A0_1 : Option Addr) (c0_1 : Nat) (l0_1 : List (S48)) (A0_2 : Option Addr) (c0_2 : Nat) (l0_2 : List (S50)) (a0_3 : ByteArray) (a0_4 : Int) (r1 : Int) (r2 : Int) (r3 : Int) (r4 : Int) (r5 : Int) (r6 : Int) (r7 : Int) (r8 : Bool) (w : World) (hr0_0 : Kd.C k46 w A0_0 l0_0.length l0_0) (hc0_0 : l0_0.length ≤ c0_0) (hr0_1 : Kd.C k48 w A0_1 l0_1.length l0_1) (hc0_1 : l0_1.length ≤ c0_1) (hr0_2 : Kd.C k50 w A0_2 l0_2.length l0_2) (hc0_2 : l0_2.length ≤ c0_2) (h : epactref16_Count.f k l0_0 l0_1 l0_2 a0_3 a0_4 = some (r1, r2, r3, r4, r5, r6, r7, r8)) :
  Calls Try.prog 11 #[.agg #[.slice A0_0 l0_0.length c0_0, .slice A0_1 l0_1.length c0_1, .slice A0_2 l0_2.length c0_2, .string a0_3, .int .i64 a0_4]] w fun e w' => e = .returned (.tuple #[.agg #[.int .i64 r1, .int .i64 r2, .int .i64 r3, .int .i64 r4, .int .i64 r5, .int .i64 r6, .int .i64 r7], .bool r8]) ∧ Below w.heap.size w w' := by
 have hu26 := Try.underlying26
 have hu28 := Try.underlying28
 have HR0_0 := Aside0.mk hr0_0
 have HC0_0 := Aside0.mk hc0_0
 clear hr0_0 hc0_0
 have HR0_1 := Aside0.mk hr0_1
 have HC0_1 := Aside0.mk hc0_1
 clear hr0_1 hc0_1
 have HR0_2 := Aside0.mk hr0_2
 have HC0_2 := Aside0.mk hc0_2
 clear hr0_2 hc0_2
 have HB := Aside0.mk (Below.refl w.heap.size w)
 have H : ((epactref16_names.f k l0_0 l0_1 l0_2 a0_3 a0_4).bind fun t108 => ((epactref14_Pool.f t108).bind fun bt111 => (if bt111.2.2 = true then ((epactref15_Right.f a0_4 0 0 (l0_2.length : Int) (l0_1.length : Int) (l0_0.length : Int) (bt111.1.size : Int)).bind fun t117 => (if t117 = true then (some (a0_4, 0, 0, (l0_2.length : Int), (l0_1.length : Int), (l0_0.length : Int), (bt111.1.size : Int), true)) else (some (0, 0, 0, 0, 0, 0, 0, false)))) else (some (0, 0, 0, 0, 0, 0, 0, false))))) = some (r1, r2, r3, r4, r5, r6, r7, r8) := h
 clear h
 replace H := Option.bind_eq_some_iff.mp H
 obtain ⟨t108, A20, H⟩ := H
 replace H : ((epactref14_Pool.f t108).bind fun bt111 => (if bt111.2.2 = true then ((epactref15_Right.f a0_4 0 0 (l0_2.length : Int) (l0_1.length : Int) (l0_0.length : Int) (bt111.1.size : Int)).bind fun t117 => (if t117 = true then (some (a0_4, 0, 0, (l0_2.length : Int), (l0_1.length : Int), (l0_0.length : Int), (bt111.1.size : Int), true)) else (some (0, 0, 0, 0, 0, 0, 0, false)))) else (some (0, 0, 0, 0, 0, 0, 0, false)))) = some (r1, r2, r3, r4, r5, r6, r7, r8) := H
 have A2 := Aside0.mk A20
 clear A20
 replace H := Option.bind_eq_some_iff.mp H
 obtain ⟨⟨t111, t112, t113⟩, A30, H⟩ := H
 replace H : (if t113 = true then ((epactref15_Right.f a0_4 0 0 (l0_2.length : Int) (l0_1.length : Int) (l0_0.length : Int) (t111.size : Int)).bind fun t117 => (if t117 = true then (some (a0_4, 0, 0, (l0_2.length : Int), (l0_1.length : Int), (l0_0.length : Int), (t111.size : Int), true)) else (some (0, 0, 0, 0, 0, 0, 0, false)))) else (some (0, 0, 0, 0, 0, 0, 0, false))) = some (r1, r2, r3, r4, r5, r6, r7, r8) := H
 have A3 := Aside0.mk A30
 clear A30
 by_cases c4 : t113 = true
 ·subst c4
  have H1 : ((epactref15_Right.f a0_4 0 0 (l0_2.length : Int) (l0_1.length : Int) (l0_0.length : Int) (t111.size : Int)).bind fun t117 => (if t117 = true then (some (a0_4, 0, 0, (l0_2.length : Int), (l0_1.length : Int), (l0_0.length : Int), (t111.size : Int), true)) else (some (0, 0, 0, 0, 0, 0, 0, false)))) = some (r1, r2, r3, r4, r5, r6, r7, r8) := by rw [if_pos rfl] at H; exact H
  clear H
  have H := H1
  clear H1
  replace H := Option.bind_eq_some_iff.mp H
  obtain ⟨t117, A50, H⟩ := H
  replace H : (if t117 = true then (some (a0_4, 0, 0, (l0_2.length : Int), (l0_1.length : Int), (l0_0.length : Int), (t111.size : Int), true)) else (some (0, 0, 0, 0, 0, 0, 0, false))) = some (r1, r2, r3, r4, r5, r6, r7, r8) := H
  have A5 := Aside0.mk A50
  clear A50
  by_cases c6 : t117 = true
  ·subst c6
   have H1 : (some (a0_4, 0, 0, (l0_2.length : Int), (l0_1.length : Int), (l0_0.length : Int), (t111.size : Int), true)) = some (r1, r2, r3, r4, r5, r6, r7, r8) := by rw [if_pos rfl] at H; exact H
   clear H
   have H := H1
   clear H1
   simp only [Option.some.injEq, Prod.mk.injEq] at H
   obtain ⟨rfl, rfl, rfl, rfl, rfl, rfl, rfl, rfl⟩ := H
   go_enter Try.func11, Try.ntmps11
   go_wp2_with (first | ((with_reducible refine gate_dst (N := 1) rfl ?_); refine box_event ?hg (N := 1) ?hd (cs := #[.slice A0_0 l0_0.length c0_0, .slice A0_1 l0_1.length c0_1, .slice A0_2 l0_2.length c0_2, .string a0_3, .int .i64 a0_4]) (t := 26) ?hr ?_; (case hd => rfl); (case hg => rfl); (case hr => first | (go_simp; done) | (go_simp; rfl)); intro gb106 hg w7 hbox hb; have n0_ := Aside0.mk (below_step (by repeat (first | (with_reducible first | exact HB.out | apply below_alloc | apply pw_below_drewN | apply below_drew1) | exact HB.out)) hb); have n1_ := Aside0.mk (hbox); have n2_ := Aside0.mk ((by rw [hg]; exact (below_size (by repeat (first | (with_reducible first | exact HB.out | apply below_alloc | apply pw_below_drewN | apply below_drew1) | exact HB.out))) : w.heap.size ≤ gb106)); have n3_ := Aside0.mk ((by rw [hg]; exact (below_size (by repeat (first | (with_reducible first | exact HB.out | apply below_alloc | apply pw_below_drewN | apply below_drew1) | exact HB.out))) : w.heap.size ≤ gb106)); clear HB; have HB := n0_; have BK106 := n1_; have GW106 := n2_; have GE106 := n3_; clear n0_ n1_ n2_ n3_; clear hb hbox hg) | ((with_reducible refine gate_dst (N := 2) rfl ?_); refine box_event ?hg (N := 2) ?hd (cs := #[.int .i64 0, .int .i64 0, .int .i64 0, .int .i64 0, .int .i64 0, .int .i64 0, .int .i64 0]) (t := 28) ?hr ?_; (case hd => rfl); (case hg => rfl); (case hr => first | (go_simp; done) | (go_simp; rfl)); intro gb107 hg w8 hbox hb; have n0_ := Aside0.mk (blk_below (g := gb106) (o := .cells #[.slice A0_0 l0_0.length c0_0, .slice A0_1 l0_1.length c0_1, .slice A0_2 l0_2.length c0_2, .string a0_3, .int .i64 a0_4] 26 (0, 0)) (by (with_reducible repeat (first | refine blk_drewN ?_ _ | refine blk_drew ?_ | refine blk_alloc ?_ _)); exact BK106.out) hb); have n1_ := Aside0.mk (below_step (by repeat (first | (with_reducible first | exact HB.out | apply below_alloc | apply pw_below_drewN | apply below_drew1 | refine below_set ?_ GE106.out) | exact HB.out)) hb); have n2_ := Aside0.mk (hbox); have n3_ := Aside0.mk ((by rw [hg]; exact (below_size (by repeat (first | (with_reducible first | exact HB.out | apply below_alloc | apply pw_below_drewN | apply below_drew1 | refine below_set ?_ GE106.out) | exact HB.out))) : w.heap.size ≤ gb107)); have n4_ := Aside0.mk ((by rw [hg]; exact (below_size (by repeat (first | (with_reducible first | exact HB.out | apply below_alloc | apply pw_below_drewN | apply below_drew1 | refine below_set ?_ GE106.out) | exact HB.out))) : w.heap.size ≤ gb107)); have n5_ := Aside0.mk ((by rw [hg]; exact Nat.ne_of_lt (blk_lt (g := gb106) (o := .cells #[.slice A0_0 l0_0.length c0_0, .slice A0_1 l0_1.length c0_1, .slice A0_2 l0_2.length c0_2, .string a0_3, .int .i64 a0_4] 26 (0, 0)) (by (with_reducible repeat (first | refine blk_drewN ?_ _ | refine blk_drew ?_ | refine blk_alloc ?_ _)); exact BK106.out)) : gb106 ≠ gb107)); have n6_ := Aside0.mk ((by rw [hg]; exact Nat.ne_of_gt (blk_lt (g := gb106) (o := .cells #[.slice A0_0 l0_0.length c0_0, .slice A0_1 l0_1.length c0_1, .slice A0_2 l0_2.length c0_2, .string a0_3, .int .i64 a0_4] 26 (0, 0)) (by (with_reducible repeat (first | refine blk_drewN ?_ _ | refine blk_drew ?_ | refine blk_alloc ?_ _)); exact BK106.out)) : gb107 ≠ gb106)); clear BK106; clear HB; have BK106 := n0_; have HB := n1_; have BK107 := n2_; have GW107 := n3_; have GE107 := n4_; have NB106_107 := n5_; have NB107_106 := n6_; clear n0_ n1_ n2_ n3_ n4_ n5_ n6_; clear hb hbox hg; have hnb9 := NB106_107.out; have hnc9 := NB107_106.out; have hcz10_0 : w8.cell? ⟨gb106, 0, none⟩ = some (.slice A0_0 l0_0.length c0_0) := (blk_cell BK106.out 0).trans rfl; have hcz10_1 : w8.cell? ⟨gb106, 1, none⟩ = some (.slice A0_1 l0_1.length c0_1) := (blk_cell BK106.out 1).trans rfl; have hcz10_2 : w8.cell? ⟨gb106, 2, none⟩ = some (.slice A0_2 l0_2.length c0_2) := (blk_cell BK106.out 2).trans rfl; have hcz10_3 : w8.cell? ⟨gb106, 3, none⟩ = some (.string a0_3) := (blk_cell BK106.out 3).trans rfl; have hcz10_4 : w8.cell? ⟨gb106, 4, none⟩ = some (.int .i64 a0_4) := (blk_cell BK106.out 4).trans rfl; have hfz10_0 := blk_frozen BK106.out 0; have hfz10_1 := blk_frozen BK106.out 1; have hfz10_2 := blk_frozen BK106.out 2; have hfz10_3 := blk_frozen BK106.out 3; have hfz10_4 := blk_frozen BK106.out 4) | ((with_reducible refine gate_callee (f := 21) rfl ?_); refine goesL_ (some 10) rfl rfl Try.func21 (by kernel_rfl) rfl #[.agg #[.slice A0_0 l0_0.length c0_0, .slice A0_1 l0_1.length c0_1, .slice A0_2 l0_2.length c0_2, .string a0_3, .int .i64 a0_4]] rfl (by (try simp only [List.map_toArray, List.map_cons, List.map_nil]); first | done | rfl | (simp only [List.length_drop, List.length_take]; rfl)) ?_; (with_reducible refine (epactref16_names.calls k _ _ l0_0 _ _ l0_1 _ _ l0_2 a0_3 a0_4 t108 _ ?side1 ?side2 ?side3 ?side4 ?side5 ?side6 A2.out).mono ?_); (case side1 => repeat (first | exact (Kd.C_below HR0_0.out HB.out) | (with_reducible refine Kd.C_alloc ?_ _) | (with_reducible refine Kd.C_drewN ?_ _) | (with_reducible refine Kd.C_drew ?_))); (case side2 => exact HC0_0.out); (case side3 => repeat (first | exact (Kd.C_below HR0_1.out HB.out) | (with_reducible refine Kd.C_alloc ?_ _) | (with_reducible refine Kd.C_drewN ?_ _) | (with_reducible refine Kd.C_drew ?_))); (case side4 => exact HC0_1.out); (case side5 => repeat (first | exact (Kd.C_below HR0_2.out HB.out) | (with_reducible refine Kd.C_alloc ?_ _) | (with_reducible refine Kd.C_drewN ?_ _) | (with_reducible refine Kd.C_drew ?_))); (case side6 => exact HC0_2.out); rintro e w11 ⟨v109, rfl, ho0, hb⟩; refine ⟨_, rfl, ?_⟩; have n0_ := Aside0.mk (Kd.R_lower ho0 (below_size (by repeat (first | (with_reducible first | exact HB.out | apply below_alloc | apply pw_below_drewN | apply below_drew1 | refine below_set ?_ GE106.out | refine below_set ?_ GE107.out) | exact HB.out)))); have n1_ := Aside0.mk (blk_below (g := gb106) (o := .cells #[.slice A0_0 l0_0.length c0_0, .slice A0_1 l0_1.length c0_1, .slice A0_2 l0_2.length c0_2, .string a0_3, .int .i64 a0_4] 26 (0, 0)) (by (with_reducible repeat (first | refine blk_drewN ?_ _ | refine blk_drew ?_ | refine blk_alloc ?_ _)); exact BK106.out) hb); have n2_ := Aside0.mk (blk_below (g := gb107) (o := .cells #[.int .i64 0, .int .i64 0, .int .i64 0, .int .i64 0, .int .i64 0, .int .i64 0, .int .i64 0] 28 (0, 0)) (by (with_reducible repeat (first | refine blk_drewN ?_ _ | refine blk_drew ?_ | refine blk_alloc ?_ _)); exact BK107.out) hb); have n3_ := Aside0.mk (below_step (by repeat (first | (with_reducible first | exact HB.out | apply below_alloc | apply pw_below_drewN | apply below_drew1 | refine below_set ?_ GE106.out | refine below_set ?_ GE107.out) | exact HB.out)) hb); clear BK106; clear BK107; clear HB; have HO110 := n0_; have BK106 := n1_; have BK107 := n2_; have HB := n3_; clear n0_ n1_ n2_ n3_; (try clear hb); (try clear hb2); (try clear hk); (try clear hi); (try clear ho0); obtain ⟨Ao12, co12, eo12⟩ := Kd.R_slice HO110.out; subst eo12) | ((with_reducible refine gate_callee (f := 20) rfl ?_); refine goesL_ (some 11) rfl rfl Try.func20 (by kernel_rfl) rfl #[.slice Ao12 t108.length co12] rfl (by (try simp only [List.map_toArray, List.map_cons, List.map_nil]); first | done | rfl | (simp only [List.length_drop, List.length_take]; rfl)) ?_; (with_reducible refine (epactref14_Pool.calls _ _ t108 t111 t112 true _ ?side1 ?side2 A3.out).mono ?_); (case side1 => repeat (first | exact (Kd.R_reads' HO110.out).2.2 | (with_reducible refine Kd.C_alloc ?_ _) | (with_reducible refine Kd.C_drewN ?_ _) | (with_reducible refine Kd.C_drew ?_))); (case side2 => exact (Kd.R_reads' HO110.out).2.1); rintro e w13 ⟨v114, rfl, ho0, hb⟩; refine ⟨_, rfl, ?_⟩; have n0_ := Aside0.mk (Kd.R_below (by (with_reducible repeat (first | apply Kd.R_alloc | apply Kd.R_drewN | apply Kd.R_drew)); exact HO110.out) hb); have n1_ := Aside0.mk (Kd.R_lower ho0 (below_size (by repeat (first | (with_reducible first | exact HB.out | apply below_alloc | apply pw_below_drewN | apply below_drew1 | refine below_set ?_ GE106.out | refine below_set ?_ GE107.out) | exact HB.out)))); have n2_ := Aside0.mk (blk_below (g := gb106) (o := .cells #[.slice A0_0 l0_0.length c0_0, .slice A0_1 l0_1.length c0_1, .slice A0_2 l0_2.length c0_2, .string a0_3, .int .i64 a0_4] 26 (0, 0)) (by (with_reducible repeat (first | refine blk_drewN ?_ _ | refine blk_drew ?_ | refine blk_alloc ?_ _)); exact BK106.out) hb); have n3_ := Aside0.mk (blk_below (g := gb107) (o := .cells #[.int .i64 0, .int .i64 0, .int .i64 0, .int .i64 0, .int .i64 0, .int .i64 0, .int .i64 0] 28 (0, 0)) (by (with_reducible repeat (first | refine blk_drewN ?_ _ | refine blk_drew ?_ | refine blk_alloc ?_ _)); exact BK107.out) hb); have n4_ := Aside0.mk (below_step (by repeat (first | (with_reducible first | exact HB.out | apply below_alloc | apply pw_below_drewN | apply below_drew1 | refine below_set ?_ GE106.out | refine below_set ?_ GE107.out) | exact HB.out)) hb); clear HO110; clear BK106; clear BK107; clear HB; have HO110 := n0_; have HO115 := n1_; have BK106 := n2_; have BK107 := n3_; have HB := n4_; clear n0_ n1_ n2_ n3_ n4_; (try clear hb); (try clear hb2); (try clear hk); (try clear hi); (try clear ho0); have hcz14_0 : w13.cell? ⟨gb106, 0, none⟩ = some (.slice A0_0 l0_0.length c0_0) := (blk_cell BK106.out 0).trans rfl; have hcz14_1 : w13.cell? ⟨gb106, 1, none⟩ = some (.slice A0_1 l0_1.length c0_1) := (blk_cell BK106.out 1).trans rfl; have hcz14_2 : w13.cell? ⟨gb106, 2, none⟩ = some (.slice A0_2 l0_2.length c0_2) := (blk_cell BK106.out 2).trans rfl; have hcz14_3 : w13.cell? ⟨gb106, 3, none⟩ = some (.string a0_3) := (blk_cell BK106.out 3).trans rfl; have hcz14_4 : w13.cell? ⟨gb106, 4, none⟩ = some (.int .i64 a0_4) := (blk_cell BK106.out 4).trans rfl; have hfz14_0 := blk_frozen BK106.out 0; have hfz14_1 := blk_frozen BK106.out 1; have hfz14_2 := blk_frozen BK106.out 2; have hfz14_3 := blk_frozen BK106.out 3; have hfz14_4 := blk_frozen BK106.out 4) | ((with_reducible refine gate_dst (N := 7) rfl ?_); refine box_event ?hg (N := 7) ?hd (cs := #[.int .i64 0, .int .i64 0, .int .i64 0, .int .i64 0, .int .i64 0, .int .i64 0, .int .i64 0]) (t := 28) ?hr ?_; (case hd => rfl); (case hg => rfl); (case hr => first | (go_simp; done) | (go_simp; rfl)); intro gb116 hg w15 hbox hb; have n0_ := Aside0.mk (Kd.R_below (by (with_reducible repeat (first | apply Kd.R_alloc | apply Kd.R_drewN | apply Kd.R_drew)); exact HO110.out) hb); have n1_ := Aside0.mk (Kd.R_below (by (with_reducible repeat (first | apply Kd.R_alloc | apply Kd.R_drewN | apply Kd.R_drew)); exact HO115.out) hb); have n2_ := Aside0.mk (blk_below (g := gb106) (o := .cells #[.slice A0_0 l0_0.length c0_0, .slice A0_1 l0_1.length c0_1, .slice A0_2 l0_2.length c0_2, .string a0_3, .int .i64 a0_4] 26 (0, 0)) (by (with_reducible repeat (first | refine blk_drewN ?_ _ | refine blk_drew ?_ | refine blk_alloc ?_ _)); exact BK106.out) hb); have n3_ := Aside0.mk (blk_below (g := gb107) (o := .cells #[.int .i64 0, .int .i64 0, .int .i64 0, .int .i64 0, .int .i64 0, .int .i64 0, .int .i64 0] 28 (0, 0)) (by (with_reducible repeat (first | refine blk_drewN ?_ _ | refine blk_drew ?_ | refine blk_alloc ?_ _)); exact BK107.out) hb); have n4_ := Aside0.mk (below_step (by repeat (first | (with_reducible first | exact HB.out | apply below_alloc | apply pw_below_drewN | apply below_drew1 | refine below_set ?_ GE106.out | refine below_set ?_ GE107.out) | exact HB.out)) hb); have n5_ := Aside0.mk (hbox); have n6_ := Aside0.mk ((by rw [hg]; exact (below_size (by repeat (first | (with_reducible first | exact HB.out | apply below_alloc | apply pw_below_drewN | apply below_drew1 | refine below_set ?_ GE106.out | refine below_set ?_ GE107.out) | exact HB.out))) : w.heap.size ≤ gb116)); have n7_ := Aside0.mk ((by rw [hg]; exact (below_size (by repeat (first | (with_reducible first | exact HB.out | apply below_alloc | apply pw_below_drewN | apply below_drew1 | refine below_set ?_ GE106.out | refine below_set ?_ GE107.out) | exact HB.out))) : w.heap.size ≤ gb116)); have n8_ := Aside0.mk ((by rw [hg]; exact Nat.ne_of_lt (blk_lt (g := gb106) (o := .cells #[.slice A0_0 l0_0.length c0_0, .slice A0_1 l0_1.length c0_1, .slice A0_2 l0_2.length c0_2, .string a0_3, .int .i64 a0_4] 26 (0, 0)) (by (with_reducible repeat (first | refine blk_drewN ?_ _ | refine blk_drew ?_ | refine blk_alloc ?_ _)); exact BK106.out)) : gb106 ≠ gb116)); have n9_ := Aside0.mk ((by rw [hg]; exact Nat.ne_of_gt (blk_lt (g := gb106) (o := .cells #[.slice A0_0 l0_0.length c0_0, .slice A0_1 l0_1.length c0_1, .slice A0_2 l0_2.length c0_2, .string a0_3, .int .i64 a0_4] 26 (0, 0)) (by (with_reducible repeat (first | refine blk_drewN ?_ _ | refine blk_drew ?_ | refine blk_alloc ?_ _)); exact BK106.out)) : gb116 ≠ gb106)); have n10_ := Aside0.mk ((by rw [hg]; exact Nat.ne_of_lt (blk_lt (g := gb107) (o := .cells #[.int .i64 0, .int .i64 0, .int .i64 0, .int .i64 0, .int .i64 0, .int .i64 0, .int .i64 0] 28 (0, 0)) (by (with_reducible repeat (first | refine blk_drewN ?_ _ | refine blk_drew ?_ | refine blk_alloc ?_ _)); exact BK107.out)) : gb107 ≠ gb116)); have n11_ := Aside0.mk ((by rw [hg]; exact Nat.ne_of_gt (blk_lt (g := gb107) (o := .cells #[.int .i64 0, .int .i64 0, .int .i64 0, .int .i64 0, .int .i64 0, .int .i64 0, .int .i64 0] 28 (0, 0)) (by (with_reducible repeat (first | refine blk_drewN ?_ _ | refine blk_drew ?_ | refine blk_alloc ?_ _)); exact BK107.out)) : gb116 ≠ gb107)); clear HO110; clear HO115; clear BK106; clear BK107; clear HB; have HO110 := n0_; have HO115 := n1_; have BK106 := n2_; have BK107 := n3_; have HB := n4_; have BK116 := n5_; have GW116 := n6_; have GE116 := n7_; have NB106_116 := n8_; have NB116_106 := n9_; have NB107_116 := n10_; have NB116_107 := n11_; clear n0_ n1_ n2_ n3_ n4_ n5_ n6_ n7_ n8_ n9_ n10_ n11_; clear hb hbox hg; have hnb16 := NB116_106.out; have hnc16 := NB106_116.out; have hnb17 := NB116_107.out; have hnc17 := NB107_116.out; have hcz18_0 : w15.cell? ⟨gb116, 0, none⟩ = some (.int .i64 0) := (blk_cell BK116.out 0).trans rfl; have hcz18_1 : w15.cell? ⟨gb116, 1, none⟩ = some (.int .i64 0) := (blk_cell BK116.out 1).trans rfl; have hcz18_2 : w15.cell? ⟨gb116, 2, none⟩ = some (.int .i64 0) := (blk_cell BK116.out 2).trans rfl; have hcz18_3 : w15.cell? ⟨gb116, 3, none⟩ = some (.int .i64 0) := (blk_cell BK116.out 3).trans rfl; have hcz18_4 : w15.cell? ⟨gb116, 4, none⟩ = some (.int .i64 0) := (blk_cell BK116.out 4).trans rfl; have hcz18_5 : w15.cell? ⟨gb116, 5, none⟩ = some (.int .i64 0) := (blk_cell BK116.out 5).trans rfl; have hcz18_6 : w15.cell? ⟨gb116, 6, none⟩ = some (.int .i64 0) := (blk_cell BK116.out 6).trans rfl; have hfz18_0 := blk_frozen BK116.out 0; have hfz18_1 := blk_frozen BK116.out 1; have hfz18_2 := blk_frozen BK116.out 2; have hfz18_3 := blk_frozen BK116.out 3; have hfz18_4 := blk_frozen BK116.out 4; have hfz18_5 := blk_frozen BK116.out 5; have hfz18_6 := blk_frozen BK116.out 6) | (go_at_call 22; (with_reducible refine (epactref15_Right.calls a0_4 0 0 (l0_2.length : Int) (l0_1.length : Int) (l0_0.length : Int) (t111.size : Int) true _ A5.out).mono ?_); rintro e w19 ⟨rfl, hb⟩; have n0_ := Aside0.mk (Kd.R_below (by (with_reducible repeat (first | apply Kd.R_alloc | apply Kd.R_drewN | apply Kd.R_drew)); exact (Kd.R_mono (Kd.R_far (p := ⟨gb116, 6, none⟩) (Kd.R_far (p := ⟨gb116, 5, none⟩) (Kd.R_far (p := ⟨gb116, 4, none⟩) (Kd.R_far (p := ⟨gb116, 3, none⟩) (Kd.R_far (p := ⟨gb116, 2, none⟩) (Kd.R_far (p := ⟨gb116, 1, none⟩) (Kd.R_far (p := ⟨gb116, 0, none⟩) (Kd.R_types HO110.out BK116.out (by decide)) (fun _ hk => hk.2) (.int .i64 a0_4)) (fun _ hk => hk.2) (.int .i64 0)) (fun _ hk => hk.2) (.int .i64 0)) (fun _ hk => hk.2) (.int .i64 (l0_2.length : Int))) (fun _ hk => hk.2) (.int .i64 (l0_1.length : Int))) (fun _ hk => hk.2) (.int .i64 (l0_0.length : Int))) (fun _ hk => hk.2) (.int .i64 (t111.size : Int))) (fun _ h_ => h_.1))) hb); have n1_ := Aside0.mk (Kd.R_below (by (with_reducible repeat (first | apply Kd.R_alloc | apply Kd.R_drewN | apply Kd.R_drew)); exact (Kd.R_mono (Kd.R_far (p := ⟨gb116, 6, none⟩) (Kd.R_far (p := ⟨gb116, 5, none⟩) (Kd.R_far (p := ⟨gb116, 4, none⟩) (Kd.R_far (p := ⟨gb116, 3, none⟩) (Kd.R_far (p := ⟨gb116, 2, none⟩) (Kd.R_far (p := ⟨gb116, 1, none⟩) (Kd.R_far (p := ⟨gb116, 0, none⟩) (Kd.R_types HO115.out BK116.out (by decide)) (fun _ hk => hk.2) (.int .i64 a0_4)) (fun _ hk => hk.2) (.int .i64 0)) (fun _ hk => hk.2) (.int .i64 0)) (fun _ hk => hk.2) (.int .i64 (l0_2.length : Int))) (fun _ hk => hk.2) (.int .i64 (l0_1.length : Int))) (fun _ hk => hk.2) (.int .i64 (l0_0.length : Int))) (fun _ hk => hk.2) (.int .i64 (t111.size : Int))) (fun _ h_ => h_.1))) hb); have n2_ := Aside0.mk (blk_below (g := gb106) (o := .cells #[.slice A0_0 l0_0.length c0_0, .slice A0_1 l0_1.length c0_1, .slice A0_2 l0_2.length c0_2, .string a0_3, .int .i64 a0_4] 26 (0, 0)) (by (with_reducible repeat (first | refine blk_drewN ?_ _ | refine blk_drew ?_ | refine blk_alloc ?_ _)); refine blk_far ?_ NB106_116.out _; (with_reducible repeat (first | refine blk_drewN ?_ _ | refine blk_drew ?_ | refine blk_alloc ?_ _)); refine blk_far ?_ NB106_116.out _; (with_reducible repeat (first | refine blk_drewN ?_ _ | refine blk_drew ?_ | refine blk_alloc ?_ _)); refine blk_far ?_ NB106_116.out _; (with_reducible repeat (first | refine blk_drewN ?_ _ | refine blk_drew ?_ | refine blk_alloc ?_ _)); refine blk_far ?_ NB106_116.out _; (with_reducible repeat (first | refine blk_drewN ?_ _ | refine blk_drew ?_ | refine blk_alloc ?_ _)); refine blk_far ?_ NB106_116.out _; (with_reducible repeat (first | refine blk_drewN ?_ _ | refine blk_drew ?_ | refine blk_alloc ?_ _)); refine blk_far ?_ NB106_116.out _; (with_reducible repeat (first | refine blk_drewN ?_ _ | refine blk_drew ?_ | refine blk_alloc ?_ _)); refine blk_far ?_ NB106_116.out _; (with_reducible repeat (first | refine blk_drewN ?_ _ | refine blk_drew ?_ | refine blk_alloc ?_ _)); exact BK106.out) hb); have n3_ := Aside0.mk (blk_below (g := gb107) (o := .cells #[.int .i64 0, .int .i64 0, .int .i64 0, .int .i64 0, .int .i64 0, .int .i64 0, .int .i64 0] 28 (0, 0)) (by (with_reducible repeat (first | refine blk_drewN ?_ _ | refine blk_drew ?_ | refine blk_alloc ?_ _)); refine blk_far ?_ NB107_116.out _; (with_reducible repeat (first | refine blk_drewN ?_ _ | refine blk_drew ?_ | refine blk_alloc ?_ _)); refine blk_far ?_ NB107_116.out _; (with_reducible repeat (first | refine blk_drewN ?_ _ | refine blk_drew ?_ | refine blk_alloc ?_ _)); refine blk_far ?_ NB107_116.out _; (with_reducible repeat (first | refine blk_drewN ?_ _ | refine blk_drew ?_ | refine blk_alloc ?_ _)); refine blk_far ?_ NB107_116.out _; (with_reducible repeat (first | refine blk_drewN ?_ _ | refine blk_drew ?_ | refine blk_alloc ?_ _)); refine blk_far ?_ NB107_116.out _; (with_reducible repeat (first | refine blk_drewN ?_ _ | refine blk_drew ?_ | refine blk_alloc ?_ _)); refine blk_far ?_ NB107_116.out _; (with_reducible repeat (first | refine blk_drewN ?_ _ | refine blk_drew ?_ | refine blk_alloc ?_ _)); refine blk_far ?_ NB107_116.out _; (with_reducible repeat (first | refine blk_drewN ?_ _ | refine blk_drew ?_ | refine blk_alloc ?_ _)); exact BK107.out) hb); have n4_ := Aside0.mk (blk_below (g := gb116) (o := .cells #[.int .i64 a0_4, .int .i64 0, .int .i64 0, .int .i64 (l0_2.length : Int), .int .i64 (l0_1.length : Int), .int .i64 (l0_0.length : Int), .int .i64 (t111.size : Int)] 28 (0, 0)) (by (with_reducible repeat (first | refine blk_drewN ?_ _ | refine blk_drew ?_ | refine blk_alloc ?_ _)); refine blk_put (cs := #[.int .i64 a0_4, .int .i64 0, .int .i64 0, .int .i64 (l0_2.length : Int), .int .i64 (l0_1.length : Int), .int .i64 (l0_0.length : Int), .int .i64 0]) ?_ 6 _ rfl; (with_reducible repeat (first | refine blk_drewN ?_ _ | refine blk_drew ?_ | refine blk_alloc ?_ _)); refine blk_put (cs := #[.int .i64 a0_4, .int .i64 0, .int .i64 0, .int .i64 (l0_2.length : Int), .int .i64 (l0_1.length : Int), .int .i64 0, .int .i64 0]) ?_ 5 _ rfl; (with_reducible repeat (first | refine blk_drewN ?_ _ | refine blk_drew ?_ | refine blk_alloc ?_ _)); refine blk_put (cs := #[.int .i64 a0_4, .int .i64 0, .int .i64 0, .int .i64 (l0_2.length : Int), .int .i64 0, .int .i64 0, .int .i64 0]) ?_ 4 _ rfl; (with_reducible repeat (first | refine blk_drewN ?_ _ | refine blk_drew ?_ | refine blk_alloc ?_ _)); refine blk_put (cs := #[.int .i64 a0_4, .int .i64 0, .int .i64 0, .int .i64 0, .int .i64 0, .int .i64 0, .int .i64 0]) ?_ 3 _ rfl; (with_reducible repeat (first | refine blk_drewN ?_ _ | refine blk_drew ?_ | refine blk_alloc ?_ _)); refine blk_put (cs := #[.int .i64 a0_4, .int .i64 0, .int .i64 0, .int .i64 0, .int .i64 0, .int .i64 0, .int .i64 0]) ?_ 2 _ rfl; (with_reducible repeat (first | refine blk_drewN ?_ _ | refine blk_drew ?_ | refine blk_alloc ?_ _)); refine blk_put (cs := #[.int .i64 a0_4, .int .i64 0, .int .i64 0, .int .i64 0, .int .i64 0, .int .i64 0, .int .i64 0]) ?_ 1 _ rfl; (with_reducible repeat (first | refine blk_drewN ?_ _ | refine blk_drew ?_ | refine blk_alloc ?_ _)); refine blk_put (cs := #[.int .i64 0, .int .i64 0, .int .i64 0, .int .i64 0, .int .i64 0, .int .i64 0, .int .i64 0]) ?_ 0 _ rfl; (with_reducible repeat (first | refine blk_drewN ?_ _ | refine blk_drew ?_ | refine blk_alloc ?_ _)); exact BK116.out) hb); have n5_ := Aside0.mk (below_step (by repeat (first | (with_reducible first | exact HB.out | apply below_alloc | apply pw_below_drewN | apply below_drew1 | refine below_set ?_ GE106.out | refine below_set ?_ GE107.out | refine below_set ?_ GE116.out) | exact HB.out)) hb); clear HO110; clear HO115; clear BK106; clear BK107; clear BK116; clear HB; have HO110 := n0_; have HO115 := n1_; have BK106 := n2_; have BK107 := n3_; have BK116 := n4_; have HB := n5_; clear n0_ n1_ n2_ n3_ n4_ n5_; (try clear hb); (try clear hb2); (try clear hk); (try clear hi); have hcz20_0 : w19.cell? ⟨gb116, 0, none⟩ = some (.int .i64 a0_4) := (blk_cell BK116.out 0).trans rfl; have hcz20_1 : w19.cell? ⟨gb116, 1, none⟩ = some (.int .i64 0) := (blk_cell BK116.out 1).trans rfl; have hcz20_2 : w19.cell? ⟨gb116, 2, none⟩ = some (.int .i64 0) := (blk_cell BK116.out 2).trans rfl; have hcz20_3 : w19.cell? ⟨gb116, 3, none⟩ = some (.int .i64 (l0_2.length : Int)) := (blk_cell BK116.out 3).trans rfl; have hcz20_4 : w19.cell? ⟨gb116, 4, none⟩ = some (.int .i64 (l0_1.length : Int)) := (blk_cell BK116.out 4).trans rfl; have hcz20_5 : w19.cell? ⟨gb116, 5, none⟩ = some (.int .i64 (l0_0.length : Int)) := (blk_cell BK116.out 5).trans rfl; have hcz20_6 : w19.cell? ⟨gb116, 6, none⟩ = some (.int .i64 (t111.size : Int)) := (blk_cell BK116.out 6).trans rfl; have hfz20_0 := blk_frozen BK116.out 0; have hfz20_1 := blk_frozen BK116.out 1; have hfz20_2 := blk_frozen BK116.out 2; have hfz20_3 := blk_frozen BK116.out 3; have hfz20_4 := blk_frozen BK116.out 4; have hfz20_5 := blk_frozen BK116.out 5; have hfz20_6 := blk_frozen BK116.out 6; have hcz21_0 : w19.cell? ⟨gb107, 0, none⟩ = some (.int .i64 0) := (blk_cell BK107.out 0).trans rfl; have hcz21_1 : w19.cell? ⟨gb107, 1, none⟩ = some (.int .i64 0) := (blk_cell BK107.out 1).trans rfl; have hcz21_2 : w19.cell? ⟨gb107, 2, none⟩ = some (.int .i64 0) := (blk_cell BK107.out 2).trans rfl; have hcz21_3 : w19.cell? ⟨gb107, 3, none⟩ = some (.int .i64 0) := (blk_cell BK107.out 3).trans rfl; have hcz21_4 : w19.cell? ⟨gb107, 4, none⟩ = some (.int .i64 0) := (blk_cell BK107.out 4).trans rfl; have hcz21_5 : w19.cell? ⟨gb107, 5, none⟩ = some (.int .i64 0) := (blk_cell BK107.out 5).trans rfl; have hcz21_6 : w19.cell? ⟨gb107, 6, none⟩ = some (.int .i64 0) := (blk_cell BK107.out 6).trans rfl; have hfz21_0 := blk_frozen BK107.out 0; have hfz21_1 := blk_frozen BK107.out 1; have hfz21_2 := blk_frozen BK107.out 2; have hfz21_3 := blk_frozen BK107.out 3; have hfz21_4 := blk_frozen BK107.out 4; have hfz21_5 := blk_frozen BK107.out 5; have hfz21_6 := blk_frozen BK107.out 6))
   refine bodyPost_ret (results_ct rfl _ _ gb107 28 #[.int .i64 a0_4, .int .i64 0, .int .i64 0, .int .i64 (l0_2.length : Int), .int .i64 (l0_1.length : Int), .int .i64 (l0_0.length : Int), .int .i64 (t111.size : Int)] (0, 0) _ rfl (by (with_reducible repeat (first | refine blk_drewN ?_ _ | refine blk_drew ?_ | refine blk_alloc ?_ _)); refine blk_put (cs := #[.int .i64 a0_4, .int .i64 0, .int .i64 0, .int .i64 (l0_2.length : Int), .int .i64 (l0_1.length : Int), .int .i64 (l0_0.length : Int), .int .i64 0]) ?_ 6 _ rfl; (with_reducible repeat (first | refine blk_drewN ?_ _ | refine blk_drew ?_ | refine blk_alloc ?_ _)); refine blk_put (cs := #[.int .i64 a0_4, .int .i64 0, .int .i64 0, .int .i64 (l0_2.length : Int), .int .i64 (l0_1.length : Int), .int .i64 0, .int .i64 0]) ?_ 5 _ rfl; (with_reducible repeat (first | refine blk_drewN ?_ _ | refine blk_drew ?_ | refine blk_alloc ?_ _)); refine blk_put (cs := #[.int .i64 a0_4, .int .i64 0, .int .i64 0, .int .i64 (l0_2.length : Int), .int .i64 0, .int .i64 0, .int .i64 0]) ?_ 4 _ rfl; (with_reducible repeat (first | refine blk_drewN ?_ _ | refine blk_drew ?_ | refine blk_alloc ?_ _)); refine blk_put (cs := #[.int .i64 a0_4, .int .i64 0, .int .i64 0, .int .i64 0, .int .i64 0, .int .i64 0, .int .i64 0]) ?_ 3 _ rfl; (with_reducible repeat (first | refine blk_drewN ?_ _ | refine blk_drew ?_ | refine blk_alloc ?_ _)); refine blk_put (cs := #[.int .i64 a0_4, .int .i64 0, .int .i64 0, .int .i64 0, .int .i64 0, .int .i64 0, .int .i64 0]) ?_ 2 _ rfl; (with_reducible repeat (first | refine blk_drewN ?_ _ | refine blk_drew ?_ | refine blk_alloc ?_ _)); refine blk_put (cs := #[.int .i64 a0_4, .int .i64 0, .int .i64 0, .int .i64 0, .int .i64 0, .int .i64 0, .int .i64 0]) ?_ 1 _ rfl; (with_reducible repeat (first | refine blk_drewN ?_ _ | refine blk_drew ?_ | refine blk_alloc ?_ _)); refine blk_put (cs := #[.int .i64 0, .int .i64 0, .int .i64 0, .int .i64 0, .int .i64 0, .int .i64 0, .int .i64 0]) ?_ 0 _ rfl; (with_reducible repeat (first | refine blk_drewN ?_ _ | refine blk_drew ?_ | refine blk_alloc ?_ _)); exact BK107.out) Try.underlying28 rfl (by kernel_rfl)) rfl ?_
   exact ⟨by first | rfl | (simp [errW_none, errW_some] <;> rfl) | (simp [*, errW_none, errW_some] <;> rfl), by repeat (first | (with_reducible first | exact HB.out | apply below_alloc | apply pw_below_drewN | apply below_drew1 | refine below_set ?_ GE106.out | refine below_set ?_ GE107.out | refine below_set ?_ GE116.out) | exact HB.out)⟩
  ·replace c6 := Bool.eq_false_iff.mpr c6
   subst c6
   have H1 : (some (0, 0, 0, 0, 0, 0, 0, false)) = some (r1, r2, r3, r4, r5, r6, r7, r8) := by rw [if_neg (show ¬ (false = true) by decide)] at H; exact H
   clear H
   have H := H1
   clear H1
   simp only [Option.some.injEq, Prod.mk.injEq] at H
   obtain ⟨rfl, rfl, rfl, rfl, rfl, rfl, rfl, rfl⟩ := H
   go_enter Try.func11, Try.ntmps11
   go_wp2_with (first | ((with_reducible refine gate_dst (N := 1) rfl ?_); refine box_event ?hg (N := 1) ?hd (cs := #[.slice A0_0 l0_0.length c0_0, .slice A0_1 l0_1.length c0_1, .slice A0_2 l0_2.length c0_2, .string a0_3, .int .i64 a0_4]) (t := 26) ?hr ?_; (case hd => rfl); (case hg => rfl); (case hr => first | (go_simp; done) | (go_simp; rfl)); intro gb106 hg w22 hbox hb; have n0_ := Aside0.mk (below_step (by repeat (first | (with_reducible first | exact HB.out | apply below_alloc | apply pw_below_drewN | apply below_drew1) | exact HB.out)) hb); have n1_ := Aside0.mk (hbox); have n2_ := Aside0.mk ((by rw [hg]; exact (below_size (by repeat (first | (with_reducible first | exact HB.out | apply below_alloc | apply pw_below_drewN | apply below_drew1) | exact HB.out))) : w.heap.size ≤ gb106)); have n3_ := Aside0.mk ((by rw [hg]; exact (below_size (by repeat (first | (with_reducible first | exact HB.out | apply below_alloc | apply pw_below_drewN | apply below_drew1) | exact HB.out))) : w.heap.size ≤ gb106)); clear HB; have HB := n0_; have BK106 := n1_; have GW106 := n2_; have GE106 := n3_; clear n0_ n1_ n2_ n3_; clear hb hbox hg) | ((with_reducible refine gate_dst (N := 2) rfl ?_); refine box_event ?hg (N := 2) ?hd (cs := #[.int .i64 0, .int .i64 0, .int .i64 0, .int .i64 0, .int .i64 0, .int .i64 0, .int .i64 0]) (t := 28) ?hr ?_; (case hd => rfl); (case hg => rfl); (case hr => first | (go_simp; done) | (go_simp; rfl)); intro gb107 hg w23 hbox hb; have n0_ := Aside0.mk (blk_below (g := gb106) (o := .cells #[.slice A0_0 l0_0.length c0_0, .slice A0_1 l0_1.length c0_1, .slice A0_2 l0_2.length c0_2, .string a0_3, .int .i64 a0_4] 26 (0, 0)) (by (with_reducible repeat (first | refine blk_drewN ?_ _ | refine blk_drew ?_ | refine blk_alloc ?_ _)); exact BK106.out) hb); have n1_ := Aside0.mk (below_step (by repeat (first | (with_reducible first | exact HB.out | apply below_alloc | apply pw_below_drewN | apply below_drew1 | refine below_set ?_ GE106.out) | exact HB.out)) hb); have n2_ := Aside0.mk (hbox); have n3_ := Aside0.mk ((by rw [hg]; exact (below_size (by repeat (first | (with_reducible first | exact HB.out | apply below_alloc | apply pw_below_drewN | apply below_drew1 | refine below_set ?_ GE106.out) | exact HB.out))) : w.heap.size ≤ gb107)); have n4_ := Aside0.mk ((by rw [hg]; exact (below_size (by repeat (first | (with_reducible first | exact HB.out | apply below_alloc | apply pw_below_drewN | apply below_drew1 | refine below_set ?_ GE106.out) | exact HB.out))) : w.heap.size ≤ gb107)); have n5_ := Aside0.mk ((by rw [hg]; exact Nat.ne_of_lt (blk_lt (g := gb106) (o := .cells #[.slice A0_0 l0_0.length c0_0, .slice A0_1 l0_1.length c0_1, .slice A0_2 l0_2.length c0_2, .string a0_3, .int .i64 a0_4] 26 (0, 0)) (by (with_reducible repeat (first | refine blk_drewN ?_ _ | refine blk_drew ?_ | refine blk_alloc ?_ _)); exact BK106.out)) : gb106 ≠ gb107)); have n6_ := Aside0.mk ((by rw [hg]; exact Nat.ne_of_gt (blk_lt (g := gb106) (o := .cells #[.slice A0_0 l0_0.length c0_0, .slice A0_1 l0_1.length c0_1, .slice A0_2 l0_2.length c0_2, .string a0_3, .int .i64 a0_4] 26 (0, 0)) (by (with_reducible repeat (first | refine blk_drewN ?_ _ | refine blk_drew ?_ | refine blk_alloc ?_ _)); exact BK106.out)) : gb107 ≠ gb106)); clear BK106; clear HB; have BK106 := n0_; have HB := n1_; have BK107 := n2_; have GW107 := n3_; have GE107 := n4_; have NB106_107 := n5_; have NB107_106 := n6_; clear n0_ n1_ n2_ n3_ n4_ n5_ n6_; clear hb hbox hg; have hnb24 := NB106_107.out; have hnc24 := NB107_106.out; have hcz25_0 : w23.cell? ⟨gb106, 0, none⟩ = some (.slice A0_0 l0_0.length c0_0) := (blk_cell BK106.out 0).trans rfl; have hcz25_1 : w23.cell? ⟨gb106, 1, none⟩ = some (.slice A0_1 l0_1.length c0_1) := (blk_cell BK106.out 1).trans rfl; have hcz25_2 : w23.cell? ⟨gb106, 2, none⟩ = some (.slice A0_2 l0_2.length c0_2) := (blk_cell BK106.out 2).trans rfl; have hcz25_3 : w23.cell? ⟨gb106, 3, none⟩ = some (.string a0_3) := (blk_cell BK106.out 3).trans rfl; have hcz25_4 : w23.cell? ⟨gb106, 4, none⟩ = some (.int .i64 a0_4) := (blk_cell BK106.out 4).trans rfl; have hfz25_0 := blk_frozen BK106.out 0; have hfz25_1 := blk_frozen BK106.out 1; have hfz25_2 := blk_frozen BK106.out 2; have hfz25_3 := blk_frozen BK106.out 3; have hfz25_4 := blk_frozen BK106.out 4) | ((with_reducible refine gate_callee (f := 21) rfl ?_); refine goesL_ (some 10) rfl rfl Try.func21 (by kernel_rfl) rfl #[.agg #[.slice A0_0 l0_0.length c0_0, .slice A0_1 l0_1.length c0_1, .slice A0_2 l0_2.length c0_2, .string a0_3, .int .i64 a0_4]] rfl (by (try simp only [List.map_toArray, List.map_cons, List.map_nil]); first | done | rfl | (simp only [List.length_drop, List.length_take]; rfl)) ?_; (with_reducible refine (epactref16_names.calls k _ _ l0_0 _ _ l0_1 _ _ l0_2 a0_3 a0_4 t108 _ ?side1 ?side2 ?side3 ?side4 ?side5 ?side6 A2.out).mono ?_); (case side1 => repeat (first | exact (Kd.C_below HR0_0.out HB.out) | (with_reducible refine Kd.C_alloc ?_ _) | (with_reducible refine Kd.C_drewN ?_ _) | (with_reducible refine Kd.C_drew ?_))); (case side2 => exact HC0_0.out); (case side3 => repeat (first | exact (Kd.C_below HR0_1.out HB.out) | (with_reducible refine Kd.C_alloc ?_ _) | (with_reducible refine Kd.C_drewN ?_ _) | (with_reducible refine Kd.C_drew ?_))); (case side4 => exact HC0_1.out); (case side5 => repeat (first | exact (Kd.C_below HR0_2.out HB.out) | (with_reducible refine Kd.C_alloc ?_ _) | (with_reducible refine Kd.C_drewN ?_ _) | (with_reducible refine Kd.C_drew ?_))); (case side6 => exact HC0_2.out); rintro e w26 ⟨v109, rfl, ho0, hb⟩; refine ⟨_, rfl, ?_⟩; have n0_ := Aside0.mk (Kd.R_lower ho0 (below_size (by repeat (first | (with_reducible first | exact HB.out | apply below_alloc | apply pw_below_drewN | apply below_drew1 | refine below_set ?_ GE106.out | refine below_set ?_ GE107.out) | exact HB.out)))); have n1_ := Aside0.mk (blk_below (g := gb106) (o := .cells #[.slice A0_0 l0_0.length c0_0, .slice A0_1 l0_1.length c0_1, .slice A0_2 l0_2.length c0_2, .string a0_3, .int .i64 a0_4] 26 (0, 0)) (by (with_reducible repeat (first | refine blk_drewN ?_ _ | refine blk_drew ?_ | refine blk_alloc ?_ _)); exact BK106.out) hb); have n2_ := Aside0.mk (blk_below (g := gb107) (o := .cells #[.int .i64 0, .int .i64 0, .int .i64 0, .int .i64 0, .int .i64 0, .int .i64 0, .int .i64 0] 28 (0, 0)) (by (with_reducible repeat (first | refine blk_drewN ?_ _ | refine blk_drew ?_ | refine blk_alloc ?_ _)); exact BK107.out) hb); have n3_ := Aside0.mk (below_step (by repeat (first | (with_reducible first | exact HB.out | apply below_alloc | apply pw_below_drewN | apply below_drew1 | refine below_set ?_ GE106.out | refine below_set ?_ GE107.out) | exact HB.out)) hb); clear BK106; clear BK107; clear HB; have HO110 := n0_; have BK106 := n1_; have BK107 := n2_; have HB := n3_; clear n0_ n1_ n2_ n3_; (try clear hb); (try clear hb2); (try clear hk); (try clear hi); (try clear ho0); obtain ⟨Ao27, co27, eo27⟩ := Kd.R_slice HO110.out; subst eo27) | ((with_reducible refine gate_callee (f := 20) rfl ?_); refine goesL_ (some 11) rfl rfl Try.func20 (by kernel_rfl) rfl #[.slice Ao27 t108.length co27] rfl (by (try simp only [List.map_toArray, List.map_cons, List.map_nil]); first | done | rfl | (simp only [List.length_drop, List.length_take]; rfl)) ?_; (with_reducible refine (epactref14_Pool.calls _ _ t108 t111 t112 true _ ?side1 ?side2 A3.out).mono ?_); (case side1 => repeat (first | exact (Kd.R_reads' HO110.out).2.2 | (with_reducible refine Kd.C_alloc ?_ _) | (with_reducible refine Kd.C_drewN ?_ _) | (with_reducible refine Kd.C_drew ?_))); (case side2 => exact (Kd.R_reads' HO110.out).2.1); rintro e w28 ⟨v114, rfl, ho0, hb⟩; refine ⟨_, rfl, ?_⟩; have n0_ := Aside0.mk (Kd.R_below (by (with_reducible repeat (first | apply Kd.R_alloc | apply Kd.R_drewN | apply Kd.R_drew)); exact HO110.out) hb); have n1_ := Aside0.mk (Kd.R_lower ho0 (below_size (by repeat (first | (with_reducible first | exact HB.out | apply below_alloc | apply pw_below_drewN | apply below_drew1 | refine below_set ?_ GE106.out | refine below_set ?_ GE107.out) | exact HB.out)))); have n2_ := Aside0.mk (blk_below (g := gb106) (o := .cells #[.slice A0_0 l0_0.length c0_0, .slice A0_1 l0_1.length c0_1, .slice A0_2 l0_2.length c0_2, .string a0_3, .int .i64 a0_4] 26 (0, 0)) (by (with_reducible repeat (first | refine blk_drewN ?_ _ | refine blk_drew ?_ | refine blk_alloc ?_ _)); exact BK106.out) hb); have n3_ := Aside0.mk (blk_below (g := gb107) (o := .cells #[.int .i64 0, .int .i64 0, .int .i64 0, .int .i64 0, .int .i64 0, .int .i64 0, .int .i64 0] 28 (0, 0)) (by (with_reducible repeat (first | refine blk_drewN ?_ _ | refine blk_drew ?_ | refine blk_alloc ?_ _)); exact BK107.out) hb); have n4_ := Aside0.mk (below_step (by repeat (first | (with_reducible first | exact HB.out | apply below_alloc | apply pw_below_drewN | apply below_drew1 | refine below_set ?_ GE106.out | refine below_set ?_ GE107.out) | exact HB.out)) hb); clear HO110; clear BK106; clear BK107; clear HB; have HO110 := n0_; have HO115 := n1_; have BK106 := n2_; have BK107 := n3_; have HB := n4_; clear n0_ n1_ n2_ n3_ n4_; (try clear hb); (try clear hb2); (try clear hk); (try clear hi); (try clear ho0); have hcz29_0 : w28.cell? ⟨gb106, 0, none⟩ = some (.slice A0_0 l0_0.length c0_0) := (blk_cell BK106.out 0).trans rfl; have hcz29_1 : w28.cell? ⟨gb106, 1, none⟩ = some (.slice A0_1 l0_1.length c0_1) := (blk_cell BK106.out 1).trans rfl; have hcz29_2 : w28.cell? ⟨gb106, 2, none⟩ = some (.slice A0_2 l0_2.length c0_2) := (blk_cell BK106.out 2).trans rfl; have hcz29_3 : w28.cell? ⟨gb106, 3, none⟩ = some (.string a0_3) := (blk_cell BK106.out 3).trans rfl; have hcz29_4 : w28.cell? ⟨gb106, 4, none⟩ = some (.int .i64 a0_4) := (blk_cell BK106.out 4).trans rfl; have hfz29_0 := blk_frozen BK106.out 0; have hfz29_1 := blk_frozen BK106.out 1; have hfz29_2 := blk_frozen BK106.out 2; have hfz29_3 := blk_frozen BK106.out 3; have hfz29_4 := blk_frozen BK106.out 4) | ((with_reducible refine gate_dst (N := 7) rfl ?_); refine box_event ?hg (N := 7) ?hd (cs := #[.int .i64 0, .int .i64 0, .int .i64 0, .int .i64 0, .int .i64 0, .int .i64 0, .int .i64 0]) (t := 28) ?hr ?_; (case hd => rfl); (case hg => rfl); (case hr => first | (go_simp; done) | (go_simp; rfl)); intro gb116 hg w30 hbox hb; have n0_ := Aside0.mk (Kd.R_below (by (with_reducible repeat (first | apply Kd.R_alloc | apply Kd.R_drewN | apply Kd.R_drew)); exact HO110.out) hb); have n1_ := Aside0.mk (Kd.R_below (by (with_reducible repeat (first | apply Kd.R_alloc | apply Kd.R_drewN | apply Kd.R_drew)); exact HO115.out) hb); have n2_ := Aside0.mk (blk_below (g := gb106) (o := .cells #[.slice A0_0 l0_0.length c0_0, .slice A0_1 l0_1.length c0_1, .slice A0_2 l0_2.length c0_2, .string a0_3, .int .i64 a0_4] 26 (0, 0)) (by (with_reducible repeat (first | refine blk_drewN ?_ _ | refine blk_drew ?_ | refine blk_alloc ?_ _)); exact BK106.out) hb); have n3_ := Aside0.mk (blk_below (g := gb107) (o := .cells #[.int .i64 0, .int .i64 0, .int .i64 0, .int .i64 0, .int .i64 0, .int .i64 0, .int .i64 0] 28 (0, 0)) (by (with_reducible repeat (first | refine blk_drewN ?_ _ | refine blk_drew ?_ | refine blk_alloc ?_ _)); exact BK107.out) hb); have n4_ := Aside0.mk (below_step (by repeat (first | (with_reducible first | exact HB.out | apply below_alloc | apply pw_below_drewN | apply below_drew1 | refine below_set ?_ GE106.out | refine below_set ?_ GE107.out) | exact HB.out)) hb); have n5_ := Aside0.mk (hbox); have n6_ := Aside0.mk ((by rw [hg]; exact (below_size (by repeat (first | (with_reducible first | exact HB.out | apply below_alloc | apply pw_below_drewN | apply below_drew1 | refine below_set ?_ GE106.out | refine below_set ?_ GE107.out) | exact HB.out))) : w.heap.size ≤ gb116)); have n7_ := Aside0.mk ((by rw [hg]; exact (below_size (by repeat (first | (with_reducible first | exact HB.out | apply below_alloc | apply pw_below_drewN | apply below_drew1 | refine below_set ?_ GE106.out | refine below_set ?_ GE107.out) | exact HB.out))) : w.heap.size ≤ gb116)); have n8_ := Aside0.mk ((by rw [hg]; exact Nat.ne_of_lt (blk_lt (g := gb106) (o := .cells #[.slice A0_0 l0_0.length c0_0, .slice A0_1 l0_1.length c0_1, .slice A0_2 l0_2.length c0_2, .string a0_3, .int .i64 a0_4] 26 (0, 0)) (by (with_reducible repeat (first | refine blk_drewN ?_ _ | refine blk_drew ?_ | refine blk_alloc ?_ _)); exact BK106.out)) : gb106 ≠ gb116)); have n9_ := Aside0.mk ((by rw [hg]; exact Nat.ne_of_gt (blk_lt (g := gb106) (o := .cells #[.slice A0_0 l0_0.length c0_0, .slice A0_1 l0_1.length c0_1, .slice A0_2 l0_2.length c0_2, .string a0_3, .int .i64 a0_4] 26 (0, 0)) (by (with_reducible repeat (first | refine blk_drewN ?_ _ | refine blk_drew ?_ | refine blk_alloc ?_ _)); exact BK106.out)) : gb116 ≠ gb106)); have n10_ := Aside0.mk ((by rw [hg]; exact Nat.ne_of_lt (blk_lt (g := gb107) (o := .cells #[.int .i64 0, .int .i64 0, .int .i64 0, .int .i64 0, .int .i64 0, .int .i64 0, .int .i64 0] 28 (0, 0)) (by (with_reducible repeat (first | refine blk_drewN ?_ _ | refine blk_drew ?_ | refine blk_alloc ?_ _)); exact BK107.out)) : gb107 ≠ gb116)); have n11_ := Aside0.mk ((by rw [hg]; exact Nat.ne_of_gt (blk_lt (g := gb107) (o := .cells #[.int .i64 0, .int .i64 0, .int .i64 0, .int .i64 0, .int .i64 0, .int .i64 0, .int .i64 0] 28 (0, 0)) (by (with_reducible repeat (first | refine blk_drewN ?_ _ | refine blk_drew ?_ | refine blk_alloc ?_ _)); exact BK107.out)) : gb116 ≠ gb107)); clear HO110; clear HO115; clear BK106; clear BK107; clear HB; have HO110 := n0_; have HO115 := n1_; have BK106 := n2_; have BK107 := n3_; have HB := n4_; have BK116 := n5_; have GW116 := n6_; have GE116 := n7_; have NB106_116 := n8_; have NB116_106 := n9_; have NB107_116 := n10_; have NB116_107 := n11_; clear n0_ n1_ n2_ n3_ n4_ n5_ n6_ n7_ n8_ n9_ n10_ n11_; clear hb hbox hg; have hnb31 := NB116_106.out; have hnc31 := NB106_116.out; have hnb32 := NB116_107.out; have hnc32 := NB107_116.out; have hcz33_0 : w30.cell? ⟨gb116, 0, none⟩ = some (.int .i64 0) := (blk_cell BK116.out 0).trans rfl; have hcz33_1 : w30.cell? ⟨gb116, 1, none⟩ = some (.int .i64 0) := (blk_cell BK116.out 1).trans rfl; have hcz33_2 : w30.cell? ⟨gb116, 2, none⟩ = some (.int .i64 0) := (blk_cell BK116.out 2).trans rfl; have hcz33_3 : w30.cell? ⟨gb116, 3, none⟩ = some (.int .i64 0) := (blk_cell BK116.out 3).trans rfl; have hcz33_4 : w30.cell? ⟨gb116, 4, none⟩ = some (.int .i64 0) := (blk_cell BK116.out 4).trans rfl; have hcz33_5 : w30.cell? ⟨gb116, 5, none⟩ = some (.int .i64 0) := (blk_cell BK116.out 5).trans rfl; have hcz33_6 : w30.cell? ⟨gb116, 6, none⟩ = some (.int .i64 0) := (blk_cell BK116.out 6).trans rfl; have hfz33_0 := blk_frozen BK116.out 0; have hfz33_1 := blk_frozen BK116.out 1; have hfz33_2 := blk_frozen BK116.out 2; have hfz33_3 := blk_frozen BK116.out 3; have hfz33_4 := blk_frozen BK116.out 4; have hfz33_5 := blk_frozen BK116.out 5; have hfz33_6 := blk_frozen BK116.out 6) | (go_at_call 22; (with_reducible refine (epactref15_Right.calls a0_4 0 0 (l0_2.length : Int) (l0_1.length : Int) (l0_0.length : Int) (t111.size : Int) false _ A5.out).mono ?_); rintro e w34 ⟨rfl, hb⟩; have n0_ := Aside0.mk (Kd.R_below (by (with_reducible repeat (first | apply Kd.R_alloc | apply Kd.R_drewN | apply Kd.R_drew)); exact (Kd.R_mono (Kd.R_far (p := ⟨gb116, 6, none⟩) (Kd.R_far (p := ⟨gb116, 5, none⟩) (Kd.R_far (p := ⟨gb116, 4, none⟩) (Kd.R_far (p := ⟨gb116, 3, none⟩) (Kd.R_far (p := ⟨gb116, 2, none⟩) (Kd.R_far (p := ⟨gb116, 1, none⟩) (Kd.R_far (p := ⟨gb116, 0, none⟩) (Kd.R_types HO110.out BK116.out (by decide)) (fun _ hk => hk.2) (.int .i64 a0_4)) (fun _ hk => hk.2) (.int .i64 0)) (fun _ hk => hk.2) (.int .i64 0)) (fun _ hk => hk.2) (.int .i64 (l0_2.length : Int))) (fun _ hk => hk.2) (.int .i64 (l0_1.length : Int))) (fun _ hk => hk.2) (.int .i64 (l0_0.length : Int))) (fun _ hk => hk.2) (.int .i64 (t111.size : Int))) (fun _ h_ => h_.1))) hb); have n1_ := Aside0.mk (Kd.R_below (by (with_reducible repeat (first | apply Kd.R_alloc | apply Kd.R_drewN | apply Kd.R_drew)); exact (Kd.R_mono (Kd.R_far (p := ⟨gb116, 6, none⟩) (Kd.R_far (p := ⟨gb116, 5, none⟩) (Kd.R_far (p := ⟨gb116, 4, none⟩) (Kd.R_far (p := ⟨gb116, 3, none⟩) (Kd.R_far (p := ⟨gb116, 2, none⟩) (Kd.R_far (p := ⟨gb116, 1, none⟩) (Kd.R_far (p := ⟨gb116, 0, none⟩) (Kd.R_types HO115.out BK116.out (by decide)) (fun _ hk => hk.2) (.int .i64 a0_4)) (fun _ hk => hk.2) (.int .i64 0)) (fun _ hk => hk.2) (.int .i64 0)) (fun _ hk => hk.2) (.int .i64 (l0_2.length : Int))) (fun _ hk => hk.2) (.int .i64 (l0_1.length : Int))) (fun _ hk => hk.2) (.int .i64 (l0_0.length : Int))) (fun _ hk => hk.2) (.int .i64 (t111.size : Int))) (fun _ h_ => h_.1))) hb); have n2_ := Aside0.mk (blk_below (g := gb106) (o := .cells #[.slice A0_0 l0_0.length c0_0, .slice A0_1 l0_1.length c0_1, .slice A0_2 l0_2.length c0_2, .string a0_3, .int .i64 a0_4] 26 (0, 0)) (by (with_reducible repeat (first | refine blk_drewN ?_ _ | refine blk_drew ?_ | refine blk_alloc ?_ _)); refine blk_far ?_ NB106_116.out _; (with_reducible repeat (first | refine blk_drewN ?_ _ | refine blk_drew ?_ | refine blk_alloc ?_ _)); refine blk_far ?_ NB106_116.out _; (with_reducible repeat (first | refine blk_drewN ?_ _ | refine blk_drew ?_ | refine blk_alloc ?_ _)); refine blk_far ?_ NB106_116.out _; (with_reducible repeat (first | refine blk_drewN ?_ _ | refine blk_drew ?_ | refine blk_alloc ?_ _)); refine blk_far ?_ NB106_116.out _; (with_reducible repeat (first | refine blk_drewN ?_ _ | refine blk_drew ?_ | refine blk_alloc ?_ _)); refine blk_far ?_ NB106_116.out _; (with_reducible repeat (first | refine blk_drewN ?_ _ | refine blk_drew ?_ | refine blk_alloc ?_ _)); refine blk_far ?_ NB106_116.out _; (with_reducible repeat (first | refine blk_drewN ?_ _ | refine blk_drew ?_ | refine blk_alloc ?_ _)); refine blk_far ?_ NB106_116.out _; (with_reducible repeat (first | refine blk_drewN ?_ _ | refine blk_drew ?_ | refine blk_alloc ?_ _)); exact BK106.out) hb); have n3_ := Aside0.mk (blk_below (g := gb107) (o := .cells #[.int .i64 0, .int .i64 0, .int .i64 0, .int .i64 0, .int .i64 0, .int .i64 0, .int .i64 0] 28 (0, 0)) (by (with_reducible repeat (first | refine blk_drewN ?_ _ | refine blk_drew ?_ | refine blk_alloc ?_ _)); refine blk_far ?_ NB107_116.out _; (with_reducible repeat (first | refine blk_drewN ?_ _ | refine blk_drew ?_ | refine blk_alloc ?_ _)); refine blk_far ?_ NB107_116.out _; (with_reducible repeat (first | refine blk_drewN ?_ _ | refine blk_drew ?_ | refine blk_alloc ?_ _)); refine blk_far ?_ NB107_116.out _; (with_reducible repeat (first | refine blk_drewN ?_ _ | refine blk_drew ?_ | refine blk_alloc ?_ _)); refine blk_far ?_ NB107_116.out _; (with_reducible repeat (first | refine blk_drewN ?_ _ | refine blk_drew ?_ | refine blk_alloc ?_ _)); refine blk_far ?_ NB107_116.out _; (with_reducible repeat (first | refine blk_drewN ?_ _ | refine blk_drew ?_ | refine blk_alloc ?_ _)); refine blk_far ?_ NB107_116.out _; (with_reducible repeat (first | refine blk_drewN ?_ _ | refine blk_drew ?_ | refine blk_alloc ?_ _)); refine blk_far ?_ NB107_116.out _; (with_reducible repeat (first | refine blk_drewN ?_ _ | refine blk_drew ?_ | refine blk_alloc ?_ _)); exact BK107.out) hb); have n4_ := Aside0.mk (blk_below (g := gb116) (o := .cells #[.int .i64 a0_4, .int .i64 0, .int .i64 0, .int .i64 (l0_2.length : Int), .int .i64 (l0_1.length : Int), .int .i64 (l0_0.length : Int), .int .i64 (t111.size : Int)] 28 (0, 0)) (by (with_reducible repeat (first | refine blk_drewN ?_ _ | refine blk_drew ?_ | refine blk_alloc ?_ _)); refine blk_put (cs := #[.int .i64 a0_4, .int .i64 0, .int .i64 0, .int .i64 (l0_2.length : Int), .int .i64 (l0_1.length : Int), .int .i64 (l0_0.length : Int), .int .i64 0]) ?_ 6 _ rfl; (with_reducible repeat (first | refine blk_drewN ?_ _ | refine blk_drew ?_ | refine blk_alloc ?_ _)); refine blk_put (cs := #[.int .i64 a0_4, .int .i64 0, .int .i64 0, .int .i64 (l0_2.length : Int), .int .i64 (l0_1.length : Int), .int .i64 0, .int .i64 0]) ?_ 5 _ rfl; (with_reducible repeat (first | refine blk_drewN ?_ _ | refine blk_drew ?_ | refine blk_alloc ?_ _)); refine blk_put (cs := #[.int .i64 a0_4, .int .i64 0, .int .i64 0, .int .i64 (l0_2.length : Int), .int .i64 0, .int .i64 0, .int .i64 0]) ?_ 4 _ rfl; (with_reducible repeat (first | refine blk_drewN ?_ _ | refine blk_drew ?_ | refine blk_alloc ?_ _)); refine blk_put (cs := #[.int .i64 a0_4, .int .i64 0, .int .i64 0, .int .i64 0, .int .i64 0, .int .i64 0, .int .i64 0]) ?_ 3 _ rfl; (with_reducible repeat (first | refine blk_drewN ?_ _ | refine blk_drew ?_ | refine blk_alloc ?_ _)); refine blk_put (cs := #[.int .i64 a0_4, .int .i64 0, .int .i64 0, .int .i64 0, .int .i64 0, .int .i64 0, .int .i64 0]) ?_ 2 _ rfl; (with_reducible repeat (first | refine blk_drewN ?_ _ | refine blk_drew ?_ | refine blk_alloc ?_ _)); refine blk_put (cs := #[.int .i64 a0_4, .int .i64 0, .int .i64 0, .int .i64 0, .int .i64 0, .int .i64 0, .int .i64 0]) ?_ 1 _ rfl; (with_reducible repeat (first | refine blk_drewN ?_ _ | refine blk_drew ?_ | refine blk_alloc ?_ _)); refine blk_put (cs := #[.int .i64 0, .int .i64 0, .int .i64 0, .int .i64 0, .int .i64 0, .int .i64 0, .int .i64 0]) ?_ 0 _ rfl; (with_reducible repeat (first | refine blk_drewN ?_ _ | refine blk_drew ?_ | refine blk_alloc ?_ _)); exact BK116.out) hb); have n5_ := Aside0.mk (below_step (by repeat (first | (with_reducible first | exact HB.out | apply below_alloc | apply pw_below_drewN | apply below_drew1 | refine below_set ?_ GE106.out | refine below_set ?_ GE107.out | refine below_set ?_ GE116.out) | exact HB.out)) hb); clear HO110; clear HO115; clear BK106; clear BK107; clear BK116; clear HB; have HO110 := n0_; have HO115 := n1_; have BK106 := n2_; have BK107 := n3_; have BK116 := n4_; have HB := n5_; clear n0_ n1_ n2_ n3_ n4_ n5_; (try clear hb); (try clear hb2); (try clear hk); (try clear hi); have hcz35_0 : w34.cell? ⟨gb107, 0, none⟩ = some (.int .i64 0) := (blk_cell BK107.out 0).trans rfl; have hcz35_1 : w34.cell? ⟨gb107, 1, none⟩ = some (.int .i64 0) := (blk_cell BK107.out 1).trans rfl; have hcz35_2 : w34.cell? ⟨gb107, 2, none⟩ = some (.int .i64 0) := (blk_cell BK107.out 2).trans rfl; have hcz35_3 : w34.cell? ⟨gb107, 3, none⟩ = some (.int .i64 0) := (blk_cell BK107.out 3).trans rfl; have hcz35_4 : w34.cell? ⟨gb107, 4, none⟩ = some (.int .i64 0) := (blk_cell BK107.out 4).trans rfl; have hcz35_5 : w34.cell? ⟨gb107, 5, none⟩ = some (.int .i64 0) := (blk_cell BK107.out 5).trans rfl; have hcz35_6 : w34.cell? ⟨gb107, 6, none⟩ = some (.int .i64 0) := (blk_cell BK107.out 6).trans rfl; have hfz35_0 := blk_frozen BK107.out 0; have hfz35_1 := blk_frozen BK107.out 1; have hfz35_2 := blk_frozen BK107.out 2; have hfz35_3 := blk_frozen BK107.out 3; have hfz35_4 := blk_frozen BK107.out 4; have hfz35_5 := blk_frozen BK107.out 5; have hfz35_6 := blk_frozen BK107.out 6))
   refine bodyPost_ret (results_ct rfl _ _ gb107 28 #[.int .i64 0, .int .i64 0, .int .i64 0, .int .i64 0, .int .i64 0, .int .i64 0, .int .i64 0] (0, 0) _ rfl (by (with_reducible repeat (first | refine blk_drewN ?_ _ | refine blk_drew ?_ | refine blk_alloc ?_ _)); refine blk_put (cs := #[.int .i64 0, .int .i64 0, .int .i64 0, .int .i64 0, .int .i64 0, .int .i64 0, .int .i64 0]) ?_ 6 _ rfl; (with_reducible repeat (first | refine blk_drewN ?_ _ | refine blk_drew ?_ | refine blk_alloc ?_ _)); refine blk_put (cs := #[.int .i64 0, .int .i64 0, .int .i64 0, .int .i64 0, .int .i64 0, .int .i64 0, .int .i64 0]) ?_ 5 _ rfl; (with_reducible repeat (first | refine blk_drewN ?_ _ | refine blk_drew ?_ | refine blk_alloc ?_ _)); refine blk_put (cs := #[.int .i64 0, .int .i64 0, .int .i64 0, .int .i64 0, .int .i64 0, .int .i64 0, .int .i64 0]) ?_ 4 _ rfl; (with_reducible repeat (first | refine blk_drewN ?_ _ | refine blk_drew ?_ | refine blk_alloc ?_ _)); refine blk_put (cs := #[.int .i64 0, .int .i64 0, .int .i64 0, .int .i64 0, .int .i64 0, .int .i64 0, .int .i64 0]) ?_ 3 _ rfl; (with_reducible repeat (first | refine blk_drewN ?_ _ | refine blk_drew ?_ | refine blk_alloc ?_ _)); refine blk_put (cs := #[.int .i64 0, .int .i64 0, .int .i64 0, .int .i64 0, .int .i64 0, .int .i64 0, .int .i64 0]) ?_ 2 _ rfl; (with_reducible repeat (first | refine blk_drewN ?_ _ | refine blk_drew ?_ | refine blk_alloc ?_ _)); refine blk_put (cs := #[.int .i64 0, .int .i64 0, .int .i64 0, .int .i64 0, .int .i64 0, .int .i64 0, .int .i64 0]) ?_ 1 _ rfl; (with_reducible repeat (first | refine blk_drewN ?_ _ | refine blk_drew ?_ | refine blk_alloc ?_ _)); refine blk_put (cs := #[.int .i64 0, .int .i64 0, .int .i64 0, .int .i64 0, .int .i64 0, .int .i64 0, .int .i64 0]) ?_ 0 _ rfl; (with_reducible repeat (first | refine blk_drewN ?_ _ | refine blk_drew ?_ | refine blk_alloc ?_ _)); exact BK107.out) Try.underlying28 rfl (by kernel_rfl)) rfl ?_
   exact ⟨by first | rfl | (simp [errW_none, errW_some] <;> rfl) | (simp [*, errW_none, errW_some] <;> rfl), by repeat (first | (with_reducible first | exact HB.out | apply below_alloc | apply pw_below_drewN | apply below_drew1 | refine below_set ?_ GE106.out | refine below_set ?_ GE107.out | refine below_set ?_ GE116.out) | exact HB.out)⟩
 ·replace c4 := Bool.eq_false_iff.mpr c4
  subst c4
  have H1 : (some (0, 0, 0, 0, 0, 0, 0, false)) = some (r1, r2, r3, r4, r5, r6, r7, r8) := by rw [if_neg (show ¬ (false = true) by decide)] at H; exact H
  clear H
  have H := H1
  clear H1
  simp only [Option.some.injEq, Prod.mk.injEq] at H
  obtain ⟨rfl, rfl, rfl, rfl, rfl, rfl, rfl, rfl⟩ := H
  go_enter Try.func11, Try.ntmps11
  go_wp2_with (first | ((with_reducible refine gate_dst (N := 1) rfl ?_); refine box_event ?hg (N := 1) ?hd (cs := #[.slice A0_0 l0_0.length c0_0, .slice A0_1 l0_1.length c0_1, .slice A0_2 l0_2.length c0_2, .string a0_3, .int .i64 a0_4]) (t := 26) ?hr ?_; (case hd => rfl); (case hg => rfl); (case hr => first | (go_simp; done) | (go_simp; rfl)); intro gb106 hg w36 hbox hb; have n0_ := Aside0.mk (below_step (by repeat (first | (with_reducible first | exact HB.out | apply below_alloc | apply pw_below_drewN | apply below_drew1) | exact HB.out)) hb); have n1_ := Aside0.mk (hbox); have n2_ := Aside0.mk ((by rw [hg]; exact (below_size (by repeat (first | (with_reducible first | exact HB.out | apply below_alloc | apply pw_below_drewN | apply below_drew1) | exact HB.out))) : w.heap.size ≤ gb106)); have n3_ := Aside0.mk ((by rw [hg]; exact (below_size (by repeat (first | (with_reducible first | exact HB.out | apply below_alloc | apply pw_below_drewN | apply below_drew1) | exact HB.out))) : w.heap.size ≤ gb106)); clear HB; have HB := n0_; have BK106 := n1_; have GW106 := n2_; have GE106 := n3_; clear n0_ n1_ n2_ n3_; clear hb hbox hg) | ((with_reducible refine gate_dst (N := 2) rfl ?_); refine box_event ?hg (N := 2) ?hd (cs := #[.int .i64 0, .int .i64 0, .int .i64 0, .int .i64 0, .int .i64 0, .int .i64 0, .int .i64 0]) (t := 28) ?hr ?_; (case hd => rfl); (case hg => rfl); (case hr => first | (go_simp; done) | (go_simp; rfl)); intro gb107 hg w37 hbox hb; have n0_ := Aside0.mk (blk_below (g := gb106) (o := .cells #[.slice A0_0 l0_0.length c0_0, .slice A0_1 l0_1.length c0_1, .slice A0_2 l0_2.length c0_2, .string a0_3, .int .i64 a0_4] 26 (0, 0)) (by (with_reducible repeat (first | refine blk_drewN ?_ _ | refine blk_drew ?_ | refine blk_alloc ?_ _)); exact BK106.out) hb); have n1_ := Aside0.mk (below_step (by repeat (first | (with_reducible first | exact HB.out | apply below_alloc | apply pw_below_drewN | apply below_drew1 | refine below_set ?_ GE106.out) | exact HB.out)) hb); have n2_ := Aside0.mk (hbox); have n3_ := Aside0.mk ((by rw [hg]; exact (below_size (by repeat (first | (with_reducible first | exact HB.out | apply below_alloc | apply pw_below_drewN | apply below_drew1 | refine below_set ?_ GE106.out) | exact HB.out))) : w.heap.size ≤ gb107)); have n4_ := Aside0.mk ((by rw [hg]; exact (below_size (by repeat (first | (with_reducible first | exact HB.out | apply below_alloc | apply pw_below_drewN | apply below_drew1 | refine below_set ?_ GE106.out) | exact HB.out))) : w.heap.size ≤ gb107)); have n5_ := Aside0.mk ((by rw [hg]; exact Nat.ne_of_lt (blk_lt (g := gb106) (o := .cells #[.slice A0_0 l0_0.length c0_0, .slice A0_1 l0_1.length c0_1, .slice A0_2 l0_2.length c0_2, .string a0_3, .int .i64 a0_4] 26 (0, 0)) (by (with_reducible repeat (first | refine blk_drewN ?_ _ | refine blk_drew ?_ | refine blk_alloc ?_ _)); exact BK106.out)) : gb106 ≠ gb107)); have n6_ := Aside0.mk ((by rw [hg]; exact Nat.ne_of_gt (blk_lt (g := gb106) (o := .cells #[.slice A0_0 l0_0.length c0_0, .slice A0_1 l0_1.length c0_1, .slice A0_2 l0_2.length c0_2, .string a0_3, .int .i64 a0_4] 26 (0, 0)) (by (with_reducible repeat (first | refine blk_drewN ?_ _ | refine blk_drew ?_ | refine blk_alloc ?_ _)); exact BK106.out)) : gb107 ≠ gb106)); clear BK106; clear HB; have BK106 := n0_; have HB := n1_; have BK107 := n2_; have GW107 := n3_; have GE107 := n4_; have NB106_107 := n5_; have NB107_106 := n6_; clear n0_ n1_ n2_ n3_ n4_ n5_ n6_; clear hb hbox hg; have hnb38 := NB106_107.out; have hnc38 := NB107_106.out; have hcz39_0 : w37.cell? ⟨gb106, 0, none⟩ = some (.slice A0_0 l0_0.length c0_0) := (blk_cell BK106.out 0).trans rfl; have hcz39_1 : w37.cell? ⟨gb106, 1, none⟩ = some (.slice A0_1 l0_1.length c0_1) := (blk_cell BK106.out 1).trans rfl; have hcz39_2 : w37.cell? ⟨gb106, 2, none⟩ = some (.slice A0_2 l0_2.length c0_2) := (blk_cell BK106.out 2).trans rfl; have hcz39_3 : w37.cell? ⟨gb106, 3, none⟩ = some (.string a0_3) := (blk_cell BK106.out 3).trans rfl; have hcz39_4 : w37.cell? ⟨gb106, 4, none⟩ = some (.int .i64 a0_4) := (blk_cell BK106.out 4).trans rfl; have hfz39_0 := blk_frozen BK106.out 0; have hfz39_1 := blk_frozen BK106.out 1; have hfz39_2 := blk_frozen BK106.out 2; have hfz39_3 := blk_frozen BK106.out 3; have hfz39_4 := blk_frozen BK106.out 4) | ((with_reducible refine gate_callee (f := 21) rfl ?_); refine goesL_ (some 10) rfl rfl Try.func21 (by kernel_rfl) rfl #[.agg #[.slice A0_0 l0_0.length c0_0, .slice A0_1 l0_1.length c0_1, .slice A0_2 l0_2.length c0_2, .string a0_3, .int .i64 a0_4]] rfl (by (try simp only [List.map_toArray, List.map_cons, List.map_nil]); first | done | rfl | (simp only [List.length_drop, List.length_take]; rfl)) ?_; (with_reducible refine (epactref16_names.calls k _ _ l0_0 _ _ l0_1 _ _ l0_2 a0_3 a0_4 t108 _ ?side1 ?side2 ?side3 ?side4 ?side5 ?side6 A2.out).mono ?_); (case side1 => repeat (first | exact (Kd.C_below HR0_0.out HB.out) | (with_reducible refine Kd.C_alloc ?_ _) | (with_reducible refine Kd.C_drewN ?_ _) | (with_reducible refine Kd.C_drew ?_))); (case side2 => exact HC0_0.out); (case side3 => repeat (first | exact (Kd.C_below HR0_1.out HB.out) | (with_reducible refine Kd.C_alloc ?_ _) | (with_reducible refine Kd.C_drewN ?_ _) | (with_reducible refine Kd.C_drew ?_))); (case side4 => exact HC0_1.out); (case side5 => repeat (first | exact (Kd.C_below HR0_2.out HB.out) | (with_reducible refine Kd.C_alloc ?_ _) | (with_reducible refine Kd.C_drewN ?_ _) | (with_reducible refine Kd.C_drew ?_))); (case side6 => exact HC0_2.out); rintro e w40 ⟨v109, rfl, ho0, hb⟩; refine ⟨_, rfl, ?_⟩; have n0_ := Aside0.mk (Kd.R_lower ho0 (below_size (by repeat (first | (with_reducible first | exact HB.out | apply below_alloc | apply pw_below_drewN | apply below_drew1 | refine below_set ?_ GE106.out | refine below_set ?_ GE107.out) | exact HB.out)))); have n1_ := Aside0.mk (blk_below (g := gb106) (o := .cells #[.slice A0_0 l0_0.length c0_0, .slice A0_1 l0_1.length c0_1, .slice A0_2 l0_2.length c0_2, .string a0_3, .int .i64 a0_4] 26 (0, 0)) (by (with_reducible repeat (first | refine blk_drewN ?_ _ | refine blk_drew ?_ | refine blk_alloc ?_ _)); exact BK106.out) hb); have n2_ := Aside0.mk (blk_below (g := gb107) (o := .cells #[.int .i64 0, .int .i64 0, .int .i64 0, .int .i64 0, .int .i64 0, .int .i64 0, .int .i64 0] 28 (0, 0)) (by (with_reducible repeat (first | refine blk_drewN ?_ _ | refine blk_drew ?_ | refine blk_alloc ?_ _)); exact BK107.out) hb); have n3_ := Aside0.mk (below_step (by repeat (first | (with_reducible first | exact HB.out | apply below_alloc | apply pw_below_drewN | apply below_drew1 | refine below_set ?_ GE106.out | refine below_set ?_ GE107.out) | exact HB.out)) hb); clear BK106; clear BK107; clear HB; have HO110 := n0_; have BK106 := n1_; have BK107 := n2_; have HB := n3_; clear n0_ n1_ n2_ n3_; (try clear hb); (try clear hb2); (try clear hk); (try clear hi); (try clear ho0); obtain ⟨Ao41, co41, eo41⟩ := Kd.R_slice HO110.out; subst eo41) | ((with_reducible refine gate_callee (f := 20) rfl ?_); refine goesL_ (some 11) rfl rfl Try.func20 (by kernel_rfl) rfl #[.slice Ao41 t108.length co41] rfl (by (try simp only [List.map_toArray, List.map_cons, List.map_nil]); first | done | rfl | (simp only [List.length_drop, List.length_take]; rfl)) ?_; (with_reducible refine (epactref14_Pool.calls _ _ t108 t111 t112 false _ ?side1 ?side2 A3.out).mono ?_); (case side1 => repeat (first | exact (Kd.R_reads' HO110.out).2.2 | (with_reducible refine Kd.C_alloc ?_ _) | (with_reducible refine Kd.C_drewN ?_ _) | (with_reducible refine Kd.C_drew ?_))); (case side2 => exact (Kd.R_reads' HO110.out).2.1); rintro e w42 ⟨v114, rfl, ho0, hb⟩; refine ⟨_, rfl, ?_⟩; have n0_ := Aside0.mk (Kd.R_below (by (with_reducible repeat (first | apply Kd.R_alloc | apply Kd.R_drewN | apply Kd.R_drew)); exact HO110.out) hb); have n1_ := Aside0.mk (Kd.R_lower ho0 (below_size (by repeat (first | (with_reducible first | exact HB.out | apply below_alloc | apply pw_below_drewN | apply below_drew1 | refine below_set ?_ GE106.out | refine below_set ?_ GE107.out) | exact HB.out)))); have n2_ := Aside0.mk (blk_below (g := gb106) (o := .cells #[.slice A0_0 l0_0.length c0_0, .slice A0_1 l0_1.length c0_1, .slice A0_2 l0_2.length c0_2, .string a0_3, .int .i64 a0_4] 26 (0, 0)) (by (with_reducible repeat (first | refine blk_drewN ?_ _ | refine blk_drew ?_ | refine blk_alloc ?_ _)); exact BK106.out) hb); have n3_ := Aside0.mk (blk_below (g := gb107) (o := .cells #[.int .i64 0, .int .i64 0, .int .i64 0, .int .i64 0, .int .i64 0, .int .i64 0, .int .i64 0] 28 (0, 0)) (by (with_reducible repeat (first | refine blk_drewN ?_ _ | refine blk_drew ?_ | refine blk_alloc ?_ _)); exact BK107.out) hb); have n4_ := Aside0.mk (below_step (by repeat (first | (with_reducible first | exact HB.out | apply below_alloc | apply pw_below_drewN | apply below_drew1 | refine below_set ?_ GE106.out | refine below_set ?_ GE107.out) | exact HB.out)) hb); clear HO110; clear BK106; clear BK107; clear HB; have HO110 := n0_; have HO115 := n1_; have BK106 := n2_; have BK107 := n3_; have HB := n4_; clear n0_ n1_ n2_ n3_ n4_; (try clear hb); (try clear hb2); (try clear hk); (try clear hi); (try clear ho0); have hcz43_0 : w42.cell? ⟨gb106, 0, none⟩ = some (.slice A0_0 l0_0.length c0_0) := (blk_cell BK106.out 0).trans rfl; have hcz43_1 : w42.cell? ⟨gb106, 1, none⟩ = some (.slice A0_1 l0_1.length c0_1) := (blk_cell BK106.out 1).trans rfl; have hcz43_2 : w42.cell? ⟨gb106, 2, none⟩ = some (.slice A0_2 l0_2.length c0_2) := (blk_cell BK106.out 2).trans rfl; have hcz43_3 : w42.cell? ⟨gb106, 3, none⟩ = some (.string a0_3) := (blk_cell BK106.out 3).trans rfl; have hcz43_4 : w42.cell? ⟨gb106, 4, none⟩ = some (.int .i64 a0_4) := (blk_cell BK106.out 4).trans rfl; have hfz43_0 := blk_frozen BK106.out 0; have hfz43_1 := blk_frozen BK106.out 1; have hfz43_2 := blk_frozen BK106.out 2; have hfz43_3 := blk_frozen BK106.out 3; have hfz43_4 := blk_frozen BK106.out 4) | ((with_reducible refine gate_dst (N := 7) rfl ?_); refine box_event ?hg (N := 7) ?hd (cs := #[.int .i64 0, .int .i64 0, .int .i64 0, .int .i64 0, .int .i64 0, .int .i64 0, .int .i64 0]) (t := 28) ?hr ?_; (case hd => rfl); (case hg => rfl); (case hr => first | (go_simp; done) | (go_simp; rfl)); intro gb116 hg w44 hbox hb; have n0_ := Aside0.mk (Kd.R_below (by (with_reducible repeat (first | apply Kd.R_alloc | apply Kd.R_drewN | apply Kd.R_drew)); exact HO110.out) hb); have n1_ := Aside0.mk (Kd.R_below (by (with_reducible repeat (first | apply Kd.R_alloc | apply Kd.R_drewN | apply Kd.R_drew)); exact HO115.out) hb); have n2_ := Aside0.mk (blk_below (g := gb106) (o := .cells #[.slice A0_0 l0_0.length c0_0, .slice A0_1 l0_1.length c0_1, .slice A0_2 l0_2.length c0_2, .string a0_3, .int .i64 a0_4] 26 (0, 0)) (by (with_reducible repeat (first | refine blk_drewN ?_ _ | refine blk_drew ?_ | refine blk_alloc ?_ _)); exact BK106.out) hb); have n3_ := Aside0.mk (blk_below (g := gb107) (o := .cells #[.int .i64 0, .int .i64 0, .int .i64 0, .int .i64 0, .int .i64 0, .int .i64 0, .int .i64 0] 28 (0, 0)) (by (with_reducible repeat (first | refine blk_drewN ?_ _ | refine blk_drew ?_ | refine blk_alloc ?_ _)); exact BK107.out) hb); have n4_ := Aside0.mk (below_step (by repeat (first | (with_reducible first | exact HB.out | apply below_alloc | apply pw_below_drewN | apply below_drew1 | refine below_set ?_ GE106.out | refine below_set ?_ GE107.out) | exact HB.out)) hb); have n5_ := Aside0.mk (hbox); have n6_ := Aside0.mk ((by rw [hg]; exact (below_size (by repeat (first | (with_reducible first | exact HB.out | apply below_alloc | apply pw_below_drewN | apply below_drew1 | refine below_set ?_ GE106.out | refine below_set ?_ GE107.out) | exact HB.out))) : w.heap.size ≤ gb116)); have n7_ := Aside0.mk ((by rw [hg]; exact (below_size (by repeat (first | (with_reducible first | exact HB.out | apply below_alloc | apply pw_below_drewN | apply below_drew1 | refine below_set ?_ GE106.out | refine below_set ?_ GE107.out) | exact HB.out))) : w.heap.size ≤ gb116)); have n8_ := Aside0.mk ((by rw [hg]; exact Nat.ne_of_lt (blk_lt (g := gb106) (o := .cells #[.slice A0_0 l0_0.length c0_0, .slice A0_1 l0_1.length c0_1, .slice A0_2 l0_2.length c0_2, .string a0_3, .int .i64 a0_4] 26 (0, 0)) (by (with_reducible repeat (first | refine blk_drewN ?_ _ | refine blk_drew ?_ | refine blk_alloc ?_ _)); exact BK106.out)) : gb106 ≠ gb116)); have n9_ := Aside0.mk ((by rw [hg]; exact Nat.ne_of_gt (blk_lt (g := gb106) (o := .cells #[.slice A0_0 l0_0.length c0_0, .slice A0_1 l0_1.length c0_1, .slice A0_2 l0_2.length c0_2, .string a0_3, .int .i64 a0_4] 26 (0, 0)) (by (with_reducible repeat (first | refine blk_drewN ?_ _ | refine blk_drew ?_ | refine blk_alloc ?_ _)); exact BK106.out)) : gb116 ≠ gb106)); have n10_ := Aside0.mk ((by rw [hg]; exact Nat.ne_of_lt (blk_lt (g := gb107) (o := .cells #[.int .i64 0, .int .i64 0, .int .i64 0, .int .i64 0, .int .i64 0, .int .i64 0, .int .i64 0] 28 (0, 0)) (by (with_reducible repeat (first | refine blk_drewN ?_ _ | refine blk_drew ?_ | refine blk_alloc ?_ _)); exact BK107.out)) : gb107 ≠ gb116)); have n11_ := Aside0.mk ((by rw [hg]; exact Nat.ne_of_gt (blk_lt (g := gb107) (o := .cells #[.int .i64 0, .int .i64 0, .int .i64 0, .int .i64 0, .int .i64 0, .int .i64 0, .int .i64 0] 28 (0, 0)) (by (with_reducible repeat (first | refine blk_drewN ?_ _ | refine blk_drew ?_ | refine blk_alloc ?_ _)); exact BK107.out)) : gb116 ≠ gb107)); clear HO110; clear HO115; clear BK106; clear BK107; clear HB; have HO110 := n0_; have HO115 := n1_; have BK106 := n2_; have BK107 := n3_; have HB := n4_; have BK116 := n5_; have GW116 := n6_; have GE116 := n7_; have NB106_116 := n8_; have NB116_106 := n9_; have NB107_116 := n10_; have NB116_107 := n11_; clear n0_ n1_ n2_ n3_ n4_ n5_ n6_ n7_ n8_ n9_ n10_ n11_; clear hb hbox hg; have hnb45 := NB116_106.out; have hnc45 := NB106_116.out; have hnb46 := NB116_107.out; have hnc46 := NB107_116.out; have hcz47_0 : w44.cell? ⟨gb116, 0, none⟩ = some (.int .i64 0) := (blk_cell BK116.out 0).trans rfl; have hcz47_1 : w44.cell? ⟨gb116, 1, none⟩ = some (.int .i64 0) := (blk_cell BK116.out 1).trans rfl; have hcz47_2 : w44.cell? ⟨gb116, 2, none⟩ = some (.int .i64 0) := (blk_cell BK116.out 2).trans rfl; have hcz47_3 : w44.cell? ⟨gb116, 3, none⟩ = some (.int .i64 0) := (blk_cell BK116.out 3).trans rfl; have hcz47_4 : w44.cell? ⟨gb116, 4, none⟩ = some (.int .i64 0) := (blk_cell BK116.out 4).trans rfl; have hcz47_5 : w44.cell? ⟨gb116, 5, none⟩ = some (.int .i64 0) := (blk_cell BK116.out 5).trans rfl; have hcz47_6 : w44.cell? ⟨gb116, 6, none⟩ = some (.int .i64 0) := (blk_cell BK116.out 6).trans rfl; have hfz47_0 := blk_frozen BK116.out 0; have hfz47_1 := blk_frozen BK116.out 1; have hfz47_2 := blk_frozen BK116.out 2; have hfz47_3 := blk_frozen BK116.out 3; have hfz47_4 := blk_frozen BK116.out 4; have hfz47_5 := blk_frozen BK116.out 5; have hfz47_6 := blk_frozen BK116.out 6; have hcz48_0 : w44.cell? ⟨gb107, 0, none⟩ = some (.int .i64 0) := (blk_cell BK107.out 0).trans rfl; have hcz48_1 : w44.cell? ⟨gb107, 1, none⟩ = some (.int .i64 0) := (blk_cell BK107.out 1).trans rfl; have hcz48_2 : w44.cell? ⟨gb107, 2, none⟩ = some (.int .i64 0) := (blk_cell BK107.out 2).trans rfl; have hcz48_3 : w44.cell? ⟨gb107, 3, none⟩ = some (.int .i64 0) := (blk_cell BK107.out 3).trans rfl; have hcz48_4 : w44.cell? ⟨gb107, 4, none⟩ = some (.int .i64 0) := (blk_cell BK107.out 4).trans rfl; have hcz48_5 : w44.cell? ⟨gb107, 5, none⟩ = some (.int .i64 0) := (blk_cell BK107.out 5).trans rfl; have hcz48_6 : w44.cell? ⟨gb107, 6, none⟩ = some (.int .i64 0) := (blk_cell BK107.out 6).trans rfl; have hfz48_0 := blk_frozen BK107.out 0; have hfz48_1 := blk_frozen BK107.out 1; have hfz48_2 := blk_frozen BK107.out 2; have hfz48_3 := blk_frozen BK107.out 3; have hfz48_4 := blk_frozen BK107.out 4; have hfz48_5 := blk_frozen BK107.out 5; have hfz48_6 := blk_frozen BK107.out 6))
  refine bodyPost_ret (results_ct rfl _ _ gb107 28 #[.int .i64 0, .int .i64 0, .int .i64 0, .int .i64 0, .int .i64 0, .int .i64 0, .int .i64 0] (0, 0) _ rfl (by (with_reducible repeat (first | refine blk_drewN ?_ _ | refine blk_drew ?_ | refine blk_alloc ?_ _)); refine blk_put (cs := #[.int .i64 0, .int .i64 0, .int .i64 0, .int .i64 0, .int .i64 0, .int .i64 0, .int .i64 0]) ?_ 6 _ rfl; (with_reducible repeat (first | refine blk_drewN ?_ _ | refine blk_drew ?_ | refine blk_alloc ?_ _)); refine blk_put (cs := #[.int .i64 0, .int .i64 0, .int .i64 0, .int .i64 0, .int .i64 0, .int .i64 0, .int .i64 0]) ?_ 5 _ rfl; (with_reducible repeat (first | refine blk_drewN ?_ _ | refine blk_drew ?_ | refine blk_alloc ?_ _)); refine blk_put (cs := #[.int .i64 0, .int .i64 0, .int .i64 0, .int .i64 0, .int .i64 0, .int .i64 0, .int .i64 0]) ?_ 4 _ rfl; (with_reducible repeat (first | refine blk_drewN ?_ _ | refine blk_drew ?_ | refine blk_alloc ?_ _)); refine blk_put (cs := #[.int .i64 0, .int .i64 0, .int .i64 0, .int .i64 0, .int .i64 0, .int .i64 0, .int .i64 0]) ?_ 3 _ rfl; (with_reducible repeat (first | refine blk_drewN ?_ _ | refine blk_drew ?_ | refine blk_alloc ?_ _)); refine blk_put (cs := #[.int .i64 0, .int .i64 0, .int .i64 0, .int .i64 0, .int .i64 0, .int .i64 0, .int .i64 0]) ?_ 2 _ rfl; (with_reducible repeat (first | refine blk_drewN ?_ _ | refine blk_drew ?_ | refine blk_alloc ?_ _)); refine blk_put (cs := #[.int .i64 0, .int .i64 0, .int .i64 0, .int .i64 0, .int .i64 0, .int .i64 0, .int .i64 0]) ?_ 1 _ rfl; (with_reducible repeat (first | refine blk_drewN ?_ _ | refine blk_drew ?_ | refine blk_alloc ?_ _)); refine blk_put (cs := #[.int .i64 0, .int .i64 0, .int .i64 0, .int .i64 0, .int .i64 0, .int .i64 0, .int .i64 0]) ?_ 0 _ rfl; (with_reducible repeat (first | refine blk_drewN ?_ _ | refine blk_drew ?_ | refine blk_alloc ?_ _)); refine blk_far ?_ NB107_116.out _; (with_reducible repeat (first | refine blk_drewN ?_ _ | refine blk_drew ?_ | refine blk_alloc ?_ _)); refine blk_far ?_ NB107_116.out _; (with_reducible repeat (first | refine blk_drewN ?_ _ | refine blk_drew ?_ | refine blk_alloc ?_ _)); refine blk_far ?_ NB107_116.out _; (with_reducible repeat (first | refine blk_drewN ?_ _ | refine blk_drew ?_ | refine blk_alloc ?_ _)); refine blk_far ?_ NB107_116.out _; (with_reducible repeat (first | refine blk_drewN ?_ _ | refine blk_drew ?_ | refine blk_alloc ?_ _)); refine blk_far ?_ NB107_116.out _; (with_reducible repeat (first | refine blk_drewN ?_ _ | refine blk_drew ?_ | refine blk_alloc ?_ _)); refine blk_far ?_ NB107_116.out _; (with_reducible repeat (first | refine blk_drewN ?_ _ | refine blk_drew ?_ | refine blk_alloc ?_ _)); refine blk_far ?_ NB107_116.out _; (with_reducible repeat (first | refine blk_drewN ?_ _ | refine blk_drew ?_ | refine blk_alloc ?_ _)); exact BK107.out) Try.underlying28 rfl (by kernel_rfl)) rfl ?_
  exact ⟨by first | rfl | (simp [errW_none, errW_some] <;> rfl) | (simp [*, errW_none, errW_some] <;> rfl), by repeat (first | (with_reducible first | exact HB.out | apply below_alloc | apply pw_below_drewN | apply below_drew1 | refine below_set ?_ GE106.out | refine below_set ?_ GE107.out | refine below_set ?_ GE116.out) | exact HB.out)⟩
end Go.Proofs.Ytpgjcnjojfehjaa.PRCnt
namespace Go.Proofs.Ytpgjcnjojfehjaa.Bk
open Go.RowKit Go.Proofs.YtpgjcnjojfehjaaW.PrintWords Go.Proofs.YtpgjcnjojfehjaaW.PrintLast Go.Proofs.YtpgjcnjojfehjaaW.PrintMore Ab Kx Oct AbT
theorem rnames_ev (ty : List S46) (tr : List S48) (lp : List S50) (foot : ByteArray) (ver : Int) (hl : ty.length ≤ 100) :
  ∀ d i : Nat, i + d = ty.length → Evr (fun k => PRCnt.epactref16_names.l0 k (namesL (ty.take i)) (i : Int) ty tr lp foot ver) (namesL ty)
 | 0, i, h => by
  refine Evr.now fun k => ?_
  rw [PRCnt.epactref16_names.l0, if_neg (by omega), List.take_of_length_le (by omega)]
 | d + 1, i, h => by
  refine Evr.step (rnames_ev ty tr lp foot ver hl d (i + 1) (by omega)) fun k => ?_
  rw [PRCnt.epactref16_names.l0, if_pos (by omega), if_pos (by omega), if_pos (by unfold namesL; rw [List.length_map, List.length_take]; omega), names_take (by omega), next_i (by omega)]
theorem rcount_ev (ty : List S46) (tr : List S48) (lp : List S50) (foot : ByteArray) (ver : Int) (ho : okZ ty tr lp = true) : Evr (fun k => PRCnt.epactref16_Count.f k ty tr lp foot ver) (countN ty tr lp ver) := by
 obtain ⟨h1, h2, h3, h4⟩ := okZ_out ho
 have hp : Evr (fun k => PRCnt.epactref16_names.f k ty tr lp foot ver) (namesL ty) := rnames_ev ty tr lp foot ver h1 ty.length 0 (by omega)
 refine Evr.bind hp ⟨0, fun k _ => ?_⟩
 unfold countN PRCnt.epactref15_Right.f PRCnt.epactref14_Pool.f
 rw [rpoolF_some (by unfold namesL; rw [List.length_map]; exact h1) h4, Option.bind_some]
 cases (poolT (namesL ty)).2.2 with
 | false => rfl
 | true =>
  simp only [if_true, Option.bind_some, Bool.true_and]
  cases rightS ver 0 0 lp.length tr.length ty.length (poolT (namesL ty)).1.size <;> rfl
section
variable (A0_0 : Option Addr) (c0_0 : Nat) (l0_0 : List S46) (A0_1 : Option Addr) (c0_1 : Nat) (l0_1 : List S48) (A0_2 : Option Addr) (c0_2 : Nat) (l0_2 : List S50) (a0_3 : ByteArray) (a0_4 : Int) (r1 r2 r3 r4 r5 r6 r7 : Int) (r8 : Bool) (w : World)
 (hr0_0 : Kd.C k46 w A0_0 l0_0.length l0_0) (hc0_0 : l0_0.length ≤ c0_0) (hr0_1 : Kd.C k48 w A0_1 l0_1.length l0_1) (hc0_1 : l0_1.length ≤ c0_1) (hr0_2 : Kd.C k50 w A0_2 l0_2.length l0_2) (hc0_2 : l0_2.length ≤ c0_2)
include hr0_0 hc0_0 hr0_1 hc0_1 hr0_2 hc0_2
theorem rcount_is (h : countF l0_0 l0_1 l0_2 a0_3 a0_4 = some (r1, r2, r3, r4, r5, r6, r7, r8)) :
  Calls Try.prog 11 #[.agg #[.slice A0_0 l0_0.length c0_0, .slice A0_1 l0_1.length c0_1, .slice A0_2 l0_2.length c0_2, .string a0_3, .int .i64 a0_4]] w fun e w' => e = .returned (.tuple #[.agg #[.int .i64 r1, .int .i64 r2, .int .i64 r3, .int .i64 r4, .int .i64 r5, .int .i64 r6, .int .i64 r7], .bool r8]) ∧ Below w.heap.size w w' := by
 obtain ⟨ho, hn⟩ := countF_out h
 obtain ⟨k, hk⟩ := (rcount_ev l0_0 l0_1 l0_2 a0_3 a0_4 ho).get
 exact PRCnt.epactref16_Count.calls k A0_0 c0_0 l0_0 A0_1 c0_1 l0_1 A0_2 c0_2 l0_2 a0_3 a0_4 r1 r2 r3 r4 r5 r6 r7 r8 w hr0_0 hc0_0 hr0_1 hc0_1 hr0_2 hc0_2 (hk.trans (congrArg some hn))
theorem rnames_is (hl : l0_0.length ≤ 100) :
  Calls Try.prog 21 #[.agg #[.slice A0_0 l0_0.length c0_0, .slice A0_1 l0_1.length c0_1, .slice A0_2 l0_2.length c0_2, .string a0_3, .int .i64 a0_4]] w fun e w' => ∃ v0_ : Value, e = .returned v0_ ∧ Kd.R Kd.string 9 w' w.heap.size (fun _ => True) v0_ (namesL l0_0) ∧ Below w.heap.size w w' := by
 obtain ⟨k, hk⟩ := (rnames_ev l0_0 l0_1 l0_2 a0_3 a0_4 hl l0_0.length 0 (by omega)).get
 exact PRCnt.epactref16_names.calls k A0_0 c0_0 l0_0 A0_1 c0_1 l0_1 A0_2 c0_2 l0_2 a0_3 a0_4 _ w hr0_0 hc0_0 hr0_1 hc0_1 hr0_2 hc0_2 hk
end
end Go.Proofs.Ytpgjcnjojfehjaa.Bk
namespace Go.Proofs.Ytpgjcnjojfehjaa.Oct.Ref
open Go.RowKit Go.Proofs.YtpgjcnjojfehjaaW.PrintWords Go.Proofs.YtpgjcnjojfehjaaW.PrintLast Go.Proofs.YtpgjcnjojfehjaaW.PrintMore Go.Proofs.Ytpgjcnjojfehjaa.Oct
set_option maxHeartbeats 1000000 in
theorem fits_calls (W : World) (n size : Int) :
  Calls Try.prog 43 #[.int .i64 n, .int .i64 size] W fun e w' => e = .returned (.bool (mayS n size)) ∧ w' = W := by
 by_cases h1 : size = 1
 ·subst h1
  by_cases hn0 : 0 ≤ n
  ·by_cases hn : n ≤ 255
   ·have e1 : mayS n 1 = true := by unfold mayS; simp; omega
    rw [e1]
    clear e1
    go_enter Try.func43, Try.ntmps43
    go_wp2
    go_ret
    exact ⟨rfl, rfl⟩
   ·have e1 : mayS n 1 = false := by unfold mayS; simp; omega
    rw [e1]
    clear e1
    go_enter Try.func43, Try.ntmps43
    go_wp2
    go_ret
    exact ⟨rfl, rfl⟩
  ·have e1 : mayS n 1 = false := by unfold mayS; simp; omega
   rw [e1]
   clear e1
   go_enter Try.func43, Try.ntmps43
   go_wp2
   go_ret
   exact ⟨rfl, rfl⟩
 by_cases h4 : size = 4
 ·subst h4
  by_cases hn0 : -2147483648 ≤ n
  ·by_cases hn : n < 2147483648
   ·have e1 : mayS n 4 = true := by unfold mayS; simp; omega
    rw [e1]
    clear e1
    go_enter Try.func43, Try.ntmps43
    go_wp2
    go_ret
    exact ⟨rfl, rfl⟩
   ·have e1 : mayS n 4 = false := by unfold mayS; simp; omega
    rw [e1]
    clear e1
    go_enter Try.func43, Try.ntmps43
    go_wp2
    go_ret
    exact ⟨rfl, rfl⟩
  ·have e1 : mayS n 4 = false := by unfold mayS; simp; omega
   rw [e1]
   clear e1
   go_enter Try.func43, Try.ntmps43
   go_wp2
   go_ret
   exact ⟨rfl, rfl⟩
 by_cases h8 : size = 8
 ·subst h8
  have e1 : mayS n 8 = true := by unfold mayS; simp
  rw [e1]
  clear e1
  go_enter Try.func43, Try.ntmps43
  go_wp2
  go_ret
  exact ⟨rfl, rfl⟩
 have hs : mayS n size = false := decide_eq_false (by omega)
 rw [hs]
 have b1 : (size == 1) = false := beq_eq_false_iff_ne.2 h1
 have b4 : (size == 4) = false := beq_eq_false_iff_ne.2 h4
 have b8 : (size == 8) = false := beq_eq_false_iff_ne.2 h8
 clear hs h1 h4 h8
 go_enter Try.func43, Try.ntmps43
 go_wp2
 go_ret
 exact ⟨rfl, rfl⟩
set_option maxHeartbeats 2000000 in
theorem put_yes (A : Option Addr) (c : Nat) (l : List Int) (n size : Int) (w : World) (hr : Kd.C (Kd.int .u8) w A l.length l) (hl : l.length ≤ 140737488355320) (hm : mayS n size = true) :
  Calls Try.prog 25 #[.slice A l.length c, .int .i64 n, .int .i64 size] w fun e w' => ∃ v, e = .returned (.tuple #[v, .bool true]) ∧ Kd.R (Kd.int .u8) 5 w' w.heap.size (fun _ => True) v (l ++ bytesS n size.toNat) ∧ Below w.heap.size w w' := by
 obtain ⟨hs1, hs8⟩ := mayS_size hm
 obtain ⟨z, rfl⟩ := Int.eq_ofNat_of_zero_le (by omega : 0 ≤ size)
 rw [Int.toNat_natCast]
 have HR := Aside0.mk hr
 have HL := Aside0.mk hl
 have HM := Aside0.mk hm
 clear hr hl hm
 go_enter Try.func25, Try.ntmps25
 go_wp2_with (first
  | ((with_reducible refine gate_dst (N := 10) rfl ?_); refine Kd.R_lit (Kd.int .u8) _ 5 ?hg (N := 10) ?hd (xs := ([] : List Int)) (inner := []) (ok := fun _ => True) (okp := fun _ => True) ?hr ?hp (fun _ hk => hk) trivial (Below.refl _ _) (Nat.le_refl _) (by simp) ?_; (case hd => rfl); (case hg => rfl); (case hr => first | (go_simp; done) | (go_simp; rfl)); (case hp => exact (Reps.none _ _)); intro v1 w1 ho hbl hg_ hnew_; clear hg_ hnew_; have HO1 := Aside0.mk ho; have HB1 := Aside0.mk hbl; clear ho hbl)
  | ((with_reducible refine gate_builtin (b := .append) (xs := #[.tmp 10, .tmp 11]) rfl ?_); at_builtin; refine Kd.R_append_rows (Kd.int .u8) (w0 := w) w.heap.size rfl (.tmp 10) (.tmp 11) 29 5 (.int .u8 0) 1 rfl Try.underlying29 info5 rfl (by decide) (by omega) v1 [] l _ _ _ (fun _ => True) (fun _ => False) rfl rfl HO1.out ?aR (fun _ _ h => h) (fun _ h => h.elim) (fun _ _ => trivial) HB1.out (below_size HB1.out) ?aL ?_; (case aR => exact Kd.C_below HR.out HB1.out); (case aL => have := HL.out; simp; omega); intro v w1 ho2 hb2 hg2 hat2; have HV := Aside0.mk ho2; have HB := Aside0.mk hb2; clear ho2 hb2 hg2 hat2))
 refine (fits_calls w1 n z).mono ?_
 rintro e w2 ⟨rfl, rfl⟩
 rw [HM.out]
 go_wp2
 go_loopw [8, 9] (fun v k wr => ∃ (j : Nat) (pre : List Int), j ≤ z ∧ k = .int .i64 ((j : Int) - 1) ∧ Aside0 (pre ++ bytesS n j = l ++ bytesS n z) ∧ Aside0 (Kd.R (Kd.int .u8) 5 wr w.heap.size (fun _ => True) v pre) ∧ Aside0 (Below w.heap.size w wr)) (fun _ k _ => (intOf k + 1).toNat)
 case atStart => exact ⟨z, l, Nat.le_refl _, rfl, ⟨rfl⟩, HV, HB⟩
 case round =>
  obtain ⟨j, pre, hj, rfl, HE, HO, HB2⟩ := hrel
  clear HV HB
  have HLP : Aside0 (pre.length ≤ 140737488355328) := ⟨by
   have h1 := congrArg List.length HE.out
   rw [List.length_append, List.length_append, bytesS_length, bytesS_length] at h1
   have := HL.out; omega⟩
  cases j with
  | zero =>
   have HF : Aside0 (pre = l ++ bytesS n z) := ⟨by have h1 := HE.out; simpa [bytesS] using h1⟩
   go_wp2
   go_ret2
   exact ⟨_, rfl, by rw [← HF.out]; exact HO.out, HB2.out⟩
  | succ m =>
   have HLQ : Aside0 (pre.length + 1 ≤ 140737488355328) := ⟨by
    have h1 := congrArg List.length HE.out
    rw [List.length_append, List.length_append, bytesS_length, bytesS_length] at h1
    have := HL.out; omega⟩
   have hm8 : m < 8 := by omega
   go_wp2_with (first
    | ((with_reducible refine gate_builtin (b := .append) (xs := #[.tmp 24, .tmp 30]) rfl ?_); at_builtin; refine Kd.R_append (Kd.int .u8) (w0 := w) w.heap.size rfl (.tmp 24) (.tmp 30) 29 5 (.int .u8 0) 1 rfl Try.underlying29 info5 rfl (by decide) (by omega) u8 pre _ [.int .u8 _] (fun _ => True) (fun _ => False) rfl rfl rfl (fun _ hk => hk.elim) (fun _ _ => trivial) HO.out HB2.out (below_size HB2.out) (by have := HLQ.out; omega) ?_; intro v2 w2 ho hb hg hat; have HO2 := Aside0.mk ho; have HB3 := Aside0.mk hb; clear ho hb hg hat))
   exact ⟨⟨m, _, by omega, rfl, ⟨by rw [← HE.out]; simp [bytesS]⟩, HO2, HB3⟩, by simp [intOf]⟩
set_option maxHeartbeats 1000000 in
theorem put_no (A : Option Addr) (c : Nat) (l : List Int) (n size : Int) (w : World) (hr : Kd.C (Kd.int .u8) w A l.length l) (hl : l.length ≤ 140737488355320) (hm : mayS n size = false) :
  Calls Try.prog 25 #[.slice A l.length c, .int .i64 n, .int .i64 size] w fun e w' => ∃ v, e = .returned (.tuple #[v, .bool false]) ∧ Kd.R (Kd.int .u8) 5 w' w.heap.size (fun _ => True) v l ∧ Below w.heap.size w w' := by
 have HR := Aside0.mk hr
 have HL := Aside0.mk hl
 have HM := Aside0.mk hm
 clear hr hl hm
 go_enter Try.func25, Try.ntmps25
 go_wp2_with (first
  | ((with_reducible refine gate_dst (N := 10) rfl ?_); refine Kd.R_lit (Kd.int .u8) _ 5 ?hg (N := 10) ?hd (xs := ([] : List Int)) (inner := []) (ok := fun _ => True) (okp := fun _ => True) ?hr ?hp (fun _ hk => hk) trivial (Below.refl _ _) (Nat.le_refl _) (by simp) ?_; (case hd => rfl); (case hg => rfl); (case hr => first | (go_simp; done) | (go_simp; rfl)); (case hp => exact (Reps.none _ _)); intro v1 w1 ho hbl hg_ hnew_; clear hg_ hnew_; have HO1 := Aside0.mk ho; have HB1 := Aside0.mk hbl; clear ho hbl)
  | ((with_reducible refine gate_builtin (b := .append) (xs := #[.tmp 10, .tmp 11]) rfl ?_); at_builtin; refine Kd.R_append_rows (Kd.int .u8) (w0 := w) w.heap.size rfl (.tmp 10) (.tmp 11) 29 5 (.int .u8 0) 1 rfl Try.underlying29 info5 rfl (by decide) (by omega) v1 [] l _ _ _ (fun _ => True) (fun _ => False) rfl rfl HO1.out ?aR (fun _ _ h => h) (fun _ h => h.elim) (fun _ _ => trivial) HB1.out (below_size HB1.out) ?aL ?_; (case aR => exact Kd.C_below HR.out HB1.out); (case aL => have := HL.out; simp; omega); intro v w1 ho2 hb2 hg2 hat2; have HV := Aside0.mk ho2; have HB := Aside0.mk hb2; clear ho2 hb2 hg2 hat2))
 refine (fits_calls w1 n size).mono ?_
 rintro e w2 ⟨rfl, rfl⟩
 rw [HM.out]
 go_wp2
 go_ret2
 exact ⟨_, rfl, HV.out, HB.out⟩
theorem put_calls (A : Option Addr) (c : Nat) (l : List Int) (n size : Int) (w : World) (hr : Kd.C (Kd.int .u8) w A l.length l) (hl : l.length ≤ 140737488355320) :
  Calls Try.prog 25 #[.slice A l.length c, .int .i64 n, .int .i64 size] w fun e w' => ∃ v, e = .returned (.tuple #[v, .bool (putS l n size).2]) ∧ Kd.R (Kd.int .u8) 5 w' w.heap.size (fun _ => True) v (putS l n size).1 ∧ Below w.heap.size w w' := by
 unfold putS
 by_cases hm : mayS n size = true
 ·rw [if_pos hm]; exact put_yes A c l n size w hr hl hm
 ·rw [if_neg hm]; exact put_no A c l n size w hr hl (Bool.eq_false_iff.mpr hm)
end Go.Proofs.Ytpgjcnjojfehjaa.Oct.Ref
namespace Go.Proofs.Ytpgjcnjojfehjaa.Bk
open Go.RowKit Go.Proofs.YtpgjcnjojfehjaaW.PrintWords Go.Proofs.YtpgjcnjojfehjaaW.PrintLast Go.Proofs.YtpgjcnjojfehjaaW.PrintMore Oct Kx Ab AbT
theorem renc_no {ty : List S46} {tr : List S48} {lp : List S50} {ver size : Int} (hc : (countN ty tr lp ver).2.2.2.2.2.2.2 = false ∨ ¬ (size = 4 ∨ size = 8)) : encN ty tr lp ver size = ([], false) := by
 unfold encN encG
 rcases hc with h | h
 ·rw [h]; rfl
 ·rw [decide_eq_false h, Bool.and_false]; rfl
structure RE (wS wr : World) (vo : Value) (L : List Int) : Prop where
 below : Below wS.heap.size wS wr
 out : Kd.R (Kd.int .u8) 5 wr wS.heap.size (fun _ => True) vo L
theorem RE.start (wS : World) : RE wS wS (.slice none 0 0) [] := ⟨Below.refl _ _, Kd.R_nil _ _ _ _ _⟩
theorem RE.step {wS wr w1 : World} {vo : Value} {L : List Int} (h : RE wS wr vo L) (hb : Below wr.heap.size wr w1) : RE wS w1 vo L := ⟨below_step h.below hb, Kd.R_below h.out hb⟩
theorem RE.put {wS wr w1 : World} {vo v1 : Value} {L L1 : List Int} (h : RE wS wr vo L) (hv : Kd.R (Kd.int .u8) 5 w1 wr.heap.size (fun _ => True) v1 L1) (hb : Below wr.heap.size wr w1) : RE wS w1 v1 L1 := ⟨below_step h.below hb, Kd.R_lower hv h.below.size⟩
theorem putS_app (L : List Int) (n size : Int) : putS L n size = (L ++ lay [(n, size)], fit [(n, size)]) := by
 rw [lay_one, fit_one]
 unfold putS
 split <;> simp
theorem rput_is {wS wr : World} {Ao : Option Addr} {co : Nat} {L : List Int} (n size : Int) (h : RE wS wr (.slice Ao L.length co) L) (hl : L.length ≤ 1000000) :
  Calls Try.prog 25 #[.slice Ao L.length co, .int .i64 n, .int .i64 size] wr fun e w' => ∃ v, e = .returned (.tuple #[v, .bool (fit [(n, size)])]) ∧ RE wS w' v (L ++ lay [(n, size)]) ∧ Below wr.heap.size wr w' := by
 have h1 := Oct.Ref.put_calls Ao co L n size wr (Kd.R_reads' h.out).2.2 (by omega)
 rw [putS_app] at h1
 refine h1.mono ?_
 rintro e w' ⟨v, rfl, hv, hb⟩
 exact ⟨v, rfl, h.put hv hb, hb⟩
theorem lay_snoc (L : List Int) (ns : List (Int × Int)) (p : Int × Int) : L ++ lay ns ++ lay [p] = L ++ lay (ns ++ [p]) := by rw [lay_app, List.append_assoc]
theorem RE.zero {wS wr : World} {vo : Value} {L : List Int} (h : RE wS wr vo L) : RE wS wr vo (L ++ lay []) := by
 rw [show lay [] = [] from rfl, List.append_nil]; exact h
theorem mk_one (b : Bool) : fit [(mk b, 1)] = true := by cases b <;> decide
theorem pool_of_count {ty : List S46} {tr : List S48} {lp : List S50} {ver : Int} (hc : (countN ty tr lp ver).2.2.2.2.2.2.2 = true) : (poolT (namesL ty)).2.2 = true := by
 unfold countN at hc
 cases hp : (poolT (namesL ty)).2.2 with
 | true => rfl
 | false => rw [hp] at hc; cases hc
theorem renc_yes {ty : List S46} {tr : List S48} {lp : List S50} {ver size : Int} (hc : (countN ty tr lp ver).2.2.2.2.2.2.2 = true) (hs : size = 4 ∨ size = 8) :
  encN ty tr lp ver size = match fit (numsT tr size) && fit (numsK tr) && fit (numsY ty (poolT (namesL ty)).2.1) && fit (numsL lp size) with | true => (lay (numsT tr size) ++ lay (numsK tr) ++ lay (numsY ty (poolT (namesL ty)).2.1) ++ bytesOf (poolT (namesL ty)).1 ++ lay (numsL lp size), true) | false => ([], false) := by
 unfold encN encG bodyN numsA
 rw [hc, decide_eq_true hs, fit_app, fit_app, lay_app, lay_app]
 simp only [Bool.true_and]
 cases fit (numsT tr size) && fit (numsK tr) && fit (numsY ty (poolT (namesL ty)).2.1) && fit (numsL lp size) <;> rfl
theorem upd0 {a fb g : Bool} (h : a = fb) : (a && g) = (fb && g) := by rw [h]
theorem upd1 {f a fb g : Bool} (h : (f && a) = fb) : (f && (a && g)) = (fb && g) := by rw [← h, Bool.and_assoc]
theorem lay_snoc1 (L : List Int) (ns : List (Int × Int)) (a : Int × Int) : L ++ lay (ns ++ [a]) = L ++ lay ns ++ lay [a] := (lay_snoc L ns a).symm
theorem lay_snoc2 (L : List Int) (ns : List (Int × Int)) (a b : Int × Int) : L ++ lay (ns ++ [a] ++ [b]) = L ++ lay ns ++ lay [a] ++ lay [b] := by rw [lay_snoc1, lay_snoc1]
theorem lay_snoc3 (L : List Int) (ns : List (Int × Int)) (a b c : Int × Int) : L ++ lay (ns ++ [a] ++ [b] ++ [c]) = L ++ lay ns ++ lay [a] ++ lay [b] ++ lay [c] := by rw [lay_snoc1, lay_snoc1, lay_snoc1]
theorem lay1_len (p : Int × Int) : (lay [p]).length ≤ 8 := lay_length [p]
set_option maxHeartbeats 4000000 in
set_option maxRecDepth 100000 in
theorem renc_false (A0 : Option Addr) (c0 : Nat) (ty : List S46) (A1 : Option Addr) (c1 : Nat) (tr : List S48) (A2 : Option Addr) (c2 : Nat) (lp : List S50) (foot : ByteArray) (ver : Int) (size : Int) (w : World)
  (i0 : ty.length ≤ c0) (i1 : tr.length ≤ c1) (i2 : lp.length ≤ c2) (j0 : Kd.C k46 w A0 ty.length ty) (j1 : Kd.C k48 w A1 tr.length tr) (j2 : Kd.C k50 w A2 lp.length lp) (hok : okZ ty tr lp = true) (hc : (countN ty tr lp ver).2.2.2.2.2.2.2 = false ∨ ¬ (size = 4 ∨ size = 8)) :
  Calls Try.prog 13 #[.agg #[.slice A0 ty.length c0, .slice A1 tr.length c1, .slice A2 lp.length c2, .string foot, .int .i64 ver], .int .i64 size] w fun e w' => ∃ v0_ : Value, e = .returned (.tuple #[v0_, .bool (encN ty tr lp ver size).2]) ∧ Kd.R (Kd.int .u8) 5 w' w.heap.size (fun _ => True) v0_ (encN ty tr lp ver size).1 ∧ Below w.heap.size w w' := by
 obtain ⟨n1, n2, n3, n4, n5, n6, n7, n8, hN⟩ : ∃ n1 n2 n3 n4 n5 n6 n7 n8, countN ty tr lp ver = (n1, n2, n3, n4, n5, n6, n7, n8) := ⟨_, _, _, _, _, _, _, _, rfl⟩
 have HCT := Aside0.mk (fun W j0 j1 j2 => rcount_is A0 c0 ty A1 c1 tr A2 c2 lp foot ver n1 n2 n3 n4 n5 n6 n7 n8 W j0 i0 j1 i1 j2 i2 (by unfold countF; rw [hok]; exact congrArg some hN))
 have hE : encN ty tr lp ver size = ([], false) := renc_no hc
 have hc2 : n8 = false ∨ ¬ (size = 4 ∨ size = 8) := by rw [hN] at hc; exact hc
 rw [hE]
 clear hc hE hN hok
 have HR0 := Aside0.mk j0
 have HR1 := Aside0.mk j1
 have HR2 := Aside0.mk j2
 go_enter Try.func13, Try.ntmps13
 have HB_0 := Aside0.mk (Below.refl w.heap.size w)
 go_wp2_with ((with_reducible refine gate_dst (N := 2) rfl ?_); refine box_event ?hg (N := 2) ?hd (cs := #[.slice A0 ty.length c0, .slice A1 tr.length c1, .slice A2 lp.length c2, .string foot, .int .i64 ver]) (t := 26) ?hr ?_; (case hd => rfl); (case hg => rfl); (case hr => first | (go_simp; done) | (go_simp; rfl)); intro gz hg_ w1 hbox hb_; have GZ : Aside0 (w.heap.size ≤ gz) := ⟨Nat.le_of_eq hg_.symm⟩; have HB_1 := Aside0.mk (below_step HB_0.out hb_); clear HB_0; have Z_1 := Aside0.mk (hbox); clear hbox hb_ hg_; obtain ⟨hz0, hz1, hz2, hz3, hz4⟩ := zone_cells Z_1.out)
 refine (HCT.out _ (Kd.C_below HR0.out HB_1.out) (Kd.C_below HR1.out HB_1.out) (Kd.C_below HR2.out HB_1.out)).mono ?_
 rintro e w2 ⟨rfl, hb_⟩
 have HB_2 := Aside0.mk (below_step HB_1.out hb_)
 have Z_2 := Aside0.mk (blk_below Z_1.out hb_)
 clear HB_1 Z_1
 clear hz0 hz1 hz2 hz3 hz4
 clear hb_ HCT
 go_upto_region 2 with ((with_reducible refine gate_dst (N := 6) rfl ?_); refine box_event ?hg (N := 6) ?hd (cs := #[.int .i64 0, .int .i64 0, .int .i64 0, .int .i64 0, .int .i64 0, .int .i64 0, .int .i64 0]) (t := 28) ?hr ?_; (case hd => rfl); (case hg => rfl); (case hr => first | (go_simp; done) | (go_simp; rfl)); intro gg hg_ w3 hbox hb_; have HN := Aside0.mk hb_; have HBX := Aside0.mk hbox; have GG : Aside0 (w2.heap.size ≤ gg) := ⟨Nat.le_of_eq hg_.symm⟩; obtain ⟨hy0, hy1, hy2, hy3, hy4, hy5, hy6⟩ := cells7 hbox; have f0 := blk_frozen hbox 0; have f1 := blk_frozen hbox 1; have f2 := blk_frozen hbox 2; have f3 := blk_frozen hbox 3; have f4 := blk_frozen hbox 4; have f5 := blk_frozen hbox 5; have f6 := blk_frozen hbox 6; clear hbox hb_ hg_)
 have HX := Aside0.mk (set7_below HN.out GG.out (.int .i64 n1) (.int .i64 n2) (.int .i64 n3) (.int .i64 n4) (.int .i64 n5) (.int .i64 n6) (.int .i64 n7))
 have HY := Aside0.mk (set7_blk HBX.out (.int .i64 n1) (.int .i64 n2) (.int .i64 n3) (.int .i64 n4) (.int .i64 n5) (.int .i64 n6) (.int .i64 n7))
 unfold set7 at HX HY
 clear HBX HN hy0 f0 hy1 f1 hy2 f2 hy3 f3 hy4 f4 hy5 f5 hy6 f6
 generalize (((((((w3.setCell ⟨gg, 0, none⟩ (.int .i64 n1)).setCell ⟨gg, 1, none⟩ (.int .i64 n2)).setCell ⟨gg, 2, none⟩ (.int .i64 n3)).setCell ⟨gg, 3, none⟩ (.int .i64 n4)).setCell ⟨gg, 4, none⟩ (.int .i64 n5)).setCell ⟨gg, 5, none⟩ (.int .i64 n6)).setCell ⟨gg, 6, none⟩ (.int .i64 n7)) = w4 at *
 have HB_4 := Aside0.mk (below_step HB_2.out HX.out)
 have Z_4 := Aside0.mk (blk_below Z_2.out HX.out)
 clear HB_2 Z_2
 have G_4 := Aside0.mk (HY.out)
 clear HX HY
 clear G_4
 rcases hc2 with rfl | hsz
 ·go_wp2_with fail
  go_ret2
  exact ⟨_, rfl, Kd.R_nil _ _ _ _ _, HB_4.out⟩
 ·have q4 : (size != 4) = true := by simp; omega
  have q8 : (size != 8) = true := by simp; omega
  cases n8 with
  | false =>
   go_wp2_with fail
   go_ret2
   exact ⟨_, rfl, Kd.R_nil _ _ _ _ _, HB_4.out⟩
  | true =>
   go_wp2_with fail
   go_ret2
   exact ⟨_, rfl, Kd.R_nil _ _ _ _ _, HB_4.out⟩
set_option maxHeartbeats 4000000 in
set_option maxRecDepth 100000 in
theorem renc_4 (A0 : Option Addr) (c0 : Nat) (ty : List S46) (A1 : Option Addr) (c1 : Nat) (tr : List S48) (A2 : Option Addr) (c2 : Nat) (lp : List S50) (foot : ByteArray) (ver : Int) (w : World)
  (i0 : ty.length ≤ c0) (i1 : tr.length ≤ c1) (i2 : lp.length ≤ c2) (j0 : Kd.C k46 w A0 ty.length ty) (j1 : Kd.C k48 w A1 tr.length tr) (j2 : Kd.C k50 w A2 lp.length lp) (hok : okZ ty tr lp = true) (hc : (countN ty tr lp ver).2.2.2.2.2.2.2 = true) :
  Calls Try.prog 13 #[.agg #[.slice A0 ty.length c0, .slice A1 tr.length c1, .slice A2 lp.length c2, .string foot, .int .i64 ver], .int .i64 4] w fun e w' => ∃ v0_ : Value, e = .returned (.tuple #[v0_, .bool (encN ty tr lp ver 4).2]) ∧ Kd.R (Kd.int .u8) 5 w' w.heap.size (fun _ => True) v0_ (encN ty tr lp ver 4).1 ∧ Below w.heap.size w w' := by
 obtain ⟨z1, z2, z3, z4⟩ := okZ_out hok
 obtain ⟨n1, n2, n3, n4, n5, n6, n7, n8, hN⟩ : ∃ n1 n2 n3 n4 n5 n6 n7 n8, countN ty tr lp ver = (n1, n2, n3, n4, n5, n6, n7, n8) := ⟨_, _, _, _, _, _, _, _, rfl⟩
 have h8 : n8 = true := by rw [hN] at hc; exact hc
 subst h8
 have HCT := Aside0.mk (fun W j0 j1 j2 => rcount_is A0 c0 ty A1 c1 tr A2 c2 lp foot ver n1 n2 n3 n4 n5 n6 n7 true W j0 i0 j1 i1 j2 i2 (by unfold countF; rw [hok]; exact congrArg some hN))
 have HNM := Aside0.mk (fun W j0 j1 j2 => rnames_is A0 c0 ty A1 c1 tr A2 c2 lp foot ver W j0 i0 j1 i1 j2 i2 z1)
 have hpo : (poolT (namesL ty)).2.2 = true := pool_of_count hc
 have HAT : Aside0 ((poolT (namesL ty)).2.1.length = ty.length) := ⟨by rw [pool_ats hpo]; unfold namesL; rw [List.length_map]⟩
 have hrp : rpoolF (namesL ty) = some (poolT (namesL ty)) := rpoolF_some (by unfold namesL; rw [List.length_map]; exact z1) z4
 have HN : Aside0 (encN ty tr lp ver 4 = match fit (numsT tr 4) && fit (numsK tr) && fit (numsY ty (poolT (namesL ty)).2.1) && fit (numsL lp 4) with | true => (lay (numsT tr 4) ++ lay (numsK tr) ++ lay (numsY ty (poolT (namesL ty)).2.1) ++ bytesOf (poolT (namesL ty)).1 ++ lay (numsL lp 4), true) | false => ([], false)) := ⟨renc_yes hc (by omega)⟩
 have hPs : (poolT (namesL ty)).1.size ≤ 256 := pool_size _
 obtain ⟨P, ats, pok, hP⟩ : ∃ P a b, poolT (namesL ty) = (P, a, b) := ⟨_, _, _, rfl⟩
 rw [hP] at hrp HAT HN hPs
 dsimp only at HAT HN hPs
 have HPL := Aside0.mk (fun A0 c0 W h0 h1 => rpool_is A0 c0 (namesL ty) P ats pok W h0 h1 hrp)
 obtain ⟨R, hR⟩ : ∃ R, encN ty tr lp ver 4 = R := ⟨_, rfl⟩
 rw [hR] at HN ⊢
 have HZL : Aside0 (ty.length ≤ 100 ∧ tr.length ≤ 2000 ∧ lp.length ≤ 2000 ∧ P.size ≤ 256) := ⟨⟨z1, z2, z3, hPs⟩⟩
 clear hN hc hok hpo hrp hPs hP hR z4
 have HR0 := Aside0.mk j0
 have HR1 := Aside0.mk j1
 have HR2 := Aside0.mk j2
 go_enter Try.func13, Try.ntmps13
 have HB_0 := Aside0.mk (Below.refl w.heap.size w)
 go_wp2_with ((with_reducible refine gate_dst (N := 2) rfl ?_); refine box_event ?hg (N := 2) ?hd (cs := #[.slice A0 ty.length c0, .slice A1 tr.length c1, .slice A2 lp.length c2, .string foot, .int .i64 ver]) (t := 26) ?hr ?_; (case hd => rfl); (case hg => rfl); (case hr => first | (go_simp; done) | (go_simp; rfl)); intro gz hg_ w1 hbox hb_; have GZ : Aside0 (w.heap.size ≤ gz) := ⟨Nat.le_of_eq hg_.symm⟩; have HB_1 := Aside0.mk (below_step HB_0.out hb_); clear HB_0; have Z_1 := Aside0.mk (hbox); clear hbox hb_ hg_; obtain ⟨hz0, hz1, hz2, hz3, hz4⟩ := zone_cells Z_1.out)
 refine (HCT.out _ (Kd.C_below HR0.out HB_1.out) (Kd.C_below HR1.out HB_1.out) (Kd.C_below HR2.out HB_1.out)).mono ?_
 rintro e w2 ⟨rfl, hb_⟩
 have HB_2 := Aside0.mk (below_step HB_1.out hb_)
 have Z_2 := Aside0.mk (blk_below Z_1.out hb_)
 clear HB_1 Z_1
 clear hz0 hz1 hz2 hz3 hz4
 clear hb_ HCT
 go_upto_region 2 with ((with_reducible refine gate_dst (N := 6) rfl ?_); refine box_event ?hg (N := 6) ?hd (cs := #[.int .i64 0, .int .i64 0, .int .i64 0, .int .i64 0, .int .i64 0, .int .i64 0, .int .i64 0]) (t := 28) ?hr ?_; (case hd => rfl); (case hg => rfl); (case hr => first | (go_simp; done) | (go_simp; rfl)); intro gg hg_ w3 hbox hb_; have HN := Aside0.mk hb_; have HBX := Aside0.mk hbox; have GG : Aside0 (w2.heap.size ≤ gg) := ⟨Nat.le_of_eq hg_.symm⟩; obtain ⟨hy0, hy1, hy2, hy3, hy4, hy5, hy6⟩ := cells7 hbox; have f0 := blk_frozen hbox 0; have f1 := blk_frozen hbox 1; have f2 := blk_frozen hbox 2; have f3 := blk_frozen hbox 3; have f4 := blk_frozen hbox 4; have f5 := blk_frozen hbox 5; have f6 := blk_frozen hbox 6; clear hbox hb_ hg_)
 have HX := Aside0.mk (set7_below HN.out GG.out (.int .i64 n1) (.int .i64 n2) (.int .i64 n3) (.int .i64 n4) (.int .i64 n5) (.int .i64 n6) (.int .i64 n7))
 have HY := Aside0.mk (set7_blk HBX.out (.int .i64 n1) (.int .i64 n2) (.int .i64 n3) (.int .i64 n4) (.int .i64 n5) (.int .i64 n6) (.int .i64 n7))
 unfold set7 at HX HY
 clear HBX HN hy0 f0 hy1 f1 hy2 f2 hy3 f3 hy4 f4 hy5 f5 hy6 f6
 generalize (((((((w3.setCell ⟨gg, 0, none⟩ (.int .i64 n1)).setCell ⟨gg, 1, none⟩ (.int .i64 n2)).setCell ⟨gg, 2, none⟩ (.int .i64 n3)).setCell ⟨gg, 3, none⟩ (.int .i64 n4)).setCell ⟨gg, 4, none⟩ (.int .i64 n5)).setCell ⟨gg, 5, none⟩ (.int .i64 n6)).setCell ⟨gg, 6, none⟩ (.int .i64 n7)) = w4 at *
 have HB_4 := Aside0.mk (below_step HB_2.out HX.out)
 have Z_4 := Aside0.mk (blk_below Z_2.out HX.out)
 clear HB_2 Z_2
 have G_4 := Aside0.mk (HY.out)
 clear HX HY
 clear G_4
 obtain ⟨hz0, hz1, hz2, hz3, hz4⟩ := zone_cells Z_4.out
 go_wp2_with fail
 refine (HNM.out _ (Kd.C_below HR0.out HB_4.out) (Kd.C_below HR1.out HB_4.out) (Kd.C_below HR2.out HB_4.out)).mono ?_
 rintro e w5 ⟨v0, rfl, hv, hb_⟩
 obtain ⟨An, cn, rfl⟩ := Kd.R_slice hv
 have HB_5 := Aside0.mk (below_step HB_4.out hb_)
 have Z_5 := Aside0.mk (blk_below Z_4.out hb_)
 clear HB_4 Z_4
 clear hz0 hz1 hz2 hz3 hz4
 have NM_5 := Aside0.mk (hv)
 clear hb_ hv HNM
 go_wp2_with fail
 refine (HPL.out An cn _ (Kd.R_reads' NM_5.out).2.2 (Kd.R_reads' NM_5.out).2.1).mono ?_
 rintro e w6 ⟨v0, rfl, hv, hb_⟩
 obtain ⟨At, ct, rfl⟩ := Kd.R_slice hv
 have HB_6 := Aside0.mk (below_step HB_5.out hb_)
 have Z_6 := Aside0.mk (blk_below Z_5.out hb_)
 have NM_6 := Aside0.mk (Kd.R_below NM_5.out hb_)
 clear HB_5 Z_5 NM_5
 have AT_6 := Aside0.mk (hv)
 clear hb_ hv HPL
 clear NM_6
 go_upto_region 8 with fail
 obtain ⟨hz0, hz1, hz2, hz3, hz4⟩ := zone_cells Z_6.out
 go_wp2
 clear hz0 hz1 hz2 hz3 hz4
 have HE0 := Aside0.mk (RE.start w6)
 obtain ⟨L0, hL⟩ : ∃ x, ([] : List Int) = x := ⟨_, rfl⟩
 have HQ0 := Aside0.mk hL
 have HM0 : Aside0 (L0.length ≤ 0) := ⟨by rw [← hL]; exact Nat.le_refl _⟩
 rw [hL] at HE0
 clear hL
 have HEs := Aside0.mk (RE.zero HE0.out)
 go_loopw [11, 12, 14] (fun vo va vi wr => ∃ k : Nat, k ≤ tr.length ∧ vi = .int .i64 (k : Int) ∧ va = .bool (fit (numsT (tr.take k) 4)) ∧ Aside0 (RE w6 wr vo (L0 ++ lay (numsT (tr.take k) 4)))) (fun _ _ i _ => tr.length - (intOf i).toNat)
 case atStart => exact ⟨0, Nat.zero_le _, rfl, rfl, HEs⟩
 case round =>
  obtain ⟨k, hk, rfl, rfl, HE⟩ := hrel
  clear HEs HE0
  by_cases hlt : k < tr.length
  ·skip
   obtain ⟨hz0, hz1, hz2, hz3, hz4⟩ := zone_cells (blk_below Z_6.out HE.out.below)
   have HLN : Aside0 ((L0 ++ lay (numsT (tr.take k) 4)).length ≤ 900000) := ⟨by rw [List.length_append]; have h1 := lay_length (numsT (tr.take k) 4); have h2 := numsT_take_len tr 4 k; have h3 := HM0.out; have h4 := HZL.out; omega⟩
   obtain ⟨ad, hAd, hx0, hx1⟩ := at_T48 (Kd.C_below HR1.out (below_step HB_6.out HE.out.below)) (k : Int) (by omega) (by omega)
   rw [rd48 hlt, Int.toNat_natCast] at hx0 hx1
   cases hAd
   have HNX := Aside0.mk (numsT_take (size := 4) hlt)
   generalize tr[k] = t at *
   generalize numsT (tr.take k) 4 = ns at *
   obtain ⟨fb, hfb⟩ : ∃ x, fit ns = x := ⟨_, rfl⟩
   rw [hfb]
   have HFB := Aside0.mk hfb
   clear hfb
   obtain ⟨La, hLa⟩ : ∃ x, L0 ++ lay ns = x := ⟨_, rfl⟩
   rw [hLa] at HE HLN
   have HLa := Aside0.mk hLa
   clear hLa
   obtain ⟨Ao, co, hvo⟩ := Kd.R_slice HE.out.out
   subst hvo
   obtain ⟨b0, hb0⟩ : ∃ x, fit [(t.f0, (4 : Int))] = x := ⟨_, rfl⟩
   have HG0 := Aside0.mk hb0
   clear hb0
   have HB0 := Aside0.mk (below_step HB_6.out HE.out.below)
   cases fb
   all_goals
    go_wp2_with fail
    have HPUT := rput_is t.f0 4 HE.out (by have := HLN.out; omega)
    rw [HG0.out] at HPUT
    refine HPUT.mono ?_
    clear HPUT
    rintro e w01 ⟨v1, rfl, he_, hb_⟩
    obtain ⟨Lq0, hq_⟩ : ∃ x, La ++ lay [(t.f0, (4 : Int))] = x := ⟨_, rfl⟩
    rw [hq_] at he_
    have HLN0 : Aside0 (Lq0.length ≤ 900000 + 8) := ⟨by rw [← hq_, List.length_append]; have h1 := lay1_len ((t.f0 : Int), (4 : Int)); have h2 := HLN.out; omega⟩
    have HQ0q := Aside0.mk hq_
    clear hq_
    obtain ⟨Ao, co, hvo⟩ := Kd.R_slice he_.out
    subst hvo
    have HE0q := Aside0.mk he_
    clear HLN HE
    have HLN := HLN0
    clear HLN0
    replace hz0 := pw_cell_below hb_ hz0
    replace hz1 := pw_cell_below hb_ hz1
    replace hz2 := pw_cell_below hb_ hz2
    replace hz3 := pw_cell_below hb_ hz3
    replace hz4 := pw_cell_below hb_ hz4
    replace hx0 := pw_cell_below hb_ hx0
    replace hx1 := pw_cell_below hb_ hx1
    clear he_ hb_
    go_wp2_with fail
    exact ⟨⟨k + 1, by omega, by go_num, by rw [HNX.out, fit_app, HG0.out]; exact congrArg Value.bool (upd0 HFB.out).symm, ⟨by rw [HNX.out, lay_snoc1, HLa.out, HQ0q.out]; exact HE0q.out⟩⟩, by simp [intOf]; omega⟩
  ·obtain rfl : k = tr.length := by omega
   rw [List.take_length] at HE
   simp only [List.take_length]
   clear hlt hk
   obtain ⟨hz0, hz1, hz2, hz3, hz4⟩ := zone_cells (blk_below Z_6.out HE.out.below)
   obtain ⟨f1, hf⟩ : ∃ x, fit (numsT tr 4) = x := ⟨_, rfl⟩
   rw [hf]
   have HF1 := Aside0.mk hf
   clear hf
   obtain ⟨L1, hL⟩ : ∃ x, (L0 ++ lay (numsT tr 4)) = x := ⟨_, rfl⟩
   have HQ1 := Aside0.mk hL
   have HM1 : Aside0 (L1.length ≤ 20000) := ⟨by rw [← hL]; have h1 := lay_length (numsT tr 4); have h2 := numsT_len tr 4; have h3 := HM0.out; have h4 := HZL.out; rw [List.length_append]; omega⟩
   rw [hL] at HE
   have HE1 := HE
   clear hL HE
   go_wp2
   clear hz0 hz1 hz2 hz3 hz4
   have HEs := Aside0.mk (RE.zero HE1.out)
   go_loopw [11, 12, 15] (fun vo va vi wr => ∃ k : Nat, k ≤ tr.length ∧ vi = .int .i64 (k : Int) ∧ va = .bool (f1 && fit (numsK (tr.take k))) ∧ Aside0 (RE w6 wr vo (L1 ++ lay (numsK (tr.take k))))) (fun _ _ i _ => tr.length - (intOf i).toNat)
   case atStart => exact ⟨0, Nat.zero_le _, rfl, by rw [show fit (numsK (tr.take 0)) = true from rfl, Bool.and_true], HEs⟩
   case round =>
    obtain ⟨k, hk, rfl, rfl, HE⟩ := hrel
    clear HEs HE1
    by_cases hlt : k < tr.length
    ·skip
     obtain ⟨hz0, hz1, hz2, hz3, hz4⟩ := zone_cells (blk_below Z_6.out HE.out.below)
     have HLN : Aside0 ((L1 ++ lay (numsK (tr.take k))).length ≤ 900000) := ⟨by rw [List.length_append]; have h1 := lay_length (numsK (tr.take k)); have h2 := numsK_take_len tr k; have h3 := HM1.out; have h4 := HZL.out; omega⟩
     obtain ⟨ad, hAd, hx0, hx1⟩ := at_T48 (Kd.C_below HR1.out (below_step HB_6.out HE.out.below)) (k : Int) (by omega) (by omega)
     rw [rd48 hlt, Int.toNat_natCast] at hx0 hx1
     cases hAd
     have HNX := Aside0.mk (numsK_take hlt)
     generalize tr[k] = t at *
     generalize numsK (tr.take k) = ns at *
     obtain ⟨fb, hfb⟩ : ∃ x, (f1 && fit ns) = x := ⟨_, rfl⟩
     rw [hfb]
     have HFB := Aside0.mk hfb
     clear hfb
     obtain ⟨La, hLa⟩ : ∃ x, L1 ++ lay ns = x := ⟨_, rfl⟩
     rw [hLa] at HE HLN
     have HLa := Aside0.mk hLa
     clear hLa
     obtain ⟨Ao, co, hvo⟩ := Kd.R_slice HE.out.out
     subst hvo
     obtain ⟨b0, hb0⟩ : ∃ x, fit [(t.f1, (1 : Int))] = x := ⟨_, rfl⟩
     have HG0 := Aside0.mk hb0
     clear hb0
     have HB0 := Aside0.mk (below_step HB_6.out HE.out.below)
     cases fb
     all_goals
      go_wp2_with fail
      have HPUT := rput_is t.f1 1 HE.out (by have := HLN.out; omega)
      rw [HG0.out] at HPUT
      refine HPUT.mono ?_
      clear HPUT
      rintro e w01 ⟨v1, rfl, he_, hb_⟩
      obtain ⟨Lq0, hq_⟩ : ∃ x, La ++ lay [(t.f1, (1 : Int))] = x := ⟨_, rfl⟩
      rw [hq_] at he_
      have HLN0 : Aside0 (Lq0.length ≤ 900000 + 8) := ⟨by rw [← hq_, List.length_append]; have h1 := lay1_len ((t.f1 : Int), (1 : Int)); have h2 := HLN.out; omega⟩
      have HQ0q := Aside0.mk hq_
      clear hq_
      obtain ⟨Ao, co, hvo⟩ := Kd.R_slice he_.out
      subst hvo
      have HE0q := Aside0.mk he_
      clear HLN HE
      have HLN := HLN0
      clear HLN0
      replace hz0 := pw_cell_below hb_ hz0
      replace hz1 := pw_cell_below hb_ hz1
      replace hz2 := pw_cell_below hb_ hz2
      replace hz3 := pw_cell_below hb_ hz3
      replace hz4 := pw_cell_below hb_ hz4
      replace hx0 := pw_cell_below hb_ hx0
      replace hx1 := pw_cell_below hb_ hx1
      clear he_ hb_
      go_wp2_with fail
      exact ⟨⟨k + 1, by omega, by go_num, by rw [HNX.out, fit_app, HG0.out]; exact congrArg Value.bool (upd1 HFB.out).symm, ⟨by rw [HNX.out, lay_snoc1, HLa.out, HQ0q.out]; exact HE0q.out⟩⟩, by simp [intOf]; omega⟩
    ·obtain rfl : k = tr.length := by omega
     rw [List.take_length] at HE
     simp only [List.take_length]
     clear hlt hk
     obtain ⟨hz0, hz1, hz2, hz3, hz4⟩ := zone_cells (blk_below Z_6.out HE.out.below)
     obtain ⟨f2, hf⟩ : ∃ x, (f1 && fit (numsK tr)) = x := ⟨_, rfl⟩
     rw [hf]
     have HF2 := Aside0.mk hf
     clear hf
     obtain ⟨L2, hL⟩ : ∃ x, (L1 ++ lay (numsK tr)) = x := ⟨_, rfl⟩
     have HQ2 := Aside0.mk hL
     have HM2 : Aside0 (L2.length ≤ 40000) := ⟨by rw [← hL]; have h1 := lay_length (numsK tr); have h2 := numsK_len tr; have h3 := HM1.out; have h4 := HZL.out; rw [List.length_append]; omega⟩
     rw [hL] at HE
     have HE2 := HE
     clear hL HE
     go_wp2
     clear hz0 hz1 hz2 hz3 hz4
     have HEs := Aside0.mk (RE.zero HE2.out)
     go_loopw [11, 12, 16] (fun vo va vi wr => ∃ k : Nat, k ≤ ty.length ∧ vi = .int .i64 (k : Int) ∧ va = .bool (f2 && fit (numsY (ty.take k) ats)) ∧ Aside0 (RE w6 wr vo (L2 ++ lay (numsY (ty.take k) ats)))) (fun _ _ i _ => ty.length - (intOf i).toNat)
     case atStart => exact ⟨0, Nat.zero_le _, rfl, by rw [show fit (numsY (ty.take 0) ats) = true from rfl, Bool.and_true], HEs⟩
     case round =>
      obtain ⟨k, hk, rfl, rfl, HE⟩ := hrel
      clear HEs HE2
      by_cases hlt : k < ty.length
      ·skip
       obtain ⟨hz0, hz1, hz2, hz3, hz4⟩ := zone_cells (blk_below Z_6.out HE.out.below)
       have HLN : Aside0 ((L2 ++ lay (numsY (ty.take k) ats)).length ≤ 900000) := ⟨by rw [List.length_append]; have h1 := lay_length (numsY (ty.take k) ats); have h2 := numsY_take_len ats ty k; have h3 := HM2.out; have h4 := HZL.out; omega⟩
       obtain ⟨ad, hAd, hx0, hx1, hx2⟩ := at_T46 (Kd.C_below HR0.out (below_step HB_6.out HE.out.below)) (k : Int) (by omega) (by omega)
       rw [rd46 hlt, Int.toNat_natCast] at hx0 hx1 hx2
       cases hAd
       obtain ⟨at_, hAt, hat⟩ := Kd.at_int (Kd.C_below (Kd.R_reads' AT_6.out).2.2 HE.out.below) (k : Int) (by omega) (by have := HAT.out; omega)
       rw [rd_at (by rw [HAT.out]; exact hlt), Int.toNat_natCast] at hat
       cases hAt
       have hka : k < ats.length := by rw [HAT.out]; exact hlt
       have HNX := Aside0.mk (numsY_take HAT.out hlt)
       have HMK := Aside0.mk (mk_one ty[k].f1)
       generalize ats[k]'(by rw [HAT.out]; exact hlt) = ta at *
       generalize ty[k] = t at *
       generalize numsY (ty.take k) ats = ns at *
       obtain ⟨fb, hfb⟩ : ∃ x, (f2 && fit ns) = x := ⟨_, rfl⟩
       rw [hfb]
       have HFB := Aside0.mk hfb
       clear hfb
       obtain ⟨La, hLa⟩ : ∃ x, L2 ++ lay ns = x := ⟨_, rfl⟩
       rw [hLa] at HE HLN
       have HLa := Aside0.mk hLa
       clear hLa
       obtain ⟨Ao, co, hvo⟩ := Kd.R_slice HE.out.out
       subst hvo
       obtain ⟨t0, t1, t2⟩ := t
       dsimp only at hx0 hx1 hx2 HNX HMK
       obtain ⟨b0, hb0⟩ : ∃ x, fit [(t0, (4 : Int))] = x := ⟨_, rfl⟩
       have HG0 := Aside0.mk hb0
       clear hb0
       obtain ⟨b2, hb2⟩ : ∃ x, fit [(ta, (1 : Int))] = x := ⟨_, rfl⟩
       have HG2 := Aside0.mk hb2
       clear hb2
       have HB0 := Aside0.mk (below_step HB_6.out HE.out.below)
       cases fb <;> cases b0
       all_goals
        cases t1 with
        | false =>
         rw [show mk false = 0 from rfl] at HNX HMK
         go_wp2_with fail
         have HPUT := rput_is t0 4 HE.out (by have := HLN.out; omega)
         rw [HG0.out] at HPUT
         refine HPUT.mono ?_
         clear HPUT
         rintro e w01 ⟨v1, rfl, he_, hb_⟩
         obtain ⟨Lq0, hq_⟩ : ∃ x, La ++ lay [(t0, (4 : Int))] = x := ⟨_, rfl⟩
         rw [hq_] at he_
         have HLN0 : Aside0 (Lq0.length ≤ 900000 + 8) := ⟨by rw [← hq_, List.length_append]; have h1 := lay1_len ((t0 : Int), (4 : Int)); have h2 := HLN.out; omega⟩
         have HQ0q := Aside0.mk hq_
         clear hq_
         obtain ⟨Ao, co, hvo⟩ := Kd.R_slice he_.out
         subst hvo
         have HE0q := Aside0.mk he_
         clear HLN HE
         have HLN := HLN0
         clear HLN0
         replace hz0 := pw_cell_below hb_ hz0
         replace hz1 := pw_cell_below hb_ hz1
         replace hz2 := pw_cell_below hb_ hz2
         replace hz3 := pw_cell_below hb_ hz3
         replace hz4 := pw_cell_below hb_ hz4
         replace hx0 := pw_cell_below hb_ hx0
         replace hx1 := pw_cell_below hb_ hx1
         replace hx2 := pw_cell_below hb_ hx2
         replace hat := pw_cell_below hb_ hat
         clear he_ hb_
         go_wp2_with fail
         have HPUT := rput_is 0 1 HE0q.out (by have := HLN.out; omega)
         rw [HMK.out] at HPUT
         refine HPUT.mono ?_
         clear HPUT
         rintro e w11 ⟨v1, rfl, he_, hb_⟩
         obtain ⟨Lq1, hq_⟩ : ∃ x, Lq0 ++ lay [(0, (1 : Int))] = x := ⟨_, rfl⟩
         rw [hq_] at he_
         have HLN1 : Aside0 (Lq1.length ≤ 900000 + 16) := ⟨by rw [← hq_, List.length_append]; have h1 := lay1_len ((0 : Int), (1 : Int)); have h2 := HLN.out; omega⟩
         have HQ1q := Aside0.mk hq_
         clear hq_
         obtain ⟨Ao, co, hvo⟩ := Kd.R_slice he_.out
         subst hvo
         have HE1q := Aside0.mk he_
         clear HLN HE0q
         have HLN := HLN1
         clear HLN1
         replace hz0 := pw_cell_below hb_ hz0
         replace hz1 := pw_cell_below hb_ hz1
         replace hz2 := pw_cell_below hb_ hz2
         replace hz3 := pw_cell_below hb_ hz3
         replace hz4 := pw_cell_below hb_ hz4
         replace hx0 := pw_cell_below hb_ hx0
         replace hx1 := pw_cell_below hb_ hx1
         replace hx2 := pw_cell_below hb_ hx2
         replace hat := pw_cell_below hb_ hat
         clear he_ hb_
         go_wp2_with fail
         have HPUT := rput_is ta 1 HE1q.out (by have := HLN.out; omega)
         rw [HG2.out] at HPUT
         refine HPUT.mono ?_
         clear HPUT
         rintro e w21 ⟨v1, rfl, he_, hb_⟩
         obtain ⟨Lq2, hq_⟩ : ∃ x, Lq1 ++ lay [(ta, (1 : Int))] = x := ⟨_, rfl⟩
         rw [hq_] at he_
         have HLN2 : Aside0 (Lq2.length ≤ 900000 + 24) := ⟨by rw [← hq_, List.length_append]; have h1 := lay1_len ((ta : Int), (1 : Int)); have h2 := HLN.out; omega⟩
         have HQ2q := Aside0.mk hq_
         clear hq_
         obtain ⟨Ao, co, hvo⟩ := Kd.R_slice he_.out
         subst hvo
         have HE2q := Aside0.mk he_
         clear HLN HE1q
         have HLN := HLN2
         clear HLN2
         replace hz0 := pw_cell_below hb_ hz0
         replace hz1 := pw_cell_below hb_ hz1
         replace hz2 := pw_cell_below hb_ hz2
         replace hz3 := pw_cell_below hb_ hz3
         replace hz4 := pw_cell_below hb_ hz4
         replace hx0 := pw_cell_below hb_ hx0
         replace hx1 := pw_cell_below hb_ hx1
         replace hx2 := pw_cell_below hb_ hx2
         replace hat := pw_cell_below hb_ hat
         clear he_ hb_
         go_wp2_with fail
         exact ⟨⟨k + 1, by omega, by go_num, by rw [HNX.out, fit_app, fit_app, fit_app, HG0.out, HMK.out, HG2.out]; have hq := HFB.out; revert hq; cases f2 <;> cases fit ns <;> simp, ⟨by rw [HNX.out, lay_snoc3, HLa.out, HQ0q.out, HQ1q.out, HQ2q.out]; exact HE2q.out⟩⟩, by simp [intOf]; omega⟩
        | true =>
         rw [show mk true = 1 from rfl] at HNX HMK
         go_wp2_with fail
         have HPUT := rput_is t0 4 HE.out (by have := HLN.out; omega)
         rw [HG0.out] at HPUT
         refine HPUT.mono ?_
         clear HPUT
         rintro e w01 ⟨v1, rfl, he_, hb_⟩
         obtain ⟨Lq0, hq_⟩ : ∃ x, La ++ lay [(t0, (4 : Int))] = x := ⟨_, rfl⟩
         rw [hq_] at he_
         have HLN0 : Aside0 (Lq0.length ≤ 900000 + 8) := ⟨by rw [← hq_, List.length_append]; have h1 := lay1_len ((t0 : Int), (4 : Int)); have h2 := HLN.out; omega⟩
         have HQ0q := Aside0.mk hq_
         clear hq_
         obtain ⟨Ao, co, hvo⟩ := Kd.R_slice he_.out
         subst hvo
         have HE0q := Aside0.mk he_
         clear HLN HE
         have HLN := HLN0
         clear HLN0
         replace hz0 := pw_cell_below hb_ hz0
         replace hz1 := pw_cell_below hb_ hz1
         replace hz2 := pw_cell_below hb_ hz2
         replace hz3 := pw_cell_below hb_ hz3
         replace hz4 := pw_cell_below hb_ hz4
         replace hx0 := pw_cell_below hb_ hx0
         replace hx1 := pw_cell_below hb_ hx1
         replace hx2 := pw_cell_below hb_ hx2
         replace hat := pw_cell_below hb_ hat
         clear he_ hb_
         go_wp2_with fail
         have HPUT := rput_is 1 1 HE0q.out (by have := HLN.out; omega)
         rw [HMK.out] at HPUT
         refine HPUT.mono ?_
         clear HPUT
         rintro e w11 ⟨v1, rfl, he_, hb_⟩
         obtain ⟨Lq1, hq_⟩ : ∃ x, Lq0 ++ lay [(1, (1 : Int))] = x := ⟨_, rfl⟩
         rw [hq_] at he_
         have HLN1 : Aside0 (Lq1.length ≤ 900000 + 16) := ⟨by rw [← hq_, List.length_append]; have h1 := lay1_len ((1 : Int), (1 : Int)); have h2 := HLN.out; omega⟩
         have HQ1q := Aside0.mk hq_
         clear hq_
         obtain ⟨Ao, co, hvo⟩ := Kd.R_slice he_.out
         subst hvo
         have HE1q := Aside0.mk he_
         clear HLN HE0q
         have HLN := HLN1
         clear HLN1
         replace hz0 := pw_cell_below hb_ hz0
         replace hz1 := pw_cell_below hb_ hz1
         replace hz2 := pw_cell_below hb_ hz2
         replace hz3 := pw_cell_below hb_ hz3
         replace hz4 := pw_cell_below hb_ hz4
         replace hx0 := pw_cell_below hb_ hx0
         replace hx1 := pw_cell_below hb_ hx1
         replace hx2 := pw_cell_below hb_ hx2
         replace hat := pw_cell_below hb_ hat
         clear he_ hb_
         go_wp2_with fail
         have HPUT := rput_is ta 1 HE1q.out (by have := HLN.out; omega)
         rw [HG2.out] at HPUT
         refine HPUT.mono ?_
         clear HPUT
         rintro e w21 ⟨v1, rfl, he_, hb_⟩
         obtain ⟨Lq2, hq_⟩ : ∃ x, Lq1 ++ lay [(ta, (1 : Int))] = x := ⟨_, rfl⟩
         rw [hq_] at he_
         have HLN2 : Aside0 (Lq2.length ≤ 900000 + 24) := ⟨by rw [← hq_, List.length_append]; have h1 := lay1_len ((ta : Int), (1 : Int)); have h2 := HLN.out; omega⟩
         have HQ2q := Aside0.mk hq_
         clear hq_
         obtain ⟨Ao, co, hvo⟩ := Kd.R_slice he_.out
         subst hvo
         have HE2q := Aside0.mk he_
         clear HLN HE1q
         have HLN := HLN2
         clear HLN2
         replace hz0 := pw_cell_below hb_ hz0
         replace hz1 := pw_cell_below hb_ hz1
         replace hz2 := pw_cell_below hb_ hz2
         replace hz3 := pw_cell_below hb_ hz3
         replace hz4 := pw_cell_below hb_ hz4
         replace hx0 := pw_cell_below hb_ hx0
         replace hx1 := pw_cell_below hb_ hx1
         replace hx2 := pw_cell_below hb_ hx2
         replace hat := pw_cell_below hb_ hat
         clear he_ hb_
         go_wp2_with fail
         exact ⟨⟨k + 1, by omega, by go_num, by rw [HNX.out, fit_app, fit_app, fit_app, HG0.out, HMK.out, HG2.out]; have hq := HFB.out; revert hq; cases f2 <;> cases fit ns <;> simp, ⟨by rw [HNX.out, lay_snoc3, HLa.out, HQ0q.out, HQ1q.out, HQ2q.out]; exact HE2q.out⟩⟩, by simp [intOf]; omega⟩
      ·obtain rfl : k = ty.length := by omega
       rw [List.take_length] at HE
       simp only [List.take_length]
       clear hlt hk
       obtain ⟨hz0, hz1, hz2, hz3, hz4⟩ := zone_cells (blk_below Z_6.out HE.out.below)
       obtain ⟨f3, hf⟩ : ∃ x, (f2 && fit (numsY ty ats)) = x := ⟨_, rfl⟩
       rw [hf]
       have HF3 := Aside0.mk hf
       clear hf
       obtain ⟨L3, hL⟩ : ∃ x, (L2 ++ lay (numsY ty ats)) = x := ⟨_, rfl⟩
       have HQ3 := Aside0.mk hL
       have HM3 : Aside0 (L3.length ≤ 60000) := ⟨by rw [← hL]; have h1 := lay_length (numsY ty ats); have h2 := numsY_len ty ats; have h3 := HM2.out; have h4 := HZL.out; rw [List.length_append]; omega⟩
       rw [hL] at HE
       have HE3 := HE
       clear hL HE
       have kb := fun W => print_bytes (P := Try.prog) 9 29 5 Try.underlying9 Try.underlying29 Try.underlying5 P W
       obtain ⟨LP, hLP⟩ : ∃ x, L3 ++ bytesOf P = x := ⟨_, rfl⟩
       have HQP := Aside0.mk hLP
       have HMP : Aside0 (LP.length ≤ 100000) := ⟨by rw [← hLP, List.length_append, bytesOf_length]; have h1 := HM3.out; have h2 := HZL.out; omega⟩
       clear hLP
       have HBB := Aside0.mk (bytes_below (Below.refl wr.heap.size wr) (Nat.le_refl _) 5 P)
       have HCB := Aside0.mk (Kd.C_of_reads (d := (0 : Int)) (h1 := fun _ => rfl) (bytes_reads wr 5 P (by have := HZL.out; omega)))
       have HZP := Aside0.mk (fun (W : World) (hb : Below w6.heap.size w6 W) => zone_cells (blk_below Z_6.out hb))
       go_wp2_with (first | ((with_reducible refine gate_builtin (b := .append) (xs := #[.tmp 133, .tmp 135]) rfl ?_); at_builtin; refine Kd.R_append_rows (Kd.int .u8) (w0 := w6) w6.heap.size rfl (.tmp 133) (.tmp 135) 29 5 (.int .u8 0) 1 rfl Try.underlying29 info5 rfl (by decide) (by omega) _ L3 (bytesOf P) _ _ _ (fun _ => True) (fun _ => False) rfl rfl ?aO ?aR (fun _ _ h => h) (fun _ h => h.elim) (fun _ _ => trivial) ?aB ?aS ?aL ?_; (case aO => exact Kd.R_below HE3.out.out HBB.out); (case aR => exact HCB.out); (case aB => exact below_step HE3.out.below HBB.out); (case aS => exact Below.size (below_step HE3.out.below HBB.out)); (case aL => have h1 := HM3.out; have h2 := HZL.out; omega); intro v4 w4 ho hb hg hat; rw [HQP.out] at ho; have HEP : Aside0 (RE w6 w4 v4 LP) := ⟨⟨hb, ho⟩⟩; clear hz0 hz1 hz2 hz3 hz4; obtain ⟨hz0, hz1, hz2, hz3, hz4⟩ := HZP.out w4 hb; clear ho hb hg hat HE3))
       clear kb HBB HCB HZP hz0 hz1 hz2 hz3 hz4
       have HEs := Aside0.mk (RE.zero HEP.out)
       go_loopw [11, 12, 18] (fun vo va vi wr => ∃ k : Nat, k ≤ lp.length ∧ vi = .int .i64 (k : Int) ∧ va = .bool (f3 && fit (numsL (lp.take k) 4)) ∧ Aside0 (RE w6 wr vo (LP ++ lay (numsL (lp.take k) 4)))) (fun _ _ i _ => lp.length - (intOf i).toNat)
       case atStart => exact ⟨0, Nat.zero_le _, rfl, by rw [show fit (numsL (lp.take 0) 4) = true from rfl, Bool.and_true], HEs⟩
       case round =>
        obtain ⟨k, hk, rfl, rfl, HE⟩ := hrel
        clear HEs HEP
        by_cases hlt : k < lp.length
        ·skip
         obtain ⟨hz0, hz1, hz2, hz3, hz4⟩ := zone_cells (blk_below Z_6.out HE.out.below)
         have HLN : Aside0 ((LP ++ lay (numsL (lp.take k) 4)).length ≤ 900000) := ⟨by rw [List.length_append]; have h1 := lay_length (numsL (lp.take k) 4); have h2 := numsL_take_len lp 4 k; have h3 := HMP.out; have h4 := HZL.out; omega⟩
         obtain ⟨ad, hAd, hx0, hx1⟩ := at_T50 (Kd.C_below HR2.out (below_step HB_6.out HE.out.below)) (k : Int) (by omega) (by omega)
         rw [rd50 hlt, Int.toNat_natCast] at hx0 hx1
         cases hAd
         have HNX := Aside0.mk (numsL_take (size := 4) hlt)
         generalize lp[k] = t at *
         generalize numsL (lp.take k) 4 = ns at *
         obtain ⟨fb, hfb⟩ : ∃ x, (f3 && fit ns) = x := ⟨_, rfl⟩
         rw [hfb]
         have HFB := Aside0.mk hfb
         clear hfb
         obtain ⟨La, hLa⟩ : ∃ x, LP ++ lay ns = x := ⟨_, rfl⟩
         rw [hLa] at HE HLN
         have HLa := Aside0.mk hLa
         clear hLa
         obtain ⟨Ao, co, hvo⟩ := Kd.R_slice HE.out.out
         subst hvo
         obtain ⟨b0, hb0⟩ : ∃ x, fit [(t.f0, (4 : Int))] = x := ⟨_, rfl⟩
         have HG0 := Aside0.mk hb0
         clear hb0
         obtain ⟨b1, hb1⟩ : ∃ x, fit [(t.f1, (4 : Int))] = x := ⟨_, rfl⟩
         have HG1 := Aside0.mk hb1
         clear hb1
         have HB0 := Aside0.mk (below_step HB_6.out HE.out.below)
         cases fb <;> cases b0
         all_goals
          go_wp2_with fail
          have HPUT := rput_is t.f0 4 HE.out (by have := HLN.out; omega)
          rw [HG0.out] at HPUT
          refine HPUT.mono ?_
          clear HPUT
          rintro e w01 ⟨v1, rfl, he_, hb_⟩
          obtain ⟨Lq0, hq_⟩ : ∃ x, La ++ lay [(t.f0, (4 : Int))] = x := ⟨_, rfl⟩
          rw [hq_] at he_
          have HLN0 : Aside0 (Lq0.length ≤ 900000 + 8) := ⟨by rw [← hq_, List.length_append]; have h1 := lay1_len ((t.f0 : Int), (4 : Int)); have h2 := HLN.out; omega⟩
          have HQ0q := Aside0.mk hq_
          clear hq_
          obtain ⟨Ao, co, hvo⟩ := Kd.R_slice he_.out
          subst hvo
          have HE0q := Aside0.mk he_
          clear HLN HE
          have HLN := HLN0
          clear HLN0
          replace hz0 := pw_cell_below hb_ hz0
          replace hz1 := pw_cell_below hb_ hz1
          replace hz2 := pw_cell_below hb_ hz2
          replace hz3 := pw_cell_below hb_ hz3
          replace hz4 := pw_cell_below hb_ hz4
          replace hx0 := pw_cell_below hb_ hx0
          replace hx1 := pw_cell_below hb_ hx1
          clear he_ hb_
          go_wp2_with fail
          have HPUT := rput_is t.f1 4 HE0q.out (by have := HLN.out; omega)
          rw [HG1.out] at HPUT
          refine HPUT.mono ?_
          clear HPUT
          rintro e w11 ⟨v1, rfl, he_, hb_⟩
          obtain ⟨Lq1, hq_⟩ : ∃ x, Lq0 ++ lay [(t.f1, (4 : Int))] = x := ⟨_, rfl⟩
          rw [hq_] at he_
          have HLN1 : Aside0 (Lq1.length ≤ 900000 + 16) := ⟨by rw [← hq_, List.length_append]; have h1 := lay1_len ((t.f1 : Int), (4 : Int)); have h2 := HLN.out; omega⟩
          have HQ1q := Aside0.mk hq_
          clear hq_
          obtain ⟨Ao, co, hvo⟩ := Kd.R_slice he_.out
          subst hvo
          have HE1q := Aside0.mk he_
          clear HLN HE0q
          have HLN := HLN1
          clear HLN1
          replace hz0 := pw_cell_below hb_ hz0
          replace hz1 := pw_cell_below hb_ hz1
          replace hz2 := pw_cell_below hb_ hz2
          replace hz3 := pw_cell_below hb_ hz3
          replace hz4 := pw_cell_below hb_ hz4
          replace hx0 := pw_cell_below hb_ hx0
          replace hx1 := pw_cell_below hb_ hx1
          clear he_ hb_
          go_wp2_with fail
          exact ⟨⟨k + 1, by omega, by go_num, by rw [HNX.out, fit_app, fit_app, HG0.out, HG1.out]; have hq := HFB.out; revert hq; cases f3 <;> cases fit ns <;> simp, ⟨by rw [HNX.out, lay_snoc2, HLa.out, HQ0q.out, HQ1q.out]; exact HE1q.out⟩⟩, by simp [intOf]; omega⟩
        ·obtain rfl : k = lp.length := by omega
         rw [List.take_length] at HE
         simp only [List.take_length]
         clear hlt hk
         obtain ⟨hz0, hz1, hz2, hz3, hz4⟩ := zone_cells (blk_below Z_6.out HE.out.below)
         obtain ⟨f4, hf⟩ : ∃ x, (f3 && fit (numsL lp 4)) = x := ⟨_, rfl⟩
         rw [hf]
         have HF4 := Aside0.mk hf
         clear hf
         obtain ⟨L4, hL⟩ : ∃ x, (LP ++ lay (numsL lp 4)) = x := ⟨_, rfl⟩
         have HQ4 := Aside0.mk hL
         have HM4 : Aside0 (L4.length ≤ 200000) := ⟨by rw [← hL]; have h1 := lay_length (numsL lp 4); have h2 := numsL_len lp 4; have h3 := HMP.out; have h4 := HZL.out; rw [List.length_append]; omega⟩
         rw [hL] at HE
         have HE4 := HE
         clear hL HE
         have hall : (fit (numsT tr 4) && fit (numsK tr) && fit (numsY ty ats) && fit (numsL lp 4)) = f4 := by rw [← HF4.out, ← HF3.out, ← HF2.out, ← HF1.out]
         have hR := HN.out
         rw [hall] at hR
         cases f4 with
         | false =>
          go_wp2
          go_ret2
          subst hR
          exact ⟨_, rfl, Kd.R_nil _ _ _ _ _, below_step HB_6.out HE4.out.below⟩
         | true =>
          go_wp2
          go_ret2
          subst hR
          have hl4 : L4 = lay (numsT tr 4) ++ lay (numsK tr) ++ lay (numsY ty ats) ++ bytesOf P ++ lay (numsL lp 4) := by rw [← HQ4.out, ← HQP.out, ← HQ3.out, ← HQ2.out, ← HQ1.out, ← HQ0.out, List.nil_append]
          rw [hl4] at HE4
          have hfin := Kd.R_lower HE4.out.out (Below.size HB_6.out)
          simp only [List.append_assoc] at hfin
          exact ⟨u11, rfl, hfin, below_step HB_6.out HE4.out.below⟩
set_option maxHeartbeats 4000000 in
set_option maxRecDepth 100000 in
theorem renc_8 (A0 : Option Addr) (c0 : Nat) (ty : List S46) (A1 : Option Addr) (c1 : Nat) (tr : List S48) (A2 : Option Addr) (c2 : Nat) (lp : List S50) (foot : ByteArray) (ver : Int) (w : World)
  (i0 : ty.length ≤ c0) (i1 : tr.length ≤ c1) (i2 : lp.length ≤ c2) (j0 : Kd.C k46 w A0 ty.length ty) (j1 : Kd.C k48 w A1 tr.length tr) (j2 : Kd.C k50 w A2 lp.length lp) (hok : okZ ty tr lp = true) (hc : (countN ty tr lp ver).2.2.2.2.2.2.2 = true) :
  Calls Try.prog 13 #[.agg #[.slice A0 ty.length c0, .slice A1 tr.length c1, .slice A2 lp.length c2, .string foot, .int .i64 ver], .int .i64 8] w fun e w' => ∃ v0_ : Value, e = .returned (.tuple #[v0_, .bool (encN ty tr lp ver 8).2]) ∧ Kd.R (Kd.int .u8) 5 w' w.heap.size (fun _ => True) v0_ (encN ty tr lp ver 8).1 ∧ Below w.heap.size w w' := by
 obtain ⟨z1, z2, z3, z4⟩ := okZ_out hok
 obtain ⟨n1, n2, n3, n4, n5, n6, n7, n8, hN⟩ : ∃ n1 n2 n3 n4 n5 n6 n7 n8, countN ty tr lp ver = (n1, n2, n3, n4, n5, n6, n7, n8) := ⟨_, _, _, _, _, _, _, _, rfl⟩
 have h8 : n8 = true := by rw [hN] at hc; exact hc
 subst h8
 have HCT := Aside0.mk (fun W j0 j1 j2 => rcount_is A0 c0 ty A1 c1 tr A2 c2 lp foot ver n1 n2 n3 n4 n5 n6 n7 true W j0 i0 j1 i1 j2 i2 (by unfold countF; rw [hok]; exact congrArg some hN))
 have HNM := Aside0.mk (fun W j0 j1 j2 => rnames_is A0 c0 ty A1 c1 tr A2 c2 lp foot ver W j0 i0 j1 i1 j2 i2 z1)
 have hpo : (poolT (namesL ty)).2.2 = true := pool_of_count hc
 have HAT : Aside0 ((poolT (namesL ty)).2.1.length = ty.length) := ⟨by rw [pool_ats hpo]; unfold namesL; rw [List.length_map]⟩
 have hrp : rpoolF (namesL ty) = some (poolT (namesL ty)) := rpoolF_some (by unfold namesL; rw [List.length_map]; exact z1) z4
 have HN : Aside0 (encN ty tr lp ver 8 = match fit (numsT tr 8) && fit (numsK tr) && fit (numsY ty (poolT (namesL ty)).2.1) && fit (numsL lp 8) with | true => (lay (numsT tr 8) ++ lay (numsK tr) ++ lay (numsY ty (poolT (namesL ty)).2.1) ++ bytesOf (poolT (namesL ty)).1 ++ lay (numsL lp 8), true) | false => ([], false)) := ⟨renc_yes hc (by omega)⟩
 have hPs : (poolT (namesL ty)).1.size ≤ 256 := pool_size _
 obtain ⟨P, ats, pok, hP⟩ : ∃ P a b, poolT (namesL ty) = (P, a, b) := ⟨_, _, _, rfl⟩
 rw [hP] at hrp HAT HN hPs
 dsimp only at HAT HN hPs
 have HPL := Aside0.mk (fun A0 c0 W h0 h1 => rpool_is A0 c0 (namesL ty) P ats pok W h0 h1 hrp)
 obtain ⟨R, hR⟩ : ∃ R, encN ty tr lp ver 8 = R := ⟨_, rfl⟩
 rw [hR] at HN ⊢
 have HZL : Aside0 (ty.length ≤ 100 ∧ tr.length ≤ 2000 ∧ lp.length ≤ 2000 ∧ P.size ≤ 256) := ⟨⟨z1, z2, z3, hPs⟩⟩
 clear hN hc hok hpo hrp hPs hP hR z4
 have HR0 := Aside0.mk j0
 have HR1 := Aside0.mk j1
 have HR2 := Aside0.mk j2
 go_enter Try.func13, Try.ntmps13
 have HB_0 := Aside0.mk (Below.refl w.heap.size w)
 go_wp2_with ((with_reducible refine gate_dst (N := 2) rfl ?_); refine box_event ?hg (N := 2) ?hd (cs := #[.slice A0 ty.length c0, .slice A1 tr.length c1, .slice A2 lp.length c2, .string foot, .int .i64 ver]) (t := 26) ?hr ?_; (case hd => rfl); (case hg => rfl); (case hr => first | (go_simp; done) | (go_simp; rfl)); intro gz hg_ w1 hbox hb_; have GZ : Aside0 (w.heap.size ≤ gz) := ⟨Nat.le_of_eq hg_.symm⟩; have HB_1 := Aside0.mk (below_step HB_0.out hb_); clear HB_0; have Z_1 := Aside0.mk (hbox); clear hbox hb_ hg_; obtain ⟨hz0, hz1, hz2, hz3, hz4⟩ := zone_cells Z_1.out)
 refine (HCT.out _ (Kd.C_below HR0.out HB_1.out) (Kd.C_below HR1.out HB_1.out) (Kd.C_below HR2.out HB_1.out)).mono ?_
 rintro e w2 ⟨rfl, hb_⟩
 have HB_2 := Aside0.mk (below_step HB_1.out hb_)
 have Z_2 := Aside0.mk (blk_below Z_1.out hb_)
 clear HB_1 Z_1
 clear hz0 hz1 hz2 hz3 hz4
 clear hb_ HCT
 go_upto_region 2 with ((with_reducible refine gate_dst (N := 6) rfl ?_); refine box_event ?hg (N := 6) ?hd (cs := #[.int .i64 0, .int .i64 0, .int .i64 0, .int .i64 0, .int .i64 0, .int .i64 0, .int .i64 0]) (t := 28) ?hr ?_; (case hd => rfl); (case hg => rfl); (case hr => first | (go_simp; done) | (go_simp; rfl)); intro gg hg_ w3 hbox hb_; have HN := Aside0.mk hb_; have HBX := Aside0.mk hbox; have GG : Aside0 (w2.heap.size ≤ gg) := ⟨Nat.le_of_eq hg_.symm⟩; obtain ⟨hy0, hy1, hy2, hy3, hy4, hy5, hy6⟩ := cells7 hbox; have f0 := blk_frozen hbox 0; have f1 := blk_frozen hbox 1; have f2 := blk_frozen hbox 2; have f3 := blk_frozen hbox 3; have f4 := blk_frozen hbox 4; have f5 := blk_frozen hbox 5; have f6 := blk_frozen hbox 6; clear hbox hb_ hg_)
 have HX := Aside0.mk (set7_below HN.out GG.out (.int .i64 n1) (.int .i64 n2) (.int .i64 n3) (.int .i64 n4) (.int .i64 n5) (.int .i64 n6) (.int .i64 n7))
 have HY := Aside0.mk (set7_blk HBX.out (.int .i64 n1) (.int .i64 n2) (.int .i64 n3) (.int .i64 n4) (.int .i64 n5) (.int .i64 n6) (.int .i64 n7))
 unfold set7 at HX HY
 clear HBX HN hy0 f0 hy1 f1 hy2 f2 hy3 f3 hy4 f4 hy5 f5 hy6 f6
 generalize (((((((w3.setCell ⟨gg, 0, none⟩ (.int .i64 n1)).setCell ⟨gg, 1, none⟩ (.int .i64 n2)).setCell ⟨gg, 2, none⟩ (.int .i64 n3)).setCell ⟨gg, 3, none⟩ (.int .i64 n4)).setCell ⟨gg, 4, none⟩ (.int .i64 n5)).setCell ⟨gg, 5, none⟩ (.int .i64 n6)).setCell ⟨gg, 6, none⟩ (.int .i64 n7)) = w4 at *
 have HB_4 := Aside0.mk (below_step HB_2.out HX.out)
 have Z_4 := Aside0.mk (blk_below Z_2.out HX.out)
 clear HB_2 Z_2
 have G_4 := Aside0.mk (HY.out)
 clear HX HY
 clear G_4
 obtain ⟨hz0, hz1, hz2, hz3, hz4⟩ := zone_cells Z_4.out
 go_wp2_with fail
 refine (HNM.out _ (Kd.C_below HR0.out HB_4.out) (Kd.C_below HR1.out HB_4.out) (Kd.C_below HR2.out HB_4.out)).mono ?_
 rintro e w5 ⟨v0, rfl, hv, hb_⟩
 obtain ⟨An, cn, rfl⟩ := Kd.R_slice hv
 have HB_5 := Aside0.mk (below_step HB_4.out hb_)
 have Z_5 := Aside0.mk (blk_below Z_4.out hb_)
 clear HB_4 Z_4
 clear hz0 hz1 hz2 hz3 hz4
 have NM_5 := Aside0.mk (hv)
 clear hb_ hv HNM
 go_wp2_with fail
 refine (HPL.out An cn _ (Kd.R_reads' NM_5.out).2.2 (Kd.R_reads' NM_5.out).2.1).mono ?_
 rintro e w6 ⟨v0, rfl, hv, hb_⟩
 obtain ⟨At, ct, rfl⟩ := Kd.R_slice hv
 have HB_6 := Aside0.mk (below_step HB_5.out hb_)
 have Z_6 := Aside0.mk (blk_below Z_5.out hb_)
 have NM_6 := Aside0.mk (Kd.R_below NM_5.out hb_)
 clear HB_5 Z_5 NM_5
 have AT_6 := Aside0.mk (hv)
 clear hb_ hv HPL
 clear NM_6
 go_upto_region 8 with fail
 obtain ⟨hz0, hz1, hz2, hz3, hz4⟩ := zone_cells Z_6.out
 go_wp2
 clear hz0 hz1 hz2 hz3 hz4
 have HE0 := Aside0.mk (RE.start w6)
 obtain ⟨L0, hL⟩ : ∃ x, ([] : List Int) = x := ⟨_, rfl⟩
 have HQ0 := Aside0.mk hL
 have HM0 : Aside0 (L0.length ≤ 0) := ⟨by rw [← hL]; exact Nat.le_refl _⟩
 rw [hL] at HE0
 clear hL
 have HEs := Aside0.mk (RE.zero HE0.out)
 go_loopw [11, 12, 14] (fun vo va vi wr => ∃ k : Nat, k ≤ tr.length ∧ vi = .int .i64 (k : Int) ∧ va = .bool (fit (numsT (tr.take k) 8)) ∧ Aside0 (RE w6 wr vo (L0 ++ lay (numsT (tr.take k) 8)))) (fun _ _ i _ => tr.length - (intOf i).toNat)
 case atStart => exact ⟨0, Nat.zero_le _, rfl, rfl, HEs⟩
 case round =>
  obtain ⟨k, hk, rfl, rfl, HE⟩ := hrel
  clear HEs HE0
  by_cases hlt : k < tr.length
  ·skip
   obtain ⟨hz0, hz1, hz2, hz3, hz4⟩ := zone_cells (blk_below Z_6.out HE.out.below)
   have HLN : Aside0 ((L0 ++ lay (numsT (tr.take k) 8)).length ≤ 900000) := ⟨by rw [List.length_append]; have h1 := lay_length (numsT (tr.take k) 8); have h2 := numsT_take_len tr 8 k; have h3 := HM0.out; have h4 := HZL.out; omega⟩
   obtain ⟨ad, hAd, hx0, hx1⟩ := at_T48 (Kd.C_below HR1.out (below_step HB_6.out HE.out.below)) (k : Int) (by omega) (by omega)
   rw [rd48 hlt, Int.toNat_natCast] at hx0 hx1
   cases hAd
   have HNX := Aside0.mk (numsT_take (size := 8) hlt)
   generalize tr[k] = t at *
   generalize numsT (tr.take k) 8 = ns at *
   obtain ⟨fb, hfb⟩ : ∃ x, fit ns = x := ⟨_, rfl⟩
   rw [hfb]
   have HFB := Aside0.mk hfb
   clear hfb
   obtain ⟨La, hLa⟩ : ∃ x, L0 ++ lay ns = x := ⟨_, rfl⟩
   rw [hLa] at HE HLN
   have HLa := Aside0.mk hLa
   clear hLa
   obtain ⟨Ao, co, hvo⟩ := Kd.R_slice HE.out.out
   subst hvo
   obtain ⟨b0, hb0⟩ : ∃ x, fit [(t.f0, (8 : Int))] = x := ⟨_, rfl⟩
   have HG0 := Aside0.mk hb0
   clear hb0
   have HB0 := Aside0.mk (below_step HB_6.out HE.out.below)
   cases fb
   all_goals
    go_wp2_with fail
    have HPUT := rput_is t.f0 8 HE.out (by have := HLN.out; omega)
    rw [HG0.out] at HPUT
    refine HPUT.mono ?_
    clear HPUT
    rintro e w01 ⟨v1, rfl, he_, hb_⟩
    obtain ⟨Lq0, hq_⟩ : ∃ x, La ++ lay [(t.f0, (8 : Int))] = x := ⟨_, rfl⟩
    rw [hq_] at he_
    have HLN0 : Aside0 (Lq0.length ≤ 900000 + 8) := ⟨by rw [← hq_, List.length_append]; have h1 := lay1_len ((t.f0 : Int), (8 : Int)); have h2 := HLN.out; omega⟩
    have HQ0q := Aside0.mk hq_
    clear hq_
    obtain ⟨Ao, co, hvo⟩ := Kd.R_slice he_.out
    subst hvo
    have HE0q := Aside0.mk he_
    clear HLN HE
    have HLN := HLN0
    clear HLN0
    replace hz0 := pw_cell_below hb_ hz0
    replace hz1 := pw_cell_below hb_ hz1
    replace hz2 := pw_cell_below hb_ hz2
    replace hz3 := pw_cell_below hb_ hz3
    replace hz4 := pw_cell_below hb_ hz4
    replace hx0 := pw_cell_below hb_ hx0
    replace hx1 := pw_cell_below hb_ hx1
    clear he_ hb_
    go_wp2_with fail
    exact ⟨⟨k + 1, by omega, by go_num, by rw [HNX.out, fit_app, HG0.out]; exact congrArg Value.bool (upd0 HFB.out).symm, ⟨by rw [HNX.out, lay_snoc1, HLa.out, HQ0q.out]; exact HE0q.out⟩⟩, by simp [intOf]; omega⟩
  ·obtain rfl : k = tr.length := by omega
   rw [List.take_length] at HE
   simp only [List.take_length]
   clear hlt hk
   obtain ⟨hz0, hz1, hz2, hz3, hz4⟩ := zone_cells (blk_below Z_6.out HE.out.below)
   obtain ⟨f1, hf⟩ : ∃ x, fit (numsT tr 8) = x := ⟨_, rfl⟩
   rw [hf]
   have HF1 := Aside0.mk hf
   clear hf
   obtain ⟨L1, hL⟩ : ∃ x, (L0 ++ lay (numsT tr 8)) = x := ⟨_, rfl⟩
   have HQ1 := Aside0.mk hL
   have HM1 : Aside0 (L1.length ≤ 20000) := ⟨by rw [← hL]; have h1 := lay_length (numsT tr 8); have h2 := numsT_len tr 8; have h3 := HM0.out; have h4 := HZL.out; rw [List.length_append]; omega⟩
   rw [hL] at HE
   have HE1 := HE
   clear hL HE
   go_wp2
   clear hz0 hz1 hz2 hz3 hz4
   have HEs := Aside0.mk (RE.zero HE1.out)
   go_loopw [11, 12, 15] (fun vo va vi wr => ∃ k : Nat, k ≤ tr.length ∧ vi = .int .i64 (k : Int) ∧ va = .bool (f1 && fit (numsK (tr.take k))) ∧ Aside0 (RE w6 wr vo (L1 ++ lay (numsK (tr.take k))))) (fun _ _ i _ => tr.length - (intOf i).toNat)
   case atStart => exact ⟨0, Nat.zero_le _, rfl, by rw [show fit (numsK (tr.take 0)) = true from rfl, Bool.and_true], HEs⟩
   case round =>
    obtain ⟨k, hk, rfl, rfl, HE⟩ := hrel
    clear HEs HE1
    by_cases hlt : k < tr.length
    ·skip
     obtain ⟨hz0, hz1, hz2, hz3, hz4⟩ := zone_cells (blk_below Z_6.out HE.out.below)
     have HLN : Aside0 ((L1 ++ lay (numsK (tr.take k))).length ≤ 900000) := ⟨by rw [List.length_append]; have h1 := lay_length (numsK (tr.take k)); have h2 := numsK_take_len tr k; have h3 := HM1.out; have h4 := HZL.out; omega⟩
     obtain ⟨ad, hAd, hx0, hx1⟩ := at_T48 (Kd.C_below HR1.out (below_step HB_6.out HE.out.below)) (k : Int) (by omega) (by omega)
     rw [rd48 hlt, Int.toNat_natCast] at hx0 hx1
     cases hAd
     have HNX := Aside0.mk (numsK_take hlt)
     generalize tr[k] = t at *
     generalize numsK (tr.take k) = ns at *
     obtain ⟨fb, hfb⟩ : ∃ x, (f1 && fit ns) = x := ⟨_, rfl⟩
     rw [hfb]
     have HFB := Aside0.mk hfb
     clear hfb
     obtain ⟨La, hLa⟩ : ∃ x, L1 ++ lay ns = x := ⟨_, rfl⟩
     rw [hLa] at HE HLN
     have HLa := Aside0.mk hLa
     clear hLa
     obtain ⟨Ao, co, hvo⟩ := Kd.R_slice HE.out.out
     subst hvo
     obtain ⟨b0, hb0⟩ : ∃ x, fit [(t.f1, (1 : Int))] = x := ⟨_, rfl⟩
     have HG0 := Aside0.mk hb0
     clear hb0
     have HB0 := Aside0.mk (below_step HB_6.out HE.out.below)
     cases fb
     all_goals
      go_wp2_with fail
      have HPUT := rput_is t.f1 1 HE.out (by have := HLN.out; omega)
      rw [HG0.out] at HPUT
      refine HPUT.mono ?_
      clear HPUT
      rintro e w01 ⟨v1, rfl, he_, hb_⟩
      obtain ⟨Lq0, hq_⟩ : ∃ x, La ++ lay [(t.f1, (1 : Int))] = x := ⟨_, rfl⟩
      rw [hq_] at he_
      have HLN0 : Aside0 (Lq0.length ≤ 900000 + 8) := ⟨by rw [← hq_, List.length_append]; have h1 := lay1_len ((t.f1 : Int), (1 : Int)); have h2 := HLN.out; omega⟩
      have HQ0q := Aside0.mk hq_
      clear hq_
      obtain ⟨Ao, co, hvo⟩ := Kd.R_slice he_.out
      subst hvo
      have HE0q := Aside0.mk he_
      clear HLN HE
      have HLN := HLN0
      clear HLN0
      replace hz0 := pw_cell_below hb_ hz0
      replace hz1 := pw_cell_below hb_ hz1
      replace hz2 := pw_cell_below hb_ hz2
      replace hz3 := pw_cell_below hb_ hz3
      replace hz4 := pw_cell_below hb_ hz4
      replace hx0 := pw_cell_below hb_ hx0
      replace hx1 := pw_cell_below hb_ hx1
      clear he_ hb_
      go_wp2_with fail
      exact ⟨⟨k + 1, by omega, by go_num, by rw [HNX.out, fit_app, HG0.out]; exact congrArg Value.bool (upd1 HFB.out).symm, ⟨by rw [HNX.out, lay_snoc1, HLa.out, HQ0q.out]; exact HE0q.out⟩⟩, by simp [intOf]; omega⟩
    ·obtain rfl : k = tr.length := by omega
     rw [List.take_length] at HE
     simp only [List.take_length]
     clear hlt hk
     obtain ⟨hz0, hz1, hz2, hz3, hz4⟩ := zone_cells (blk_below Z_6.out HE.out.below)
     obtain ⟨f2, hf⟩ : ∃ x, (f1 && fit (numsK tr)) = x := ⟨_, rfl⟩
     rw [hf]
     have HF2 := Aside0.mk hf
     clear hf
     obtain ⟨L2, hL⟩ : ∃ x, (L1 ++ lay (numsK tr)) = x := ⟨_, rfl⟩
     have HQ2 := Aside0.mk hL
     have HM2 : Aside0 (L2.length ≤ 40000) := ⟨by rw [← hL]; have h1 := lay_length (numsK tr); have h2 := numsK_len tr; have h3 := HM1.out; have h4 := HZL.out; rw [List.length_append]; omega⟩
     rw [hL] at HE
     have HE2 := HE
     clear hL HE
     go_wp2
     clear hz0 hz1 hz2 hz3 hz4
     have HEs := Aside0.mk (RE.zero HE2.out)
     go_loopw [11, 12, 16] (fun vo va vi wr => ∃ k : Nat, k ≤ ty.length ∧ vi = .int .i64 (k : Int) ∧ va = .bool (f2 && fit (numsY (ty.take k) ats)) ∧ Aside0 (RE w6 wr vo (L2 ++ lay (numsY (ty.take k) ats)))) (fun _ _ i _ => ty.length - (intOf i).toNat)
     case atStart => exact ⟨0, Nat.zero_le _, rfl, by rw [show fit (numsY (ty.take 0) ats) = true from rfl, Bool.and_true], HEs⟩
     case round =>
      obtain ⟨k, hk, rfl, rfl, HE⟩ := hrel
      clear HEs HE2
      by_cases hlt : k < ty.length
      ·skip
       obtain ⟨hz0, hz1, hz2, hz3, hz4⟩ := zone_cells (blk_below Z_6.out HE.out.below)
       have HLN : Aside0 ((L2 ++ lay (numsY (ty.take k) ats)).length ≤ 900000) := ⟨by rw [List.length_append]; have h1 := lay_length (numsY (ty.take k) ats); have h2 := numsY_take_len ats ty k; have h3 := HM2.out; have h4 := HZL.out; omega⟩
       obtain ⟨ad, hAd, hx0, hx1, hx2⟩ := at_T46 (Kd.C_below HR0.out (below_step HB_6.out HE.out.below)) (k : Int) (by omega) (by omega)
       rw [rd46 hlt, Int.toNat_natCast] at hx0 hx1 hx2
       cases hAd
       obtain ⟨at_, hAt, hat⟩ := Kd.at_int (Kd.C_below (Kd.R_reads' AT_6.out).2.2 HE.out.below) (k : Int) (by omega) (by have := HAT.out; omega)
       rw [rd_at (by rw [HAT.out]; exact hlt), Int.toNat_natCast] at hat
       cases hAt
       have hka : k < ats.length := by rw [HAT.out]; exact hlt
       have HNX := Aside0.mk (numsY_take HAT.out hlt)
       have HMK := Aside0.mk (mk_one ty[k].f1)
       generalize ats[k]'(by rw [HAT.out]; exact hlt) = ta at *
       generalize ty[k] = t at *
       generalize numsY (ty.take k) ats = ns at *
       obtain ⟨fb, hfb⟩ : ∃ x, (f2 && fit ns) = x := ⟨_, rfl⟩
       rw [hfb]
       have HFB := Aside0.mk hfb
       clear hfb
       obtain ⟨La, hLa⟩ : ∃ x, L2 ++ lay ns = x := ⟨_, rfl⟩
       rw [hLa] at HE HLN
       have HLa := Aside0.mk hLa
       clear hLa
       obtain ⟨Ao, co, hvo⟩ := Kd.R_slice HE.out.out
       subst hvo
       obtain ⟨t0, t1, t2⟩ := t
       dsimp only at hx0 hx1 hx2 HNX HMK
       obtain ⟨b0, hb0⟩ : ∃ x, fit [(t0, (4 : Int))] = x := ⟨_, rfl⟩
       have HG0 := Aside0.mk hb0
       clear hb0
       obtain ⟨b2, hb2⟩ : ∃ x, fit [(ta, (1 : Int))] = x := ⟨_, rfl⟩
       have HG2 := Aside0.mk hb2
       clear hb2
       have HB0 := Aside0.mk (below_step HB_6.out HE.out.below)
       cases fb <;> cases b0
       all_goals
        cases t1 with
        | false =>
         rw [show mk false = 0 from rfl] at HNX HMK
         go_wp2_with fail
         have HPUT := rput_is t0 4 HE.out (by have := HLN.out; omega)
         rw [HG0.out] at HPUT
         refine HPUT.mono ?_
         clear HPUT
         rintro e w01 ⟨v1, rfl, he_, hb_⟩
         obtain ⟨Lq0, hq_⟩ : ∃ x, La ++ lay [(t0, (4 : Int))] = x := ⟨_, rfl⟩
         rw [hq_] at he_
         have HLN0 : Aside0 (Lq0.length ≤ 900000 + 8) := ⟨by rw [← hq_, List.length_append]; have h1 := lay1_len ((t0 : Int), (4 : Int)); have h2 := HLN.out; omega⟩
         have HQ0q := Aside0.mk hq_
         clear hq_
         obtain ⟨Ao, co, hvo⟩ := Kd.R_slice he_.out
         subst hvo
         have HE0q := Aside0.mk he_
         clear HLN HE
         have HLN := HLN0
         clear HLN0
         replace hz0 := pw_cell_below hb_ hz0
         replace hz1 := pw_cell_below hb_ hz1
         replace hz2 := pw_cell_below hb_ hz2
         replace hz3 := pw_cell_below hb_ hz3
         replace hz4 := pw_cell_below hb_ hz4
         replace hx0 := pw_cell_below hb_ hx0
         replace hx1 := pw_cell_below hb_ hx1
         replace hx2 := pw_cell_below hb_ hx2
         replace hat := pw_cell_below hb_ hat
         clear he_ hb_
         go_wp2_with fail
         have HPUT := rput_is 0 1 HE0q.out (by have := HLN.out; omega)
         rw [HMK.out] at HPUT
         refine HPUT.mono ?_
         clear HPUT
         rintro e w11 ⟨v1, rfl, he_, hb_⟩
         obtain ⟨Lq1, hq_⟩ : ∃ x, Lq0 ++ lay [(0, (1 : Int))] = x := ⟨_, rfl⟩
         rw [hq_] at he_
         have HLN1 : Aside0 (Lq1.length ≤ 900000 + 16) := ⟨by rw [← hq_, List.length_append]; have h1 := lay1_len ((0 : Int), (1 : Int)); have h2 := HLN.out; omega⟩
         have HQ1q := Aside0.mk hq_
         clear hq_
         obtain ⟨Ao, co, hvo⟩ := Kd.R_slice he_.out
         subst hvo
         have HE1q := Aside0.mk he_
         clear HLN HE0q
         have HLN := HLN1
         clear HLN1
         replace hz0 := pw_cell_below hb_ hz0
         replace hz1 := pw_cell_below hb_ hz1
         replace hz2 := pw_cell_below hb_ hz2
         replace hz3 := pw_cell_below hb_ hz3
         replace hz4 := pw_cell_below hb_ hz4
         replace hx0 := pw_cell_below hb_ hx0
         replace hx1 := pw_cell_below hb_ hx1
         replace hx2 := pw_cell_below hb_ hx2
         replace hat := pw_cell_below hb_ hat
         clear he_ hb_
         go_wp2_with fail
         have HPUT := rput_is ta 1 HE1q.out (by have := HLN.out; omega)
         rw [HG2.out] at HPUT
         refine HPUT.mono ?_
         clear HPUT
         rintro e w21 ⟨v1, rfl, he_, hb_⟩
         obtain ⟨Lq2, hq_⟩ : ∃ x, Lq1 ++ lay [(ta, (1 : Int))] = x := ⟨_, rfl⟩
         rw [hq_] at he_
         have HLN2 : Aside0 (Lq2.length ≤ 900000 + 24) := ⟨by rw [← hq_, List.length_append]; have h1 := lay1_len ((ta : Int), (1 : Int)); have h2 := HLN.out; omega⟩
         have HQ2q := Aside0.mk hq_
         clear hq_
         obtain ⟨Ao, co, hvo⟩ := Kd.R_slice he_.out
         subst hvo
         have HE2q := Aside0.mk he_
         clear HLN HE1q
         have HLN := HLN2
         clear HLN2
         replace hz0 := pw_cell_below hb_ hz0
         replace hz1 := pw_cell_below hb_ hz1
         replace hz2 := pw_cell_below hb_ hz2
         replace hz3 := pw_cell_below hb_ hz3
         replace hz4 := pw_cell_below hb_ hz4
         replace hx0 := pw_cell_below hb_ hx0
         replace hx1 := pw_cell_below hb_ hx1
         replace hx2 := pw_cell_below hb_ hx2
         replace hat := pw_cell_below hb_ hat
         clear he_ hb_
         go_wp2_with fail
         exact ⟨⟨k + 1, by omega, by go_num, by rw [HNX.out, fit_app, fit_app, fit_app, HG0.out, HMK.out, HG2.out]; have hq := HFB.out; revert hq; cases f2 <;> cases fit ns <;> simp, ⟨by rw [HNX.out, lay_snoc3, HLa.out, HQ0q.out, HQ1q.out, HQ2q.out]; exact HE2q.out⟩⟩, by simp [intOf]; omega⟩
        | true =>
         rw [show mk true = 1 from rfl] at HNX HMK
         go_wp2_with fail
         have HPUT := rput_is t0 4 HE.out (by have := HLN.out; omega)
         rw [HG0.out] at HPUT
         refine HPUT.mono ?_
         clear HPUT
         rintro e w01 ⟨v1, rfl, he_, hb_⟩
         obtain ⟨Lq0, hq_⟩ : ∃ x, La ++ lay [(t0, (4 : Int))] = x := ⟨_, rfl⟩
         rw [hq_] at he_
         have HLN0 : Aside0 (Lq0.length ≤ 900000 + 8) := ⟨by rw [← hq_, List.length_append]; have h1 := lay1_len ((t0 : Int), (4 : Int)); have h2 := HLN.out; omega⟩
         have HQ0q := Aside0.mk hq_
         clear hq_
         obtain ⟨Ao, co, hvo⟩ := Kd.R_slice he_.out
         subst hvo
         have HE0q := Aside0.mk he_
         clear HLN HE
         have HLN := HLN0
         clear HLN0
         replace hz0 := pw_cell_below hb_ hz0
         replace hz1 := pw_cell_below hb_ hz1
         replace hz2 := pw_cell_below hb_ hz2
         replace hz3 := pw_cell_below hb_ hz3
         replace hz4 := pw_cell_below hb_ hz4
         replace hx0 := pw_cell_below hb_ hx0
         replace hx1 := pw_cell_below hb_ hx1
         replace hx2 := pw_cell_below hb_ hx2
         replace hat := pw_cell_below hb_ hat
         clear he_ hb_
         go_wp2_with fail
         have HPUT := rput_is 1 1 HE0q.out (by have := HLN.out; omega)
         rw [HMK.out] at HPUT
         refine HPUT.mono ?_
         clear HPUT
         rintro e w11 ⟨v1, rfl, he_, hb_⟩
         obtain ⟨Lq1, hq_⟩ : ∃ x, Lq0 ++ lay [(1, (1 : Int))] = x := ⟨_, rfl⟩
         rw [hq_] at he_
         have HLN1 : Aside0 (Lq1.length ≤ 900000 + 16) := ⟨by rw [← hq_, List.length_append]; have h1 := lay1_len ((1 : Int), (1 : Int)); have h2 := HLN.out; omega⟩
         have HQ1q := Aside0.mk hq_
         clear hq_
         obtain ⟨Ao, co, hvo⟩ := Kd.R_slice he_.out
         subst hvo
         have HE1q := Aside0.mk he_
         clear HLN HE0q
         have HLN := HLN1
         clear HLN1
         replace hz0 := pw_cell_below hb_ hz0
         replace hz1 := pw_cell_below hb_ hz1
         replace hz2 := pw_cell_below hb_ hz2
         replace hz3 := pw_cell_below hb_ hz3
         replace hz4 := pw_cell_below hb_ hz4
         replace hx0 := pw_cell_below hb_ hx0
         replace hx1 := pw_cell_below hb_ hx1
         replace hx2 := pw_cell_below hb_ hx2
         replace hat := pw_cell_below hb_ hat
         clear he_ hb_
         go_wp2_with fail
         have HPUT := rput_is ta 1 HE1q.out (by have := HLN.out; omega)
         rw [HG2.out] at HPUT
         refine HPUT.mono ?_
         clear HPUT
         rintro e w21 ⟨v1, rfl, he_, hb_⟩
         obtain ⟨Lq2, hq_⟩ : ∃ x, Lq1 ++ lay [(ta, (1 : Int))] = x := ⟨_, rfl⟩
         rw [hq_] at he_
         have HLN2 : Aside0 (Lq2.length ≤ 900000 + 24) := ⟨by rw [← hq_, List.length_append]; have h1 := lay1_len ((ta : Int), (1 : Int)); have h2 := HLN.out; omega⟩
         have HQ2q := Aside0.mk hq_
         clear hq_
         obtain ⟨Ao, co, hvo⟩ := Kd.R_slice he_.out
         subst hvo
         have HE2q := Aside0.mk he_
         clear HLN HE1q
         have HLN := HLN2
         clear HLN2
         replace hz0 := pw_cell_below hb_ hz0
         replace hz1 := pw_cell_below hb_ hz1
         replace hz2 := pw_cell_below hb_ hz2
         replace hz3 := pw_cell_below hb_ hz3
         replace hz4 := pw_cell_below hb_ hz4
         replace hx0 := pw_cell_below hb_ hx0
         replace hx1 := pw_cell_below hb_ hx1
         replace hx2 := pw_cell_below hb_ hx2
         replace hat := pw_cell_below hb_ hat
         clear he_ hb_
         go_wp2_with fail
         exact ⟨⟨k + 1, by omega, by go_num, by rw [HNX.out, fit_app, fit_app, fit_app, HG0.out, HMK.out, HG2.out]; have hq := HFB.out; revert hq; cases f2 <;> cases fit ns <;> simp, ⟨by rw [HNX.out, lay_snoc3, HLa.out, HQ0q.out, HQ1q.out, HQ2q.out]; exact HE2q.out⟩⟩, by simp [intOf]; omega⟩
      ·obtain rfl : k = ty.length := by omega
       rw [List.take_length] at HE
       simp only [List.take_length]
       clear hlt hk
       obtain ⟨hz0, hz1, hz2, hz3, hz4⟩ := zone_cells (blk_below Z_6.out HE.out.below)
       obtain ⟨f3, hf⟩ : ∃ x, (f2 && fit (numsY ty ats)) = x := ⟨_, rfl⟩
       rw [hf]
       have HF3 := Aside0.mk hf
       clear hf
       obtain ⟨L3, hL⟩ : ∃ x, (L2 ++ lay (numsY ty ats)) = x := ⟨_, rfl⟩
       have HQ3 := Aside0.mk hL
       have HM3 : Aside0 (L3.length ≤ 60000) := ⟨by rw [← hL]; have h1 := lay_length (numsY ty ats); have h2 := numsY_len ty ats; have h3 := HM2.out; have h4 := HZL.out; rw [List.length_append]; omega⟩
       rw [hL] at HE
       have HE3 := HE
       clear hL HE
       have kb := fun W => print_bytes (P := Try.prog) 9 29 5 Try.underlying9 Try.underlying29 Try.underlying5 P W
       obtain ⟨LP, hLP⟩ : ∃ x, L3 ++ bytesOf P = x := ⟨_, rfl⟩
       have HQP := Aside0.mk hLP
       have HMP : Aside0 (LP.length ≤ 100000) := ⟨by rw [← hLP, List.length_append, bytesOf_length]; have h1 := HM3.out; have h2 := HZL.out; omega⟩
       clear hLP
       have HBB := Aside0.mk (bytes_below (Below.refl wr.heap.size wr) (Nat.le_refl _) 5 P)
       have HCB := Aside0.mk (Kd.C_of_reads (d := (0 : Int)) (h1 := fun _ => rfl) (bytes_reads wr 5 P (by have := HZL.out; omega)))
       have HZP := Aside0.mk (fun (W : World) (hb : Below w6.heap.size w6 W) => zone_cells (blk_below Z_6.out hb))
       go_wp2_with (first | ((with_reducible refine gate_builtin (b := .append) (xs := #[.tmp 133, .tmp 135]) rfl ?_); at_builtin; refine Kd.R_append_rows (Kd.int .u8) (w0 := w6) w6.heap.size rfl (.tmp 133) (.tmp 135) 29 5 (.int .u8 0) 1 rfl Try.underlying29 info5 rfl (by decide) (by omega) _ L3 (bytesOf P) _ _ _ (fun _ => True) (fun _ => False) rfl rfl ?aO ?aR (fun _ _ h => h) (fun _ h => h.elim) (fun _ _ => trivial) ?aB ?aS ?aL ?_; (case aO => exact Kd.R_below HE3.out.out HBB.out); (case aR => exact HCB.out); (case aB => exact below_step HE3.out.below HBB.out); (case aS => exact Below.size (below_step HE3.out.below HBB.out)); (case aL => have h1 := HM3.out; have h2 := HZL.out; omega); intro v4 w4 ho hb hg hat; rw [HQP.out] at ho; have HEP : Aside0 (RE w6 w4 v4 LP) := ⟨⟨hb, ho⟩⟩; clear hz0 hz1 hz2 hz3 hz4; obtain ⟨hz0, hz1, hz2, hz3, hz4⟩ := HZP.out w4 hb; clear ho hb hg hat HE3))
       clear kb HBB HCB HZP hz0 hz1 hz2 hz3 hz4
       have HEs := Aside0.mk (RE.zero HEP.out)
       go_loopw [11, 12, 18] (fun vo va vi wr => ∃ k : Nat, k ≤ lp.length ∧ vi = .int .i64 (k : Int) ∧ va = .bool (f3 && fit (numsL (lp.take k) 8)) ∧ Aside0 (RE w6 wr vo (LP ++ lay (numsL (lp.take k) 8)))) (fun _ _ i _ => lp.length - (intOf i).toNat)
       case atStart => exact ⟨0, Nat.zero_le _, rfl, by rw [show fit (numsL (lp.take 0) 8) = true from rfl, Bool.and_true], HEs⟩
       case round =>
        obtain ⟨k, hk, rfl, rfl, HE⟩ := hrel
        clear HEs HEP
        by_cases hlt : k < lp.length
        ·skip
         obtain ⟨hz0, hz1, hz2, hz3, hz4⟩ := zone_cells (blk_below Z_6.out HE.out.below)
         have HLN : Aside0 ((LP ++ lay (numsL (lp.take k) 8)).length ≤ 900000) := ⟨by rw [List.length_append]; have h1 := lay_length (numsL (lp.take k) 8); have h2 := numsL_take_len lp 8 k; have h3 := HMP.out; have h4 := HZL.out; omega⟩
         obtain ⟨ad, hAd, hx0, hx1⟩ := at_T50 (Kd.C_below HR2.out (below_step HB_6.out HE.out.below)) (k : Int) (by omega) (by omega)
         rw [rd50 hlt, Int.toNat_natCast] at hx0 hx1
         cases hAd
         have HNX := Aside0.mk (numsL_take (size := 8) hlt)
         generalize lp[k] = t at *
         generalize numsL (lp.take k) 8 = ns at *
         obtain ⟨fb, hfb⟩ : ∃ x, (f3 && fit ns) = x := ⟨_, rfl⟩
         rw [hfb]
         have HFB := Aside0.mk hfb
         clear hfb
         obtain ⟨La, hLa⟩ : ∃ x, LP ++ lay ns = x := ⟨_, rfl⟩
         rw [hLa] at HE HLN
         have HLa := Aside0.mk hLa
         clear hLa
         obtain ⟨Ao, co, hvo⟩ := Kd.R_slice HE.out.out
         subst hvo
         obtain ⟨b0, hb0⟩ : ∃ x, fit [(t.f0, (8 : Int))] = x := ⟨_, rfl⟩
         have HG0 := Aside0.mk hb0
         clear hb0
         obtain ⟨b1, hb1⟩ : ∃ x, fit [(t.f1, (4 : Int))] = x := ⟨_, rfl⟩
         have HG1 := Aside0.mk hb1
         clear hb1
         have HB0 := Aside0.mk (below_step HB_6.out HE.out.below)
         cases fb <;> cases b0
         all_goals
          go_wp2_with fail
          have HPUT := rput_is t.f0 8 HE.out (by have := HLN.out; omega)
          rw [HG0.out] at HPUT
          refine HPUT.mono ?_
          clear HPUT
          rintro e w01 ⟨v1, rfl, he_, hb_⟩
          obtain ⟨Lq0, hq_⟩ : ∃ x, La ++ lay [(t.f0, (8 : Int))] = x := ⟨_, rfl⟩
          rw [hq_] at he_
          have HLN0 : Aside0 (Lq0.length ≤ 900000 + 8) := ⟨by rw [← hq_, List.length_append]; have h1 := lay1_len ((t.f0 : Int), (8 : Int)); have h2 := HLN.out; omega⟩
          have HQ0q := Aside0.mk hq_
          clear hq_
          obtain ⟨Ao, co, hvo⟩ := Kd.R_slice he_.out
          subst hvo
          have HE0q := Aside0.mk he_
          clear HLN HE
          have HLN := HLN0
          clear HLN0
          replace hz0 := pw_cell_below hb_ hz0
          replace hz1 := pw_cell_below hb_ hz1
          replace hz2 := pw_cell_below hb_ hz2
          replace hz3 := pw_cell_below hb_ hz3
          replace hz4 := pw_cell_below hb_ hz4
          replace hx0 := pw_cell_below hb_ hx0
          replace hx1 := pw_cell_below hb_ hx1
          clear he_ hb_
          go_wp2_with fail
          have HPUT := rput_is t.f1 4 HE0q.out (by have := HLN.out; omega)
          rw [HG1.out] at HPUT
          refine HPUT.mono ?_
          clear HPUT
          rintro e w11 ⟨v1, rfl, he_, hb_⟩
          obtain ⟨Lq1, hq_⟩ : ∃ x, Lq0 ++ lay [(t.f1, (4 : Int))] = x := ⟨_, rfl⟩
          rw [hq_] at he_
          have HLN1 : Aside0 (Lq1.length ≤ 900000 + 16) := ⟨by rw [← hq_, List.length_append]; have h1 := lay1_len ((t.f1 : Int), (4 : Int)); have h2 := HLN.out; omega⟩
          have HQ1q := Aside0.mk hq_
          clear hq_
          obtain ⟨Ao, co, hvo⟩ := Kd.R_slice he_.out
          subst hvo
          have HE1q := Aside0.mk he_
          clear HLN HE0q
          have HLN := HLN1
          clear HLN1
          replace hz0 := pw_cell_below hb_ hz0
          replace hz1 := pw_cell_below hb_ hz1
          replace hz2 := pw_cell_below hb_ hz2
          replace hz3 := pw_cell_below hb_ hz3
          replace hz4 := pw_cell_below hb_ hz4
          replace hx0 := pw_cell_below hb_ hx0
          replace hx1 := pw_cell_below hb_ hx1
          clear he_ hb_
          go_wp2_with fail
          exact ⟨⟨k + 1, by omega, by go_num, by rw [HNX.out, fit_app, fit_app, HG0.out, HG1.out]; have hq := HFB.out; revert hq; cases f3 <;> cases fit ns <;> simp, ⟨by rw [HNX.out, lay_snoc2, HLa.out, HQ0q.out, HQ1q.out]; exact HE1q.out⟩⟩, by simp [intOf]; omega⟩
        ·obtain rfl : k = lp.length := by omega
         rw [List.take_length] at HE
         simp only [List.take_length]
         clear hlt hk
         obtain ⟨hz0, hz1, hz2, hz3, hz4⟩ := zone_cells (blk_below Z_6.out HE.out.below)
         obtain ⟨f4, hf⟩ : ∃ x, (f3 && fit (numsL lp 8)) = x := ⟨_, rfl⟩
         rw [hf]
         have HF4 := Aside0.mk hf
         clear hf
         obtain ⟨L4, hL⟩ : ∃ x, (LP ++ lay (numsL lp 8)) = x := ⟨_, rfl⟩
         have HQ4 := Aside0.mk hL
         have HM4 : Aside0 (L4.length ≤ 200000) := ⟨by rw [← hL]; have h1 := lay_length (numsL lp 8); have h2 := numsL_len lp 8; have h3 := HMP.out; have h4 := HZL.out; rw [List.length_append]; omega⟩
         rw [hL] at HE
         have HE4 := HE
         clear hL HE
         have hall : (fit (numsT tr 8) && fit (numsK tr) && fit (numsY ty ats) && fit (numsL lp 8)) = f4 := by rw [← HF4.out, ← HF3.out, ← HF2.out, ← HF1.out]
         have hR := HN.out
         rw [hall] at hR
         cases f4 with
         | false =>
          go_wp2
          go_ret2
          subst hR
          exact ⟨_, rfl, Kd.R_nil _ _ _ _ _, below_step HB_6.out HE4.out.below⟩
         | true =>
          go_wp2
          go_ret2
          subst hR
          have hl4 : L4 = lay (numsT tr 8) ++ lay (numsK tr) ++ lay (numsY ty ats) ++ bytesOf P ++ lay (numsL lp 8) := by rw [← HQ4.out, ← HQP.out, ← HQ3.out, ← HQ2.out, ← HQ1.out, ← HQ0.out, List.nil_append]
          rw [hl4] at HE4
          have hfin := Kd.R_lower HE4.out.out (Below.size HB_6.out)
          simp only [List.append_assoc] at hfin
          exact ⟨u11, rfl, hfin, below_step HB_6.out HE4.out.below⟩
theorem rencode_is (A0 : Option Addr) (c0 : Nat) (ty : List S46) (A1 : Option Addr) (c1 : Nat) (tr : List S48) (A2 : Option Addr) (c2 : Nat) (lp : List S50) (foot : ByteArray) (ver : Int) (size : Int) (r1 : List Int) (r2 : Bool) (w : World)
  (j0 : Kd.C k46 w A0 ty.length ty) (i0 : ty.length ≤ c0) (j1 : Kd.C k48 w A1 tr.length tr) (i1 : tr.length ≤ c1) (j2 : Kd.C k50 w A2 lp.length lp) (i2 : lp.length ≤ c2) (h : encF ty tr lp foot ver size = some (r1, r2)) :
  Calls Try.prog 13 #[.agg #[.slice A0 ty.length c0, .slice A1 tr.length c1, .slice A2 lp.length c2, .string foot, .int .i64 ver], .int .i64 size] w fun e w' => ∃ v0_ : Value, e = .returned (.tuple #[v0_, .bool r2]) ∧ Kd.R (Kd.int .u8) 5 w' w.heap.size (fun _ => True) v0_ r1 ∧ Below w.heap.size w w' := by
 unfold encF at h
 cases ho : okZ ty tr lp with
 | false => rw [ho] at h; cases h
 | true =>
  rw [ho] at h
  have h := Option.some.inj h
  have e1 : r1 = (encN ty tr lp ver size).1 := by rw [h]
  have e2 : r2 = (encN ty tr lp ver size).2 := by rw [h]
  rw [e1, e2]
  cases hc : (countN ty tr lp ver).2.2.2.2.2.2.2 with
  | false => exact renc_false A0 c0 ty A1 c1 tr A2 c2 lp foot ver size w i0 i1 i2 j0 j1 j2 ho (.inl hc)
  | true =>
   by_cases h4 : size = 4
   ·subst h4; exact renc_4 A0 c0 ty A1 c1 tr A2 c2 lp foot ver w i0 i1 i2 j0 j1 j2 ho hc
   ·by_cases h8 : size = 8
    ·subst h8; exact renc_8 A0 c0 ty A1 c1 tr A2 c2 lp foot ver w i0 i1 i2 j0 j1 j2 ho hc
    ·exact renc_false A0 c0 ty A1 c1 tr A2 c2 lp foot ver size w i0 i1 i2 j0 j1 j2 ho (.inr (by omega))
end Go.Proofs.Ytpgjcnjojfehjaa.Bk
namespace Go.Proofs.Ytpgjcnjojfehjaa.Bk
open Go.RowKit Go.Proofs.YtpgjcnjojfehjaaW.PrintWords Go.Proofs.YtpgjcnjojfehjaaW.PrintLast Go.Proofs.YtpgjcnjojfehjaaW.PrintMore Oct Kx Ab
structure Dq (w W : World) (hb ob rg zb B N : Nat) (hc zc : Array Value) (l : List Int) (bad : Bool) : Prop where
 head : W.heap[hb]? = some (.cells hc 28 (0, 0))
 out : W.heap[ob]? = some (.cells (zoneC (.slice none 0 0) (.slice none 0 0) (.slice none 0 0) 0) 26 (0, 0))
 rd : Rd 90 B N W rg l bad
 zone : W.heap[zb]? = some (.cells zc 26 (0, 0))
 ord : w.heap.size ≤ hb ∧ w.heap.size ≤ ob ∧ hb ≠ ob ∧ hb < B ∧ ob < B ∧ N ≤ zb
 below : Below w.heap.size w W
section
variable {w W W1 : World} {hb ob rg zb B N : Nat} {hc zc : Array Value} {l l2 : List Int} {bad b2 : Bool}
theorem Dq.num (h : Dq w W hb ob rg zb B N hc zc l bad) (hr : Rd 90 B N W1 rg l2 b2) (hg : W.grownBy W1 (some rg)) : Dq w W1 hb ob rg zb B N hc zc l2 b2 := by
 obtain ⟨h1, h2, h3, h4, h5, h6⟩ := h.ord
 have h7 := h.rd.size
 have keep : ∀ k (o : Obj), k ≠ rg → W.heap[k]? = some o → W1.heap[k]? = some o := fun k o hk ho => (hg.block k (blk_lt ho) (fun e => hk (by injection e))).trans ho
 exact ⟨keep _ _ (by omega) h.head, keep _ _ (by omega) h.out, hr, keep _ _ (by omega) h.zone, h.ord, below_grown h.below hg (fun k e => by injection e with e; omega)⟩
theorem Dq.step (h : Dq w W hb ob rg zb B N hc zc l bad) (hb1 : Below W.heap.size W W1) : Dq w W1 hb ob rg zb B N hc zc l bad :=
 ⟨blk_below h.head hb1, blk_below h.out hb1, Rd.below h.rd hb1, blk_below h.zone hb1, h.ord, below_step h.below hb1⟩
theorem Dq.other (h : Dq w W hb ob rg zb B N hc zc l bad) {row : Option Nat} (hg : W.grownBy W1 row) (hr : ∀ k, row = some k → N ≤ k ∧ k ≠ zb) : Dq w W1 hb ob rg zb B N hc zc l bad := by
 obtain ⟨h1, h2, h3, h4, h5, h6⟩ := h.ord
 have h7 := h.rd.size
 have keep : ∀ k (o : Obj), (k < N ∨ k = zb) → W.heap[k]? = some o → W1.heap[k]? = some o := fun k o hk ho => (hg.block k (blk_lt ho) (fun e => by have := hr k e.symm; omega)).trans ho
 exact ⟨keep _ _ (by omega) h.head, keep _ _ (by omega) h.out, Rd.grown h.rd hg (fun k e => .inr (hr k e).1), keep _ _ (by omega) h.zone, h.ord, below_grown h.below hg (fun k e => by have := (hr k e).1; omega)⟩
theorem Dq.zset (h : Dq w W hb ob rg zb B N hc zc l bad) (j : Nat) (u : Value) : Dq w (W.setCell ⟨zb, j, none⟩ u) hb ob rg zb B N hc (zc.setIfInBounds j u) l bad := by
 obtain ⟨h1, h2, h3, h4, h5, h6⟩ := h.ord
 have h7 := h.rd.size
 have hg := grown_set W ⟨zb, j, none⟩ u
 have keep : ∀ k (o : Obj), k ≠ zb → W.heap[k]? = some o → (W.setCell ⟨zb, j, none⟩ u).heap[k]? = some o := fun k o hk ho => (Below.heap_setCell W ⟨zb, j, none⟩ u k hk).trans ho
 exact ⟨keep _ _ (by omega) h.head, keep _ _ (by omega) h.out, Rd.grown h.rd hg (fun k e => .inr (by injection e with e; have e2 : zb = k := e; omega)), blk_set h.zone j u, h.ord, h.below.setCell (p := ⟨zb, j, none⟩) (show w.heap.size ≤ zb by omega) u⟩
theorem Dq.sz (h : Dq w W hb ob rg zb B N hc zc l bad) : N ≤ W.heap.size := h.rd.size.2.2
end
structure Rz (w W : World) (hb ob rg zb B N : Nat) (hc zc : Array Value) (l : List Int) (bad : Bool) (vr : Value) (tr : List S48) (vt : Value) (ty : List S46) (vl : Value) (ls : List S50) (va : Value) (az : List Int) : Prop where
 dz : Dq w W hb ob rg zb B N hc zc l bad
 tr : Kd.R k48 48 W N (fun _ => True) vr tr
 ty : Kd.R k46 46 W N (fun _ => True) vt ty
 lps : Kd.R k50 50 W N (fun _ => True) vl ls
 ats : Kd.R (Kd.int .i64) 3 W N (fun _ => True) va az
section
variable {w W W1 : World} {hb ob rg zb B N : Nat} {hc zc : Array Value} {l l2 : List Int} {bad b2 : Bool} {vr vt vl va : Value} {tr : List S48} {ty : List S46} {ls : List S50} {az : List Int}
theorem Rz.num (h : Rz w W hb ob rg zb B N hc zc l bad vr tr vt ty vl ls va az) (hr : Rd 90 B N W1 rg l2 b2) (hg : W.grownBy W1 (some rg)) : Rz w W1 hb ob rg zb B N hc zc l2 b2 vr tr vt ty vl ls va az := by
 obtain ⟨cs, hbk⟩ := Rd.block h.dz.rd
 exact ⟨h.dz.num hr hg, row_grown h.tr hbk (E48 (by decide)) hg, row_grown h.ty hbk (E46 (by decide)) hg, row_grown h.lps hbk (E50 (by decide)) hg, row_grown h.ats hbk (E3 (by decide)) hg⟩
theorem Rz.step (h : Rz w W hb ob rg zb B N hc zc l bad vr tr vt ty vl ls va az) (hb1 : Below W.heap.size W W1) : Rz w W1 hb ob rg zb B N hc zc l bad vr tr vt ty vl ls va az :=
 ⟨h.dz.step hb1, Kd.R_below h.tr hb1, Kd.R_below h.ty hb1, Kd.R_below h.lps hb1, Kd.R_below h.ats hb1⟩
theorem Rz.zset (h : Rz w W hb ob rg zb B N hc zc l bad vr tr vt ty vl ls va az) (j : Nat) (u : Value) : Rz w (W.setCell ⟨zb, j, none⟩ u) hb ob rg zb B N hc (zc.setIfInBounds j u) l bad vr tr vt ty vl ls va az :=
 ⟨h.dz.zset j u, row_store h.tr h.dz.zone (E48 (by decide)) j u, row_store h.ty h.dz.zone (E46 (by decide)) j u, row_store h.lps h.dz.zone (E50 (by decide)) j u, row_store h.ats h.dz.zone (E3 (by decide)) j u⟩
theorem Rz.row_tr {vr' : Value} {tr' : List S48} (h : Rz w W hb ob rg zb B N hc zc l bad vr tr vt ty vl ls va az) (hR : Kd.R k48 48 W1 N (fun _ => True) vr' tr') (hg : W.grownBy W1 vr.ownBlock) : Rz w W1 hb ob rg zb B N hc zc l bad vr' tr' vt ty vl ls va az :=
 ⟨h.dz.other hg (fun k e => ⟨Kd.R_base h.tr k e, fun e2 => Kd.R_ne h.tr h.dz.zone (by decide) (by rw [← e2]; exact e.symm)⟩), hR, R_other h.ty h.tr (E46 (by decide)) hg, R_other h.lps h.tr (E50 (by decide)) hg, R_other h.ats h.tr (E3 (by decide)) hg⟩
theorem Rz.row_ty {vt' : Value} {ty' : List S46} (h : Rz w W hb ob rg zb B N hc zc l bad vr tr vt ty vl ls va az) (hR : Kd.R k46 46 W1 N (fun _ => True) vt' ty') (hg : W.grownBy W1 vt.ownBlock) : Rz w W1 hb ob rg zb B N hc zc l bad vr tr vt' ty' vl ls va az :=
 ⟨h.dz.other hg (fun k e => ⟨Kd.R_base h.ty k e, fun e2 => Kd.R_ne h.ty h.dz.zone (by decide) (by rw [← e2]; exact e.symm)⟩), R_other h.tr h.ty (E48 (by decide)) hg, hR, R_other h.lps h.ty (E50 (by decide)) hg, R_other h.ats h.ty (E3 (by decide)) hg⟩
theorem Rz.row_lps {vl' : Value} {ls' : List S50} (h : Rz w W hb ob rg zb B N hc zc l bad vr tr vt ty vl ls va az) (hR : Kd.R k50 50 W1 N (fun _ => True) vl' ls') (hg : W.grownBy W1 vl.ownBlock) : Rz w W1 hb ob rg zb B N hc zc l bad vr tr vt ty vl' ls' va az :=
 ⟨h.dz.other hg (fun k e => ⟨Kd.R_base h.lps k e, fun e2 => Kd.R_ne h.lps h.dz.zone (by decide) (by rw [← e2]; exact e.symm)⟩), R_other h.tr h.lps (E48 (by decide)) hg, R_other h.ty h.lps (E46 (by decide)) hg, hR, R_other h.ats h.lps (E3 (by decide)) hg⟩
theorem Rz.row_ats {va' : Value} {az' : List Int} (h : Rz w W hb ob rg zb B N hc zc l bad vr tr vt ty vl ls va az) (hR : Kd.R (Kd.int .i64) 3 W1 N (fun _ => True) va' az') (hg : W.grownBy W1 va.ownBlock) : Rz w W1 hb ob rg zb B N hc zc l bad vr tr vt ty vl ls va' az' :=
 ⟨h.dz.other hg (fun k e => ⟨Kd.R_base h.ats k e, fun e2 => Kd.R_ne h.ats h.dz.zone (by decide) (by rw [← e2]; exact e.symm)⟩), R_other h.tr h.ats (E48 (by decide)) hg, R_other h.ty h.ats (E46 (by decide)) hg, R_other h.lps h.ats (E50 (by decide)) hg, hR⟩
theorem Rz.set_tr {tb n cap m k : Nat} {j : Nat} (hj : j < 2) {u : Value} {x' : S48} (h : Rz w W hb ob rg zb B N hc zc l bad (.slice (some ⟨tb, 0, none⟩) n cap) tr vt ty vl ls va az) (hk : k < tr.length) (hx : ([Value.int .i64 tr[k].f0, .int .i64 tr[k].f1] : List Value).set j u = [.int .i64 x'.f0, .int .i64 x'.f1]) (hn : m = k * 2 + j) : Rz w (W.setCell ⟨tb, m, none⟩ u) hb ob rg zb B N hc zc l bad (.slice (some ⟨tb, 0, none⟩) n cap) (tr.set k x') vt ty vl ls va az := by
 subst hn
 have htb : N ≤ tb := Kd.R_base h.tr tb (by simp [Value.ownBlock])
 have hne : tb ≠ zb := fun e => Kd.R_ne h.tr h.dz.zone (by decide) (by rw [e]; simp [Value.ownBlock])
 obtain ⟨inner, hi⟩ := Kd.R_own h.tr
 obtain ⟨cells, hcl⟩ := own_typed hi tb (by simp [Value.ownBlock])
 refine ⟨h.dz.other (grown_set W ⟨tb, k * 2 + j, none⟩ _) (fun q e => by injection e with e; have e2 : tb = q := e; omega), ?_, row_store h.ty hcl (E46 (by decide)) _ _, row_store h.lps hcl (E50 (by decide)) _ _, row_store h.ats hcl (E3 (by decide)) _ _⟩
 refine R_setcell flat48 h.tr k j hk hj u x' fun w base ok cs hc => ?_
 rw [k48_openM hc, hx]
 exact k48_mkM _ _ _ _
theorem Rz.name {tb n cap m k : Nat} (nm : ByteArray) (h : Rz w W hb ob rg zb B N hc zc l bad vr tr (.slice (some ⟨tb, 0, none⟩) n cap) ty vl ls va az) (hk : k < ty.length) (hn : m = k * 3 + 2) : Rz w (W.setCell ⟨tb, m, none⟩ (.string nm)) hb ob rg zb B N hc zc l bad vr tr (.slice (some ⟨tb, 0, none⟩) n cap) (ty.set k (setNm ty[k] nm)) vl ls va az := by
 subst hn
 have htb : N ≤ tb := Kd.R_base h.ty tb (by simp [Value.ownBlock])
 have hne : tb ≠ zb := fun e => Kd.R_ne h.ty h.dz.zone (by decide) (by rw [e]; simp [Value.ownBlock])
 obtain ⟨inner, hi⟩ := Kd.R_own h.ty
 obtain ⟨cells, hcl⟩ := own_typed hi tb (by simp [Value.ownBlock])
 refine ⟨h.dz.other (grown_set W ⟨tb, k * 3 + 2, none⟩ _) (fun q e => by injection e with e; have e2 : tb = q := e; omega), row_store h.tr hcl (E48 (by decide)) _ _, ?_, row_store h.lps hcl (E50 (by decide)) _ _, row_store h.ats hcl (E3 (by decide)) _ _⟩
 refine R_setcell flat46 h.ty k 2 hk (by decide) (.string nm) (setNm ty[k] nm) fun w base ok cs hc => ?_
 rw [k46_openM hc]
 exact k46_mkM _ _ _ (setNm ty[k] nm)
end
end Go.Proofs.Ytpgjcnjojfehjaa.Bk
namespace Go.Proofs.Ytpgjcnjojfehjaa.Pmarks
open Go.RowKit Go.Proofs.YtpgjcnjojfehjaaW.PrintWords Go.Proofs.YtpgjcnjojfehjaaW.PrintLast Go.Proofs.YtpgjcnjojfehjaaW.PrintMore
attribute [local go_sem] max2_int min2_int max_two min_two max_three min_three max_four min_four   -- for this text's walks alone
set_option linter.unusedVariables false
set_option linter.unusedSimpArgs false
def errW : Option Int → Value
 | none => .nilIface
 | some c => .iface 0 (.int .i64 c)
theorem errW_none : errW none = .nilIface := rfl
theorem errW_some (c : Int) : errW (some c) = .iface 0 (.int .i64 c) := rfl
end Go.Proofs.Ytpgjcnjojfehjaa.Pmarks
namespace Go.Proofs.Ytpgjcnjojfehjaa.Pmarks
open Go.RowKit Go.Proofs.YtpgjcnjojfehjaaW.PrintWords Go.Proofs.YtpgjcnjojfehjaaW.PrintLast Go.Proofs.YtpgjcnjojfehjaaW.PrintMore
attribute [local go_sem] max2_int min2_int max_two min_two max_three min_three max_four min_four   -- for this text's walks alone
set_option linter.unusedVariables false
set_option linter.unusedSimpArgs false
def epactref16_marks.l0 : Nat → List Int → Int → Option (Bool)
 | 0, _, _ => none
 | k + 1, x0, x3 => if x3 < (x0.length : Int) then (if 0 ≤ x3 then (if (rd x0 x3) > 1 then (some false) else (epactref16_marks.l0 k x0 (wrap64 (x3 + 1)))) else (none)) else (some true)
def epactref16_marks.f (k : Nat) (l0 : List Int) : Option (Bool) := epactref16_marks.l0 k l0 0
theorem epactref16_marks.mono_l : ∀ k, (∀ y0 y1, LeO (epactref16_marks.l0 k y0 y1) (epactref16_marks.l0 (k + 1) y0 y1))
 | 0 => fun _ _ r h => by simp [epactref16_marks.l0] at h
 | k + 1 => by
  have ih0 := epactref16_marks.mono_l k
  ·intro y0 y1
   unfold epactref16_marks.l0
   repeat' first
   | (with_reducible exact ih0 _ _)
   | (with_reducible exact LeO.refl _)
   | (with_reducible exact LeO.none _)
   | (with_reducible refine LeO.ite ?_ ?_)
   | (with_reducible refine LeO.bind ?_ (fun _ => ?_))
   | exact ih0 _ _
   | exact LeO.none _
   | refine LeO.ite ?_ ?_
   | refine LeO.bind ?_ (fun _ => ?_)
theorem epactref16_marks.mono : ∀ a0 k, LeO (epactref16_marks.f k a0) (epactref16_marks.f (k + 1) a0) := by
 intro a0 k
 have ih0 := epactref16_marks.mono_l k
 unfold epactref16_marks.f
 repeat' first
   | (with_reducible exact ih0 _ _)
   | (with_reducible exact LeO.refl _)
   | (with_reducible exact LeO.none _)
   | (with_reducible refine LeO.ite ?_ ?_)
   | (with_reducible refine LeO.bind ?_ (fun _ => ?_))
   | exact ih0 _ _
   | exact LeO.none _
   | refine LeO.ite ?_ ?_
   | refine LeO.bind ?_ (fun _ => ?_)
set_option maxHeartbeats 8000000 in
set_option maxRecDepth 100000 in
theorem epactref16_marks.calls (k : Nat) (A0 : Option Addr) (c0 : Nat) (l0 : List Int) (r : Bool) (w : World) (hr0 : Kd.C (Kd.int .u8) w A0 l0.length l0) (hc0 : l0.length ≤ c0) (h : epactref16_marks.f k l0 = some r) :
  Calls Try.prog 37 #[.slice A0 l0.length c0] w fun e w' => e = .returned (.bool r) ∧ Drawn0 w w' := by
 have HR0 := Aside0.mk hr0
 have HC0 := Aside0.mk hc0
 clear hr0 hc0
 have H : (epactref16_marks.l0 k l0 0) = some r := h
 clear h
 have H' := Aside0.mk H
 clear H
 go_enter Try.func37, Try.ntmps37
 go_wp2
 go_loopg [3] k (fun kq v3 w' => ∃ (x3_1 : Int), v3 = .int .i64 x3_1 ∧ Aside0 (epactref16_marks.l0 kq l0 x3_1 = some r) ∧ Aside0 (kq ≤ k) ∧ Drawn0 w w')
 case atStart => exact ⟨(0), (by first | rfl | (simp; done) | (simp [*]; done)), H', ⟨Nat.le_refl _⟩, by repeat (first | exact Drawn0.refl _ | apply Drawn0.step)⟩
 case round =>
  clear H'
  obtain ⟨x3_1, rfl, HA, HK1, ⟨m1, rfl⟩⟩ := hrel
  cases gk with
  | zero => exact absurd HA.out (by simp [epactref16_marks.l0])
  | succ k1 =>
   have H := HA.out
   clear HA
   simp only [epactref16_marks.l0] at H
   by_cases c2 : x3_1 < (l0.length : Int)
   ·rw [if_pos c2] at H
    have c2b0 : decide (x3_1 < (l0.length : Int)) = true := decide_eq_true c2
    clear c2
    by_cases c3 : 0 ≤ x3_1
    ·rw [if_pos c3] at H
     have c3b0 : decide (0 ≤ x3_1) = true := decide_eq_true c3
     clear c3
     by_cases c4 : (rd l0 x3_1) > 1
     ·rw [if_pos c4] at H
      have c4b0 : decide (1 < (rd l0 x3_1)) = true := decide_eq_true c4
      clear c4
      obtain rfl := Option.some.inj H
      have p101 : 0 ≤ (x3_1 : Int) := of_decide_eq_true (by first | (with_reducible assumption) | assumption)
      have q101 : x3_1 < (l0.length : Int) := of_decide_eq_true (by first | (with_reducible assumption) | assumption)
      obtain ⟨ad101, e101, hx101_0⟩ := Kd.at_int HR0.out x3_1 p101 q101
      cases e101
      replace p101 := eq_true p101
      replace q101 := eq_true q101
      go_wp2
      go_ret
      exact ⟨by first | rfl | (simp; done) | (simp [*]; done), by repeat (first | exact Drawn0.refl _ | apply Drawn0.step)⟩
     ·rw [if_neg c4] at H
      have c4b0 : decide (1 < (rd l0 x3_1)) = false := decide_eq_false c4
      clear c4
      have H' := Aside0.mk H
      clear H
      have p101 : 0 ≤ (x3_1 : Int) := of_decide_eq_true (by first | (with_reducible assumption) | assumption)
      have q101 : x3_1 < (l0.length : Int) := of_decide_eq_true (by first | (with_reducible assumption) | assumption)
      obtain ⟨ad101, e101, hx101_0⟩ := Kd.at_int HR0.out x3_1 p101 q101
      cases e101
      replace p101 := eq_true p101
      replace q101 := eq_true q101
      go_wp2
      go_roundg k1
      case measure => have := HK1.out; omega
      case rel => exact ⟨(wrap64 (x3_1 + 1)), (by first | rfl | (simp; done) | (simp [*]; done)), H', ⟨by have := HK1.out; omega⟩, by repeat (first | exact Drawn0.refl _ | apply Drawn0.step)⟩
    ·rw [if_neg c3] at H
     exact absurd H (by simp)
   ·rw [if_neg c2] at H
    have c2b0 : decide (x3_1 < (l0.length : Int)) = false := decide_eq_false c2
    clear c2
    obtain rfl := Option.some.inj H
    go_wp2
    go_ret
    exact ⟨by first | rfl | (simp; done) | (simp [*]; done), by repeat (first | exact Drawn0.refl _ | apply Drawn0.step)⟩
end Go.Proofs.Ytpgjcnjojfehjaa.Pmarks
namespace Go.Proofs.Ytpgjcnjojfehjaa.Bk
open Go.RowKit Go.Proofs.YtpgjcnjojfehjaaW.PrintWords Go.Proofs.YtpgjcnjojfehjaaW.PrintLast Go.Proofs.YtpgjcnjojfehjaaW.PrintMore Oct Kx Ab
theorem takeS_bytes {l : List Int} {bad : Bool} {n : Int} (h : B8 l) : B8 (takeS l bad n).1 ∧ B8 (takeS l bad n).2.1 := by
 unfold takeS
 split
 ·exact ⟨fun x hx => (by cases hx), fun x hx => (by cases hx)⟩
 ·exact ⟨fun x hx => h x (List.mem_of_mem_take hx), fun x hx => h x (List.mem_of_mem_drop hx)⟩
theorem takeS_size (l : List Int) (bad : Bool) (n : Int) : (takeS l bad n).1 = [] ∨ (takeS l bad n).1.length = n.toNat := by
 unfold takeS
 split
 ·exact Or.inl rfl
 ·right; rename_i h; rw [List.length_take]; omega
theorem same_num {l : List Int} {bad : Bool} {size : Int} (h : B8 l) : Ref.numS l bad size = numS l bad size := by
 unfold Ref.numS numS
 rw [ref_num (takeS_bytes h).1]
 by_cases hs : sizeB size = true
 ·have hz : sizeS size = size := if_pos hs
  rw [hz]
  rcases takeS_size l bad size with h1 | h1
  ·exact Or.inl h1
  ·exact Or.inr ⟨hs, h1⟩
 ·have hz : sizeS size = -1 := if_neg hs
  rw [hz, takeS_neg]; exact Or.inl rfl
theorem rnum_is {B N : Nat} {W : World} {g : Nat} {l : List Int} {bad : Bool} {size m : Int} {l2 : List Int} {b2 : Bool} (hn : numS l bad size = (m, l2, b2)) (h8 : B8 l) (h : Rd 90 B N W g l bad) (hl : l.length ≤ 140737488355328) :
  Calls Try.prog 34 #[.pointer (some ⟨g, 0, none⟩), .int .i64 size] W fun e w' => e = .returned (.int .i64 m) ∧ Rd 90 B N w' g l2 b2 ∧ W.grownBy w' (some g) :=
 (Ref.num_calls B N W g l bad size h hl).mono fun e w' ⟨he, hr, hg⟩ => by
  rw [same_num h8, hn] at he hr
  exact ⟨he, hr, hg⟩
theorem rtake_R {B N : Nat} {W : World} {g : Nat} {l : List Int} {bad : Bool} {n : Int} {r l2 : List Int} {b2 : Bool} (hn : takeS l bad n = (r, l2, b2)) (h : Rd 90 B N W g l bad) (hl : l.length ≤ 140737488355328) :
  Calls Try.prog 35 #[.pointer (some ⟨g, 0, none⟩), .int .i64 n] W fun e w' => ∃ A1 c1, e = .returned (.slice A1 r.length c1) ∧ Kd.R (Kd.int .u8) 5 w' W.heap.size (fun _ => True) (.slice A1 r.length c1) r ∧ Rd 90 B N w' g l2 b2 ∧ W.grownBy w' (some g) :=
 (Ref.take_calls B N W g l bad n h hl).mono fun e w' ⟨v, he, hv, hr, hg⟩ => by
  rw [hn] at hv hr
  obtain ⟨A1, c1, rfl⟩ := Kd.R_slice hv
  exact ⟨A1, c1, he, hv, hr, hg⟩
theorem num_B8 {l l2 : List Int} {bad b2 : Bool} {size m : Int} (h : numS l bad size = (m, l2, b2)) (h8 : B8 l) : B8 l2 := by
 have h1 : (numS l bad size).2.1 = l2 := by rw [h]
 rw [← h1]
 exact (takeS_bytes h8).2
theorem rat_is {pool : ByteArray} {x : Int} {r1 : ByteArray} {r2 : Bool} {w : World} (hs : pool.size ≤ 9223372036854775807) (h : atN pool x = (r1, r2)) :
  Calls Try.prog 36 #[.string pool, .int .i64 x] w fun e w' => e = .returned (.tuple #[.string r1, .bool r2]) ∧ Below w.heap.size w w' :=
 (AbT.rat_calls pool x w hs).mono fun e w' ⟨he, hd⟩ => by
  rw [h] at he
  exact ⟨he, hd.below⟩
def dA (size : Int) : Nat → List Int → Bool → List S48 × List Int × Bool
 | 0, l, b => ([], l, b)
 | k + 1, l, b =>
  let s := dA size k l b
  let n1 := numS s.2.1 s.2.2 size
  (s.1 ++ [⟨n1.1, 0⟩], n1.2.1, n1.2.2)
theorem dA_facts (size : Int) {l : List Int} {b : Bool} (h8 : B8 l) : ∀ k, (dA size k l b).1.length = k ∧ (dA size k l b).2.1.length ≤ l.length ∧ B8 (dA size k l b).2.1
 | 0 => ⟨rfl, Nat.le_refl _, h8⟩
 | k + 1 => by
  obtain ⟨h1, h2, h3⟩ := dA_facts size h8 (b := b) k
  unfold dA
  exact ⟨by simp only; rw [List.length_append, h1]; rfl, Nat.le_trans (num_len _ _ _) h2, (takeS_bytes h3).2⟩
theorem dA_is (size : Int) (l : List Int) (b : Bool) (n : Nat) : ∀ k, k ≤ n → trA size k (List.replicate n z48) l b = ((dA size k l b).1 ++ List.replicate (n - k) z48, (dA size k l b).2)
 | 0, _ => rfl
 | k + 1, hk => by
  have ih := dA_is size l b n k (by omega)
  have hl : (dA size k l b).1.length = k := by
   have key : ∀ k, (dA size k l b).1.length = k := by
    intro k
    induction k with
    | zero => rfl
    | succ k ih => unfold dA; simp only; rw [List.length_append, ih]; rfl
   exact key k
  unfold trA dA
  rw [ih]
  simp only
  congr 1
  obtain ⟨m, hm⟩ : ∃ m, n - k = m + 1 := ⟨n - k - 1, by omega⟩
  have hm2 : n - (k + 1) = m := by omega
  rw [hm, hm2, List.replicate_succ, List.set_append, if_neg (by omega), hl, Nat.sub_self, List.set_cons_zero, List.append_assoc]
  congr 2
  rw [List.getD, List.getElem?_append_right (by omega), hl, Nat.sub_self]
  rfl
theorem dA_all (size : Int) (l : List Int) (b : Bool) (n : Nat) : trA size n (List.replicate n z48) l b = dA size n l b := by
 rw [dA_is size l b n n (Nat.le_refl _), Nat.sub_self]
 simp
theorem trB_B8 (tr : List S48) {l : List Int} {b : Bool} (h8 : B8 l) : ∀ k, B8 (trB k tr l b).2.1
 | 0 => h8
 | k + 1 => by unfold trB; exact (takeS_bytes (trB_B8 tr h8 k)).2
theorem tyK_B8 {l : List Int} {b : Bool} (h8 : B8 l) : ∀ k, B8 (tyK k l b).2.2.2.1
 | 0 => h8
 | k + 1 => by unfold tyK; exact (takeS_bytes (takeS_bytes (takeS_bytes (tyK_B8 h8 k)).2).2).2
theorem lpK_B8 (size : Int) {l : List Int} {b : Bool} (h8 : B8 l) : ∀ k, B8 (lpK size k l b).2.1
 | 0 => h8
 | k + 1 => by unfold lpK; exact (takeS_bytes (takeS_bytes (lpK_B8 size h8 k)).2).2
theorem K48 {W : World} {base : Nat} {okp : Nat → Prop} (x : S48) (cs : List Value) (h : k48.K W x cs) : k48.M W base okp x cs := by
 rw [k48_open h]; exact k48_mkM _ _ _ x
theorem K50 {W : World} {base : Nat} {okp : Nat → Prop} (x : S50) (cs : List Value) (h : k50.K W x cs) : k50.M W base okp x cs := by
 rw [k50_open h]; exact k50_mkM _ _ _ x
theorem K46 {W : World} {base : Nat} {okp : Nat → Prop} (x : S46) (cs : List Value) (h : k46.K W x cs) : k46.M W base okp x cs := by
 rw [k46_open h]; exact k46_mkM _ _ _ x
theorem marks_ev (l : List Int) (hl : l.length ≤ 1000000) : ∃ k, Pmarks.epactref16_marks.f k l = some (!l.any (fun c => decide (c > 1))) := by
 have key : ∀ d j : Nat, j + d = l.length → (∀ i, i < j → ¬ (rd l (i : Int) > 1)) → ∃ k, Pmarks.epactref16_marks.l0 k l (j : Int) = some (!l.any (fun c => decide (c > 1))) := by
  intro d
  induction d with
  | zero =>
   intro j h hn
   refine ⟨1, ?_⟩
   rw [Pmarks.epactref16_marks.l0, if_neg (by omega)]
   congr 1
   symm
   rw [Bool.not_eq_true', List.any_eq_false]
   intro x hx
   obtain ⟨i, hi, rfl⟩ := List.mem_iff_getElem.1 hx
   have := hn i (by omega)
   rw [rd_at hi] at this
   simpa using this
  | succ d ih =>
   intro j h hn
   by_cases hc : rd l (j : Int) > 1
   ·refine ⟨1, ?_⟩
    rw [Pmarks.epactref16_marks.l0, if_pos (by omega), if_pos (by omega), if_pos hc]
    congr 1
    symm
    rw [Bool.not_eq_false', List.any_eq_true]
    have hj : j < l.length := by omega
    rw [rd_at hj] at hc
    exact ⟨l[j], List.getElem_mem hj, decide_eq_true hc⟩
   ·obtain ⟨k, hk⟩ := ih (j + 1) (by omega) (fun i hi => by
     by_cases e : i = j
     ·subst e; exact hc
     ·exact hn i (by omega))
    refine ⟨k + 1, ?_⟩
    rw [Pmarks.epactref16_marks.l0, if_pos (by omega), if_pos (by omega), if_neg hc, next_n (by omega)]
    exact hk
 exact key l.length 0 (by omega) (fun i hi => absurd hi (Nat.not_lt_zero i))
theorem marks_is (A : Option Addr) (c : Nat) (l : List Int) (w : World) (hr : Kd.C (Kd.int .u8) w A l.length l) (hc : l.length ≤ c) (hl : l.length ≤ 1000000) :
  Calls Try.prog 37 #[.slice A l.length c] w fun e w' => e = .returned (.bool (!l.any (fun c => decide (c > 1)))) ∧ Below w.heap.size w w' := by
 obtain ⟨k, hk⟩ := marks_ev l hl
 exact (Pmarks.epactref16_marks.calls k A c l _ w hr hc hk).mono fun e w' ⟨he, hd⟩ => ⟨he, hd.below⟩
def wK (std ut : List Int) : Nat → Bool
 | 0 => true
 | k + 1 => wK std ut k && !(ut.getD k 0 == 1 && (decide (std.length ≤ k) || std.getD k 0 == 0))
theorem wK_all (std ut : List Int) : ∀ k, wK std ut k = true ↔ ∀ i, i < k → ¬ (ut.getD i 0 = 1 ∧ (std.length ≤ i ∨ std.getD i 0 = 0))
 | 0 => ⟨fun _ i hi => absurd hi (Nat.not_lt_zero i), fun _ => rfl⟩
 | k + 1 => by
  unfold wK
  rw [Bool.and_eq_true, wK_all std ut k]
  have ex : (ut.getD k 0 == 1 && (decide (std.length ≤ k) || std.getD k 0 == 0)) = true ↔ (ut.getD k 0 = 1 ∧ (std.length ≤ k ∨ std.getD k 0 = 0)) := by
   rw [Bool.and_eq_true, Bool.or_eq_true, beq_iff_eq, beq_iff_eq, decide_eq_true_eq]
  rw [Bool.not_eq_true', ← Bool.not_eq_true, ex]
  constructor
  ·rintro ⟨h1, h2⟩ i hi
   by_cases e : i = k
   ·subst e; exact h2
   ·exact h1 i (by omega)
  ·intro h
   exact ⟨fun i hi => h i (by omega), h k (by omega)⟩
theorem markP_all : ∀ (std ut : List Int), markP std ut = true ↔ ∀ i, i < ut.length → ¬ (ut.getD i 0 = 1 ∧ (std.length ≤ i ∨ std.getD i 0 ≠ 1))
 | _, [] => by simp [markP]
 | [], c :: ut => by
  have e : markP [] (c :: ut) = if c = 1 then false else markP [] ut := by rw [markP]
  rw [e]
  have ih := markP_all [] ut
  by_cases h : c = 1
  ·rw [if_pos h]
   simp only [Bool.false_eq_true, false_iff]
   intro hh
   exact hh 0 (by simp) ⟨by simpa using h, .inl (Nat.zero_le _)⟩
  ·rw [if_neg h, ih]
   constructor
   ·intro hh i hi
    cases i with
    | zero => rintro ⟨h1, -⟩; exact h (by simpa using h1)
    | succ i => have := hh i (by simpa using hi); simpa using this
   ·intro hh i hi
    have := hh (i + 1) (by simpa using hi)
    simpa using this
 | s :: std, c :: ut => by
  have e : markP (s :: std) (c :: ut) = if c = 1 ∧ s ≠ 1 then false else markP std ut := by rw [markP]
  rw [e]
  have ih := markP_all std ut
  by_cases h : c = 1 ∧ s ≠ 1
  ·rw [if_pos h]
   simp only [Bool.false_eq_true, false_iff]
   intro hh
   exact hh 0 (by simp) ⟨by simpa using h.1, .inr (by simpa using h.2)⟩
  ·rw [if_neg h, ih]
   constructor
   ·intro hh i hi
    cases i with
    | zero =>
     rintro ⟨h1, h2⟩
     rcases h2 with h2 | h2
     ·simp at h2
     ·exact h ⟨by simpa using h1, by simpa using h2⟩
    | succ i => have := hh i (by simpa using hi); simpa using this
   ·intro hh i hi
    have := hh (i + 1) (by simpa using hi)
    simpa using this
theorem marks_same {std ut : List Int} (h8 : B8 std) : markS std ut = (wK std ut ut.length && (!std.any (fun c => decide (c > 1)) && !ut.any (fun c => decide (c > 1)))) := by
 unfold markS
 cases hs : std.any (fun c => decide (c > 1)) with
 | true => simp
 | false =>
  congr 1
  rw [Bool.eq_iff_iff, markP_all, wK_all]
  have key : ∀ i, i < std.length → (std.getD i 0 ≠ 1 ↔ std.getD i 0 = 0) := by
   intro i hi
   have h1 := h8 _ (List.getElem_mem hi)
   have h2 := List.any_eq_false.1 hs _ (List.getElem_mem hi)
   rw [List.getD, List.getElem?_eq_getElem hi, Option.getD_some]
   have h3 : ¬ (std[i] > 1) := by simpa using h2
   omega
  constructor
  ·rintro h i hi ⟨h1, h2⟩
   refine h i hi ⟨h1, ?_⟩
   rcases h2 with h2 | h2
   ·exact .inl h2
   ·exact .inr (by rw [h2]; omega)
  ·rintro h i hi ⟨h1, h2⟩
   refine h i hi ⟨h1, ?_⟩
   rcases h2 with h2 | h2
   ·exact .inl h2
   ·by_cases hl : std.length ≤ i
    ·exact .inl hl
    ·exact .inr ((key i (by omega)).1 h2)
def TR8 : Bool × List (List Nat × List Nat) := (true, [([], []), ([0], [0]), ([], []), ([], []), ([2, 3], [2, 3]), ([4], [4]), ([5], [5]), ([1, 6, 4], [1, 6]), ([0, 1, 2, 3, 4, 5, 6, 7], []), ([8, 7, 7, 0, 1, 2, 3, 4, 5, 6, 7], [7, 8])])
def BR8 : List Nat := [0, 1, 0, 0, 12, 28, 60, 127, 255, 511]
theorem tabR8 : rtab .any (opsOf Try.f15 8) = TR8 := by kernel_rfl
theorem bitsR8 : waitsOk TR8.2 BR8 = true := by kernel_rfl
def TR12 : Bool × List (List Nat × List Nat) := (true, [([], []), ([0], [0]), ([], []), ([], []), ([3], [3]), ([1, 2, 0, 1, 2, 3, 4], [1, 2]), ([5, 0, 1, 2, 3, 4], [5]), ([6, 4, 4, 0, 1, 2, 3, 4], [4, 6])])
def BR12 : List Nat := [0, 1, 0, 0, 8, 31, 63, 127]
theorem tabR12 : rtab .any (opsOf Try.f15 12) = TR12 := by kernel_rfl
theorem bitsR12 : waitsOk TR12.2 BR12 = true := by kernel_rfl
def TR34 : Bool × List (List Nat × List Nat) := (true, [([], []), ([0], [0]), ([], []), ([], []), ([3], [3]), ([2, 4], [2, 4]), ([5], [5]), ([1, 6, 4], [1, 6]), ([0, 1, 2, 3, 4, 5, 6, 7], []), ([8, 7, 7, 0, 1, 2, 3, 4, 5, 6, 7], [7, 8])])
def BR34 : List Nat := [0, 1, 0, 0, 8, 28, 60, 127, 255, 511]
theorem tabR34 : rtab .any (opsOf Try.f15 34) = TR34 := by kernel_rfl
theorem bitsR34 : waitsOk TR34.2 BR34 = true := by kernel_rfl
end Go.Proofs.Ytpgjcnjojfehjaa.Bk
