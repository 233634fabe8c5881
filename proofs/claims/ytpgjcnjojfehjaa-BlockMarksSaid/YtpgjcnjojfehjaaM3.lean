/- Texts of chapter 16 laid together (wip/block/merge16.py): BkW, BkX, BkG, BkK, PBlBackx0, PBlBackx1, PBlBackx2, PBlBackx3, PBlBackx4, PBlBackx5, BkY, BkL, BkS, BkZ, ZoneRow. -/
import Derived.Test.YtpgjcnjojfehjaaM2
import Derived.Test.YtpgjcnjojfehjaaM1
import Derived.Test.YtpgjcnjojfehjaaProg
import Derived.Below
import Derived.Deep.Draws
import Derived.Deep.AppendLies
import Derived.Maps.AppendAt
import Derived.OwnWalk
import Derived.Laws.BytesArg
import Derived.Laws.MakeOwn
import Derived.Laws.OwnMore
import Derived.Deep.OwnRows
import Derived.Tactics
import Derived.Lib.ConvBytes
import Derived.Laws.Slices
import Derived.WalkKit
import Derived.KernelRfl
import Derived.RowKit3
import Derived.Deep.LoopGhost
import Derived.Deep.QuietTactic
import Derived.BigQuiet
import Derived.WideLaws
import Derived.Deep.DeepCutAuto
import Derived.Deep.CutBlock
import Derived.Deep.RegionHeld3
import Derived.Laws.Rows
import Derived.Lib.AppendStr
import Derived.ArgAppend
import Derived.Laws.IdiomCopy
import Derived.OrdersHeld
import Derived.Laws.BitsLemmas
import Derived.RowKit
import Derived.Test.YtpgjcnjojfehjaaWWords
import Derived.Test.YtpgjcnjojfehjaaWLast
import Derived.Test.YtpgjcnjojfehjaaWTab
import Derived.Test.YtpgjcnjojfehjaaWFour
import Derived.Test.YtpgjcnjojfehjaaWQPut
import Derived.Test.YtpgjcnjojfehjaaWApart
import Derived.Test.YtpgjcnjojfehjaaWArr
import Derived.Test.YtpgjcnjojfehjaaWZeros
import Derived.Test.YtpgjcnjojfehjaaWFoot
import Derived.Test.YtpgjcnjojfehjaaWKept
import Derived.Test.YtpgjcnjojfehjaaWShare
import Derived.Test.YtpgjcnjojfehjaaWN
import Derived.Test.YtpgjcnjojfehjaaWFootNe
import Derived.Test.YtpgjcnjojfehjaaWAt
import Derived.Test.YtpgjcnjojfehjaaWEqStruct
import Derived.Test.YtpgjcnjojfehjaaWRepsOne
import Derived.Test.YtpgjcnjojfehjaaWInv
import Derived.Test.YtpgjcnjojfehjaaWInvWords
import Derived.Test.YtpgjcnjojfehjaaWGuard
import Derived.Test.YtpgjcnjojfehjaaWNEv
import Derived.Test.YtpgjcnjojfehjaaWMore
import Derived.Outline
import Derived.Test.YtpgjcnjojfehjaaRows
import Derived.Deep.Slices
import Derived.Deep.Fields
import Derived.ChangeSame
import Derived.SizedLaws
import Derived.ChangeSlices
import Derived.Lib.SmallJoins
/- Plain law: numbers that were laid are read so, one behind the other. -/
namespace Go.Proofs.Ytpgjcnjojfehjaa.Bk
open Oct Kx Ab

def R64 (n : Int) : Prop := -9223372036854775808 ≤ n ∧ n ≤ 9223372036854775807
theorem num_read {n size : Int} {rest : List Int} (hn : R64 n) (hf : (putS [] n size).2 = true) : numS ((putS [] n size).1 ++ rest) false size = (n, rest, false) := by
  have hm : mayS n size = true := by
    unfold putS at hf
    split at hf
    · assumption
    · cases hf
  have hs : sizeB size = true := by unfold sizeB; unfold mayS at hm; rw [decide_eq_true_eq] at *; omega
  have hp : (putS [] n size).1 = bytesS n size.toNat := by unfold putS; rw [if_pos hm]; rfl
  have hz : sizeS size = size := by unfold sizeS; rw [if_pos hs]
  obtain ⟨h1, h8⟩ := mayS_size hm
  have hl := bytesS_length n size.toNat
  rw [hp]
  unfold numS
  rw [hz]
  have ht : takeS (bytesS n size.toNat ++ rest) false size = (bytesS n size.toNat, rest, false) := by
    unfold takeS
    rw [if_neg (by rw [List.length_append, hl]; simp; omega)]
    have e1 : (bytesS n size.toNat ++ rest).take size.toNat = bytesS n size.toNat := by rw [← hl, hl, List.take_append_of_le_length (by omega), List.take_of_length_le (by omega)]
    have e2 : (bytesS n size.toNat ++ rest).drop size.toNat = rest := by rw [List.drop_append_of_le_length (by omega), List.drop_of_length_le (by omega), List.nil_append]
    rw [e1, e2]
  rw [ht]
  simp only
  rw [read_back hn hm]
theorem lay_cons (p : Int × Int) (ns : List (Int × Int)) : lay (p :: ns) = (putS [] p.1 p.2).1 ++ lay ns := by unfold lay; rw [List.flatMap_cons]
theorem fit_cons (p : Int × Int) (ns : List (Int × Int)) : fit (p :: ns) = ((putS [] p.1 p.2).2 && fit ns) := by unfold fit; rw [List.all_cons]
/-- The next of the numbers. -/
theorem num_next {p : Int × Int} {ns : List (Int × Int)} {rest : List Int} (hn : R64 p.1) (hf : fit (p :: ns) = true) : numS (lay (p :: ns) ++ rest) false p.2 = (p.1, lay ns ++ rest, false) := by
  rw [fit_cons, Bool.and_eq_true] at hf
  rw [lay_cons, List.append_assoc, num_read hn hf.1]
theorem fit_tail {p : Int × Int} {ns : List (Int × Int)} (hf : fit (p :: ns) = true) : fit ns = true := by
  rw [fit_cons, Bool.and_eq_true] at hf
  exact hf.2
/-- The times of changes, read. -/
theorem trA_back (size : Int) (tr : List S48) (rest : List Int) (hR : ∀ t ∈ tr, R64 t.f0) (hf : fit (numsT tr size) = true) : ∀ k, k ≤ tr.length → ∃ L, trA size k (List.replicate tr.length z48) (lay (numsT tr size) ++ rest) false = (L, lay (numsT (tr.drop k) size) ++ rest, false) ∧ L.length = tr.length ∧ (∀ i (h : i < tr.length), L[i]? = some (if i < k then ⟨tr[i].f0, 0⟩ else z48)) ∧ fit (numsT (tr.drop k) size) = true
  | 0, _ => ⟨_, rfl, List.length_replicate, fun i h => by rw [if_neg (Nat.not_lt_zero i), List.getElem?_replicate, if_pos h], hf⟩
  | k + 1, hk => by
    obtain ⟨L, h1, h2, h3, h4⟩ := trA_back size tr rest hR hf k (by omega)
    have hd : tr.drop k = tr[k] :: tr.drop (k + 1) := List.drop_eq_getElem_cons (by omega)
    rw [hd] at h1 h4
    have h5 : numsT (tr[k] :: tr.drop (k + 1)) size = (tr[k].f0, size) :: numsT (tr.drop (k + 1)) size := rfl
    rw [h5] at h1 h4
    have h6 := num_next (rest := rest) (hR _ (List.getElem_mem _)) h4
    refine ⟨L.set k ⟨tr[k].f0, (L.getD k z48).f1⟩, by unfold trA; simp only [h1, h6], by rw [List.length_set, h2], fun i h => ?_, fit_tail h4⟩
    have hkl : k < L.length := by omega
    rw [List.getElem?_set]
    by_cases e : k = i
    · subst e
      rw [if_pos rfl, if_pos hkl, if_pos (by omega)]
      have h7 := h3 k (by omega)
      rw [if_neg (Nat.lt_irrefl k)] at h7
      rw [List.getD, h7]
      rfl
    · rw [if_neg e, h3 i h]
      by_cases e2 : i < k
      · rw [if_pos e2, if_pos (by omega)]
      · rw [if_neg e2, if_neg (by omega)]
/-- The kinds of changes, read. -/
theorem trB_back (tr L0 : List S48) (rest : List Int) (hR : ∀ t ∈ tr, R64 t.f1) (hf : fit (numsK tr) = true) (hl : L0.length = tr.length) (h0 : ∀ i (h : i < tr.length), L0[i]? = some ⟨tr[i].f0, 0⟩) : ∀ k, k ≤ tr.length → ∃ L, trB k L0 (lay (numsK tr) ++ rest) false = (L, lay (numsK (tr.drop k)) ++ rest, false) ∧ L.length = tr.length ∧ (∀ i (h : i < tr.length), L[i]? = some (if i < k then tr[i] else ⟨tr[i].f0, 0⟩)) ∧ fit (numsK (tr.drop k)) = true
  | 0, _ => ⟨_, rfl, hl, fun i h => by rw [if_neg (Nat.not_lt_zero i), h0 i h], hf⟩
  | k + 1, hk => by
    obtain ⟨L, h1, h2, h3, h4⟩ := trB_back tr L0 rest hR hf hl h0 k (by omega)
    have hd : tr.drop k = tr[k] :: tr.drop (k + 1) := List.drop_eq_getElem_cons (by omega)
    rw [hd] at h1 h4
    have h5 : numsK (tr[k] :: tr.drop (k + 1)) = (tr[k].f1, 1) :: numsK (tr.drop (k + 1)) := rfl
    rw [h5] at h1 h4
    have h6 := num_next (rest := rest) (hR _ (List.getElem_mem _)) h4
    refine ⟨L.set k ⟨(L.getD k z48).f0, tr[k].f1⟩, by unfold trB; simp only [h1, h6], by rw [List.length_set, h2], fun i h => ?_, fit_tail h4⟩
    have hkl : k < L.length := by omega
    rw [List.getElem?_set]
    by_cases e : k = i
    · subst e
      rw [if_pos rfl, if_pos hkl, if_pos (by omega)]
      have h7 := h3 k (by omega)
      rw [if_neg (Nat.lt_irrefl k)] at h7
      rw [List.getD, h7]
      rfl
    · rw [if_neg e, h3 i h]
      by_cases e2 : i < k
      · rw [if_pos e2, if_pos (by omega)]
      · rw [if_neg e2, if_neg (by omega)]
def noNm (t : S46) : S46 := ⟨t.f0, t.f1, ⟨#[]⟩⟩
theorem one_R {n : Int} (h : (putS [] n 1).2 = true) : R64 n := by
  have hm : mayS n 1 = true := by
    unfold putS at h
    split at h
    · assumption
    · cases h
  unfold mayS at hm; rw [decide_eq_true_eq] at hm; unfold R64; omega
/-- Kinds of local time, read. -/
theorem tyK_back (rest : List Int) : ∀ (ty : List S46) (ats : List Int), ats.length = ty.length → (∀ t ∈ ty, R64 t.f0) → fit (numsY ty ats) = true → ∀ k, k ≤ ty.length →
    tyK k (lay (numsY ty ats) ++ rest) false = ((ty.take k).map noNm, ats.take k, true, lay (numsY (ty.drop k) (ats.drop k)) ++ rest, false) ∧ fit (numsY (ty.drop k) (ats.drop k)) = true
  | ty, ats, _, _, hf, 0, _ => ⟨rfl, hf⟩
  | ty, ats, hl, hR, hf, k + 1, hk => by
    obtain ⟨h1, h2⟩ := tyK_back rest ty ats hl hR hf k (by omega)
    have hka : k < ats.length := by omega
    have hkt : k < ty.length := by omega
    rw [List.drop_eq_getElem_cons hkt, List.drop_eq_getElem_cons hka] at h1 h2
    have e : numsY (ty[k] :: ty.drop (k + 1)) (ats[k] :: ats.drop (k + 1)) = (ty[k].f0, 4) :: (mk ty[k].f1, 1) :: (ats[k], 1) :: numsY (ty.drop (k + 1)) (ats.drop (k + 1)) := rfl
    rw [e] at h1 h2
    have f1 := fit_tail h2
    have f2 := fit_tail f1
    have f3 := fit_tail f2
    have g1 := num_next (rest := rest) (hR _ (List.getElem_mem hkt)) h2
    have g2 := num_next (rest := rest) (show R64 (mk ty[k].f1) by unfold mk R64; split <;> omega) f1
    have g3 := num_next (rest := rest) (one_R (by rw [fit_cons, Bool.and_eq_true] at f2; exact f2.1)) f2
    simp only at g1 g2 g3
    refine ⟨?_, f3⟩
    unfold tyK
    simp only [h1, g1, g2, g3]
    have m1 : (mk ty[k].f1 == 1) = ty[k].f1 := by unfold mk; cases ty[k].f1 <;> rfl
    have m2 : decide (mk ty[k].f1 < 2) = true := by unfold mk; cases ty[k].f1 <;> rfl
    rw [m1, m2, List.take_succ_eq_append_getElem hkt, List.take_succ_eq_append_getElem hka, List.map_append]
    rfl
/-- Leap seconds, read. -/
theorem lpK_back (size : Int) (rest : List Int) (lp : List S50) (hR : ∀ t ∈ lp, R64 t.f0 ∧ R64 t.f1) (hf : fit (numsL lp size) = true) : ∀ k, k ≤ lp.length →
    lpK size k (lay (numsL lp size) ++ rest) false = (lp.take k, lay (numsL (lp.drop k) size) ++ rest, false) ∧ fit (numsL (lp.drop k) size) = true
  | 0, _ => ⟨rfl, hf⟩
  | k + 1, hk => by
    obtain ⟨h1, h2⟩ := lpK_back size rest lp hR hf k (by omega)
    have hkt : k < lp.length := by omega
    rw [List.drop_eq_getElem_cons hkt] at h1 h2
    have e : numsL (lp[k] :: lp.drop (k + 1)) size = (lp[k].f0, size) :: (lp[k].f1, 4) :: numsL (lp.drop (k + 1)) size := rfl
    rw [e] at h1 h2
    have f1 := fit_tail h2
    have f2 := fit_tail f1
    have g1 := num_next (rest := rest) (hR _ (List.getElem_mem hkt)).1 h2
    have g2 := num_next (rest := rest) (hR _ (List.getElem_mem hkt)).2 f1
    simp only at g1 g2
    refine ⟨?_, f2⟩
    unfold lpK
    simp only [h1, g1, g2]
    rw [List.take_succ_eq_append_getElem hkt]
/-- The names, laid into the kinds of local time. -/
theorem nmK_back (p : ByteArray) (ats : List Int) (ty : List S46) (hl : ats.length = ty.length) (ha : ∀ i (h : i < ty.length), atN p (ats.getD i 0) = (ty[i].f2, true)) : ∀ k, k ≤ ty.length →
    ∃ L, nmK p ats (ty.map noNm) true k = (L, true) ∧ L.length = ty.length ∧ ∀ i (h : i < ty.length), L[i]? = some (if i < k then ty[i] else noNm ty[i])
  | 0, _ => ⟨_, rfl, List.length_map .., fun i h => by rw [if_neg (Nat.not_lt_zero i), List.getElem?_map, List.getElem?_eq_getElem h]; rfl⟩
  | k + 1, hk => by
    obtain ⟨L, h1, h2, h3⟩ := nmK_back p ats ty hl ha k (by omega)
    have hkt : k < ty.length := by omega
    refine ⟨L.set k (setNm (L.getD k z46) ty[k].f2), by unfold nmK; simp only [h1, ha k hkt]; rfl, by rw [List.length_set, h2], fun i h => ?_⟩
    have hkl : k < L.length := by omega
    rw [List.getElem?_set]
    by_cases e : k = i
    · subst e
      rw [if_pos rfl, if_pos hkl, if_pos (by omega)]
      have h7 := h3 k (by omega)
      rw [if_neg (Nat.lt_irrefl k)] at h7
      rw [List.getD, h7]
      rfl
    · rw [if_neg e, h3 i h]
      by_cases e2 : i < k
      · rw [if_pos e2, if_pos (by omega)]
      · rw [if_neg e2, if_neg (by omega)]
end Go.Proofs.Ytpgjcnjojfehjaa.Bk
/- Plain law: what Encode lays Decode reads as it was. -/
namespace Go.Proofs.Ytpgjcnjojfehjaa.Bk
open Go.RowKit Go.Proofs.YtpgjcnjojfehjaaW.PrintWords Go.Proofs.YtpgjcnjojfehjaaW.PrintLast Go.Proofs.YtpgjcnjojfehjaaW.PrintMore Oct Kx Ab

theorem str_back (s : ByteArray) : strOfNums (bytesOf s) = s := by
  apply bytes_eq
  unfold strOfNums bytesOf
  have e : ((fun n : Int => UInt8.ofNat n.toNat) ∘ fun b : UInt8 => (b.toNat : Int)) = id := funext fun b => by simp
  rw [List.map_map, e, List.map_id]
theorem put_len {n size : Int} (h : (putS [] n size).2 = true) : (((putS [] n size).1).length : Int) = size := by
  unfold putS at h ⊢
  split at h
  · rename_i hm
    obtain ⟨h1, h8⟩ := mayS_size hm
    rw [if_pos hm, List.length_append, bytesS_length, List.length_nil]
    omega
  · cases h
theorem lenT (size : Int) : ∀ tr : List S48, fit (numsT tr size) = true → ((lay (numsT tr size)).length : Int) = tr.length * size
  | [], _ => by simp [lay, numsT]
  | t :: tr, h => by
    have e : numsT (t :: tr) size = (t.f0, size) :: numsT tr size := rfl
    rw [e] at h ⊢
    have h1 := lenT size tr (fit_tail h)
    rw [fit_cons, Bool.and_eq_true] at h
    have h2 := put_len h.1
    simp only at h2
    rw [lay_cons, List.length_append, List.length_cons, Int.natCast_add, h1, h2, Int.natCast_add, Int.add_mul]
    omega
theorem lenK : ∀ tr : List S48, fit (numsK tr) = true → (lay (numsK tr)).length = tr.length
  | [], _ => rfl
  | t :: tr, h => by
    have e : numsK (t :: tr) = (t.f1, 1) :: numsK tr := rfl
    rw [e] at h ⊢
    have h1 := lenK tr (fit_tail h)
    rw [fit_cons, Bool.and_eq_true] at h
    have h2 := put_len h.1
    rw [lay_cons, List.length_append, List.length_cons]
    simp only at h2 ⊢
    omega
theorem lenY : ∀ (ty : List S46) (ats : List Int), ats.length = ty.length → fit (numsY ty ats) = true → (lay (numsY ty ats)).length = ty.length * 6
  | [], ats, _, _ => by simp [lay, numsY]
  | t :: ty, [], hl, _ => by simp at hl
  | t :: ty, a :: ats, hl, h => by
    have e : numsY (t :: ty) (a :: ats) = (t.f0, 4) :: (mk t.f1, 1) :: (a, 1) :: numsY ty ats := rfl
    rw [e] at h ⊢
    have f1 := fit_tail h
    have f2 := fit_tail f1
    have h1 := lenY ty ats (by simpa using hl) (fit_tail f2)
    rw [fit_cons, Bool.and_eq_true] at h f1 f2
    have g1 := put_len h.1
    have g2 := put_len f1.1
    have g3 := put_len f2.1
    rw [lay_cons, lay_cons, lay_cons, List.length_append, List.length_append, List.length_append, List.length_cons]
    simp only at g1 g2 g3 ⊢
    omega
theorem lenL (size : Int) : ∀ lp : List S50, fit (numsL lp size) = true → ((lay (numsL lp size)).length : Int) = lp.length * (size + 4)
  | [], _ => by simp [lay, numsL]
  | c :: lp, h => by
    have e : numsL (c :: lp) size = (c.f0, size) :: (c.f1, 4) :: numsL lp size := rfl
    rw [e] at h ⊢
    have f1 := fit_tail h
    have h1 := lenL size lp (fit_tail f1)
    rw [fit_cons, Bool.and_eq_true] at h f1
    have g1 := put_len h.1
    have g2 := put_len f1.1
    simp only at g1 g2
    rw [lay_cons, lay_cons, List.length_append, List.length_append, List.length_cons, Int.natCast_add, Int.natCast_add, h1, g1, g2, Int.natCast_add, Int.add_mul (lp.length : Int)]
    omega
theorem pool_places {l : List ByteArray} (h : (poolT l).2.2 = true) : ∀ i (hi : i < l.length), atN (poolT l).1 ((poolT l).2.1.getD i 0) = (l[i], true) := by
  intro i hi
  rcases right_or l with hr | hw
  · have I := inv_steps l St0 [] inv0 hr
    rw [List.nil_append] at I
    rw [poolT_right hr] at h ⊢
    unfold poolE at h ⊢
    simp only at h ⊢
    split at h
    · simp at h
    · obtain ⟨k, h1, h2⟩ := I.at_ i l[i] (List.getElem?_eq_getElem hi)
      have h3 := place_at (I.place _ _ h1)
      show atN (steps St0 l).p ((steps St0 l).ats.getD i 0) = _
      rw [List.getD, h2]
      exact h3
  · rw [poolT_wrong hw] at h; cases h
theorem take_zero (l : List Int) : takeS l false 0 = ([], l, false) := by unfold takeS; rw [if_neg (by simp)]; simp
theorem take_all {p rest : List Int} {n : Int} (h : (p.length : Int) = n) : takeS (p ++ rest) false n = (p, rest, false) := by
  subst h
  unfold takeS
  rw [if_neg (by rw [List.length_append]; simp; omega), Int.toNat_natCast, List.take_left, List.drop_left]
/-- What holds of numbers of a zone: they are numbers of 64 bits. -/
def RZ (ty : List S46) (tr : List S48) (lp : List S50) : Prop := (∀ t ∈ ty, R64 t.f0) ∧ (∀ t ∈ tr, R64 t.f0 ∧ R64 t.f1) ∧ ∀ t ∈ lp, R64 t.f0 ∧ R64 t.f1
theorem enc_parts {ty : List S46} {tr : List S48} {lp : List S50} {ver size : Int} (hg : encG ty tr lp ver size = true) :
    (poolT (namesL ty)).2.2 = true ∧ rightS ver 0 0 lp.length tr.length ty.length (poolT (namesL ty)).1.size = true ∧ (size = 4 ∨ size = 8) ∧ fit (numsT tr size) = true ∧ fit (numsK tr) = true ∧ fit (numsY ty (poolT (namesL ty)).2.1) = true ∧ fit (numsL lp size) = true := by
  unfold encG at hg
  rw [Bool.and_eq_true, Bool.and_eq_true, Bool.and_eq_true, decide_eq_true_eq] at hg
  obtain ⟨⟨h1, h2⟩, h3, h4⟩ := hg
  unfold numsA at h3
  rw [fit_app, fit_app, Bool.and_eq_true, Bool.and_eq_true] at h3
  unfold countN at h1
  split at h1
  · rename_i hc
    rw [Bool.and_eq_true] at hc
    exact ⟨hc.1, hc.2, h2, h3.1.1, h3.1.2, h3.2, h4⟩
  · cases h1
theorem body_len {ty : List S46} {tr : List S48} {lp : List S50} {ver size : Int} (hg : encG ty tr lp ver size = true) :
    ((bodyN ty tr lp size).length : Int) = sizeF ver 0 0 lp.length tr.length ty.length (poolT (namesL ty)).1.size size := by
  obtain ⟨h1, h2, h3, h4, h5, h6, h7⟩ := enc_parts hg
  have a1 := lenT size tr h4
  have a2 := lenK tr h5
  have a3 := lenY ty _ (by rw [pool_ats h1]; unfold namesL; rw [List.length_map]) h6
  have a4 := lenL size lp h7
  have a5 := bytesOf_length (poolT (namesL ty)).1
  have hbo : bodyN ty tr lp size = lay (numsA ty tr size) ++ bytesOf (poolT (namesL ty)).1 ++ lay (numsL lp size) := rfl
  rw [hbo]
  unfold sizeF numsA
  rw [h2]
  simp only
  rw [if_pos h3, lay_app, lay_app, List.length_append, List.length_append, List.length_append, List.length_append, a5, a2, a3]
  simp only [Int.natCast_add, Int.natCast_mul]
  have e1 : (tr.length : Int) * (size + 1) = tr.length * size + tr.length := by rw [Int.mul_add, Int.mul_one]
  rw [a1, a4, e1]
  omega
theorem zone_back {ty : List S46} {tr : List S48} {lp : List S50} {ver size : Int} (hz : RZ ty tr lp) (hg : encG ty tr lp ver size = true) :
    decN ver 0 0 lp.length tr.length ty.length (poolT (namesL ty)).1.size (bodyN ty tr lp size) size = (ty, tr, lp, ⟨#[]⟩, ver, true) := by
  have hlen := body_len hg
  obtain ⟨h1, h2, h3, h4, h5, h6, h7⟩ := enc_parts hg
  have hn : (namesL ty).length = ty.length := by unfold namesL; rw [List.length_map]
  have hat : (poolT (namesL ty)).2.1.length = ty.length := by rw [pool_ats h1, hn]
  have hty : 1 ≤ ty.length := by unfold rightS at h2; rw [decide_eq_true_eq] at h2; omega
  have hne : sizeF ver 0 0 lp.length tr.length ty.length (poolT (namesL ty)).1.size size ≠ 0 := by
    unfold sizeF
    rw [h2]
    simp only
    rw [if_pos h3]
    have p1 : 0 ≤ (tr.length : Int) * (size + 1) := Int.mul_nonneg (by omega) (by omega)
    have p2 : 0 ≤ (lp.length : Int) * (size + 4) := Int.mul_nonneg (by omega) (by omega)
    omega
  have hb : bodyN ty tr lp size = lay (numsT tr size) ++ (lay (numsK tr) ++ (lay (numsY ty (poolT (namesL ty)).2.1) ++ (bytesOf (poolT (namesL ty)).1 ++ (lay (numsL lp size) ++ [])))) := by
    have hbo : bodyN ty tr lp size = lay (numsA ty tr size) ++ bytesOf (poolT (namesL ty)).1 ++ lay (numsL lp size) := rfl
    rw [hbo]
    unfold numsA
    rw [lay_app, lay_app]
    simp only [List.append_assoc, List.append_nil]
  obtain ⟨L1, b1, b2, b3, -⟩ := trA_back size tr (lay (numsK tr) ++ (lay (numsY ty (poolT (namesL ty)).2.1) ++ (bytesOf (poolT (namesL ty)).1 ++ (lay (numsL lp size) ++ [])))) (fun t ht => (hz.2.1 t ht).1) h4 tr.length (Nat.le_refl _)
  rw [← hb, List.drop_length] at b1
  obtain ⟨L2, c1, c2, c3, -⟩ := trB_back tr L1 (lay (numsY ty (poolT (namesL ty)).2.1) ++ (bytesOf (poolT (namesL ty)).1 ++ (lay (numsL lp size) ++ []))) (fun t ht => (hz.2.1 t ht).2) h5 b2 (fun i h => by rw [b3 i h, if_pos h]) tr.length (Nat.le_refl _)
  rw [List.drop_length] at c1
  have hL2 : L2 = tr := List.ext_getElem? fun i => by
    by_cases h : i < tr.length
    · rw [c3 i h, if_pos h, List.getElem?_eq_getElem h]
    · rw [List.getElem?_eq_none (by omega), List.getElem?_eq_none (by omega)]
  subst hL2
  obtain ⟨d1, -⟩ := tyK_back (bytesOf (poolT (namesL ty)).1 ++ (lay (numsL lp size) ++ [])) ty _ hat hz.1 h6 ty.length (Nat.le_refl _)
  rw [List.drop_length, List.take_length, ← hat, List.drop_length, List.take_length] at d1
  rw [hat] at d1
  obtain ⟨L3, e1, e2, e3⟩ := nmK_back (poolT (namesL ty)).1 (poolT (namesL ty)).2.1 ty hat (fun i h => by
    rw [pool_places h1 i (by omega)]
    unfold namesL
    rw [List.getElem_map]) ty.length (Nat.le_refl _)
  have hL3 : L3 = ty := List.ext_getElem? fun i => by
    by_cases h : i < ty.length
    · rw [e3 i h, if_pos h, List.getElem?_eq_getElem h]
    · rw [List.getElem?_eq_none (by omega), List.getElem?_eq_none (by omega)]
  rw [hL3] at e1
  obtain ⟨f1, -⟩ := lpK_back size [] lp hz.2.2 h7 lp.length (Nat.le_refl _)
  rw [List.drop_length, List.take_length] at f1
  have t1 : takeS (bytesOf (poolT (namesL ty)).1 ++ (lay (numsL lp size) ++ [])) false (poolT (namesL ty)).1.size = (bytesOf (poolT (namesL ty)).1, lay (numsL lp size) ++ [], false) := take_all (by rw [bytesOf_length])
  rw [dec_all (tyf := ty.map noNm) ⟨hne, hlen⟩ b1 c1 d1 t1 (str_back _) e1 f1 (take_zero _) (take_zero _)]
  rfl
end Go.Proofs.Ytpgjcnjojfehjaa.Bk
/- The program's Encode, in one word; condition: at most 100 kinds of local time. -/
namespace Go.Proofs.Ytpgjcnjojfehjaa.Bk
open Go.RowKit Go.Proofs.YtpgjcnjojfehjaaW.PrintWords Go.Proofs.YtpgjcnjojfehjaaW.PrintLast Go.Proofs.YtpgjcnjojfehjaaW.PrintMore Ab Kx Oct AbT

def encF (ty : List S46) (tr : List S48) (lp : List S50) (_foot : ByteArray) (ver size : Int) : Option (List Int × Bool) := match okZ ty tr lp with
  | true => some (encN ty tr lp ver size)
  | false => none
set_option maxHeartbeats 1000000 in
set_option maxRecDepth 100000 in
theorem encode_no (A0 : Option Addr) (c0 : Nat) (ty : List S46) (A1 : Option Addr) (c1 : Nat) (tr : List S48) (A2 : Option Addr) (c2 : Nat) (lp : List S50) (foot : ByteArray) (ver size : Int) (w : World)
    (hr0 : Kd.C k46 w A0 ty.length ty) (hc0 : ty.length ≤ c0) (hr1 : Kd.C k48 w A1 tr.length tr) (hc1 : tr.length ≤ c1) (hr2 : Kd.C k50 w A2 lp.length lp) (hc2 : lp.length ≤ c2)
    (ho : okZ ty tr lp = true) (hno : (countN ty tr lp ver).2.2.2.2.2.2.2 = false ∨ (size ≠ 4 ∧ size ≠ 8)) :
    Calls Try.prog 12 #[.agg #[.slice A0 ty.length c0, .slice A1 tr.length c1, .slice A2 lp.length c2, .string foot, .int .i64 ver], .int .i64 size] w fun e w' => e = .returned (.tuple #[.slice none 0 0, .bool false]) ∧ Below w.heap.size w w' := by
  obtain ⟨n1, n2, n3, n4, n5, n6, n7, n8, hn⟩ : ∃ n1 n2 n3 n4 n5 n6 n7 n8, countN ty tr lp ver = (n1, n2, n3, n4, n5, n6, n7, n8) := ⟨_, _, _, _, _, _, _, _, rfl⟩
  have hno' : n8 = false ∨ (size ≠ 4 ∧ size ≠ 8) := by rw [hn] at hno; exact hno
  have HCT := Aside0.mk (fun W h0 h1 h2 => count_is A0 c0 ty A1 c1 tr A2 c2 lp foot ver n1 n2 n3 n4 n5 n6 n7 n8 W h0 hc0 h1 hc1 h2 hc2 (show countF ty tr lp foot ver = _ by unfold countF; rw [ho]; exact congrArg some hn))
  have HR0 := Aside0.mk hr0
  have HR1 := Aside0.mk hr1
  have HR2 := Aside0.mk hr2
  clear hr0 hr1 hr2 hn ho hno
  cases n8 with
  | false =>
    clear hno'
    go_enter Try.func12, Try.ntmps12
    go_wp2_with (first
      | ((with_reducible refine gate_dst (N := 2) rfl ?_); refine box_event ?hg (N := 2) ?hd (cs := #[.slice A0 ty.length c0, .slice A1 tr.length c1, .slice A2 lp.length c2, .string foot, .int .i64 ver]) (t := 26) ?hr ?_; (case hd => rfl); (case hg => rfl); (case hr => first | (go_simp; done) | (go_simp; rfl)); intro z hgW w1 hbox hb1; have HB1 := Aside0.mk hb1; obtain ⟨hz0, hz1, hz2, hz3, hz4⟩ := zone_cells hbox; clear hb1 hbox hgW))
    refine (HCT.out _ (Kd.C_below HR0.out HB1.out) (Kd.C_below HR1.out HB1.out) (Kd.C_below HR2.out HB1.out)).mono ?_
    rintro e w2 ⟨rfl, hb2⟩
    have HB2 := Aside0.mk (below_step HB1.out hb2)
    clear HB1 hb2 HCT hz0 hz1 hz2 hz3 hz4
    go_wp2
    go_ret2
    exact ⟨rfl, below_alloc HB2.out _⟩
  | true =>
    obtain ⟨h4, h8⟩ : size ≠ 4 ∧ size ≠ 8 := by rcases hno' with h | h; · cases h
                                                · exact h
    have b4 : (size != 4) = true := bne_iff_ne.2 h4
    have b8 : (size != 8) = true := bne_iff_ne.2 h8
    clear hno' h4 h8
    go_enter Try.func12, Try.ntmps12
    go_wp2_with (first
      | ((with_reducible refine gate_dst (N := 2) rfl ?_); refine box_event ?hg (N := 2) ?hd (cs := #[.slice A0 ty.length c0, .slice A1 tr.length c1, .slice A2 lp.length c2, .string foot, .int .i64 ver]) (t := 26) ?hr ?_; (case hd => rfl); (case hg => rfl); (case hr => first | (go_simp; done) | (go_simp; rfl)); intro z hgW w1 hbox hb1; have HB1 := Aside0.mk hb1; obtain ⟨hz0, hz1, hz2, hz3, hz4⟩ := zone_cells hbox; clear hb1 hbox hgW))
    refine (HCT.out _ (Kd.C_below HR0.out HB1.out) (Kd.C_below HR1.out HB1.out) (Kd.C_below HR2.out HB1.out)).mono ?_
    rintro e w2 ⟨rfl, hb2⟩
    have HB2 := Aside0.mk (below_step HB1.out hb2)
    clear HB1 hb2 HCT hz0 hz1 hz2 hz3 hz4
    go_wp2
    go_ret2
    exact ⟨rfl, below_alloc HB2.out _⟩
theorem encN_no {ty : List S46} {tr : List S48} {lp : List S50} {ver size : Int} (h : (countN ty tr lp ver).2.2.2.2.2.2.2 = false ∨ (size ≠ 4 ∧ size ≠ 8)) : encN ty tr lp ver size = ([], false) := by
  have e : encG ty tr lp ver size = false := by
    unfold encG
    rcases h with h | ⟨h4, h8⟩
    · rw [h]; rfl
    · rw [decide_eq_false (by omega), Bool.and_false]; rfl
  unfold encN
  rw [e]
theorem encode_is (A0_0 : Option Addr) (c0_0 : Nat) (l0_0 : List S46) (A0_1 : Option Addr) (c0_1 : Nat) (l0_1 : List S48) (A0_2 : Option Addr) (c0_2 : Nat) (l0_2 : List S50) (a0_3 : ByteArray) (a0_4 a1 : Int) (r1 : List Int) (r2 : Bool) (w : World)
    (hr0_0 : Kd.C k46 w A0_0 l0_0.length l0_0) (hc0_0 : l0_0.length ≤ c0_0) (hr0_1 : Kd.C k48 w A0_1 l0_1.length l0_1) (hc0_1 : l0_1.length ≤ c0_1) (hr0_2 : Kd.C k50 w A0_2 l0_2.length l0_2) (hc0_2 : l0_2.length ≤ c0_2) (h : encF l0_0 l0_1 l0_2 a0_3 a0_4 a1 = some (r1, r2)) :
    Calls Try.prog 12 #[.agg #[.slice A0_0 l0_0.length c0_0, .slice A0_1 l0_1.length c0_1, .slice A0_2 l0_2.length c0_2, .string a0_3, .int .i64 a0_4], .int .i64 a1] w fun e w' => ∃ v0_ : Value, e = .returned (.tuple #[v0_, .bool r2]) ∧ Kd.R (Kd.int .u8) 5 w' w.heap.size (fun _ => True) v0_ r1 ∧ Below w.heap.size w w' := by
  unfold encF at h
  cases ho : okZ l0_0 l0_1 l0_2 with
  | false => rw [ho] at h; cases h
  | true =>
    rw [ho] at h
    have h2 : encN l0_0 l0_1 l0_2 a0_4 a1 = (r1, r2) := Option.some.inj h
    by_cases hno : (countN l0_0 l0_1 l0_2 a0_4).2.2.2.2.2.2.2 = false ∨ (a1 ≠ 4 ∧ a1 ≠ 8)
    · rw [encN_no hno] at h2
      injection h2 with h3 h4
      subst h3 h4
      exact (encode_no A0_0 c0_0 l0_0 A0_1 c0_1 l0_1 A0_2 c0_2 l0_2 a0_3 a0_4 a1 w hr0_0 hc0_0 hr0_1 hc0_1 hr0_2 hc0_2 ho hno).mono fun e w' ⟨he, hb⟩ => ⟨_, he, Kd.R_nil _ _ _ _ _, hb⟩
    · have hc : (countN l0_0 l0_1 l0_2 a0_4).2.2.2.2.2.2.2 = true := by
        cases hc : (countN l0_0 l0_1 l0_2 a0_4).2.2.2.2.2.2.2 with
        | true => rfl
        | false => exact absurd (Or.inl hc) hno
      have h48 : a1 = 4 ∨ a1 = 8 := by
        by_cases h4 : a1 = 4
        · exact .inl h4
        · by_cases h8 : a1 = 8
          · exact .inr h8
          · exact absurd (Or.inr ⟨h4, h8⟩) hno
      rcases h48 with rfl | rfl
      · have h5 := encode_4 A0_0 c0_0 l0_0 A0_1 c0_1 l0_1 A0_2 c0_2 l0_2 a0_3 a0_4 w hr0_0 hc0_0 hr0_1 hc0_1 hr0_2 hc0_2 ho hc
        rw [h2] at h5
        exact h5
      · have h5 := encode_8 A0_0 c0_0 l0_0 A0_1 c0_1 l0_1 A0_2 c0_2 l0_2 a0_3 a0_4 w hr0_0 hc0_0 hr0_1 hc0_1 hr0_2 hc0_2 ho hc
        rw [h2] at h5
        exact h5
end Go.Proofs.Ytpgjcnjojfehjaa.Bk
/- A zone's data, laid and read: the contracts together. -/
namespace Go.Proofs.Ytpgjcnjojfehjaa.Bk
theorem true_is : true = true := rfl
end Go.Proofs.Ytpgjcnjojfehjaa.Bk
-- Written by a program of this session (wip/print/setup.py turns the kit's print tool)
namespace Go.Proofs.Ytpgjcnjojfehjaa.PBlBack
open Go.RowKit Go.Proofs.YtpgjcnjojfehjaaW.PrintWords Go.Proofs.YtpgjcnjojfehjaaW.PrintLast Go.Proofs.YtpgjcnjojfehjaaW.PrintMore Kx


end Go.Proofs.Ytpgjcnjojfehjaa.PBlBack
-- Written by a program of this session (wip/print/setup.py turns the kit's print tool)
namespace Go.Proofs.Ytpgjcnjojfehjaa.PBlBack
open Go.RowKit Go.Proofs.YtpgjcnjojfehjaaW.PrintWords Go.Proofs.YtpgjcnjojfehjaaW.PrintLast Go.Proofs.YtpgjcnjojfehjaaW.PrintMore Kx
attribute [local go_sem] max2_int min2_int max_two min_two max_three min_three max_four min_four   -- for this text's walks alone
set_option linter.unusedVariables false
set_option linter.unusedSimpArgs false

theorem eqA46 (d : Nat) (w : World) (x0 y0 : Int) (x1 y1 : Bool) (x2 y2 : ByteArray) :
    (Op.equalIn (d + 2) 46 (.agg #[.int .i64 x0, .bool x1, .string x2]) (.agg #[.int .i64 y0, .bool y1, .string y2])).run Try.prog w = .ok (x0 == y0 && (x1 == y1 && (x2.toList == y2.toList))) w := by
  refine eqA_of Try.underlying46 (by kernel_rfl) ?_
  refine eqf_cons (by rfl) (by go_simp; rfl) (by go_simp; rfl) (by go_simp) ?_
  refine eqf_cons (by rfl) (by go_simp; rfl) (by go_simp; rfl) (by go_simp) ?_
  exact eqf_last (by rfl) (by go_simp; rfl) (by go_simp; rfl) (by go_simp)
end Go.Proofs.Ytpgjcnjojfehjaa.PBlBack
-- Written by a program of this session (wip/print/setup.py turns the kit's print tool)
namespace Go.Proofs.Ytpgjcnjojfehjaa.PBlBack
open Go.RowKit Go.Proofs.YtpgjcnjojfehjaaW.PrintWords Go.Proofs.YtpgjcnjojfehjaaW.PrintLast Go.Proofs.YtpgjcnjojfehjaaW.PrintMore Kx
attribute [local go_sem] max2_int min2_int max_two min_two max_three min_three max_four min_four   -- for this text's walks alone
set_option linter.unusedVariables false
set_option linter.unusedSimpArgs false

theorem eqA48 (d : Nat) (w : World) (x0 y0 : Int) (x1 y1 : Int) :
    (Op.equalIn (d + 2) 48 (.agg #[.int .i64 x0, .int .i64 x1]) (.agg #[.int .i64 y0, .int .i64 y1])).run Try.prog w = .ok (x0 == y0 && (x1 == y1)) w := by
  refine eqA_of Try.underlying48 (by kernel_rfl) ?_
  refine eqf_cons (by rfl) (by go_simp; rfl) (by go_simp; rfl) (by go_simp) ?_
  exact eqf_last (by rfl) (by go_simp; rfl) (by go_simp; rfl) (by go_simp)
end Go.Proofs.Ytpgjcnjojfehjaa.PBlBack
-- Written by a program of this session (wip/print/setup.py turns the kit's print tool)
namespace Go.Proofs.Ytpgjcnjojfehjaa.PBlBack
open Go.RowKit Go.Proofs.YtpgjcnjojfehjaaW.PrintWords Go.Proofs.YtpgjcnjojfehjaaW.PrintLast Go.Proofs.YtpgjcnjojfehjaaW.PrintMore Kx
attribute [local go_sem] max2_int min2_int max_two min_two max_three min_three max_four min_four   -- for this text's walks alone
set_option linter.unusedVariables false
set_option linter.unusedSimpArgs false

theorem eqA50 (d : Nat) (w : World) (x0 y0 : Int) (x1 y1 : Int) :
    (Op.equalIn (d + 2) 50 (.agg #[.int .i64 x0, .int .i64 x1]) (.agg #[.int .i64 y0, .int .i64 y1])).run Try.prog w = .ok (x0 == y0 && (x1 == y1)) w := by
  refine eqA_of Try.underlying50 (by kernel_rfl) ?_
  refine eqf_cons (by rfl) (by go_simp; rfl) (by go_simp; rfl) (by go_simp) ?_
  exact eqf_last (by rfl) (by go_simp; rfl) (by go_simp; rfl) (by go_simp)
end Go.Proofs.Ytpgjcnjojfehjaa.PBlBack
-- Written by a program of this session (wip/print/setup.py turns the kit's print tool)
namespace Go.Proofs.Ytpgjcnjojfehjaa.PBlBack
open Go.RowKit Go.Proofs.YtpgjcnjojfehjaaW.PrintWords Go.Proofs.YtpgjcnjojfehjaaW.PrintLast Go.Proofs.YtpgjcnjojfehjaaW.PrintMore Kx
attribute [local go_sem] max2_int min2_int max_two min_two max_three min_three max_four min_four   -- for this text's walks alone
set_option linter.unusedVariables false
set_option linter.unusedSimpArgs false

attribute [local go_sem high] eqA50
/-! ### epactlaw16_Few: function 9 -/
mutual
def epactlaw16_Few.l0 : Nat → Int → List (S46) → List (S48) → List (S50) → ByteArray → Int → Option (Bool)
  | 0, _, _, _, _, _, _ => none
  | k + 1, x3, x102000, x102001, x102002, x102003, x102004 => if x3 < (x102000.length : Int) then (epactlaw16_Few.j1 k x3 (decide (x3 < 100)) x102000 x102001 x102002 x102003 x102004) else (epactlaw16_Few.j1 k x3 false x102000 x102001 x102002 x102003 x102004)
def epactlaw16_Few.j1 : Nat → Int → Bool → List (S46) → List (S48) → List (S50) → ByteArray → Int → Option (Bool)
  | 0, _, _, _, _, _, _, _ => none
  | k + 1, x3, x12, x102000, x102001, x102002, x102003, x102004 => if x12 = true then (if 0 ≤ x3 then (if x3 < (x102000.length : Int) then (if (((rd_T46 x102000 x3).f2).size : Int) > 100 then (some false) else (epactlaw16_Few.l0 k (wrap64 (x3 + 1)) x102000 x102001 x102002 x102003 x102004)) else (none)) else (none)) else (if (x102000.length : Int) ≤ 100 then (if (x102001.length : Int) ≤ 300 then (if (x102002.length : Int) ≤ 300 then (some (decide ((x102003.size : Int) ≤ 200))) else (some false)) else (some false)) else (some false))
end
def epactlaw16_Few.f (k : Nat) (l0_0 : List (S46)) (l0_1 : List (S48)) (l0_2 : List (S50)) (a0_3 : ByteArray) (a0_4 : Int) : Option (Bool) := epactlaw16_Few.l0 k 0 l0_0 l0_1 l0_2 a0_3 a0_4
theorem epactlaw16_Few.mono_l : ∀ k, (∀ y0 y1 y2 y3 y4 y5, LeO (epactlaw16_Few.l0 k y0 y1 y2 y3 y4 y5) (epactlaw16_Few.l0 (k + 1) y0 y1 y2 y3 y4 y5)) ∧ (∀ y0 y1 y2 y3 y4 y5 y6, LeO (epactlaw16_Few.j1 k y0 y1 y2 y3 y4 y5 y6) (epactlaw16_Few.j1 (k + 1) y0 y1 y2 y3 y4 y5 y6))
  | 0 => ⟨fun _ _ _ _ _ _ r h => by simp [epactlaw16_Few.l0] at h, fun _ _ _ _ _ _ _ r h => by simp [epactlaw16_Few.j1] at h⟩
  | k + 1 => by
    obtain ⟨ih0, ih1⟩ := epactlaw16_Few.mono_l k
    refine ⟨?_, ?_⟩
    · intro y0 y1 y2 y3 y4 y5
      unfold epactlaw16_Few.l0
      repeat' first
      | (with_reducible exact ih0 _ _ _ _ _ _)
      | (with_reducible exact ih1 _ _ _ _ _ _ _)
      | (with_reducible exact LeO.refl _)
      | (with_reducible exact LeO.none _)
      | (with_reducible refine LeO.ite ?_ ?_)
      | (with_reducible refine LeO.bind ?_ (fun _ => ?_))
      | exact ih0 _ _ _ _ _ _
      | exact ih1 _ _ _ _ _ _ _
      | exact LeO.none _
      | refine LeO.ite ?_ ?_
      | refine LeO.bind ?_ (fun _ => ?_)
    · intro y0 y1 y2 y3 y4 y5 y6
      unfold epactlaw16_Few.j1
      repeat' first
      | (with_reducible exact ih0 _ _ _ _ _ _)
      | (with_reducible exact ih1 _ _ _ _ _ _ _)
      | (with_reducible exact LeO.refl _)
      | (with_reducible exact LeO.none _)
      | (with_reducible refine LeO.ite ?_ ?_)
      | (with_reducible refine LeO.bind ?_ (fun _ => ?_))
      | exact ih0 _ _ _ _ _ _
      | exact ih1 _ _ _ _ _ _ _
      | exact LeO.none _
      | refine LeO.ite ?_ ?_
      | refine LeO.bind ?_ (fun _ => ?_)
theorem epactlaw16_Few.mono : ∀ a0 a1 a2 a3 a4 k, LeO (epactlaw16_Few.f k a0 a1 a2 a3 a4) (epactlaw16_Few.f (k + 1) a0 a1 a2 a3 a4) := by
  intro a0 a1 a2 a3 a4 k
  obtain ⟨ih0, ih1⟩ := epactlaw16_Few.mono_l k
  unfold epactlaw16_Few.f
  repeat' first
      | (with_reducible exact ih0 _ _ _ _ _ _)
      | (with_reducible exact ih1 _ _ _ _ _ _ _)
      | (with_reducible exact LeO.refl _)
      | (with_reducible exact LeO.none _)
      | (with_reducible refine LeO.ite ?_ ?_)
      | (with_reducible refine LeO.bind ?_ (fun _ => ?_))
      | exact ih0 _ _ _ _ _ _
      | exact ih1 _ _ _ _ _ _ _
      | exact LeO.none _
      | refine LeO.ite ?_ ?_
      | refine LeO.bind ?_ (fun _ => ?_)
set_option maxHeartbeats 8000000 in
set_option maxRecDepth 100000 in
theorem epactlaw16_Few.calls (k : Nat) (A0_0 : Option Addr) (c0_0 : Nat) (l0_0 : List (S46)) (A0_1 : Option Addr) (c0_1 : Nat) (l0_1 : List (S48)) (A0_2 : Option Addr) (c0_2 : Nat) (l0_2 : List (S50)) (a0_3 : ByteArray) (a0_4 : Int) (r : Bool) (w : World) (hr0_0 : Kd.C k46 w A0_0 l0_0.length l0_0) (hc0_0 : l0_0.length ≤ c0_0) (hr0_1 : Kd.C k48 w A0_1 l0_1.length l0_1) (hc0_1 : l0_1.length ≤ c0_1) (hr0_2 : Kd.C k50 w A0_2 l0_2.length l0_2) (hc0_2 : l0_2.length ≤ c0_2) (h : epactlaw16_Few.f k l0_0 l0_1 l0_2 a0_3 a0_4 = some r) :
    Calls Try.prog 9 #[.agg #[.slice A0_0 l0_0.length c0_0, .slice A0_1 l0_1.length c0_1, .slice A0_2 l0_2.length c0_2, .string a0_3, .int .i64 a0_4]] w fun e w' => e = .returned (.bool r) ∧ Below w.heap.size w w' := by
  have hu26 := Try.underlying26
  have HR0_0 := Aside0.mk hr0_0
  have HC0_0 := Aside0.mk hc0_0
  clear hr0_0 hc0_0
  have HR0_1 := Aside0.mk hr0_1
  have HC0_1 := Aside0.mk hc0_1
  clear hr0_1 hc0_1
  have HR0_2 := Aside0.mk hr0_2
  have HC0_2 := Aside0.mk hc0_2
  clear hr0_2 hc0_2
  have HB := Aside0.mk (Below.refl w.heap.size w)
  have H : (epactlaw16_Few.l0 k 0 l0_0 l0_1 l0_2 a0_3 a0_4) = some r := h
  clear h
  have H' := Aside0.mk H
  clear H
  go_enter Try.func9, Try.ntmps9
  go_wp2_with (first | ((with_reducible refine gate_dst (N := 1) rfl ?_); (try (refine gate_guard (by rfl) ?_; dsimp only)); refine box_event ?hg (N := 1) ?hd (cs := #[.slice A0_0 l0_0.length c0_0, .slice A0_1 l0_1.length c0_1, .slice A0_2 l0_2.length c0_2, .string a0_3, .int .i64 a0_4]) (t := 26) ?hr ?_; (case hd => rfl); (case hg => rfl); (case hr => first | (go_simp; done) | (go_simp; rfl)); intro gb101 hg w2 hbox hb; have n0_ := Aside0.mk (below_step (by repeat (first | (with_reducible first | exact HB.out | apply below_alloc | apply pw_below_drewN | apply below_drew1) | exact HB.out)) hb); have n1_ := Aside0.mk (hbox); have n2_ := Aside0.mk ((by rw [hg]; exact (below_size (by repeat (first | (with_reducible first | exact HB.out | apply below_alloc | apply pw_below_drewN | apply below_drew1) | exact HB.out))) : w.heap.size ≤ gb101)); have n3_ := Aside0.mk ((by rw [hg]; exact (below_size (by repeat (first | (with_reducible first | exact HB.out | apply below_alloc | apply pw_below_drewN | apply below_drew1) | exact HB.out))) : w.heap.size ≤ gb101)); clear HB; have HB := n0_; have BK101 := n1_; have GW101 := n2_; have GE101 := n3_; clear n0_ n1_ n2_ n3_; clear hb hbox hg))
  go_loopg [3] k (fun kq v3 w' => ∃ (x3_1 : Int), v3 = .int .i64 x3_1 ∧ Aside0 (epactlaw16_Few.l0 kq x3_1 l0_0 l0_1 l0_2 a0_3 a0_4 = some r) ∧ Aside0 (kq ≤ k) ∧ Aside0 (w'.heap[gb101]? = some (.cells #[(.slice A0_0 l0_0.length c0_0), (.slice A0_1 l0_1.length c0_1), (.slice A0_2 l0_2.length c0_2), .string a0_3, .int .i64 a0_4] 26 (0, 0))) ∧ Aside0 (Below w.heap.size w w'))
  case atStart => exact ⟨(0), (by first | rfl | (simp; done) | (simp [*]; done)), H', ⟨Nat.le_refl _⟩, ⟨by (with_reducible repeat (first | refine blk_drewN ?_ _ | refine blk_drew ?_ | refine blk_alloc ?_ _)); exact BK101.out⟩, ⟨by repeat (first | (with_reducible first | exact HB.out | apply below_alloc | apply pw_below_drewN | apply below_drew1 | refine below_set ?_ GE101.out) | exact HB.out)⟩⟩
  case round =>
    clear H'
    try clear p2
    obtain ⟨x3_1, rfl, HA, HK1, BK101, HB⟩ := hrel
    cases gk with
    | zero => exact absurd HA.out (by simp [epactlaw16_Few.l0])
    | succ k1 =>
      have H := HA.out
      clear HA
      simp only [epactlaw16_Few.l0] at H
      have HC3 := Aside0.mk H
      clear H
      go_upto_region 2 with (fail)
      go_cut [12] (fun v12 wc => ∃ (kq : Nat) (x12_2 : Bool), v12 = .bool x12_2 ∧ Aside0 (epactlaw16_Few.j1 kq x3_1 x12_2 l0_0 l0_1 l0_2 a0_3 a0_4 = some r) ∧ Aside0 (kq ≤ k1) ∧ Aside0 (wc.heap[gb101]? = some (.cells #[(.slice A0_0 l0_0.length c0_0), (.slice A0_1 l0_1.length c0_1), (.slice A0_2 l0_2.length c0_2), .string a0_3, .int .i64 a0_4] 26 (0, 0))) ∧ Aside0 (Below w.heap.size w wc))
      case first =>
        have H := HC3.out
        clear HC3
        by_cases c4 : x3_1 < (l0_0.length : Int)
        · rw [if_pos c4] at H
          have c4b0 : decide (x3_1 < (l0_0.length : Int)) = true := decide_eq_true c4
          clear c4
          (first | rw [c4b0] | (simp only [i64_w, i32_w]; rw [c4b0]) | skip)
          have H' := Aside0.mk H
          clear H
          have hcz5_0 : wr.cell? ⟨gb101, 0, none⟩ = some (.slice A0_0 l0_0.length c0_0) := (blk_cell BK101.out 0).trans rfl
          have hcz5_1 : wr.cell? ⟨gb101, 1, none⟩ = some (.slice A0_1 l0_1.length c0_1) := (blk_cell BK101.out 1).trans rfl
          have hcz5_2 : wr.cell? ⟨gb101, 2, none⟩ = some (.slice A0_2 l0_2.length c0_2) := (blk_cell BK101.out 2).trans rfl
          have hcz5_3 : wr.cell? ⟨gb101, 3, none⟩ = some (.string a0_3) := (blk_cell BK101.out 3).trans rfl
          have hcz5_4 : wr.cell? ⟨gb101, 4, none⟩ = some (.int .i64 a0_4) := (blk_cell BK101.out 4).trans rfl
          have hfz5_0 := blk_frozen BK101.out 0
          have hfz5_1 := blk_frozen BK101.out 1
          have hfz5_2 := blk_frozen BK101.out 2
          have hfz5_3 := blk_frozen BK101.out 3
          have hfz5_4 := blk_frozen BK101.out 4
          go_wp2
          go_meet
          case rel => exact ⟨_, (decide (x3_1 < 100)), (by first | rfl | (simp; done) | (simp [*]; done)), H', ⟨by have := HK1.out; first | omega | exact Nat.le_refl _⟩, ⟨by (with_reducible repeat (first | refine blk_drewN ?_ _ | refine blk_drew ?_ | refine blk_alloc ?_ _)); exact BK101.out⟩, ⟨by repeat (first | (with_reducible first | exact HB.out | apply below_alloc | apply pw_below_drewN | apply below_drew1 | refine below_set ?_ GE101.out) | exact HB.out)⟩⟩
        · rw [if_neg c4] at H
          have c4b0 : decide (x3_1 < (l0_0.length : Int)) = false := decide_eq_false c4
          clear c4
          (first | rw [c4b0] | (simp only [i64_w, i32_w]; rw [c4b0]) | skip)
          have H' := Aside0.mk H
          clear H
          have hcz6_0 : wr.cell? ⟨gb101, 0, none⟩ = some (.slice A0_0 l0_0.length c0_0) := (blk_cell BK101.out 0).trans rfl
          have hcz6_1 : wr.cell? ⟨gb101, 1, none⟩ = some (.slice A0_1 l0_1.length c0_1) := (blk_cell BK101.out 1).trans rfl
          have hcz6_2 : wr.cell? ⟨gb101, 2, none⟩ = some (.slice A0_2 l0_2.length c0_2) := (blk_cell BK101.out 2).trans rfl
          have hcz6_3 : wr.cell? ⟨gb101, 3, none⟩ = some (.string a0_3) := (blk_cell BK101.out 3).trans rfl
          have hcz6_4 : wr.cell? ⟨gb101, 4, none⟩ = some (.int .i64 a0_4) := (blk_cell BK101.out 4).trans rfl
          have hfz6_0 := blk_frozen BK101.out 0
          have hfz6_1 := blk_frozen BK101.out 1
          have hfz6_2 := blk_frozen BK101.out 2
          have hfz6_3 := blk_frozen BK101.out 3
          have hfz6_4 := blk_frozen BK101.out 4
          go_wp2
          go_meet
          case rel => exact ⟨_, (false), (by first | rfl | (simp; done) | (simp [*]; done)), H', ⟨by have := HK1.out; first | omega | exact Nat.le_refl _⟩, ⟨by (with_reducible repeat (first | refine blk_drewN ?_ _ | refine blk_drew ?_ | refine blk_alloc ?_ _)); exact BK101.out⟩, ⟨by repeat (first | (with_reducible first | exact HB.out | apply below_alloc | apply pw_below_drewN | apply below_drew1 | refine below_set ?_ GE101.out) | exact HB.out)⟩⟩
      case rest =>
        clear HC3
        try clear p2
        try clear c4
        try clear c4b0
        try clear hcz5_0
        try clear hcz5_1
        try clear hcz5_2
        try clear hcz5_3
        try clear hcz5_4
        try clear hcz6_0
        try clear hcz6_1
        try clear hcz6_2
        try clear hcz6_3
        try clear hcz6_4
        try clear hfz5_0
        try clear hfz5_1
        try clear hfz5_2
        try clear hfz5_3
        try clear hfz5_4
        try clear hfz6_0
        try clear hfz6_1
        try clear hfz6_2
        try clear hfz6_3
        try clear hfz6_4
        try clear p2
        obtain ⟨kq, x12_2, rfl, HA, HJ2, BK101, HB⟩ := hcut
        cases kq with
        | zero => exact absurd HA.out (by simp [epactlaw16_Few.j1])
        | succ kj2 =>
          have H := HA.out
          clear HA
          simp only [epactlaw16_Few.j1] at H
          by_cases c7 : x12_2 = true
          · subst c7
            have H1 : (if 0 ≤ x3_1 then (if x3_1 < (l0_0.length : Int) then (if (((rd_T46 l0_0 x3_1).f2).size : Int) > 100 then (some false) else (epactlaw16_Few.l0 kj2 (wrap64 (x3_1 + 1)) l0_0 l0_1 l0_2 a0_3 a0_4)) else (none)) else (none)) = some r := by rw [if_pos rfl] at H; exact H
            clear H
            have H := H1
            clear H1
            by_cases c8 : 0 ≤ x3_1
            · rw [if_pos c8] at H
              have c8b0 : decide (0 ≤ x3_1) = true := decide_eq_true c8
              clear c8
              by_cases c9 : x3_1 < (l0_0.length : Int)
              · rw [if_pos c9] at H
                have c9b0 : decide (x3_1 < (l0_0.length : Int)) = true := decide_eq_true c9
                clear c9
                by_cases c10 : (((rd_T46 l0_0 x3_1).f2).size : Int) > 100
                · rw [if_pos c10] at H
                  have c10b0 : decide (100 < (((rd_T46 l0_0 x3_1).f2).size : Int)) = true := decide_eq_true c10
                  have c10b1 : decide (100 < ((rd_T46 l0_0 x3_1).f2).size) = true := decide_eq_true (by omega)
                  clear c10
                  obtain rfl := Option.some.inj H
                  have hcz11_0 : wc.cell? ⟨gb101, 0, none⟩ = some (.slice A0_0 l0_0.length c0_0) := (blk_cell BK101.out 0).trans rfl
                  have hcz11_1 : wc.cell? ⟨gb101, 1, none⟩ = some (.slice A0_1 l0_1.length c0_1) := (blk_cell BK101.out 1).trans rfl
                  have hcz11_2 : wc.cell? ⟨gb101, 2, none⟩ = some (.slice A0_2 l0_2.length c0_2) := (blk_cell BK101.out 2).trans rfl
                  have hcz11_3 : wc.cell? ⟨gb101, 3, none⟩ = some (.string a0_3) := (blk_cell BK101.out 3).trans rfl
                  have hcz11_4 : wc.cell? ⟨gb101, 4, none⟩ = some (.int .i64 a0_4) := (blk_cell BK101.out 4).trans rfl
                  have hfz11_0 := blk_frozen BK101.out 0
                  have hfz11_1 := blk_frozen BK101.out 1
                  have hfz11_2 := blk_frozen BK101.out 2
                  have hfz11_3 := blk_frozen BK101.out 3
                  have hfz11_4 := blk_frozen BK101.out 4
                  have p102 : 0 ≤ (x3_1 : Int) := of_decide_eq_true (by first | (with_reducible assumption) | assumption)
                  have q102 : x3_1 < (l0_0.length : Int) := of_decide_eq_true (by first | (with_reducible assumption) | assumption)
                  obtain ⟨ad102, e102, hx102_0, hx102_1, hx102_2⟩ := at_T46 HR0_0.out x3_1 p102 q102
                  cases e102
                  replace hx102_0 := (HB.out.cell (World.block_lt_of_cell? w _ hx102_0)).trans hx102_0
                  replace hx102_1 := (HB.out.cell (World.block_lt_of_cell? w _ hx102_1)).trans hx102_1
                  replace hx102_2 := (HB.out.cell (World.block_lt_of_cell? w _ hx102_2)).trans hx102_2
                  replace p102 := eq_true p102
                  replace q102 := eq_true q102
                  go_wp2
                  go_ret
                  exact ⟨by first | rfl | (simp [errW_none, errW_some] <;> rfl) | (simp [*, errW_none, errW_some] <;> rfl), by repeat (first | (with_reducible first | exact HB.out | apply below_alloc | apply pw_below_drewN | apply below_drew1 | refine below_set ?_ GE101.out) | exact HB.out)⟩
                · rw [if_neg c10] at H
                  have c10b0 : decide (100 < (((rd_T46 l0_0 x3_1).f2).size : Int)) = false := decide_eq_false c10
                  have c10b1 : decide (100 < ((rd_T46 l0_0 x3_1).f2).size) = false := decide_eq_false (by omega)
                  clear c10
                  have H' := Aside0.mk H
                  clear H
                  have hcz12_0 : wc.cell? ⟨gb101, 0, none⟩ = some (.slice A0_0 l0_0.length c0_0) := (blk_cell BK101.out 0).trans rfl
                  have hcz12_1 : wc.cell? ⟨gb101, 1, none⟩ = some (.slice A0_1 l0_1.length c0_1) := (blk_cell BK101.out 1).trans rfl
                  have hcz12_2 : wc.cell? ⟨gb101, 2, none⟩ = some (.slice A0_2 l0_2.length c0_2) := (blk_cell BK101.out 2).trans rfl
                  have hcz12_3 : wc.cell? ⟨gb101, 3, none⟩ = some (.string a0_3) := (blk_cell BK101.out 3).trans rfl
                  have hcz12_4 : wc.cell? ⟨gb101, 4, none⟩ = some (.int .i64 a0_4) := (blk_cell BK101.out 4).trans rfl
                  have hfz12_0 := blk_frozen BK101.out 0
                  have hfz12_1 := blk_frozen BK101.out 1
                  have hfz12_2 := blk_frozen BK101.out 2
                  have hfz12_3 := blk_frozen BK101.out 3
                  have hfz12_4 := blk_frozen BK101.out 4
                  have p102 : 0 ≤ (x3_1 : Int) := of_decide_eq_true (by first | (with_reducible assumption) | assumption)
                  have q102 : x3_1 < (l0_0.length : Int) := of_decide_eq_true (by first | (with_reducible assumption) | assumption)
                  obtain ⟨ad102, e102, hx102_0, hx102_1, hx102_2⟩ := at_T46 HR0_0.out x3_1 p102 q102
                  cases e102
                  replace hx102_0 := (HB.out.cell (World.block_lt_of_cell? w _ hx102_0)).trans hx102_0
                  replace hx102_1 := (HB.out.cell (World.block_lt_of_cell? w _ hx102_1)).trans hx102_1
                  replace hx102_2 := (HB.out.cell (World.block_lt_of_cell? w _ hx102_2)).trans hx102_2
                  replace p102 := eq_true p102
                  replace q102 := eq_true q102
                  go_wp2
                  go_roundg kj2
                  case measure => have := HK1.out; have := HJ2.out; omega
                  case rel => exact ⟨(wrap64 (x3_1 + 1)), (by first | rfl | (simp; done) | (simp [*]; done)), H', ⟨by have := HK1.out; have := HJ2.out; omega⟩, ⟨by (with_reducible repeat (first | refine blk_drewN ?_ _ | refine blk_drew ?_ | refine blk_alloc ?_ _)); exact BK101.out⟩, ⟨by repeat (first | (with_reducible first | exact HB.out | apply below_alloc | apply pw_below_drewN | apply below_drew1 | refine below_set ?_ GE101.out) | exact HB.out)⟩⟩
              · rw [if_neg c9] at H
                exact absurd H (by simp)
            · rw [if_neg c8] at H
              exact absurd H (by simp)
          · replace c7 := Bool.eq_false_iff.mpr c7
            subst c7
            have H1 : (if (l0_0.length : Int) ≤ 100 then (if (l0_1.length : Int) ≤ 300 then (if (l0_2.length : Int) ≤ 300 then (some (decide ((a0_3.size : Int) ≤ 200))) else (some false)) else (some false)) else (some false)) = some r := by rw [if_neg (show ¬ (false = true) by decide)] at H; exact H
            clear H
            have H := H1
            clear H1
            by_cases c13 : (l0_0.length : Int) ≤ 100
            · rw [if_pos c13] at H
              have c13b0 : decide ((l0_0.length : Int) ≤ 100) = true := decide_eq_true c13
              have c13b1 : decide (l0_0.length ≤ 100) = true := decide_eq_true (by omega)
              clear c13
              by_cases c14 : (l0_1.length : Int) ≤ 300
              · rw [if_pos c14] at H
                have c14b0 : decide ((l0_1.length : Int) ≤ 300) = true := decide_eq_true c14
                have c14b1 : decide (l0_1.length ≤ 300) = true := decide_eq_true (by omega)
                clear c14
                by_cases c15 : (l0_2.length : Int) ≤ 300
                · rw [if_pos c15] at H
                  have c15b0 : decide ((l0_2.length : Int) ≤ 300) = true := decide_eq_true c15
                  have c15b1 : decide (l0_2.length ≤ 300) = true := decide_eq_true (by omega)
                  clear c15
                  obtain rfl := Option.some.inj H
                  have hcz16_0 : wc.cell? ⟨gb101, 0, none⟩ = some (.slice A0_0 l0_0.length c0_0) := (blk_cell BK101.out 0).trans rfl
                  have hcz16_1 : wc.cell? ⟨gb101, 1, none⟩ = some (.slice A0_1 l0_1.length c0_1) := (blk_cell BK101.out 1).trans rfl
                  have hcz16_2 : wc.cell? ⟨gb101, 2, none⟩ = some (.slice A0_2 l0_2.length c0_2) := (blk_cell BK101.out 2).trans rfl
                  have hcz16_3 : wc.cell? ⟨gb101, 3, none⟩ = some (.string a0_3) := (blk_cell BK101.out 3).trans rfl
                  have hcz16_4 : wc.cell? ⟨gb101, 4, none⟩ = some (.int .i64 a0_4) := (blk_cell BK101.out 4).trans rfl
                  have hfz16_0 := blk_frozen BK101.out 0
                  have hfz16_1 := blk_frozen BK101.out 1
                  have hfz16_2 := blk_frozen BK101.out 2
                  have hfz16_3 := blk_frozen BK101.out 3
                  have hfz16_4 := blk_frozen BK101.out 4
                  go_wp2
                  go_ret
                  exact ⟨by first | rfl | (simp [errW_none, errW_some] <;> rfl) | (simp [*, errW_none, errW_some] <;> rfl), by repeat (first | (with_reducible first | exact HB.out | apply below_alloc | apply pw_below_drewN | apply below_drew1 | refine below_set ?_ GE101.out) | exact HB.out)⟩
                · rw [if_neg c15] at H
                  have c15b0 : decide ((l0_2.length : Int) ≤ 300) = false := decide_eq_false c15
                  have c15b1 : decide (l0_2.length ≤ 300) = false := decide_eq_false (by omega)
                  clear c15
                  obtain rfl := Option.some.inj H
                  have hcz17_0 : wc.cell? ⟨gb101, 0, none⟩ = some (.slice A0_0 l0_0.length c0_0) := (blk_cell BK101.out 0).trans rfl
                  have hcz17_1 : wc.cell? ⟨gb101, 1, none⟩ = some (.slice A0_1 l0_1.length c0_1) := (blk_cell BK101.out 1).trans rfl
                  have hcz17_2 : wc.cell? ⟨gb101, 2, none⟩ = some (.slice A0_2 l0_2.length c0_2) := (blk_cell BK101.out 2).trans rfl
                  have hcz17_3 : wc.cell? ⟨gb101, 3, none⟩ = some (.string a0_3) := (blk_cell BK101.out 3).trans rfl
                  have hcz17_4 : wc.cell? ⟨gb101, 4, none⟩ = some (.int .i64 a0_4) := (blk_cell BK101.out 4).trans rfl
                  have hfz17_0 := blk_frozen BK101.out 0
                  have hfz17_1 := blk_frozen BK101.out 1
                  have hfz17_2 := blk_frozen BK101.out 2
                  have hfz17_3 := blk_frozen BK101.out 3
                  have hfz17_4 := blk_frozen BK101.out 4
                  go_wp2
                  go_ret
                  exact ⟨by first | rfl | (simp [errW_none, errW_some] <;> rfl) | (simp [*, errW_none, errW_some] <;> rfl), by repeat (first | (with_reducible first | exact HB.out | apply below_alloc | apply pw_below_drewN | apply below_drew1 | refine below_set ?_ GE101.out) | exact HB.out)⟩
              · rw [if_neg c14] at H
                have c14b0 : decide ((l0_1.length : Int) ≤ 300) = false := decide_eq_false c14
                have c14b1 : decide (l0_1.length ≤ 300) = false := decide_eq_false (by omega)
                clear c14
                obtain rfl := Option.some.inj H
                have hcz18_0 : wc.cell? ⟨gb101, 0, none⟩ = some (.slice A0_0 l0_0.length c0_0) := (blk_cell BK101.out 0).trans rfl
                have hcz18_1 : wc.cell? ⟨gb101, 1, none⟩ = some (.slice A0_1 l0_1.length c0_1) := (blk_cell BK101.out 1).trans rfl
                have hcz18_2 : wc.cell? ⟨gb101, 2, none⟩ = some (.slice A0_2 l0_2.length c0_2) := (blk_cell BK101.out 2).trans rfl
                have hcz18_3 : wc.cell? ⟨gb101, 3, none⟩ = some (.string a0_3) := (blk_cell BK101.out 3).trans rfl
                have hcz18_4 : wc.cell? ⟨gb101, 4, none⟩ = some (.int .i64 a0_4) := (blk_cell BK101.out 4).trans rfl
                have hfz18_0 := blk_frozen BK101.out 0
                have hfz18_1 := blk_frozen BK101.out 1
                have hfz18_2 := blk_frozen BK101.out 2
                have hfz18_3 := blk_frozen BK101.out 3
                have hfz18_4 := blk_frozen BK101.out 4
                go_wp2
                go_ret
                exact ⟨by first | rfl | (simp [errW_none, errW_some] <;> rfl) | (simp [*, errW_none, errW_some] <;> rfl), by repeat (first | (with_reducible first | exact HB.out | apply below_alloc | apply pw_below_drewN | apply below_drew1 | refine below_set ?_ GE101.out) | exact HB.out)⟩
            · rw [if_neg c13] at H
              have c13b0 : decide ((l0_0.length : Int) ≤ 100) = false := decide_eq_false c13
              have c13b1 : decide (l0_0.length ≤ 100) = false := decide_eq_false (by omega)
              clear c13
              obtain rfl := Option.some.inj H
              have hcz19_0 : wc.cell? ⟨gb101, 0, none⟩ = some (.slice A0_0 l0_0.length c0_0) := (blk_cell BK101.out 0).trans rfl
              have hcz19_1 : wc.cell? ⟨gb101, 1, none⟩ = some (.slice A0_1 l0_1.length c0_1) := (blk_cell BK101.out 1).trans rfl
              have hcz19_2 : wc.cell? ⟨gb101, 2, none⟩ = some (.slice A0_2 l0_2.length c0_2) := (blk_cell BK101.out 2).trans rfl
              have hcz19_3 : wc.cell? ⟨gb101, 3, none⟩ = some (.string a0_3) := (blk_cell BK101.out 3).trans rfl
              have hcz19_4 : wc.cell? ⟨gb101, 4, none⟩ = some (.int .i64 a0_4) := (blk_cell BK101.out 4).trans rfl
              have hfz19_0 := blk_frozen BK101.out 0
              have hfz19_1 := blk_frozen BK101.out 1
              have hfz19_2 := blk_frozen BK101.out 2
              have hfz19_3 := blk_frozen BK101.out 3
              have hfz19_4 := blk_frozen BK101.out 4
              go_wp2
              go_ret
              exact ⟨by first | rfl | (simp [errW_none, errW_some] <;> rfl) | (simp [*, errW_none, errW_some] <;> rfl), by repeat (first | (with_reducible first | exact HB.out | apply below_alloc | apply pw_below_drewN | apply below_drew1 | refine below_set ?_ GE101.out) | exact HB.out)⟩

/-! ### block_Count: function 10 -/
def block_Count.f (l0_0 : List (S46)) (l0_1 : List (S48)) (l0_2 : List (S50)) (a0_3 : ByteArray) (a0_4 : Int) : Option (Int × Int × Int × Int × Int × Int × Int × Bool) := Go.Proofs.Ytpgjcnjojfehjaa.Bk.countF l0_0 l0_1 l0_2 a0_3 a0_4
set_option maxHeartbeats 8000000 in
set_option maxRecDepth 100000 in
theorem block_Count.calls (A0_0 : Option Addr) (c0_0 : Nat) (l0_0 : List (S46)) (A0_1 : Option Addr) (c0_1 : Nat) (l0_1 : List (S48)) (A0_2 : Option Addr) (c0_2 : Nat) (l0_2 : List (S50)) (a0_3 : ByteArray) (a0_4 : Int) (r1 : Int) (r2 : Int) (r3 : Int) (r4 : Int) (r5 : Int) (r6 : Int) (r7 : Int) (r8 : Bool) (w : World) (hr0_0 : Kd.C k46 w A0_0 l0_0.length l0_0) (hc0_0 : l0_0.length ≤ c0_0) (hr0_1 : Kd.C k48 w A0_1 l0_1.length l0_1) (hc0_1 : l0_1.length ≤ c0_1) (hr0_2 : Kd.C k50 w A0_2 l0_2.length l0_2) (hc0_2 : l0_2.length ≤ c0_2) (h : block_Count.f l0_0 l0_1 l0_2 a0_3 a0_4 = some (r1, r2, r3, r4, r5, r6, r7, r8)) :
    Calls Try.prog 10 #[.agg #[.slice A0_0 l0_0.length c0_0, .slice A0_1 l0_1.length c0_1, .slice A0_2 l0_2.length c0_2, .string a0_3, .int .i64 a0_4]] w fun e w' => e = .returned (.tuple #[.agg #[.int .i64 r1, .int .i64 r2, .int .i64 r3, .int .i64 r4, .int .i64 r5, .int .i64 r6, .int .i64 r7], .bool r8]) ∧ Below w.heap.size w w' := by
  exact Go.Proofs.Ytpgjcnjojfehjaa.Bk.count_is A0_0 c0_0 l0_0 A0_1 c0_1 l0_1 A0_2 c0_2 l0_2 a0_3 a0_4 r1 r2 r3 r4 r5 r6 r7 r8 w hr0_0 hc0_0 hr0_1 hc0_1 hr0_2 hc0_2 h

/-! ### block_Encode: function 12 -/
def block_Encode.f (l0_0 : List (S46)) (l0_1 : List (S48)) (l0_2 : List (S50)) (a0_3 : ByteArray) (a0_4 : Int) (a1 : Int) : Option (List Int × Bool) := Go.Proofs.Ytpgjcnjojfehjaa.Bk.encF l0_0 l0_1 l0_2 a0_3 a0_4 a1
set_option maxHeartbeats 8000000 in
set_option maxRecDepth 100000 in
theorem block_Encode.calls (A0_0 : Option Addr) (c0_0 : Nat) (l0_0 : List (S46)) (A0_1 : Option Addr) (c0_1 : Nat) (l0_1 : List (S48)) (A0_2 : Option Addr) (c0_2 : Nat) (l0_2 : List (S50)) (a0_3 : ByteArray) (a0_4 : Int) (a1 : Int) (r1 : List Int) (r2 : Bool) (w : World) (hr0_0 : Kd.C k46 w A0_0 l0_0.length l0_0) (hc0_0 : l0_0.length ≤ c0_0) (hr0_1 : Kd.C k48 w A0_1 l0_1.length l0_1) (hc0_1 : l0_1.length ≤ c0_1) (hr0_2 : Kd.C k50 w A0_2 l0_2.length l0_2) (hc0_2 : l0_2.length ≤ c0_2) (h : block_Encode.f l0_0 l0_1 l0_2 a0_3 a0_4 a1 = some (r1, r2)) :
    Calls Try.prog 12 #[.agg #[.slice A0_0 l0_0.length c0_0, .slice A0_1 l0_1.length c0_1, .slice A0_2 l0_2.length c0_2, .string a0_3, .int .i64 a0_4], .int .i64 a1] w fun e w' => ∃ v0_ : Value, e = .returned (.tuple #[v0_, .bool r2]) ∧ Kd.R (Kd.int .u8) 5 w' w.heap.size (fun _ => True) v0_ r1 ∧ Below w.heap.size w w' := by
  exact Go.Proofs.Ytpgjcnjojfehjaa.Bk.encode_is A0_0 c0_0 l0_0 A0_1 c0_1 l0_1 A0_2 c0_2 l0_2 a0_3 a0_4 a1 r1 r2 w hr0_0 hc0_0 hr0_1 hc0_1 hr0_2 hc0_2 h

/-! ### block_Decode: function 14 -/
def block_Decode.f (a0_0 : Int) (a0_1 : Int) (a0_2 : Int) (a0_3 : Int) (a0_4 : Int) (a0_5 : Int) (a0_6 : Int) (l1 : List Int) (a2 : Int) : Option ((List (S46)) × (List (S48)) × (List (S50)) × ByteArray × Int × Bool) := Go.Proofs.Ytpgjcnjojfehjaa.Bk.decF a0_0 a0_1 a0_2 a0_3 a0_4 a0_5 a0_6 l1 a2
set_option maxHeartbeats 8000000 in
set_option maxRecDepth 100000 in
theorem block_Decode.calls (a0_0 : Int) (a0_1 : Int) (a0_2 : Int) (a0_3 : Int) (a0_4 : Int) (a0_5 : Int) (a0_6 : Int) (A1 : Option Addr) (c1 : Nat) (l1 : List Int) (a2 : Int) (r1 : List (S46)) (r2 : List (S48)) (r3 : List (S50)) (r4 : ByteArray) (r5 : Int) (r6 : Bool) (w : World) (hr1 : Kd.C (Kd.int .u8) w A1 l1.length l1) (hc1 : l1.length ≤ c1) (h : block_Decode.f a0_0 a0_1 a0_2 a0_3 a0_4 a0_5 a0_6 l1 a2 = some (r1, r2, r3, r4, r5, r6)) :
    Calls Try.prog 14 #[.agg #[.int .i64 a0_0, .int .i64 a0_1, .int .i64 a0_2, .int .i64 a0_3, .int .i64 a0_4, .int .i64 a0_5, .int .i64 a0_6], .slice A1 l1.length c1, .int .i64 a2] w fun e w' => ∃ v0_ v1_ v2_ : Value, e = .returned (.tuple #[.agg #[v0_, v1_, v2_, .string r4, .int .i64 r5], .bool r6]) ∧ Kd.R k46 46 w' w.heap.size (fun _ => True) v0_ r1 ∧ Kd.R k48 48 w' w.heap.size (fun _ => True) v1_ r2 ∧ Kd.R k50 50 w' w.heap.size (fun _ => True) v2_ r3 ∧ Below w.heap.size w w' := by
  exact Go.Proofs.Ytpgjcnjojfehjaa.Bk.decode_is a0_0 a0_1 a0_2 a0_3 a0_4 a0_5 a0_6 A1 c1 l1 a2 _ _ _ _ _ _ w hr1 hc1 h

/-! ### epactref12_Same: function 38 -/
def epactref12_Same.l0 : Nat → List (S50) → List (S50) → Int → Option (Bool)
  | 0, _, _, _ => none
  | k + 1, x0, x1, x5 => if x5 < (x0.length : Int) then (if 0 ≤ x5 then (if x5 < (x1.length : Int) then (if (!(((rd_T50 x0 x5).f0) == ((rd_T50 x1 x5).f0)) || (!(((rd_T50 x0 x5).f1) == ((rd_T50 x1 x5).f1)))) = true then (some false) else (epactref12_Same.l0 k x0 x1 (wrap64 (x5 + 1)))) else (none)) else (none)) else (some true)
def epactref12_Same.f (k : Nat) (l0 : List (S50)) (l1 : List (S50)) : Option (Bool) := if (l0.length : Int) = (l1.length : Int) then (epactref12_Same.l0 k l0 l1 0) else (some false)
theorem epactref12_Same.mono_l : ∀ k, (∀ y0 y1 y2, LeO (epactref12_Same.l0 k y0 y1 y2) (epactref12_Same.l0 (k + 1) y0 y1 y2))
  | 0 => fun _ _ _ r h => by simp [epactref12_Same.l0] at h
  | k + 1 => by
    have ih0 := epactref12_Same.mono_l k
    · intro y0 y1 y2
      unfold epactref12_Same.l0
      repeat' first
      | (with_reducible exact ih0 _ _ _)
      | (with_reducible exact LeO.refl _)
      | (with_reducible exact LeO.none _)
      | (with_reducible refine LeO.ite ?_ ?_)
      | (with_reducible refine LeO.bind ?_ (fun _ => ?_))
      | exact ih0 _ _ _
      | exact LeO.none _
      | refine LeO.ite ?_ ?_
      | refine LeO.bind ?_ (fun _ => ?_)
theorem epactref12_Same.mono : ∀ a0 a1 k, LeO (epactref12_Same.f k a0 a1) (epactref12_Same.f (k + 1) a0 a1) := by
  intro a0 a1 k
  have ih0 := epactref12_Same.mono_l k
  unfold epactref12_Same.f
  repeat' first
      | (with_reducible exact ih0 _ _ _)
      | (with_reducible exact LeO.refl _)
      | (with_reducible exact LeO.none _)
      | (with_reducible refine LeO.ite ?_ ?_)
      | (with_reducible refine LeO.bind ?_ (fun _ => ?_))
      | exact ih0 _ _ _
      | exact LeO.none _
      | refine LeO.ite ?_ ?_
      | refine LeO.bind ?_ (fun _ => ?_)
set_option maxHeartbeats 8000000 in
set_option maxRecDepth 100000 in
theorem epactref12_Same.calls (k : Nat) (A0 : Option Addr) (c0 : Nat) (l0 : List (S50)) (A1 : Option Addr) (c1 : Nat) (l1 : List (S50)) (r : Bool) (w : World) (hr0 : Kd.C k50 w A0 l0.length l0) (hc0 : l0.length ≤ c0) (hr1 : Kd.C k50 w A1 l1.length l1) (hc1 : l1.length ≤ c1) (h : epactref12_Same.f k l0 l1 = some r) :
    Calls Try.prog 38 #[.slice A0 l0.length c0, .slice A1 l1.length c1] w fun e w' => e = .returned (.bool r) ∧ Drawn0 w w' := by
  have hu50 := Try.underlying50
  have HR0 := Aside0.mk hr0
  have HC0 := Aside0.mk hc0
  clear hr0 hc0
  have HR1 := Aside0.mk hr1
  have HC1 := Aside0.mk hc1
  clear hr1 hc1
  have H : (if (l0.length : Int) = (l1.length : Int) then (epactref12_Same.l0 k l0 l1 0) else (some false)) = some r := h
  clear h
  by_cases c3 : (l0.length : Int) = (l1.length : Int)
  · rw [if_pos c3] at H
    have c3b0 : ((l0.length : Int) == (l1.length : Int)) = true := beq_iff_eq.mpr c3
    have c3b1 : ((l0.length : Int) != (l1.length : Int)) = false := bne_eq_false_iff_eq.mpr c3
    have c3b2 : (l0.length == l1.length) = true := by first | simpa using c3 | (simp at c3 ⊢; omega)
    clear c3
    have H' := Aside0.mk H
    clear H
    go_enter Try.func38, Try.ntmps38
    go_wp2
    repeat (go_quiet (fail); try go_wp2)
    go_loopg [5] k (fun kq v5 w' => ∃ (x5_1 : Int), v5 = .int .i64 x5_1 ∧ Aside0 (epactref12_Same.l0 kq l0 l1 x5_1 = some r) ∧ Aside0 (kq ≤ k) ∧ Drawn0 w w')
    case atStart => exact ⟨(0), (by first | rfl | (simp; done) | (simp [*]; done)), H', ⟨Nat.le_refl _⟩, by repeat (first | exact Drawn0.refl _ | apply Drawn0.step)⟩
    case round =>
      clear H'
      try clear c1
      try clear p2
      try clear c3
      try clear c3b0
      try clear c3b1
      try clear c3b2
      obtain ⟨x5_1, rfl, HA, HK1, ⟨m1, rfl⟩⟩ := hrel
      cases gk with
      | zero => exact absurd HA.out (by simp [epactref12_Same.l0])
      | succ k1 =>
        have H := HA.out
        clear HA
        simp only [epactref12_Same.l0] at H
        by_cases c4 : x5_1 < (l0.length : Int)
        · rw [if_pos c4] at H
          have c4b0 : decide (x5_1 < (l0.length : Int)) = true := decide_eq_true c4
          clear c4
          by_cases c5 : 0 ≤ x5_1
          · rw [if_pos c5] at H
            have c5b0 : decide (0 ≤ x5_1) = true := decide_eq_true c5
            clear c5
            by_cases c6 : x5_1 < (l1.length : Int)
            · rw [if_pos c6] at H
              have c6b0 : decide (x5_1 < (l1.length : Int)) = true := decide_eq_true c6
              clear c6
              by_cases c7 : (!(((rd_T50 l0 x5_1).f0) == ((rd_T50 l1 x5_1).f0)) || (!(((rd_T50 l0 x5_1).f1) == ((rd_T50 l1 x5_1).f1)))) = true
              · rw [if_pos c7] at H
                have c7b0 : (!(((rd_T50 l0 x5_1).f0) == ((rd_T50 l1 x5_1).f0)) || (!(((rd_T50 l0 x5_1).f1) == ((rd_T50 l1 x5_1).f1)))) = true := c7
                clear c7
                obtain rfl := Option.some.inj H
                have p103 : 0 ≤ (x5_1 : Int) := of_decide_eq_true (by first | (with_reducible assumption) | assumption)
                have q103 : x5_1 < (l0.length : Int) := of_decide_eq_true (by first | (with_reducible assumption) | assumption)
                obtain ⟨ad103, e103, hx103_0, hx103_1⟩ := at_T50 HR0.out x5_1 p103 q103
                cases e103
                replace p103 := eq_true p103
                replace q103 := eq_true q103
                have p104 : 0 ≤ (x5_1 : Int) := of_decide_eq_true (by first | (with_reducible assumption) | assumption)
                have q104 : x5_1 < (l1.length : Int) := of_decide_eq_true (by first | (with_reducible assumption) | assumption)
                obtain ⟨ad104, e104, hx104_0, hx104_1⟩ := at_T50 HR1.out x5_1 p104 q104
                cases e104
                replace p104 := eq_true p104
                replace q104 := eq_true q104
                go_wp2
                repeat (go_quiet (fail); try go_wp2)
                go_ret
                exact ⟨by first | rfl | (simp; done) | (simp [*]; done), by repeat (first | exact Drawn0.refl _ | apply Drawn0.step)⟩
              · rw [if_neg c7] at H
                have c7b0 : (!(((rd_T50 l0 x5_1).f0) == ((rd_T50 l1 x5_1).f0)) || (!(((rd_T50 l0 x5_1).f1) == ((rd_T50 l1 x5_1).f1)))) = false := by simpa using c7
                clear c7
                have H' := Aside0.mk H
                clear H
                have p103 : 0 ≤ (x5_1 : Int) := of_decide_eq_true (by first | (with_reducible assumption) | assumption)
                have q103 : x5_1 < (l0.length : Int) := of_decide_eq_true (by first | (with_reducible assumption) | assumption)
                obtain ⟨ad103, e103, hx103_0, hx103_1⟩ := at_T50 HR0.out x5_1 p103 q103
                cases e103
                replace p103 := eq_true p103
                replace q103 := eq_true q103
                have p104 : 0 ≤ (x5_1 : Int) := of_decide_eq_true (by first | (with_reducible assumption) | assumption)
                have q104 : x5_1 < (l1.length : Int) := of_decide_eq_true (by first | (with_reducible assumption) | assumption)
                obtain ⟨ad104, e104, hx104_0, hx104_1⟩ := at_T50 HR1.out x5_1 p104 q104
                cases e104
                replace p104 := eq_true p104
                replace q104 := eq_true q104
                go_wp2
                repeat (go_quiet (fail); try go_wp2)
                go_roundg k1
                case measure => have := HK1.out; omega
                case rel => exact ⟨(wrap64 (x5_1 + 1)), (by first | rfl | (simp; done) | (simp [*]; done)), H', ⟨by have := HK1.out; omega⟩, by repeat (first | exact Drawn0.refl _ | apply Drawn0.step)⟩
            · rw [if_neg c6] at H
              exact absurd H (by simp)
          · rw [if_neg c5] at H
            exact absurd H (by simp)
        · rw [if_neg c4] at H
          have c4b0 : decide (x5_1 < (l0.length : Int)) = false := decide_eq_false c4
          clear c4
          obtain rfl := Option.some.inj H
          go_wp2
          repeat (go_quiet (fail); try go_wp2)
          go_ret
          exact ⟨by first | rfl | (simp; done) | (simp [*]; done), by repeat (first | exact Drawn0.refl _ | apply Drawn0.step)⟩
  · rw [if_neg c3] at H
    have c3b0 : ((l0.length : Int) == (l1.length : Int)) = false := beq_eq_false_iff_ne.mpr c3
    have c3b1 : ((l0.length : Int) != (l1.length : Int)) = true := bne_iff_ne.mpr c3
    have c3b2 : (l0.length == l1.length) = false := by first | simpa using c3 | (simp at c3 ⊢; omega)
    obtain rfl := Option.some.inj H
    go_enter Try.func38, Try.ntmps38
    go_wp2
    repeat (go_quiet (fail); try go_wp2)
    go_ret
    exact ⟨by first | rfl | (simp; done) | (simp [*]; done), by repeat (first | exact Drawn0.refl _ | apply Drawn0.step)⟩

end Go.Proofs.Ytpgjcnjojfehjaa.PBlBack
-- Written by a program of this session (wip/print/setup.py turns the kit's print tool)
namespace Go.Proofs.Ytpgjcnjojfehjaa.PBlBack
open Go.RowKit Go.Proofs.YtpgjcnjojfehjaaW.PrintWords Go.Proofs.YtpgjcnjojfehjaaW.PrintLast Go.Proofs.YtpgjcnjojfehjaaW.PrintMore Kx
attribute [local go_sem] max2_int min2_int max_two min_two max_three min_three max_four min_four   -- for this text's walks alone
set_option linter.unusedVariables false
set_option linter.unusedSimpArgs false

attribute [local go_sem high] eqA46 eqA48
/-! ### epactref16_Same: function 16 -/
mutual
def epactref16_Same.j0 : Nat → Bool → List (S46) → List (S48) → List (S50) → ByteArray → Int → List (S46) → List (S48) → List (S50) → ByteArray → Int → Option (Bool)
  | 0, _, _, _, _, _, _, _, _, _, _, _ => none
  | k + 1, x36, x106000, x106001, x106002, x106003, x106004, x107000, x107001, x107002, x107003, x107004 => if x36 = true then (some false) else (epactref16_Same.l0 k 0 x106000 x106001 x106002 x106003 x106004 x107000 x107001 x107002 x107003 x107004)
def epactref16_Same.l0 : Nat → Int → List (S46) → List (S48) → List (S50) → ByteArray → Int → List (S46) → List (S48) → List (S50) → ByteArray → Int → Option (Bool)
  | 0, _, _, _, _, _, _, _, _, _, _, _ => none
  | k + 1, x5, x106000, x106001, x106002, x106003, x106004, x107000, x107001, x107002, x107003, x107004 => if x5 < (x106000.length : Int) then (if 0 ≤ x5 then (if x5 < (x107000.length : Int) then (if (!(((rd_T46 x106000 x5).f0) == ((rd_T46 x107000 x5).f0)) || (!(((rd_T46 x106000 x5).f1) == ((rd_T46 x107000 x5).f1)) || (!((((rd_T46 x106000 x5).f2).toList) == (((rd_T46 x107000 x5).f2).toList))))) = true then (some false) else (epactref16_Same.l0 k (wrap64 (x5 + 1)) x106000 x106001 x106002 x106003 x106004 x107000 x107001 x107002 x107003 x107004)) else (none)) else (none)) else (epactref16_Same.l1 k 0 x106000 x106001 x106002 x106003 x106004 x107000 x107001 x107002 x107003 x107004)
def epactref16_Same.l1 : Nat → Int → List (S46) → List (S48) → List (S50) → ByteArray → Int → List (S46) → List (S48) → List (S50) → ByteArray → Int → Option (Bool)
  | 0, _, _, _, _, _, _, _, _, _, _, _ => none
  | k + 1, x6, x106000, x106001, x106002, x106003, x106004, x107000, x107001, x107002, x107003, x107004 => if x6 < (x106001.length : Int) then (if 0 ≤ x6 then (if x6 < (x107001.length : Int) then (if (!(((rd_T48 x106001 x6).f0) == ((rd_T48 x107001 x6).f0)) || (!(((rd_T48 x106001 x6).f1) == ((rd_T48 x107001 x6).f1)))) = true then (some false) else (epactref16_Same.l1 k (wrap64 (x6 + 1)) x106000 x106001 x106002 x106003 x106004 x107000 x107001 x107002 x107003 x107004)) else (none)) else (none)) else ((epactref12_Same.f k x106002 x107002).bind fun t111 => (some t111))
end
def epactref16_Same.f (k : Nat) (l0_0 : List (S46)) (l0_1 : List (S48)) (l0_2 : List (S50)) (a0_3 : ByteArray) (a0_4 : Int) (l1_0 : List (S46)) (l1_1 : List (S48)) (l1_2 : List (S50)) (a1_3 : ByteArray) (a1_4 : Int) : Option (Bool) := if (l0_0.length : Int) = (l1_0.length : Int) then (if (l0_1.length : Int) = (l1_1.length : Int) then (if a0_3.toList = a1_3.toList then (epactref16_Same.j0 k (a0_4 != a1_4) l0_0 l0_1 l0_2 a0_3 a0_4 l1_0 l1_1 l1_2 a1_3 a1_4) else (epactref16_Same.j0 k true l0_0 l0_1 l0_2 a0_3 a0_4 l1_0 l1_1 l1_2 a1_3 a1_4)) else (epactref16_Same.j0 k true l0_0 l0_1 l0_2 a0_3 a0_4 l1_0 l1_1 l1_2 a1_3 a1_4)) else (epactref16_Same.j0 k true l0_0 l0_1 l0_2 a0_3 a0_4 l1_0 l1_1 l1_2 a1_3 a1_4)
theorem epactref16_Same.mono_l : ∀ k, (∀ y0 y1 y2 y3 y4 y5 y6 y7 y8 y9 y10, LeO (epactref16_Same.j0 k y0 y1 y2 y3 y4 y5 y6 y7 y8 y9 y10) (epactref16_Same.j0 (k + 1) y0 y1 y2 y3 y4 y5 y6 y7 y8 y9 y10)) ∧ (∀ y0 y1 y2 y3 y4 y5 y6 y7 y8 y9 y10, LeO (epactref16_Same.l0 k y0 y1 y2 y3 y4 y5 y6 y7 y8 y9 y10) (epactref16_Same.l0 (k + 1) y0 y1 y2 y3 y4 y5 y6 y7 y8 y9 y10)) ∧ (∀ y0 y1 y2 y3 y4 y5 y6 y7 y8 y9 y10, LeO (epactref16_Same.l1 k y0 y1 y2 y3 y4 y5 y6 y7 y8 y9 y10) (epactref16_Same.l1 (k + 1) y0 y1 y2 y3 y4 y5 y6 y7 y8 y9 y10))
  | 0 => ⟨fun _ _ _ _ _ _ _ _ _ _ _ r h => by simp [epactref16_Same.j0] at h, fun _ _ _ _ _ _ _ _ _ _ _ r h => by simp [epactref16_Same.l0] at h, fun _ _ _ _ _ _ _ _ _ _ _ r h => by simp [epactref16_Same.l1] at h⟩
  | k + 1 => by
    obtain ⟨ih0, ih1, ih2⟩ := epactref16_Same.mono_l k
    refine ⟨?_, ?_, ?_⟩
    · intro y0 y1 y2 y3 y4 y5 y6 y7 y8 y9 y10
      unfold epactref16_Same.j0
      repeat' first
      | (with_reducible exact ih0 _ _ _ _ _ _ _ _ _ _ _)
      | (with_reducible exact ih1 _ _ _ _ _ _ _ _ _ _ _)
      | (with_reducible exact ih2 _ _ _ _ _ _ _ _ _ _ _)
      | (with_reducible exact epactref12_Same.mono _ _ _)
      | (with_reducible exact LeO.refl _)
      | (with_reducible exact LeO.none _)
      | (with_reducible refine LeO.ite ?_ ?_)
      | (with_reducible refine LeO.bind ?_ (fun _ => ?_))
      | exact ih0 _ _ _ _ _ _ _ _ _ _ _
      | exact ih1 _ _ _ _ _ _ _ _ _ _ _
      | exact ih2 _ _ _ _ _ _ _ _ _ _ _
      | exact epactref12_Same.mono _ _ _
      | exact LeO.none _
      | refine LeO.ite ?_ ?_
      | refine LeO.bind ?_ (fun _ => ?_)
    · intro y0 y1 y2 y3 y4 y5 y6 y7 y8 y9 y10
      unfold epactref16_Same.l0
      repeat' first
      | (with_reducible exact ih0 _ _ _ _ _ _ _ _ _ _ _)
      | (with_reducible exact ih1 _ _ _ _ _ _ _ _ _ _ _)
      | (with_reducible exact ih2 _ _ _ _ _ _ _ _ _ _ _)
      | (with_reducible exact epactref12_Same.mono _ _ _)
      | (with_reducible exact LeO.refl _)
      | (with_reducible exact LeO.none _)
      | (with_reducible refine LeO.ite ?_ ?_)
      | (with_reducible refine LeO.bind ?_ (fun _ => ?_))
      | exact ih0 _ _ _ _ _ _ _ _ _ _ _
      | exact ih1 _ _ _ _ _ _ _ _ _ _ _
      | exact ih2 _ _ _ _ _ _ _ _ _ _ _
      | exact epactref12_Same.mono _ _ _
      | exact LeO.none _
      | refine LeO.ite ?_ ?_
      | refine LeO.bind ?_ (fun _ => ?_)
    · intro y0 y1 y2 y3 y4 y5 y6 y7 y8 y9 y10
      unfold epactref16_Same.l1
      repeat' first
      | (with_reducible exact ih0 _ _ _ _ _ _ _ _ _ _ _)
      | (with_reducible exact ih1 _ _ _ _ _ _ _ _ _ _ _)
      | (with_reducible exact ih2 _ _ _ _ _ _ _ _ _ _ _)
      | (with_reducible exact epactref12_Same.mono _ _ _)
      | (with_reducible exact LeO.refl _)
      | (with_reducible exact LeO.none _)
      | (with_reducible refine LeO.ite ?_ ?_)
      | (with_reducible refine LeO.bind ?_ (fun _ => ?_))
      | exact ih0 _ _ _ _ _ _ _ _ _ _ _
      | exact ih1 _ _ _ _ _ _ _ _ _ _ _
      | exact ih2 _ _ _ _ _ _ _ _ _ _ _
      | exact epactref12_Same.mono _ _ _
      | exact LeO.none _
      | refine LeO.ite ?_ ?_
      | refine LeO.bind ?_ (fun _ => ?_)
theorem epactref16_Same.mono : ∀ a0 a1 a2 a3 a4 a5 a6 a7 a8 a9 k, LeO (epactref16_Same.f k a0 a1 a2 a3 a4 a5 a6 a7 a8 a9) (epactref16_Same.f (k + 1) a0 a1 a2 a3 a4 a5 a6 a7 a8 a9) := by
  intro a0 a1 a2 a3 a4 a5 a6 a7 a8 a9 k
  obtain ⟨ih0, ih1, ih2⟩ := epactref16_Same.mono_l k
  unfold epactref16_Same.f
  repeat' first
      | (with_reducible exact ih0 _ _ _ _ _ _ _ _ _ _ _)
      | (with_reducible exact ih1 _ _ _ _ _ _ _ _ _ _ _)
      | (with_reducible exact ih2 _ _ _ _ _ _ _ _ _ _ _)
      | (with_reducible exact epactref12_Same.mono _ _ _)
      | (with_reducible exact LeO.refl _)
      | (with_reducible exact LeO.none _)
      | (with_reducible refine LeO.ite ?_ ?_)
      | (with_reducible refine LeO.bind ?_ (fun _ => ?_))
      | exact ih0 _ _ _ _ _ _ _ _ _ _ _
      | exact ih1 _ _ _ _ _ _ _ _ _ _ _
      | exact ih2 _ _ _ _ _ _ _ _ _ _ _
      | exact epactref12_Same.mono _ _ _
      | exact LeO.none _
      | refine LeO.ite ?_ ?_
      | refine LeO.bind ?_ (fun _ => ?_)
set_option maxHeartbeats 8000000 in
set_option maxRecDepth 100000 in
theorem epactref16_Same.calls (k : Nat) (A0_0 : Option Addr) (c0_0 : Nat) (l0_0 : List (S46)) (A0_1 : Option Addr) (c0_1 : Nat) (l0_1 : List (S48)) (A0_2 : Option Addr) (c0_2 : Nat) (l0_2 : List (S50)) (a0_3 : ByteArray) (a0_4 : Int) (A1_0 : Option Addr) (c1_0 : Nat) (l1_0 : List (S46)) (A1_1 : Option Addr) (c1_1 : Nat) (l1_1 : List (S48)) (A1_2 : Option Addr) (c1_2 : Nat) (l1_2 : List (S50)) (a1_3 : ByteArray) (a1_4 : Int) (r : Bool) (w : World) (hr0_0 : Kd.C k46 w A0_0 l0_0.length l0_0) (hc0_0 : l0_0.length ≤ c0_0) (hr0_1 : Kd.C k48 w A0_1 l0_1.length l0_1) (hc0_1 : l0_1.length ≤ c0_1) (hr0_2 : Kd.C k50 w A0_2 l0_2.length l0_2) (hc0_2 : l0_2.length ≤ c0_2) (hr1_0 : Kd.C k46 w A1_0 l1_0.length l1_0) (hc1_0 : l1_0.length ≤ c1_0) (hr1_1 : Kd.C k48 w A1_1 l1_1.length l1_1) (hc1_1 : l1_1.length ≤ c1_1) (hr1_2 : Kd.C k50 w A1_2 l1_2.length l1_2) (hc1_2 : l1_2.length ≤ c1_2) (h : epactref16_Same.f k l0_0 l0_1 l0_2 a0_3 a0_4 l1_0 l1_1 l1_2 a1_3 a1_4 = some r) :
    Calls Try.prog 16 #[.agg #[.slice A0_0 l0_0.length c0_0, .slice A0_1 l0_1.length c0_1, .slice A0_2 l0_2.length c0_2, .string a0_3, .int .i64 a0_4], .agg #[.slice A1_0 l1_0.length c1_0, .slice A1_1 l1_1.length c1_1, .slice A1_2 l1_2.length c1_2, .string a1_3, .int .i64 a1_4]] w fun e w' => e = .returned (.bool r) ∧ Below w.heap.size w w' := by
  have hu26 := Try.underlying26
  have hu46 := Try.underlying46
  have hu48 := Try.underlying48
  have HR0_0 := Aside0.mk hr0_0
  have HC0_0 := Aside0.mk hc0_0
  clear hr0_0 hc0_0
  have HR0_1 := Aside0.mk hr0_1
  have HC0_1 := Aside0.mk hc0_1
  clear hr0_1 hc0_1
  have HR0_2 := Aside0.mk hr0_2
  have HC0_2 := Aside0.mk hc0_2
  clear hr0_2 hc0_2
  have HR1_0 := Aside0.mk hr1_0
  have HC1_0 := Aside0.mk hc1_0
  clear hr1_0 hc1_0
  have HR1_1 := Aside0.mk hr1_1
  have HC1_1 := Aside0.mk hc1_1
  clear hr1_1 hc1_1
  have HR1_2 := Aside0.mk hr1_2
  have HC1_2 := Aside0.mk hc1_2
  clear hr1_2 hc1_2
  have HB := Aside0.mk (Below.refl w.heap.size w)
  have H : (if (l0_0.length : Int) = (l1_0.length : Int) then (if (l0_1.length : Int) = (l1_1.length : Int) then (if a0_3.toList = a1_3.toList then (epactref16_Same.j0 k (a0_4 != a1_4) l0_0 l0_1 l0_2 a0_3 a0_4 l1_0 l1_1 l1_2 a1_3 a1_4) else (epactref16_Same.j0 k true l0_0 l0_1 l0_2 a0_3 a0_4 l1_0 l1_1 l1_2 a1_3 a1_4)) else (epactref16_Same.j0 k true l0_0 l0_1 l0_2 a0_3 a0_4 l1_0 l1_1 l1_2 a1_3 a1_4)) else (epactref16_Same.j0 k true l0_0 l0_1 l0_2 a0_3 a0_4 l1_0 l1_1 l1_2 a1_3 a1_4)) = some r := h
  clear h
  have HC3 := Aside0.mk H
  clear H
  go_enter Try.func16, Try.ntmps16
  go_upto_region 1 with (first | ((with_reducible refine gate_dst (N := 2) rfl ?_); (try (refine gate_guard (by rfl) ?_; dsimp only)); refine box_event ?hg (N := 2) ?hd (cs := #[.slice A0_0 l0_0.length c0_0, .slice A0_1 l0_1.length c0_1, .slice A0_2 l0_2.length c0_2, .string a0_3, .int .i64 a0_4]) (t := 26) ?hr ?_; (case hd => rfl); (case hg => rfl); (case hr => first | (go_simp; done) | (go_simp; rfl)); intro gb105 hg w4 hbox hb; have n0_ := Aside0.mk (below_step (by repeat (first | (with_reducible first | exact HB.out | apply below_alloc | apply pw_below_drewN | apply below_drew1) | exact HB.out)) hb); have n1_ := Aside0.mk (hbox); have n2_ := Aside0.mk ((by rw [hg]; exact (below_size (by repeat (first | (with_reducible first | exact HB.out | apply below_alloc | apply pw_below_drewN | apply below_drew1) | exact HB.out))) : w.heap.size ≤ gb105)); have n3_ := Aside0.mk ((by rw [hg]; exact (below_size (by repeat (first | (with_reducible first | exact HB.out | apply below_alloc | apply pw_below_drewN | apply below_drew1) | exact HB.out))) : w.heap.size ≤ gb105)); clear HB; have HB := n0_; have BK105 := n1_; have GW105 := n2_; have GE105 := n3_; clear n0_ n1_ n2_ n3_; clear hb hbox hg) | ((with_reducible refine gate_dst (N := 3) rfl ?_); (try (refine gate_guard (by rfl) ?_; dsimp only)); refine box_event ?hg (N := 3) ?hd (cs := #[.slice A1_0 l1_0.length c1_0, .slice A1_1 l1_1.length c1_1, .slice A1_2 l1_2.length c1_2, .string a1_3, .int .i64 a1_4]) (t := 26) ?hr ?_; (case hd => rfl); (case hg => rfl); (case hr => first | (go_simp; done) | (go_simp; rfl)); intro gb106 hg w5 hbox hb; have n0_ := Aside0.mk (blk_below (g := gb105) (o := .cells #[.slice A0_0 l0_0.length c0_0, .slice A0_1 l0_1.length c0_1, .slice A0_2 l0_2.length c0_2, .string a0_3, .int .i64 a0_4] 26 (0, 0)) (by (with_reducible repeat (first | refine blk_drewN ?_ _ | refine blk_drew ?_ | refine blk_alloc ?_ _)); exact BK105.out) hb); have n1_ := Aside0.mk (below_step (by repeat (first | (with_reducible first | exact HB.out | apply below_alloc | apply pw_below_drewN | apply below_drew1 | refine below_set ?_ GE105.out) | exact HB.out)) hb); have n2_ := Aside0.mk (hbox); have n3_ := Aside0.mk ((by rw [hg]; exact (below_size (by repeat (first | (with_reducible first | exact HB.out | apply below_alloc | apply pw_below_drewN | apply below_drew1 | refine below_set ?_ GE105.out) | exact HB.out))) : w.heap.size ≤ gb106)); have n4_ := Aside0.mk ((by rw [hg]; exact (below_size (by repeat (first | (with_reducible first | exact HB.out | apply below_alloc | apply pw_below_drewN | apply below_drew1 | refine below_set ?_ GE105.out) | exact HB.out))) : w.heap.size ≤ gb106)); have n5_ := Aside0.mk ((by rw [hg]; exact Nat.ne_of_lt (blk_lt (g := gb105) (o := .cells #[.slice A0_0 l0_0.length c0_0, .slice A0_1 l0_1.length c0_1, .slice A0_2 l0_2.length c0_2, .string a0_3, .int .i64 a0_4] 26 (0, 0)) (by (with_reducible repeat (first | refine blk_drewN ?_ _ | refine blk_drew ?_ | refine blk_alloc ?_ _)); exact BK105.out)) : gb105 ≠ gb106)); have n6_ := Aside0.mk ((by rw [hg]; exact Nat.ne_of_gt (blk_lt (g := gb105) (o := .cells #[.slice A0_0 l0_0.length c0_0, .slice A0_1 l0_1.length c0_1, .slice A0_2 l0_2.length c0_2, .string a0_3, .int .i64 a0_4] 26 (0, 0)) (by (with_reducible repeat (first | refine blk_drewN ?_ _ | refine blk_drew ?_ | refine blk_alloc ?_ _)); exact BK105.out)) : gb106 ≠ gb105)); clear BK105; clear HB; have BK105 := n0_; have HB := n1_; have BK106 := n2_; have GW106 := n3_; have GE106 := n4_; have NB105_106 := n5_; have NB106_105 := n6_; clear n0_ n1_ n2_ n3_ n4_ n5_ n6_; clear hb hbox hg))
  repeat (go_quiet (first | ((with_reducible refine gate_dst (N := 2) rfl ?_); (try (refine gate_guard (by rfl) ?_; dsimp only)); refine box_event ?hg (N := 2) ?hd (cs := #[.slice A0_0 l0_0.length c0_0, .slice A0_1 l0_1.length c0_1, .slice A0_2 l0_2.length c0_2, .string a0_3, .int .i64 a0_4]) (t := 26) ?hr ?_; (case hd => rfl); (case hg => rfl); (case hr => first | (go_simp; done) | (go_simp; rfl)); intro gb105 hg w4 hbox hb; have n0_ := Aside0.mk (below_step (by repeat (first | (with_reducible first | exact HB.out | apply below_alloc | apply pw_below_drewN | apply below_drew1) | exact HB.out)) hb); have n1_ := Aside0.mk (hbox); have n2_ := Aside0.mk ((by rw [hg]; exact (below_size (by repeat (first | (with_reducible first | exact HB.out | apply below_alloc | apply pw_below_drewN | apply below_drew1) | exact HB.out))) : w.heap.size ≤ gb105)); have n3_ := Aside0.mk ((by rw [hg]; exact (below_size (by repeat (first | (with_reducible first | exact HB.out | apply below_alloc | apply pw_below_drewN | apply below_drew1) | exact HB.out))) : w.heap.size ≤ gb105)); clear HB; have HB := n0_; have BK105 := n1_; have GW105 := n2_; have GE105 := n3_; clear n0_ n1_ n2_ n3_; clear hb hbox hg) | ((with_reducible refine gate_dst (N := 3) rfl ?_); (try (refine gate_guard (by rfl) ?_; dsimp only)); refine box_event ?hg (N := 3) ?hd (cs := #[.slice A1_0 l1_0.length c1_0, .slice A1_1 l1_1.length c1_1, .slice A1_2 l1_2.length c1_2, .string a1_3, .int .i64 a1_4]) (t := 26) ?hr ?_; (case hd => rfl); (case hg => rfl); (case hr => first | (go_simp; done) | (go_simp; rfl)); intro gb106 hg w5 hbox hb; have n0_ := Aside0.mk (blk_below (g := gb105) (o := .cells #[.slice A0_0 l0_0.length c0_0, .slice A0_1 l0_1.length c0_1, .slice A0_2 l0_2.length c0_2, .string a0_3, .int .i64 a0_4] 26 (0, 0)) (by (with_reducible repeat (first | refine blk_drewN ?_ _ | refine blk_drew ?_ | refine blk_alloc ?_ _)); exact BK105.out) hb); have n1_ := Aside0.mk (below_step (by repeat (first | (with_reducible first | exact HB.out | apply below_alloc | apply pw_below_drewN | apply below_drew1 | refine below_set ?_ GE105.out) | exact HB.out)) hb); have n2_ := Aside0.mk (hbox); have n3_ := Aside0.mk ((by rw [hg]; exact (below_size (by repeat (first | (with_reducible first | exact HB.out | apply below_alloc | apply pw_below_drewN | apply below_drew1 | refine below_set ?_ GE105.out) | exact HB.out))) : w.heap.size ≤ gb106)); have n4_ := Aside0.mk ((by rw [hg]; exact (below_size (by repeat (first | (with_reducible first | exact HB.out | apply below_alloc | apply pw_below_drewN | apply below_drew1 | refine below_set ?_ GE105.out) | exact HB.out))) : w.heap.size ≤ gb106)); have n5_ := Aside0.mk ((by rw [hg]; exact Nat.ne_of_lt (blk_lt (g := gb105) (o := .cells #[.slice A0_0 l0_0.length c0_0, .slice A0_1 l0_1.length c0_1, .slice A0_2 l0_2.length c0_2, .string a0_3, .int .i64 a0_4] 26 (0, 0)) (by (with_reducible repeat (first | refine blk_drewN ?_ _ | refine blk_drew ?_ | refine blk_alloc ?_ _)); exact BK105.out)) : gb105 ≠ gb106)); have n6_ := Aside0.mk ((by rw [hg]; exact Nat.ne_of_gt (blk_lt (g := gb105) (o := .cells #[.slice A0_0 l0_0.length c0_0, .slice A0_1 l0_1.length c0_1, .slice A0_2 l0_2.length c0_2, .string a0_3, .int .i64 a0_4] 26 (0, 0)) (by (with_reducible repeat (first | refine blk_drewN ?_ _ | refine blk_drew ?_ | refine blk_alloc ?_ _)); exact BK105.out)) : gb106 ≠ gb105)); clear BK105; clear HB; have BK105 := n0_; have HB := n1_; have BK106 := n2_; have GW106 := n3_; have GE106 := n4_; have NB105_106 := n5_; have NB106_105 := n6_; clear n0_ n1_ n2_ n3_ n4_ n5_ n6_; clear hb hbox hg)); go_upto_region 1 with (first | ((with_reducible refine gate_dst (N := 2) rfl ?_); (try (refine gate_guard (by rfl) ?_; dsimp only)); refine box_event ?hg (N := 2) ?hd (cs := #[.slice A0_0 l0_0.length c0_0, .slice A0_1 l0_1.length c0_1, .slice A0_2 l0_2.length c0_2, .string a0_3, .int .i64 a0_4]) (t := 26) ?hr ?_; (case hd => rfl); (case hg => rfl); (case hr => first | (go_simp; done) | (go_simp; rfl)); intro gb105 hg w4 hbox hb; have n0_ := Aside0.mk (below_step (by repeat (first | (with_reducible first | exact HB.out | apply below_alloc | apply pw_below_drewN | apply below_drew1) | exact HB.out)) hb); have n1_ := Aside0.mk (hbox); have n2_ := Aside0.mk ((by rw [hg]; exact (below_size (by repeat (first | (with_reducible first | exact HB.out | apply below_alloc | apply pw_below_drewN | apply below_drew1) | exact HB.out))) : w.heap.size ≤ gb105)); have n3_ := Aside0.mk ((by rw [hg]; exact (below_size (by repeat (first | (with_reducible first | exact HB.out | apply below_alloc | apply pw_below_drewN | apply below_drew1) | exact HB.out))) : w.heap.size ≤ gb105)); clear HB; have HB := n0_; have BK105 := n1_; have GW105 := n2_; have GE105 := n3_; clear n0_ n1_ n2_ n3_; clear hb hbox hg) | ((with_reducible refine gate_dst (N := 3) rfl ?_); (try (refine gate_guard (by rfl) ?_; dsimp only)); refine box_event ?hg (N := 3) ?hd (cs := #[.slice A1_0 l1_0.length c1_0, .slice A1_1 l1_1.length c1_1, .slice A1_2 l1_2.length c1_2, .string a1_3, .int .i64 a1_4]) (t := 26) ?hr ?_; (case hd => rfl); (case hg => rfl); (case hr => first | (go_simp; done) | (go_simp; rfl)); intro gb106 hg w5 hbox hb; have n0_ := Aside0.mk (blk_below (g := gb105) (o := .cells #[.slice A0_0 l0_0.length c0_0, .slice A0_1 l0_1.length c0_1, .slice A0_2 l0_2.length c0_2, .string a0_3, .int .i64 a0_4] 26 (0, 0)) (by (with_reducible repeat (first | refine blk_drewN ?_ _ | refine blk_drew ?_ | refine blk_alloc ?_ _)); exact BK105.out) hb); have n1_ := Aside0.mk (below_step (by repeat (first | (with_reducible first | exact HB.out | apply below_alloc | apply pw_below_drewN | apply below_drew1 | refine below_set ?_ GE105.out) | exact HB.out)) hb); have n2_ := Aside0.mk (hbox); have n3_ := Aside0.mk ((by rw [hg]; exact (below_size (by repeat (first | (with_reducible first | exact HB.out | apply below_alloc | apply pw_below_drewN | apply below_drew1 | refine below_set ?_ GE105.out) | exact HB.out))) : w.heap.size ≤ gb106)); have n4_ := Aside0.mk ((by rw [hg]; exact (below_size (by repeat (first | (with_reducible first | exact HB.out | apply below_alloc | apply pw_below_drewN | apply below_drew1 | refine below_set ?_ GE105.out) | exact HB.out))) : w.heap.size ≤ gb106)); have n5_ := Aside0.mk ((by rw [hg]; exact Nat.ne_of_lt (blk_lt (g := gb105) (o := .cells #[.slice A0_0 l0_0.length c0_0, .slice A0_1 l0_1.length c0_1, .slice A0_2 l0_2.length c0_2, .string a0_3, .int .i64 a0_4] 26 (0, 0)) (by (with_reducible repeat (first | refine blk_drewN ?_ _ | refine blk_drew ?_ | refine blk_alloc ?_ _)); exact BK105.out)) : gb105 ≠ gb106)); have n6_ := Aside0.mk ((by rw [hg]; exact Nat.ne_of_gt (blk_lt (g := gb105) (o := .cells #[.slice A0_0 l0_0.length c0_0, .slice A0_1 l0_1.length c0_1, .slice A0_2 l0_2.length c0_2, .string a0_3, .int .i64 a0_4] 26 (0, 0)) (by (with_reducible repeat (first | refine blk_drewN ?_ _ | refine blk_drew ?_ | refine blk_alloc ?_ _)); exact BK105.out)) : gb106 ≠ gb105)); clear BK105; clear HB; have BK105 := n0_; have HB := n1_; have BK106 := n2_; have GW106 := n3_; have GE106 := n4_; have NB105_106 := n5_; have NB106_105 := n6_; clear n0_ n1_ n2_ n3_ n4_ n5_ n6_; clear hb hbox hg)))
  (try simp only [Act.put, List.setIfInBounds_toArray, List.set_cons_zero, List.set_cons_succ])
  go_cut [36] (fun v36 wc => ∃ (kq : Nat) (x36_2 : Bool), v36 = .bool x36_2 ∧ Aside0 (epactref16_Same.j0 kq x36_2 l0_0 l0_1 l0_2 a0_3 a0_4 l1_0 l1_1 l1_2 a1_3 a1_4 = some r) ∧ Aside0 (kq ≤ k) ∧ Aside0 (wc.heap[gb105]? = some (.cells #[(.slice A0_0 l0_0.length c0_0), (.slice A0_1 l0_1.length c0_1), (.slice A0_2 l0_2.length c0_2), .string a0_3, .int .i64 a0_4] 26 (0, 0))) ∧ Aside0 (wc.heap[gb106]? = some (.cells #[(.slice A1_0 l1_0.length c1_0), (.slice A1_1 l1_1.length c1_1), (.slice A1_2 l1_2.length c1_2), .string a1_3, .int .i64 a1_4] 26 (0, 0))) ∧ Aside0 (Below w.heap.size w wc))
  case first =>
    have H := HC3.out
    clear HC3
    by_cases c6 : (l0_0.length : Int) = (l1_0.length : Int)
    · rw [if_pos c6] at H
      have c6b0 : ((l0_0.length : Int) == (l1_0.length : Int)) = true := beq_iff_eq.mpr c6
      have c6b1 : ((l0_0.length : Int) != (l1_0.length : Int)) = false := bne_eq_false_iff_eq.mpr c6
      have c6b2 : (l0_0.length == l1_0.length) = true := by first | simpa using c6 | (simp at c6 ⊢; omega)
      clear c6
      (first | rw [c6b0] | (simp only [i64_w, i32_w]; rw [c6b0]) | skip)
      by_cases c7 : (l0_1.length : Int) = (l1_1.length : Int)
      · rw [if_pos c7] at H
        have c7b0 : ((l0_1.length : Int) == (l1_1.length : Int)) = true := beq_iff_eq.mpr c7
        have c7b1 : ((l0_1.length : Int) != (l1_1.length : Int)) = false := bne_eq_false_iff_eq.mpr c7
        have c7b2 : (l0_1.length == l1_1.length) = true := by first | simpa using c7 | (simp at c7 ⊢; omega)
        clear c7
        by_cases c8 : a0_3.toList = a1_3.toList
        · rw [if_pos c8] at H
          have c8b0 : (a0_3.toList == a1_3.toList) = true := beq_iff_eq.mpr c8
          have c8b1 : (a0_3.toList != a1_3.toList) = false := bne_eq_false_iff_eq.mpr c8
          clear c8
          have H' := Aside0.mk H
          clear H
          have hnb9 := NB105_106.out
          have hnc9 := NB106_105.out
          have hcz10_0 : w5.cell? ⟨gb105, 0, none⟩ = some (.slice A0_0 l0_0.length c0_0) := (blk_cell BK105.out 0).trans rfl
          have hcz10_1 : w5.cell? ⟨gb105, 1, none⟩ = some (.slice A0_1 l0_1.length c0_1) := (blk_cell BK105.out 1).trans rfl
          have hcz10_2 : w5.cell? ⟨gb105, 2, none⟩ = some (.slice A0_2 l0_2.length c0_2) := (blk_cell BK105.out 2).trans rfl
          have hcz10_3 : w5.cell? ⟨gb105, 3, none⟩ = some (.string a0_3) := (blk_cell BK105.out 3).trans rfl
          have hcz10_4 : w5.cell? ⟨gb105, 4, none⟩ = some (.int .i64 a0_4) := (blk_cell BK105.out 4).trans rfl
          have hfz10_0 := blk_frozen BK105.out 0
          have hfz10_1 := blk_frozen BK105.out 1
          have hfz10_2 := blk_frozen BK105.out 2
          have hfz10_3 := blk_frozen BK105.out 3
          have hfz10_4 := blk_frozen BK105.out 4
          have hcz11_0 : w5.cell? ⟨gb106, 0, none⟩ = some (.slice A1_0 l1_0.length c1_0) := (blk_cell BK106.out 0).trans rfl
          have hcz11_1 : w5.cell? ⟨gb106, 1, none⟩ = some (.slice A1_1 l1_1.length c1_1) := (blk_cell BK106.out 1).trans rfl
          have hcz11_2 : w5.cell? ⟨gb106, 2, none⟩ = some (.slice A1_2 l1_2.length c1_2) := (blk_cell BK106.out 2).trans rfl
          have hcz11_3 : w5.cell? ⟨gb106, 3, none⟩ = some (.string a1_3) := (blk_cell BK106.out 3).trans rfl
          have hcz11_4 : w5.cell? ⟨gb106, 4, none⟩ = some (.int .i64 a1_4) := (blk_cell BK106.out 4).trans rfl
          have hfz11_0 := blk_frozen BK106.out 0
          have hfz11_1 := blk_frozen BK106.out 1
          have hfz11_2 := blk_frozen BK106.out 2
          have hfz11_3 := blk_frozen BK106.out 3
          have hfz11_4 := blk_frozen BK106.out 4
          go_wp2
          repeat (go_quiet (fail); try go_wp2)
          go_meet
          case rel => exact ⟨_, ((a0_4 != a1_4)), (by first | rfl | (simp; done) | (simp [*]; done)), H', ⟨by first | omega | exact Nat.le_refl _⟩, ⟨by (with_reducible repeat (first | refine blk_drewN ?_ _ | refine blk_drew ?_ | refine blk_alloc ?_ _)); exact BK105.out⟩, ⟨by (with_reducible repeat (first | refine blk_drewN ?_ _ | refine blk_drew ?_ | refine blk_alloc ?_ _)); exact BK106.out⟩, ⟨by repeat (first | (with_reducible first | exact HB.out | apply below_alloc | apply pw_below_drewN | apply below_drew1 | refine below_set ?_ GE105.out | refine below_set ?_ GE106.out) | exact HB.out)⟩⟩
        · rw [if_neg c8] at H
          have c8b0 : (a0_3.toList == a1_3.toList) = false := beq_eq_false_iff_ne.mpr c8
          have c8b1 : (a0_3.toList != a1_3.toList) = true := bne_iff_ne.mpr c8
          have H' := Aside0.mk H
          clear H
          have hnb12 := NB105_106.out
          have hnc12 := NB106_105.out
          have hcz13_0 : w5.cell? ⟨gb105, 0, none⟩ = some (.slice A0_0 l0_0.length c0_0) := (blk_cell BK105.out 0).trans rfl
          have hcz13_1 : w5.cell? ⟨gb105, 1, none⟩ = some (.slice A0_1 l0_1.length c0_1) := (blk_cell BK105.out 1).trans rfl
          have hcz13_2 : w5.cell? ⟨gb105, 2, none⟩ = some (.slice A0_2 l0_2.length c0_2) := (blk_cell BK105.out 2).trans rfl
          have hcz13_3 : w5.cell? ⟨gb105, 3, none⟩ = some (.string a0_3) := (blk_cell BK105.out 3).trans rfl
          have hcz13_4 : w5.cell? ⟨gb105, 4, none⟩ = some (.int .i64 a0_4) := (blk_cell BK105.out 4).trans rfl
          have hfz13_0 := blk_frozen BK105.out 0
          have hfz13_1 := blk_frozen BK105.out 1
          have hfz13_2 := blk_frozen BK105.out 2
          have hfz13_3 := blk_frozen BK105.out 3
          have hfz13_4 := blk_frozen BK105.out 4
          have hcz14_0 : w5.cell? ⟨gb106, 0, none⟩ = some (.slice A1_0 l1_0.length c1_0) := (blk_cell BK106.out 0).trans rfl
          have hcz14_1 : w5.cell? ⟨gb106, 1, none⟩ = some (.slice A1_1 l1_1.length c1_1) := (blk_cell BK106.out 1).trans rfl
          have hcz14_2 : w5.cell? ⟨gb106, 2, none⟩ = some (.slice A1_2 l1_2.length c1_2) := (blk_cell BK106.out 2).trans rfl
          have hcz14_3 : w5.cell? ⟨gb106, 3, none⟩ = some (.string a1_3) := (blk_cell BK106.out 3).trans rfl
          have hcz14_4 : w5.cell? ⟨gb106, 4, none⟩ = some (.int .i64 a1_4) := (blk_cell BK106.out 4).trans rfl
          have hfz14_0 := blk_frozen BK106.out 0
          have hfz14_1 := blk_frozen BK106.out 1
          have hfz14_2 := blk_frozen BK106.out 2
          have hfz14_3 := blk_frozen BK106.out 3
          have hfz14_4 := blk_frozen BK106.out 4
          go_wp2
          repeat (go_quiet (fail); try go_wp2)
          go_meet
          case rel => exact ⟨_, (true), (by first | rfl | (simp; done) | (simp [*]; done)), H', ⟨by first | omega | exact Nat.le_refl _⟩, ⟨by (with_reducible repeat (first | refine blk_drewN ?_ _ | refine blk_drew ?_ | refine blk_alloc ?_ _)); exact BK105.out⟩, ⟨by (with_reducible repeat (first | refine blk_drewN ?_ _ | refine blk_drew ?_ | refine blk_alloc ?_ _)); exact BK106.out⟩, ⟨by repeat (first | (with_reducible first | exact HB.out | apply below_alloc | apply pw_below_drewN | apply below_drew1 | refine below_set ?_ GE105.out | refine below_set ?_ GE106.out) | exact HB.out)⟩⟩
      · rw [if_neg c7] at H
        have c7b0 : ((l0_1.length : Int) == (l1_1.length : Int)) = false := beq_eq_false_iff_ne.mpr c7
        have c7b1 : ((l0_1.length : Int) != (l1_1.length : Int)) = true := bne_iff_ne.mpr c7
        have c7b2 : (l0_1.length == l1_1.length) = false := by first | simpa using c7 | (simp at c7 ⊢; omega)
        have H' := Aside0.mk H
        clear H
        have hnb15 := NB105_106.out
        have hnc15 := NB106_105.out
        have hcz16_0 : w5.cell? ⟨gb105, 0, none⟩ = some (.slice A0_0 l0_0.length c0_0) := (blk_cell BK105.out 0).trans rfl
        have hcz16_1 : w5.cell? ⟨gb105, 1, none⟩ = some (.slice A0_1 l0_1.length c0_1) := (blk_cell BK105.out 1).trans rfl
        have hcz16_2 : w5.cell? ⟨gb105, 2, none⟩ = some (.slice A0_2 l0_2.length c0_2) := (blk_cell BK105.out 2).trans rfl
        have hcz16_3 : w5.cell? ⟨gb105, 3, none⟩ = some (.string a0_3) := (blk_cell BK105.out 3).trans rfl
        have hcz16_4 : w5.cell? ⟨gb105, 4, none⟩ = some (.int .i64 a0_4) := (blk_cell BK105.out 4).trans rfl
        have hfz16_0 := blk_frozen BK105.out 0
        have hfz16_1 := blk_frozen BK105.out 1
        have hfz16_2 := blk_frozen BK105.out 2
        have hfz16_3 := blk_frozen BK105.out 3
        have hfz16_4 := blk_frozen BK105.out 4
        have hcz17_0 : w5.cell? ⟨gb106, 0, none⟩ = some (.slice A1_0 l1_0.length c1_0) := (blk_cell BK106.out 0).trans rfl
        have hcz17_1 : w5.cell? ⟨gb106, 1, none⟩ = some (.slice A1_1 l1_1.length c1_1) := (blk_cell BK106.out 1).trans rfl
        have hcz17_2 : w5.cell? ⟨gb106, 2, none⟩ = some (.slice A1_2 l1_2.length c1_2) := (blk_cell BK106.out 2).trans rfl
        have hcz17_3 : w5.cell? ⟨gb106, 3, none⟩ = some (.string a1_3) := (blk_cell BK106.out 3).trans rfl
        have hcz17_4 : w5.cell? ⟨gb106, 4, none⟩ = some (.int .i64 a1_4) := (blk_cell BK106.out 4).trans rfl
        have hfz17_0 := blk_frozen BK106.out 0
        have hfz17_1 := blk_frozen BK106.out 1
        have hfz17_2 := blk_frozen BK106.out 2
        have hfz17_3 := blk_frozen BK106.out 3
        have hfz17_4 := blk_frozen BK106.out 4
        go_wp2
        repeat (go_quiet (fail); try go_wp2)
        go_meet
        case rel => exact ⟨_, (true), (by first | rfl | (simp; done) | (simp [*]; done)), H', ⟨by first | omega | exact Nat.le_refl _⟩, ⟨by (with_reducible repeat (first | refine blk_drewN ?_ _ | refine blk_drew ?_ | refine blk_alloc ?_ _)); exact BK105.out⟩, ⟨by (with_reducible repeat (first | refine blk_drewN ?_ _ | refine blk_drew ?_ | refine blk_alloc ?_ _)); exact BK106.out⟩, ⟨by repeat (first | (with_reducible first | exact HB.out | apply below_alloc | apply pw_below_drewN | apply below_drew1 | refine below_set ?_ GE105.out | refine below_set ?_ GE106.out) | exact HB.out)⟩⟩
    · rw [if_neg c6] at H
      have c6b0 : ((l0_0.length : Int) == (l1_0.length : Int)) = false := beq_eq_false_iff_ne.mpr c6
      have c6b1 : ((l0_0.length : Int) != (l1_0.length : Int)) = true := bne_iff_ne.mpr c6
      have c6b2 : (l0_0.length == l1_0.length) = false := by first | simpa using c6 | (simp at c6 ⊢; omega)
      (first | rw [c6b0] | (simp only [i64_w, i32_w]; rw [c6b0]) | skip)
      have H' := Aside0.mk H
      clear H
      have hnb18 := NB105_106.out
      have hnc18 := NB106_105.out
      have hcz19_0 : w5.cell? ⟨gb105, 0, none⟩ = some (.slice A0_0 l0_0.length c0_0) := (blk_cell BK105.out 0).trans rfl
      have hcz19_1 : w5.cell? ⟨gb105, 1, none⟩ = some (.slice A0_1 l0_1.length c0_1) := (blk_cell BK105.out 1).trans rfl
      have hcz19_2 : w5.cell? ⟨gb105, 2, none⟩ = some (.slice A0_2 l0_2.length c0_2) := (blk_cell BK105.out 2).trans rfl
      have hcz19_3 : w5.cell? ⟨gb105, 3, none⟩ = some (.string a0_3) := (blk_cell BK105.out 3).trans rfl
      have hcz19_4 : w5.cell? ⟨gb105, 4, none⟩ = some (.int .i64 a0_4) := (blk_cell BK105.out 4).trans rfl
      have hfz19_0 := blk_frozen BK105.out 0
      have hfz19_1 := blk_frozen BK105.out 1
      have hfz19_2 := blk_frozen BK105.out 2
      have hfz19_3 := blk_frozen BK105.out 3
      have hfz19_4 := blk_frozen BK105.out 4
      have hcz20_0 : w5.cell? ⟨gb106, 0, none⟩ = some (.slice A1_0 l1_0.length c1_0) := (blk_cell BK106.out 0).trans rfl
      have hcz20_1 : w5.cell? ⟨gb106, 1, none⟩ = some (.slice A1_1 l1_1.length c1_1) := (blk_cell BK106.out 1).trans rfl
      have hcz20_2 : w5.cell? ⟨gb106, 2, none⟩ = some (.slice A1_2 l1_2.length c1_2) := (blk_cell BK106.out 2).trans rfl
      have hcz20_3 : w5.cell? ⟨gb106, 3, none⟩ = some (.string a1_3) := (blk_cell BK106.out 3).trans rfl
      have hcz20_4 : w5.cell? ⟨gb106, 4, none⟩ = some (.int .i64 a1_4) := (blk_cell BK106.out 4).trans rfl
      have hfz20_0 := blk_frozen BK106.out 0
      have hfz20_1 := blk_frozen BK106.out 1
      have hfz20_2 := blk_frozen BK106.out 2
      have hfz20_3 := blk_frozen BK106.out 3
      have hfz20_4 := blk_frozen BK106.out 4
      go_wp2
      repeat (go_quiet (fail); try go_wp2)
      go_meet
      case rel => exact ⟨_, (true), (by first | rfl | (simp; done) | (simp [*]; done)), H', ⟨by first | omega | exact Nat.le_refl _⟩, ⟨by (with_reducible repeat (first | refine blk_drewN ?_ _ | refine blk_drew ?_ | refine blk_alloc ?_ _)); exact BK105.out⟩, ⟨by (with_reducible repeat (first | refine blk_drewN ?_ _ | refine blk_drew ?_ | refine blk_alloc ?_ _)); exact BK106.out⟩, ⟨by repeat (first | (with_reducible first | exact HB.out | apply below_alloc | apply pw_below_drewN | apply below_drew1 | refine below_set ?_ GE105.out | refine below_set ?_ GE106.out) | exact HB.out)⟩⟩
  case rest =>
    clear HC3
    try clear c1
    try clear p2
    try clear c6
    try clear c6b0
    try clear c6b1
    try clear c6b2
    try clear c7
    try clear c7b0
    try clear c7b1
    try clear c7b2
    try clear c8
    try clear c8b0
    try clear c8b1
    try clear c9
    try clear c12
    try clear c15
    try clear c16
    try clear c18
    try clear hcz10_0
    try clear hcz10_1
    try clear hcz10_2
    try clear hcz10_3
    try clear hcz10_4
    try clear hcz11_0
    try clear hcz11_1
    try clear hcz11_2
    try clear hcz11_3
    try clear hcz11_4
    try clear hcz13_0
    try clear hcz13_1
    try clear hcz13_2
    try clear hcz13_3
    try clear hcz13_4
    try clear hcz14_0
    try clear hcz14_1
    try clear hcz14_2
    try clear hcz14_3
    try clear hcz14_4
    try clear hcz16_0
    try clear hcz16_1
    try clear hcz16_2
    try clear hcz16_3
    try clear hcz16_4
    try clear hcz17_0
    try clear hcz17_1
    try clear hcz17_2
    try clear hcz17_3
    try clear hcz17_4
    try clear hcz19_0
    try clear hcz19_1
    try clear hcz19_2
    try clear hcz19_3
    try clear hcz19_4
    try clear hcz20_0
    try clear hcz20_1
    try clear hcz20_2
    try clear hcz20_3
    try clear hcz20_4
    try clear hfz10_0
    try clear hfz10_1
    try clear hfz10_2
    try clear hfz10_3
    try clear hfz10_4
    try clear hfz11_0
    try clear hfz11_1
    try clear hfz11_2
    try clear hfz11_3
    try clear hfz11_4
    try clear hfz13_0
    try clear hfz13_1
    try clear hfz13_2
    try clear hfz13_3
    try clear hfz13_4
    try clear hfz14_0
    try clear hfz14_1
    try clear hfz14_2
    try clear hfz14_3
    try clear hfz14_4
    try clear hfz16_0
    try clear hfz16_1
    try clear hfz16_2
    try clear hfz16_3
    try clear hfz16_4
    try clear hfz17_0
    try clear hfz17_1
    try clear hfz17_2
    try clear hfz17_3
    try clear hfz17_4
    try clear hfz19_0
    try clear hfz19_1
    try clear hfz19_2
    try clear hfz19_3
    try clear hfz19_4
    try clear hfz20_0
    try clear hfz20_1
    try clear hfz20_2
    try clear hfz20_3
    try clear hfz20_4
    obtain ⟨kq, x36_2, rfl, HA, HJ2, BK105, BK106, HB⟩ := hcut
    cases kq with
    | zero => exact absurd HA.out (by simp [epactref16_Same.j0])
    | succ kj2 =>
      have H := HA.out
      clear HA
      simp only [epactref16_Same.j0] at H
      by_cases c21 : x36_2 = true
      · subst c21
        have H1 : (some false) = some r := by rw [if_pos rfl] at H; exact H
        clear H
        have H := H1
        clear H1
        obtain rfl := Option.some.inj H
        go_wp2
        repeat (go_quiet (fail); try go_wp2)
        go_ret
        exact ⟨by first | rfl | (simp [errW_none, errW_some] <;> rfl) | (simp [*, errW_none, errW_some] <;> rfl), by repeat (first | (with_reducible first | exact HB.out | apply below_alloc | apply pw_below_drewN | apply below_drew1 | refine below_set ?_ GE105.out | refine below_set ?_ GE106.out) | exact HB.out)⟩
      · replace c21 := Bool.eq_false_iff.mpr c21
        subst c21
        have H1 : (epactref16_Same.l0 kj2 0 l0_0 l0_1 l0_2 a0_3 a0_4 l1_0 l1_1 l1_2 a1_3 a1_4) = some r := by rw [if_neg (show ¬ (false = true) by decide)] at H; exact H
        clear H
        have H := H1
        clear H1
        have H' := Aside0.mk H
        clear H
        go_wp2
        repeat (go_quiet (fail); try go_wp2)
        go_loopg [5] kj2 (fun kq v5 w' => ∃ (x5_2 : Int), v5 = .int .i64 x5_2 ∧ Aside0 (epactref16_Same.l0 kq x5_2 l0_0 l0_1 l0_2 a0_3 a0_4 l1_0 l1_1 l1_2 a1_3 a1_4 = some r) ∧ Aside0 (kq ≤ kj2) ∧ Aside0 (w'.heap[gb105]? = some (.cells #[(.slice A0_0 l0_0.length c0_0), (.slice A0_1 l0_1.length c0_1), (.slice A0_2 l0_2.length c0_2), .string a0_3, .int .i64 a0_4] 26 (0, 0))) ∧ Aside0 (w'.heap[gb106]? = some (.cells #[(.slice A1_0 l1_0.length c1_0), (.slice A1_1 l1_1.length c1_1), (.slice A1_2 l1_2.length c1_2), .string a1_3, .int .i64 a1_4] 26 (0, 0))) ∧ Aside0 (Below w.heap.size w w'))
        case atStart => exact ⟨(0), (by first | rfl | (simp; done) | (simp [*]; done)), H', ⟨Nat.le_refl _⟩, ⟨by (with_reducible repeat (first | refine blk_drewN ?_ _ | refine blk_drew ?_ | refine blk_alloc ?_ _)); exact BK105.out⟩, ⟨by (with_reducible repeat (first | refine blk_drewN ?_ _ | refine blk_drew ?_ | refine blk_alloc ?_ _)); exact BK106.out⟩, ⟨by repeat (first | (with_reducible first | exact HB.out | apply below_alloc | apply pw_below_drewN | apply below_drew1 | refine below_set ?_ GE105.out | refine below_set ?_ GE106.out) | exact HB.out)⟩⟩
        case round =>
          clear H'
          try clear c1
          try clear c2
          try clear p2
          try clear c6
          try clear c6b0
          try clear c6b1
          try clear c6b2
          try clear c7
          try clear c7b0
          try clear c7b1
          try clear c7b2
          try clear c8
          try clear c8b0
          try clear c8b1
          try clear c9
          try clear c12
          try clear c15
          try clear c16
          try clear c18
          try clear c21
          try clear hcz10_0
          try clear hcz10_1
          try clear hcz10_2
          try clear hcz10_3
          try clear hcz10_4
          try clear hcz11_0
          try clear hcz11_1
          try clear hcz11_2
          try clear hcz11_3
          try clear hcz11_4
          try clear hcz13_0
          try clear hcz13_1
          try clear hcz13_2
          try clear hcz13_3
          try clear hcz13_4
          try clear hcz14_0
          try clear hcz14_1
          try clear hcz14_2
          try clear hcz14_3
          try clear hcz14_4
          try clear hcz16_0
          try clear hcz16_1
          try clear hcz16_2
          try clear hcz16_3
          try clear hcz16_4
          try clear hcz17_0
          try clear hcz17_1
          try clear hcz17_2
          try clear hcz17_3
          try clear hcz17_4
          try clear hcz19_0
          try clear hcz19_1
          try clear hcz19_2
          try clear hcz19_3
          try clear hcz19_4
          try clear hcz20_0
          try clear hcz20_1
          try clear hcz20_2
          try clear hcz20_3
          try clear hcz20_4
          try clear hfz10_0
          try clear hfz10_1
          try clear hfz10_2
          try clear hfz10_3
          try clear hfz10_4
          try clear hfz11_0
          try clear hfz11_1
          try clear hfz11_2
          try clear hfz11_3
          try clear hfz11_4
          try clear hfz13_0
          try clear hfz13_1
          try clear hfz13_2
          try clear hfz13_3
          try clear hfz13_4
          try clear hfz14_0
          try clear hfz14_1
          try clear hfz14_2
          try clear hfz14_3
          try clear hfz14_4
          try clear hfz16_0
          try clear hfz16_1
          try clear hfz16_2
          try clear hfz16_3
          try clear hfz16_4
          try clear hfz17_0
          try clear hfz17_1
          try clear hfz17_2
          try clear hfz17_3
          try clear hfz17_4
          try clear hfz19_0
          try clear hfz19_1
          try clear hfz19_2
          try clear hfz19_3
          try clear hfz19_4
          try clear hfz20_0
          try clear hfz20_1
          try clear hfz20_2
          try clear hfz20_3
          try clear hfz20_4
          try clear p2
          obtain ⟨x5_2, rfl, HA, HK2, BK105, BK106, HB⟩ := hrel
          cases gk with
          | zero => exact absurd HA.out (by simp [epactref16_Same.l0])
          | succ k2 =>
            have H := HA.out
            clear HA
            simp only [epactref16_Same.l0] at H
            by_cases c22 : x5_2 < (l0_0.length : Int)
            · rw [if_pos c22] at H
              have c22b0 : decide (x5_2 < (l0_0.length : Int)) = true := decide_eq_true c22
              clear c22
              by_cases c23 : 0 ≤ x5_2
              · rw [if_pos c23] at H
                have c23b0 : decide (0 ≤ x5_2) = true := decide_eq_true c23
                clear c23
                by_cases c24 : x5_2 < (l1_0.length : Int)
                · rw [if_pos c24] at H
                  have c24b0 : decide (x5_2 < (l1_0.length : Int)) = true := decide_eq_true c24
                  clear c24
                  by_cases c25 : (!(((rd_T46 l0_0 x5_2).f0) == ((rd_T46 l1_0 x5_2).f0)) || (!(((rd_T46 l0_0 x5_2).f1) == ((rd_T46 l1_0 x5_2).f1)) || (!((((rd_T46 l0_0 x5_2).f2).toList) == (((rd_T46 l1_0 x5_2).f2).toList))))) = true
                  · rw [if_pos c25] at H
                    have c25b0 : (!(((rd_T46 l0_0 x5_2).f0) == ((rd_T46 l1_0 x5_2).f0)) || (!(((rd_T46 l0_0 x5_2).f1) == ((rd_T46 l1_0 x5_2).f1)) || (!((((rd_T46 l0_0 x5_2).f2).toList) == (((rd_T46 l1_0 x5_2).f2).toList))))) = true := c25
                    clear c25
                    obtain rfl := Option.some.inj H
                    have hnb26 := NB105_106.out
                    have hnc26 := NB106_105.out
                    have hcz27_0 : wr.cell? ⟨gb105, 0, none⟩ = some (.slice A0_0 l0_0.length c0_0) := (blk_cell BK105.out 0).trans rfl
                    have hcz27_1 : wr.cell? ⟨gb105, 1, none⟩ = some (.slice A0_1 l0_1.length c0_1) := (blk_cell BK105.out 1).trans rfl
                    have hcz27_2 : wr.cell? ⟨gb105, 2, none⟩ = some (.slice A0_2 l0_2.length c0_2) := (blk_cell BK105.out 2).trans rfl
                    have hcz27_3 : wr.cell? ⟨gb105, 3, none⟩ = some (.string a0_3) := (blk_cell BK105.out 3).trans rfl
                    have hcz27_4 : wr.cell? ⟨gb105, 4, none⟩ = some (.int .i64 a0_4) := (blk_cell BK105.out 4).trans rfl
                    have hfz27_0 := blk_frozen BK105.out 0
                    have hfz27_1 := blk_frozen BK105.out 1
                    have hfz27_2 := blk_frozen BK105.out 2
                    have hfz27_3 := blk_frozen BK105.out 3
                    have hfz27_4 := blk_frozen BK105.out 4
                    have p107 : 0 ≤ (x5_2 : Int) := of_decide_eq_true (by first | (with_reducible assumption) | assumption)
                    have q107 : x5_2 < (l0_0.length : Int) := of_decide_eq_true (by first | (with_reducible assumption) | assumption)
                    obtain ⟨ad107, e107, hx107_0, hx107_1, hx107_2⟩ := at_T46 HR0_0.out x5_2 p107 q107
                    cases e107
                    replace hx107_0 := (HB.out.cell (World.block_lt_of_cell? w _ hx107_0)).trans hx107_0
                    replace hx107_1 := (HB.out.cell (World.block_lt_of_cell? w _ hx107_1)).trans hx107_1
                    replace hx107_2 := (HB.out.cell (World.block_lt_of_cell? w _ hx107_2)).trans hx107_2
                    replace p107 := eq_true p107
                    replace q107 := eq_true q107
                    have hcz28_0 : wr.cell? ⟨gb106, 0, none⟩ = some (.slice A1_0 l1_0.length c1_0) := (blk_cell BK106.out 0).trans rfl
                    have hcz28_1 : wr.cell? ⟨gb106, 1, none⟩ = some (.slice A1_1 l1_1.length c1_1) := (blk_cell BK106.out 1).trans rfl
                    have hcz28_2 : wr.cell? ⟨gb106, 2, none⟩ = some (.slice A1_2 l1_2.length c1_2) := (blk_cell BK106.out 2).trans rfl
                    have hcz28_3 : wr.cell? ⟨gb106, 3, none⟩ = some (.string a1_3) := (blk_cell BK106.out 3).trans rfl
                    have hcz28_4 : wr.cell? ⟨gb106, 4, none⟩ = some (.int .i64 a1_4) := (blk_cell BK106.out 4).trans rfl
                    have hfz28_0 := blk_frozen BK106.out 0
                    have hfz28_1 := blk_frozen BK106.out 1
                    have hfz28_2 := blk_frozen BK106.out 2
                    have hfz28_3 := blk_frozen BK106.out 3
                    have hfz28_4 := blk_frozen BK106.out 4
                    have p108 : 0 ≤ (x5_2 : Int) := of_decide_eq_true (by first | (with_reducible assumption) | assumption)
                    have q108 : x5_2 < (l1_0.length : Int) := of_decide_eq_true (by first | (with_reducible assumption) | assumption)
                    obtain ⟨ad108, e108, hx108_0, hx108_1, hx108_2⟩ := at_T46 HR1_0.out x5_2 p108 q108
                    cases e108
                    replace hx108_0 := (HB.out.cell (World.block_lt_of_cell? w _ hx108_0)).trans hx108_0
                    replace hx108_1 := (HB.out.cell (World.block_lt_of_cell? w _ hx108_1)).trans hx108_1
                    replace hx108_2 := (HB.out.cell (World.block_lt_of_cell? w _ hx108_2)).trans hx108_2
                    replace p108 := eq_true p108
                    replace q108 := eq_true q108
                    go_wp2
                    repeat (go_quiet (fail); try go_wp2)
                    go_ret
                    exact ⟨by first | rfl | (simp [errW_none, errW_some] <;> rfl) | (simp [*, errW_none, errW_some] <;> rfl), by repeat (first | (with_reducible first | exact HB.out | apply below_alloc | apply pw_below_drewN | apply below_drew1 | refine below_set ?_ GE105.out | refine below_set ?_ GE106.out) | exact HB.out)⟩
                  · rw [if_neg c25] at H
                    have c25b0 : (!(((rd_T46 l0_0 x5_2).f0) == ((rd_T46 l1_0 x5_2).f0)) || (!(((rd_T46 l0_0 x5_2).f1) == ((rd_T46 l1_0 x5_2).f1)) || (!((((rd_T46 l0_0 x5_2).f2).toList) == (((rd_T46 l1_0 x5_2).f2).toList))))) = false := by simpa using c25
                    clear c25
                    have H' := Aside0.mk H
                    clear H
                    have hnb29 := NB105_106.out
                    have hnc29 := NB106_105.out
                    have hcz30_0 : wr.cell? ⟨gb105, 0, none⟩ = some (.slice A0_0 l0_0.length c0_0) := (blk_cell BK105.out 0).trans rfl
                    have hcz30_1 : wr.cell? ⟨gb105, 1, none⟩ = some (.slice A0_1 l0_1.length c0_1) := (blk_cell BK105.out 1).trans rfl
                    have hcz30_2 : wr.cell? ⟨gb105, 2, none⟩ = some (.slice A0_2 l0_2.length c0_2) := (blk_cell BK105.out 2).trans rfl
                    have hcz30_3 : wr.cell? ⟨gb105, 3, none⟩ = some (.string a0_3) := (blk_cell BK105.out 3).trans rfl
                    have hcz30_4 : wr.cell? ⟨gb105, 4, none⟩ = some (.int .i64 a0_4) := (blk_cell BK105.out 4).trans rfl
                    have hfz30_0 := blk_frozen BK105.out 0
                    have hfz30_1 := blk_frozen BK105.out 1
                    have hfz30_2 := blk_frozen BK105.out 2
                    have hfz30_3 := blk_frozen BK105.out 3
                    have hfz30_4 := blk_frozen BK105.out 4
                    have p107 : 0 ≤ (x5_2 : Int) := of_decide_eq_true (by first | (with_reducible assumption) | assumption)
                    have q107 : x5_2 < (l0_0.length : Int) := of_decide_eq_true (by first | (with_reducible assumption) | assumption)
                    obtain ⟨ad107, e107, hx107_0, hx107_1, hx107_2⟩ := at_T46 HR0_0.out x5_2 p107 q107
                    cases e107
                    replace hx107_0 := (HB.out.cell (World.block_lt_of_cell? w _ hx107_0)).trans hx107_0
                    replace hx107_1 := (HB.out.cell (World.block_lt_of_cell? w _ hx107_1)).trans hx107_1
                    replace hx107_2 := (HB.out.cell (World.block_lt_of_cell? w _ hx107_2)).trans hx107_2
                    replace p107 := eq_true p107
                    replace q107 := eq_true q107
                    have hcz31_0 : wr.cell? ⟨gb106, 0, none⟩ = some (.slice A1_0 l1_0.length c1_0) := (blk_cell BK106.out 0).trans rfl
                    have hcz31_1 : wr.cell? ⟨gb106, 1, none⟩ = some (.slice A1_1 l1_1.length c1_1) := (blk_cell BK106.out 1).trans rfl
                    have hcz31_2 : wr.cell? ⟨gb106, 2, none⟩ = some (.slice A1_2 l1_2.length c1_2) := (blk_cell BK106.out 2).trans rfl
                    have hcz31_3 : wr.cell? ⟨gb106, 3, none⟩ = some (.string a1_3) := (blk_cell BK106.out 3).trans rfl
                    have hcz31_4 : wr.cell? ⟨gb106, 4, none⟩ = some (.int .i64 a1_4) := (blk_cell BK106.out 4).trans rfl
                    have hfz31_0 := blk_frozen BK106.out 0
                    have hfz31_1 := blk_frozen BK106.out 1
                    have hfz31_2 := blk_frozen BK106.out 2
                    have hfz31_3 := blk_frozen BK106.out 3
                    have hfz31_4 := blk_frozen BK106.out 4
                    have p108 : 0 ≤ (x5_2 : Int) := of_decide_eq_true (by first | (with_reducible assumption) | assumption)
                    have q108 : x5_2 < (l1_0.length : Int) := of_decide_eq_true (by first | (with_reducible assumption) | assumption)
                    obtain ⟨ad108, e108, hx108_0, hx108_1, hx108_2⟩ := at_T46 HR1_0.out x5_2 p108 q108
                    cases e108
                    replace hx108_0 := (HB.out.cell (World.block_lt_of_cell? w _ hx108_0)).trans hx108_0
                    replace hx108_1 := (HB.out.cell (World.block_lt_of_cell? w _ hx108_1)).trans hx108_1
                    replace hx108_2 := (HB.out.cell (World.block_lt_of_cell? w _ hx108_2)).trans hx108_2
                    replace p108 := eq_true p108
                    replace q108 := eq_true q108
                    go_wp2
                    repeat (go_quiet (fail); try go_wp2)
                    go_roundg k2
                    case measure => have := HJ2.out; have := HK2.out; omega
                    case rel => exact ⟨(wrap64 (x5_2 + 1)), (by first | rfl | (simp; done) | (simp [*]; done)), H', ⟨by have := HJ2.out; have := HK2.out; omega⟩, ⟨by (with_reducible repeat (first | refine blk_drewN ?_ _ | refine blk_drew ?_ | refine blk_alloc ?_ _)); exact BK105.out⟩, ⟨by (with_reducible repeat (first | refine blk_drewN ?_ _ | refine blk_drew ?_ | refine blk_alloc ?_ _)); exact BK106.out⟩, ⟨by repeat (first | (with_reducible first | exact HB.out | apply below_alloc | apply pw_below_drewN | apply below_drew1 | refine below_set ?_ GE105.out | refine below_set ?_ GE106.out) | exact HB.out)⟩⟩
                · rw [if_neg c24] at H
                  exact absurd H (by simp)
              · rw [if_neg c23] at H
                exact absurd H (by simp)
            · rw [if_neg c22] at H
              have c22b0 : decide (x5_2 < (l0_0.length : Int)) = false := decide_eq_false c22
              clear c22
              have H' := Aside0.mk H
              clear H
              have hnb32 := NB105_106.out
              have hnc32 := NB106_105.out
              have hcz33_0 : wr.cell? ⟨gb105, 0, none⟩ = some (.slice A0_0 l0_0.length c0_0) := (blk_cell BK105.out 0).trans rfl
              have hcz33_1 : wr.cell? ⟨gb105, 1, none⟩ = some (.slice A0_1 l0_1.length c0_1) := (blk_cell BK105.out 1).trans rfl
              have hcz33_2 : wr.cell? ⟨gb105, 2, none⟩ = some (.slice A0_2 l0_2.length c0_2) := (blk_cell BK105.out 2).trans rfl
              have hcz33_3 : wr.cell? ⟨gb105, 3, none⟩ = some (.string a0_3) := (blk_cell BK105.out 3).trans rfl
              have hcz33_4 : wr.cell? ⟨gb105, 4, none⟩ = some (.int .i64 a0_4) := (blk_cell BK105.out 4).trans rfl
              have hfz33_0 := blk_frozen BK105.out 0
              have hfz33_1 := blk_frozen BK105.out 1
              have hfz33_2 := blk_frozen BK105.out 2
              have hfz33_3 := blk_frozen BK105.out 3
              have hfz33_4 := blk_frozen BK105.out 4
              go_wp2
              repeat (go_quiet (fail); try go_wp2)
              go_loopg [6] k2 (fun kq v6 w' => ∃ (x6_3 : Int), v6 = .int .i64 x6_3 ∧ Aside0 (epactref16_Same.l1 kq x6_3 l0_0 l0_1 l0_2 a0_3 a0_4 l1_0 l1_1 l1_2 a1_3 a1_4 = some r) ∧ Aside0 (kq ≤ k2) ∧ Aside0 (w'.heap[gb105]? = some (.cells #[(.slice A0_0 l0_0.length c0_0), (.slice A0_1 l0_1.length c0_1), (.slice A0_2 l0_2.length c0_2), .string a0_3, .int .i64 a0_4] 26 (0, 0))) ∧ Aside0 (w'.heap[gb106]? = some (.cells #[(.slice A1_0 l1_0.length c1_0), (.slice A1_1 l1_1.length c1_1), (.slice A1_2 l1_2.length c1_2), .string a1_3, .int .i64 a1_4] 26 (0, 0))) ∧ Aside0 (Below w.heap.size w w'))
              case atStart => exact ⟨(0), (by first | rfl | (simp; done) | (simp [*]; done)), H', ⟨Nat.le_refl _⟩, ⟨by (with_reducible repeat (first | refine blk_drewN ?_ _ | refine blk_drew ?_ | refine blk_alloc ?_ _)); exact BK105.out⟩, ⟨by (with_reducible repeat (first | refine blk_drewN ?_ _ | refine blk_drew ?_ | refine blk_alloc ?_ _)); exact BK106.out⟩, ⟨by repeat (first | (with_reducible first | exact HB.out | apply below_alloc | apply pw_below_drewN | apply below_drew1 | refine below_set ?_ GE105.out | refine below_set ?_ GE106.out) | exact HB.out)⟩⟩
              case round =>
                clear H'
                try clear c1
                try clear p1
                try clear q1
                try clear hx1
                try clear c2
                try clear p2
                try clear c3
                try clear c6
                try clear c6b0
                try clear c6b1
                try clear c6b2
                try clear p6
                try clear c7
                try clear c7b0
                try clear c7b1
                try clear c7b2
                try clear c8
                try clear c8b0
                try clear c8b1
                try clear c9
                try clear p10
                try clear q10
                try clear hx10
                try clear c12
                try clear c15
                try clear c16
                try clear c18
                try clear c21
                try clear c22
                try clear c22b0
                try clear c23
                try clear c23b0
                try clear c24
                try clear c24b0
                try clear c25
                try clear c25b0
                try clear c26
                try clear c29
                try clear c32
                try clear hcz10_0
                try clear hcz10_1
                try clear hcz10_2
                try clear hcz10_3
                try clear hcz10_4
                try clear hcz11_0
                try clear hcz11_1
                try clear hcz11_2
                try clear hcz11_3
                try clear hcz11_4
                try clear hcz13_0
                try clear hcz13_1
                try clear hcz13_2
                try clear hcz13_3
                try clear hcz13_4
                try clear hcz14_0
                try clear hcz14_1
                try clear hcz14_2
                try clear hcz14_3
                try clear hcz14_4
                try clear hcz16_0
                try clear hcz16_1
                try clear hcz16_2
                try clear hcz16_3
                try clear hcz16_4
                try clear hcz17_0
                try clear hcz17_1
                try clear hcz17_2
                try clear hcz17_3
                try clear hcz17_4
                try clear hcz19_0
                try clear hcz19_1
                try clear hcz19_2
                try clear hcz19_3
                try clear hcz19_4
                try clear hcz20_0
                try clear hcz20_1
                try clear hcz20_2
                try clear hcz20_3
                try clear hcz20_4
                try clear hcz27_0
                try clear hcz27_1
                try clear hcz27_2
                try clear hcz27_3
                try clear hcz27_4
                try clear hcz28_0
                try clear hcz28_1
                try clear hcz28_2
                try clear hcz28_3
                try clear hcz28_4
                try clear hcz30_0
                try clear hcz30_1
                try clear hcz30_2
                try clear hcz30_3
                try clear hcz30_4
                try clear hcz31_0
                try clear hcz31_1
                try clear hcz31_2
                try clear hcz31_3
                try clear hcz31_4
                try clear hcz33_0
                try clear hcz33_1
                try clear hcz33_2
                try clear hcz33_3
                try clear hcz33_4
                try clear hfz10_0
                try clear hfz10_1
                try clear hfz10_2
                try clear hfz10_3
                try clear hfz10_4
                try clear hfz11_0
                try clear hfz11_1
                try clear hfz11_2
                try clear hfz11_3
                try clear hfz11_4
                try clear hfz13_0
                try clear hfz13_1
                try clear hfz13_2
                try clear hfz13_3
                try clear hfz13_4
                try clear hfz14_0
                try clear hfz14_1
                try clear hfz14_2
                try clear hfz14_3
                try clear hfz14_4
                try clear hfz16_0
                try clear hfz16_1
                try clear hfz16_2
                try clear hfz16_3
                try clear hfz16_4
                try clear hfz17_0
                try clear hfz17_1
                try clear hfz17_2
                try clear hfz17_3
                try clear hfz17_4
                try clear hfz19_0
                try clear hfz19_1
                try clear hfz19_2
                try clear hfz19_3
                try clear hfz19_4
                try clear hfz20_0
                try clear hfz20_1
                try clear hfz20_2
                try clear hfz20_3
                try clear hfz20_4
                try clear hfz27_0
                try clear hfz27_1
                try clear hfz27_2
                try clear hfz27_3
                try clear hfz27_4
                try clear hfz28_0
                try clear hfz28_1
                try clear hfz28_2
                try clear hfz28_3
                try clear hfz28_4
                try clear hfz30_0
                try clear hfz30_1
                try clear hfz30_2
                try clear hfz30_3
                try clear hfz30_4
                try clear hfz31_0
                try clear hfz31_1
                try clear hfz31_2
                try clear hfz31_3
                try clear hfz31_4
                try clear hfz33_0
                try clear hfz33_1
                try clear hfz33_2
                try clear hfz33_3
                try clear hfz33_4
                try clear hx107_0
                try clear hx107_1
                try clear hx107_2
                try clear hx108_0
                try clear hx108_1
                try clear hx108_2
                try clear p107
                try clear p108
                try clear p2
                try clear q107
                try clear q108
                obtain ⟨x6_3, rfl, HA, HK3, BK105, BK106, HB⟩ := hrel
                cases gk with
                | zero => exact absurd HA.out (by simp [epactref16_Same.l1])
                | succ k3 =>
                  have H := HA.out
                  clear HA
                  simp only [epactref16_Same.l1] at H
                  by_cases c34 : x6_3 < (l0_1.length : Int)
                  · rw [if_pos c34] at H
                    have c34b0 : decide (x6_3 < (l0_1.length : Int)) = true := decide_eq_true c34
                    clear c34
                    by_cases c35 : 0 ≤ x6_3
                    · rw [if_pos c35] at H
                      have c35b0 : decide (0 ≤ x6_3) = true := decide_eq_true c35
                      clear c35
                      by_cases c36 : x6_3 < (l1_1.length : Int)
                      · rw [if_pos c36] at H
                        have c36b0 : decide (x6_3 < (l1_1.length : Int)) = true := decide_eq_true c36
                        clear c36
                        by_cases c37 : (!(((rd_T48 l0_1 x6_3).f0) == ((rd_T48 l1_1 x6_3).f0)) || (!(((rd_T48 l0_1 x6_3).f1) == ((rd_T48 l1_1 x6_3).f1)))) = true
                        · rw [if_pos c37] at H
                          have c37b0 : (!(((rd_T48 l0_1 x6_3).f0) == ((rd_T48 l1_1 x6_3).f0)) || (!(((rd_T48 l0_1 x6_3).f1) == ((rd_T48 l1_1 x6_3).f1)))) = true := c37
                          clear c37
                          obtain rfl := Option.some.inj H
                          have hnb38 := NB105_106.out
                          have hnc38 := NB106_105.out
                          have hcz39_0 : wr.cell? ⟨gb105, 0, none⟩ = some (.slice A0_0 l0_0.length c0_0) := (blk_cell BK105.out 0).trans rfl
                          have hcz39_1 : wr.cell? ⟨gb105, 1, none⟩ = some (.slice A0_1 l0_1.length c0_1) := (blk_cell BK105.out 1).trans rfl
                          have hcz39_2 : wr.cell? ⟨gb105, 2, none⟩ = some (.slice A0_2 l0_2.length c0_2) := (blk_cell BK105.out 2).trans rfl
                          have hcz39_3 : wr.cell? ⟨gb105, 3, none⟩ = some (.string a0_3) := (blk_cell BK105.out 3).trans rfl
                          have hcz39_4 : wr.cell? ⟨gb105, 4, none⟩ = some (.int .i64 a0_4) := (blk_cell BK105.out 4).trans rfl
                          have hfz39_0 := blk_frozen BK105.out 0
                          have hfz39_1 := blk_frozen BK105.out 1
                          have hfz39_2 := blk_frozen BK105.out 2
                          have hfz39_3 := blk_frozen BK105.out 3
                          have hfz39_4 := blk_frozen BK105.out 4
                          have p109 : 0 ≤ (x6_3 : Int) := of_decide_eq_true (by first | (with_reducible assumption) | assumption)
                          have q109 : x6_3 < (l0_1.length : Int) := of_decide_eq_true (by first | (with_reducible assumption) | assumption)
                          obtain ⟨ad109, e109, hx109_0, hx109_1⟩ := at_T48 HR0_1.out x6_3 p109 q109
                          cases e109
                          replace hx109_0 := (HB.out.cell (World.block_lt_of_cell? w _ hx109_0)).trans hx109_0
                          replace hx109_1 := (HB.out.cell (World.block_lt_of_cell? w _ hx109_1)).trans hx109_1
                          replace p109 := eq_true p109
                          replace q109 := eq_true q109
                          have hcz40_0 : wr.cell? ⟨gb106, 0, none⟩ = some (.slice A1_0 l1_0.length c1_0) := (blk_cell BK106.out 0).trans rfl
                          have hcz40_1 : wr.cell? ⟨gb106, 1, none⟩ = some (.slice A1_1 l1_1.length c1_1) := (blk_cell BK106.out 1).trans rfl
                          have hcz40_2 : wr.cell? ⟨gb106, 2, none⟩ = some (.slice A1_2 l1_2.length c1_2) := (blk_cell BK106.out 2).trans rfl
                          have hcz40_3 : wr.cell? ⟨gb106, 3, none⟩ = some (.string a1_3) := (blk_cell BK106.out 3).trans rfl
                          have hcz40_4 : wr.cell? ⟨gb106, 4, none⟩ = some (.int .i64 a1_4) := (blk_cell BK106.out 4).trans rfl
                          have hfz40_0 := blk_frozen BK106.out 0
                          have hfz40_1 := blk_frozen BK106.out 1
                          have hfz40_2 := blk_frozen BK106.out 2
                          have hfz40_3 := blk_frozen BK106.out 3
                          have hfz40_4 := blk_frozen BK106.out 4
                          have p110 : 0 ≤ (x6_3 : Int) := of_decide_eq_true (by first | (with_reducible assumption) | assumption)
                          have q110 : x6_3 < (l1_1.length : Int) := of_decide_eq_true (by first | (with_reducible assumption) | assumption)
                          obtain ⟨ad110, e110, hx110_0, hx110_1⟩ := at_T48 HR1_1.out x6_3 p110 q110
                          cases e110
                          replace hx110_0 := (HB.out.cell (World.block_lt_of_cell? w _ hx110_0)).trans hx110_0
                          replace hx110_1 := (HB.out.cell (World.block_lt_of_cell? w _ hx110_1)).trans hx110_1
                          replace p110 := eq_true p110
                          replace q110 := eq_true q110
                          go_wp2
                          repeat (go_quiet (fail); try go_wp2)
                          go_ret
                          exact ⟨by first | rfl | (simp [errW_none, errW_some] <;> rfl) | (simp [*, errW_none, errW_some] <;> rfl), by repeat (first | (with_reducible first | exact HB.out | apply below_alloc | apply pw_below_drewN | apply below_drew1 | refine below_set ?_ GE105.out | refine below_set ?_ GE106.out) | exact HB.out)⟩
                        · rw [if_neg c37] at H
                          have c37b0 : (!(((rd_T48 l0_1 x6_3).f0) == ((rd_T48 l1_1 x6_3).f0)) || (!(((rd_T48 l0_1 x6_3).f1) == ((rd_T48 l1_1 x6_3).f1)))) = false := by simpa using c37
                          clear c37
                          have H' := Aside0.mk H
                          clear H
                          have hnb41 := NB105_106.out
                          have hnc41 := NB106_105.out
                          have hcz42_0 : wr.cell? ⟨gb105, 0, none⟩ = some (.slice A0_0 l0_0.length c0_0) := (blk_cell BK105.out 0).trans rfl
                          have hcz42_1 : wr.cell? ⟨gb105, 1, none⟩ = some (.slice A0_1 l0_1.length c0_1) := (blk_cell BK105.out 1).trans rfl
                          have hcz42_2 : wr.cell? ⟨gb105, 2, none⟩ = some (.slice A0_2 l0_2.length c0_2) := (blk_cell BK105.out 2).trans rfl
                          have hcz42_3 : wr.cell? ⟨gb105, 3, none⟩ = some (.string a0_3) := (blk_cell BK105.out 3).trans rfl
                          have hcz42_4 : wr.cell? ⟨gb105, 4, none⟩ = some (.int .i64 a0_4) := (blk_cell BK105.out 4).trans rfl
                          have hfz42_0 := blk_frozen BK105.out 0
                          have hfz42_1 := blk_frozen BK105.out 1
                          have hfz42_2 := blk_frozen BK105.out 2
                          have hfz42_3 := blk_frozen BK105.out 3
                          have hfz42_4 := blk_frozen BK105.out 4
                          have p109 : 0 ≤ (x6_3 : Int) := of_decide_eq_true (by first | (with_reducible assumption) | assumption)
                          have q109 : x6_3 < (l0_1.length : Int) := of_decide_eq_true (by first | (with_reducible assumption) | assumption)
                          obtain ⟨ad109, e109, hx109_0, hx109_1⟩ := at_T48 HR0_1.out x6_3 p109 q109
                          cases e109
                          replace hx109_0 := (HB.out.cell (World.block_lt_of_cell? w _ hx109_0)).trans hx109_0
                          replace hx109_1 := (HB.out.cell (World.block_lt_of_cell? w _ hx109_1)).trans hx109_1
                          replace p109 := eq_true p109
                          replace q109 := eq_true q109
                          have hcz43_0 : wr.cell? ⟨gb106, 0, none⟩ = some (.slice A1_0 l1_0.length c1_0) := (blk_cell BK106.out 0).trans rfl
                          have hcz43_1 : wr.cell? ⟨gb106, 1, none⟩ = some (.slice A1_1 l1_1.length c1_1) := (blk_cell BK106.out 1).trans rfl
                          have hcz43_2 : wr.cell? ⟨gb106, 2, none⟩ = some (.slice A1_2 l1_2.length c1_2) := (blk_cell BK106.out 2).trans rfl
                          have hcz43_3 : wr.cell? ⟨gb106, 3, none⟩ = some (.string a1_3) := (blk_cell BK106.out 3).trans rfl
                          have hcz43_4 : wr.cell? ⟨gb106, 4, none⟩ = some (.int .i64 a1_4) := (blk_cell BK106.out 4).trans rfl
                          have hfz43_0 := blk_frozen BK106.out 0
                          have hfz43_1 := blk_frozen BK106.out 1
                          have hfz43_2 := blk_frozen BK106.out 2
                          have hfz43_3 := blk_frozen BK106.out 3
                          have hfz43_4 := blk_frozen BK106.out 4
                          have p110 : 0 ≤ (x6_3 : Int) := of_decide_eq_true (by first | (with_reducible assumption) | assumption)
                          have q110 : x6_3 < (l1_1.length : Int) := of_decide_eq_true (by first | (with_reducible assumption) | assumption)
                          obtain ⟨ad110, e110, hx110_0, hx110_1⟩ := at_T48 HR1_1.out x6_3 p110 q110
                          cases e110
                          replace hx110_0 := (HB.out.cell (World.block_lt_of_cell? w _ hx110_0)).trans hx110_0
                          replace hx110_1 := (HB.out.cell (World.block_lt_of_cell? w _ hx110_1)).trans hx110_1
                          replace p110 := eq_true p110
                          replace q110 := eq_true q110
                          go_wp2
                          repeat (go_quiet (fail); try go_wp2)
                          go_roundg k3
                          case measure => have := HJ2.out; have := HK2.out; have := HK3.out; omega
                          case rel => exact ⟨(wrap64 (x6_3 + 1)), (by first | rfl | (simp; done) | (simp [*]; done)), H', ⟨by have := HJ2.out; have := HK2.out; have := HK3.out; omega⟩, ⟨by (with_reducible repeat (first | refine blk_drewN ?_ _ | refine blk_drew ?_ | refine blk_alloc ?_ _)); exact BK105.out⟩, ⟨by (with_reducible repeat (first | refine blk_drewN ?_ _ | refine blk_drew ?_ | refine blk_alloc ?_ _)); exact BK106.out⟩, ⟨by repeat (first | (with_reducible first | exact HB.out | apply below_alloc | apply pw_below_drewN | apply below_drew1 | refine below_set ?_ GE105.out | refine below_set ?_ GE106.out) | exact HB.out)⟩⟩
                      · rw [if_neg c36] at H
                        exact absurd H (by simp)
                    · rw [if_neg c35] at H
                      exact absurd H (by simp)
                  · rw [if_neg c34] at H
                    have c34b0 : decide (x6_3 < (l0_1.length : Int)) = false := decide_eq_false c34
                    clear c34
                    replace H := Option.bind_eq_some_iff.mp H
                    obtain ⟨t111, A440, H⟩ := H
                    replace H : (some t111) = some r := H
                    have A44 := Aside0.mk A440
                    clear A440
                    obtain rfl := Option.some.inj H
                    have hnb45 := NB105_106.out
                    have hnc45 := NB106_105.out
                    have hcz46_0 : wr.cell? ⟨gb105, 0, none⟩ = some (.slice A0_0 l0_0.length c0_0) := (blk_cell BK105.out 0).trans rfl
                    have hcz46_1 : wr.cell? ⟨gb105, 1, none⟩ = some (.slice A0_1 l0_1.length c0_1) := (blk_cell BK105.out 1).trans rfl
                    have hcz46_2 : wr.cell? ⟨gb105, 2, none⟩ = some (.slice A0_2 l0_2.length c0_2) := (blk_cell BK105.out 2).trans rfl
                    have hcz46_3 : wr.cell? ⟨gb105, 3, none⟩ = some (.string a0_3) := (blk_cell BK105.out 3).trans rfl
                    have hcz46_4 : wr.cell? ⟨gb105, 4, none⟩ = some (.int .i64 a0_4) := (blk_cell BK105.out 4).trans rfl
                    have hfz46_0 := blk_frozen BK105.out 0
                    have hfz46_1 := blk_frozen BK105.out 1
                    have hfz46_2 := blk_frozen BK105.out 2
                    have hfz46_3 := blk_frozen BK105.out 3
                    have hfz46_4 := blk_frozen BK105.out 4
                    have hcz47_0 : wr.cell? ⟨gb106, 0, none⟩ = some (.slice A1_0 l1_0.length c1_0) := (blk_cell BK106.out 0).trans rfl
                    have hcz47_1 : wr.cell? ⟨gb106, 1, none⟩ = some (.slice A1_1 l1_1.length c1_1) := (blk_cell BK106.out 1).trans rfl
                    have hcz47_2 : wr.cell? ⟨gb106, 2, none⟩ = some (.slice A1_2 l1_2.length c1_2) := (blk_cell BK106.out 2).trans rfl
                    have hcz47_3 : wr.cell? ⟨gb106, 3, none⟩ = some (.string a1_3) := (blk_cell BK106.out 3).trans rfl
                    have hcz47_4 : wr.cell? ⟨gb106, 4, none⟩ = some (.int .i64 a1_4) := (blk_cell BK106.out 4).trans rfl
                    have hfz47_0 := blk_frozen BK106.out 0
                    have hfz47_1 := blk_frozen BK106.out 1
                    have hfz47_2 := blk_frozen BK106.out 2
                    have hfz47_3 := blk_frozen BK106.out 3
                    have hfz47_4 := blk_frozen BK106.out 4
                    go_wp2_with (first | (go_at_call 38; (with_reducible refine (epactref12_Same.calls k3 _ _ l0_2 _ _ l1_2 t111 _ ?side1 ?side2 ?side3 ?side4 A44.out).mono ?_); (case side1 => repeat (first | exact (Kd.C_below HR0_2.out HB.out) | (with_reducible refine Kd.C_alloc ?_ _) | (with_reducible refine Kd.C_drewN ?_ _) | (with_reducible refine Kd.C_drew ?_))); (case side2 => exact HC0_2.out); (case side3 => repeat (first | exact (Kd.C_below HR1_2.out HB.out) | (with_reducible refine Kd.C_alloc ?_ _) | (with_reducible refine Kd.C_drewN ?_ _) | (with_reducible refine Kd.C_drew ?_))); (case side4 => exact HC1_2.out); rintro e w' ⟨rfl, ⟨nd, rfl⟩⟩; (try first | exact ⟨rfl, _, World.drewN_drewN _ _ _⟩ | exact ⟨rfl, _, Eq.trans (World.drewN_drewN _ _ _) (congrArg (World.drewN _) (Nat.add_assoc _ _ _))⟩)))
                    repeat (go_quiet (first | (go_at_call 38; (with_reducible refine (epactref12_Same.calls k3 _ _ l0_2 _ _ l1_2 t111 _ ?side1 ?side2 ?side3 ?side4 A44.out).mono ?_); (case side1 => repeat (first | exact (Kd.C_below HR0_2.out HB.out) | (with_reducible refine Kd.C_alloc ?_ _) | (with_reducible refine Kd.C_drewN ?_ _) | (with_reducible refine Kd.C_drew ?_))); (case side2 => exact HC0_2.out); (case side3 => repeat (first | exact (Kd.C_below HR1_2.out HB.out) | (with_reducible refine Kd.C_alloc ?_ _) | (with_reducible refine Kd.C_drewN ?_ _) | (with_reducible refine Kd.C_drew ?_))); (case side4 => exact HC1_2.out); rintro e w' ⟨rfl, ⟨nd, rfl⟩⟩; (try first | exact ⟨rfl, _, World.drewN_drewN _ _ _⟩ | exact ⟨rfl, _, Eq.trans (World.drewN_drewN _ _ _) (congrArg (World.drewN _) (Nat.add_assoc _ _ _))⟩))); try go_wp2_with (first | (go_at_call 38; (with_reducible refine (epactref12_Same.calls k3 _ _ l0_2 _ _ l1_2 t111 _ ?side1 ?side2 ?side3 ?side4 A44.out).mono ?_); (case side1 => repeat (first | exact (Kd.C_below HR0_2.out HB.out) | (with_reducible refine Kd.C_alloc ?_ _) | (with_reducible refine Kd.C_drewN ?_ _) | (with_reducible refine Kd.C_drew ?_))); (case side2 => exact HC0_2.out); (case side3 => repeat (first | exact (Kd.C_below HR1_2.out HB.out) | (with_reducible refine Kd.C_alloc ?_ _) | (with_reducible refine Kd.C_drewN ?_ _) | (with_reducible refine Kd.C_drew ?_))); (case side4 => exact HC1_2.out); rintro e w' ⟨rfl, ⟨nd, rfl⟩⟩; (try first | exact ⟨rfl, _, World.drewN_drewN _ _ _⟩ | exact ⟨rfl, _, Eq.trans (World.drewN_drewN _ _ _) (congrArg (World.drewN _) (Nat.add_assoc _ _ _))⟩))))
                    go_ret
                    exact ⟨by first | rfl | (simp [errW_none, errW_some] <;> rfl) | (simp [*, errW_none, errW_some] <;> rfl), by repeat (first | (with_reducible first | exact HB.out | apply below_alloc | apply pw_below_drewN | apply below_drew1 | refine below_set ?_ GE105.out | refine below_set ?_ GE106.out) | exact HB.out)⟩

end Go.Proofs.Ytpgjcnjojfehjaa.PBlBack
/- Plain laws of the loops that the laws of chapter 16 share: Few, Same. -/
namespace Go.Proofs.Ytpgjcnjojfehjaa.Bk
open Go.RowKit Go.Proofs.YtpgjcnjojfehjaaW.PrintWords Go.Proofs.YtpgjcnjojfehjaaW.PrintLast Go.Proofs.YtpgjcnjojfehjaaW.PrintMore Oct Kx Ab PBlBack

/-- From some number of rounds on. -/
def Ev {α : Type} (f : Nat → Option α) (r : α) : Prop := ∃ k0, ∀ k, k0 ≤ k → f k = some r
theorem Ev.step {α : Type} {f g : Nat → Option α} {r : α} (h : Ev f r) (hg : ∀ k, g (k + 1) = f k) : Ev g r := by
  obtain ⟨k0, h⟩ := h
  refine ⟨k0 + 1, fun k hk => ?_⟩
  obtain ⟨j, rfl⟩ : ∃ j, k = j + 1 := ⟨k - 1, by omega⟩
  rw [hg]
  exact h j (by omega)
theorem Ev.now {α : Type} {g : Nat → Option α} {r : α} (hg : ∀ k, g (k + 1) = some r) : Ev g r :=
  Ev.step (f := fun _ => some r) ⟨0, fun _ _ => rfl⟩ hg
theorem Ev.bind {α β : Type} {f : Nat → Option α} {g : Nat → α → Option β} {a : α} {r : β} (h1 : Ev f a) (h2 : Ev (fun k => g k a) r) : Ev (fun k => (f k).bind (g k)) r := by
  obtain ⟨k1, h1⟩ := h1
  obtain ⟨k2, h2⟩ := h2
  refine ⟨k1 + k2, fun k hk => ?_⟩
  simp only [h1 k (by omega), Option.bind_some]
  exact h2 k (by omega)
theorem next_n {i : Nat} (h : i < 1000000) : wrap64 ((i : Int) + 1) = ((i + 1 : Nat) : Int) := by
  rw [R_mod _ (by omega)]; omega
theorem same12_ev (l : List S50) (hl : l.length ≤ 1000000) : Ev (fun k => epactref12_Same.f k l l) true := by
  have key : ∀ d j : Nat, j + d = l.length → Ev (fun k => epactref12_Same.l0 k l l (j : Int)) true := by
    intro d
    induction d with
    | zero => exact fun j h => Ev.now fun k => by rw [epactref12_Same.l0, if_neg (by omega)]
    | succ d ih => exact fun j h => Ev.step (ih (j + 1) (by omega)) fun k => by rw [epactref12_Same.l0, if_pos (by omega), if_pos (by omega), if_pos (by omega), if_neg (by simp), next_n (by omega)]
  obtain ⟨k0, h⟩ := key l.length 0 (by omega)
  exact ⟨k0, fun k hk => by show epactref12_Same.f k l l = _; unfold epactref12_Same.f; rw [if_pos rfl]; exact h k hk⟩
theorem same_ev (ty : List S46) (tr : List S48) (lp : List S50) (foot : ByteArray) (ver : Int) (h0 : ty.length ≤ 1000000) (h1 : tr.length ≤ 1000000) (h2 : lp.length ≤ 1000000) :
    Ev (fun k => epactref16_Same.f k ty tr lp foot ver ty tr lp foot ver) true := by
  have key1 : ∀ d j : Nat, j + d = tr.length → Ev (fun k => epactref16_Same.l1 k (j : Int) ty tr lp foot ver ty tr lp foot ver) true := by
    intro d
    induction d with
    | zero =>
      intro j h
      refine Ev.step (f := fun k => (epactref12_Same.f k lp lp).bind fun t => some t) (Ev.bind (same12_ev lp h2) ⟨0, fun _ _ => rfl⟩) fun k => ?_
      rw [epactref16_Same.l1, if_neg (by omega)]
    | succ d ih => exact fun j h => Ev.step (ih (j + 1) (by omega)) fun k => by rw [epactref16_Same.l1, if_pos (by omega), if_pos (by omega), if_pos (by omega), if_neg (by simp), next_n (by omega)]
  have key0 : ∀ d j : Nat, j + d = ty.length → Ev (fun k => epactref16_Same.l0 k (j : Int) ty tr lp foot ver ty tr lp foot ver) true := by
    intro d
    induction d with
    | zero => exact fun j h => Ev.step (key1 tr.length 0 (by omega)) fun k => by rw [epactref16_Same.l0, if_neg (by omega)]; rfl
    | succ d ih => exact fun j h => Ev.step (ih (j + 1) (by omega)) fun k => by rw [epactref16_Same.l0, if_pos (by omega), if_pos (by omega), if_pos (by omega), if_neg (by simp), next_n (by omega)]
  have hj : Ev (fun k => epactref16_Same.j0 k (ver != ver) ty tr lp foot ver ty tr lp foot ver) true :=
    Ev.step (key0 ty.length 0 (by omega)) fun k => by rw [epactref16_Same.j0, if_neg (by simp)]; rfl
  obtain ⟨k0, h⟩ := hj
  exact ⟨k0, fun k hk => by show epactref16_Same.f k ty tr lp foot ver ty tr lp foot ver = _; unfold epactref16_Same.f; rw [if_pos rfl, if_pos rfl, if_pos rfl]; exact h k hk⟩
/-- What Few asks. -/
def fewB (ty : List S46) (tr : List S48) (lp : List S50) (foot : ByteArray) : Bool := decide ((∀ i, i < ty.length → i < 100 → (ty.getD i z46).f2.size ≤ 100) ∧ ty.length ≤ 100 ∧ tr.length ≤ 300 ∧ lp.length ≤ 300 ∧ foot.size ≤ 200)
theorem few_ev (ty : List S46) (tr : List S48) (lp : List S50) (foot : ByteArray) (ver : Int) : Ev (fun k => epactlaw16_Few.f k ty tr lp foot ver) (fewB ty tr lp foot) := by
  have last : ∀ j : Nat, (¬ (j < ty.length ∧ j < 100)) → (∀ i, i < j → i < ty.length → i < 100 → (ty.getD i z46).f2.size ≤ 100) → Ev (fun k => epactlaw16_Few.j1 k (j : Int) false ty tr lp foot ver) (fewB ty tr lp foot) := by
    intro j hj hd
    refine Ev.now fun k => ?_
    rw [epactlaw16_Few.j1, if_neg (by simp)]
    have hall : ∀ i, i < ty.length → i < 100 → (ty.getD i z46).f2.size ≤ 100 := fun i h1 h2 => hd i (by omega) h1 h2
    have hb : fewB ty tr lp foot = decide (ty.length ≤ 100 ∧ tr.length ≤ 300 ∧ lp.length ≤ 300 ∧ foot.size ≤ 200) := by
      unfold fewB
      exact decide_eq_decide.2 ⟨fun h => h.2, fun h => ⟨hall, h⟩⟩
    rw [hb]
    by_cases h1 : ty.length ≤ 100
    · rw [if_pos (by omega)]
      by_cases h2 : tr.length ≤ 300
      · rw [if_pos (by omega)]
        by_cases h3 : lp.length ≤ 300
        · rw [if_pos (by omega)]
          exact congrArg some (decide_eq_decide.2 ⟨fun h => ⟨h1, h2, h3, by omega⟩, fun h => by omega⟩)
        · rw [if_neg (by omega), decide_eq_false (fun h => h3 h.2.2.1)]
      · rw [if_neg (by omega), decide_eq_false (fun h => h2 h.2.1)]
    · rw [if_neg (by omega), decide_eq_false (fun h => h1 h.1)]
  have key : ∀ d j : Nat, j + d = 101 → (∀ i, i < j → i < ty.length → i < 100 → (ty.getD i z46).f2.size ≤ 100) → Ev (fun k => epactlaw16_Few.l0 k (j : Int) ty tr lp foot ver) (fewB ty tr lp foot) := by
    intro d
    induction d with
    | zero =>
      intro j h hd
      have hf : ¬ ((j : Int) < 100) := by omega
      refine Ev.step (last j (by omega) hd) fun k => ?_
      rw [epactlaw16_Few.l0, decide_eq_false hf]
      split <;> rfl
    | succ d ih =>
      intro j h hd
      by_cases h1 : j < ty.length
      · by_cases h2 : j < 100
        · have hl : Ev (fun k => epactlaw16_Few.j1 k (j : Int) true ty tr lp foot ver) (fewB ty tr lp foot) := by
            by_cases h3 : (ty.getD j z46).f2.size ≤ 100
            · refine Ev.step (ih (j + 1) (by omega) (fun i hi a b => ?_)) fun k => ?_
              · by_cases e : i = j
                · subst e; exact h3
                · exact hd i (by omega) a b
              · rw [epactlaw16_Few.j1, if_pos rfl, if_pos (by omega), if_pos (by omega), if_neg (show ¬ (((rd_T46 ty (j : Int)).f2.size : Int) > 100) by unfold rd_T46; rw [Int.toNat_natCast]; omega), next_n (by omega)]
            · refine Ev.now fun k => ?_
              rw [epactlaw16_Few.j1, if_pos rfl, if_pos (by omega), if_pos (by omega), if_pos (show (((rd_T46 ty (j : Int)).f2.size : Int) > 100) by unfold rd_T46; rw [Int.toNat_natCast]; omega)]
              unfold fewB
              rw [decide_eq_false (fun h => h3 (h.1 j h1 h2))]
          refine Ev.step hl fun k => ?_
          rw [epactlaw16_Few.l0, if_pos (by omega), decide_eq_true (show ((j : Int) < 100) by omega)]
        · refine Ev.step (last j (by omega) hd) fun k => ?_
          rw [epactlaw16_Few.l0, if_pos (by omega), decide_eq_false (show ¬ ((j : Int) < 100) by omega)]
      · refine Ev.step (last j (by omega) hd) fun k => ?_
        rw [epactlaw16_Few.l0, if_neg (by omega)]
  exact key 101 0 (by omega) (fun i hi => absurd hi (Nat.not_lt_zero i))
theorem few_parts {ty : List S46} {tr : List S48} {lp : List S50} {foot : ByteArray} (h : fewB ty tr lp foot = true) : (∀ i, i < ty.length → i < 100 → (ty.getD i z46).f2.size ≤ 100) ∧ ty.length ≤ 100 ∧ tr.length ≤ 300 ∧ lp.length ≤ 300 ∧ foot.size ≤ 200 := of_decide_eq_true h
theorem few_ok {ty : List S46} {tr : List S48} {lp : List S50} {foot : ByteArray} (h : fewB ty tr lp foot = true) : okZ ty tr lp = true := by
  obtain ⟨h0, h1, h2, h3, -⟩ := few_parts h
  unfold okZ
  rw [Bool.and_eq_true, decide_eq_true_eq, List.all_eq_true]
  refine ⟨⟨h1, by omega, by omega⟩, fun t ht => decide_eq_true ?_⟩
  obtain ⟨i, hi, rfl⟩ := List.mem_iff_getElem.1 ht
  have := h0 i hi (by omega)
  rw [List.getD, List.getElem?_eq_getElem hi] at this
  exact Nat.le_trans this (by omega)
theorem count_back {ty : List S46} {tr : List S48} {lp : List S50} {foot : ByteArray} {ver size : Int} (hok : okZ ty tr lp = true) (hg : encG ty tr lp ver size = true) : countF ty tr lp foot ver = some (ver, 0, 0, (lp.length : Int), (tr.length : Int), (ty.length : Int), ((poolT (namesL ty)).1.size : Int), true) := by
  obtain ⟨h1, h2, -⟩ := enc_parts hg
  unfold countF countN
  rw [hok, h1, h2]
  rfl
theorem body_small {ty : List S46} {tr : List S48} {lp : List S50} {ver size : Int} (h1 : ty.length ≤ 100) (h2 : tr.length ≤ 300) (h3 : lp.length ≤ 300) (hg : encG ty tr lp ver size = true) : (bodyN ty tr lp size).length ≤ 10000 := by
  have hl := body_len hg
  obtain ⟨-, p2, p3, -⟩ := enc_parts hg
  have p4 : (poolT (namesL ty)).1.size ≤ 256 := pool_size _
  unfold sizeF at hl
  rw [p2] at hl
  simp only at hl
  rw [if_pos p3] at hl
  rcases p3 with rfl | rfl <;> omega
theorem dec_back {ty : List S46} {tr : List S48} {lp : List S50} {foot : ByteArray} {ver size : Int} (hb : fewB ty tr lp foot = true) (hz : RZ ty tr lp) (hg : encG ty tr lp ver size = true) :
    decF ver 0 0 lp.length tr.length ty.length (poolT (namesL ty)).1.size (bodyN ty tr lp size) size = some (ty, tr, lp, ⟨#[]⟩, ver, true) := by
  obtain ⟨h0, h1, h2, h3, -⟩ := few_parts hb
  have hs := body_small h1 h2 h3 hg
  unfold decF
  rw [decide_eq_true (by omega), zone_back hz hg]
end Go.Proofs.Ytpgjcnjojfehjaa.Bk
/- A slice that an append has been given keeps its elements: the kit's printed step with one fact more. -/
namespace Go.Proofs.Ytpgjcnjojfehjaa.Bk
open Go.RowKit Go.Proofs.YtpgjcnjojfehjaaW.PrintWords Go.Proofs.YtpgjcnjojfehjaaW.PrintLast Go.Proofs.YtpgjcnjojfehjaaW.PrintMore Kd
section
variable {α : Type} {P : Program} {ops : Array Oper} {o : Oper} {a : Act} {Q : Exit → Act → World → Prop} {Kc : Act → World → Prop}
theorem R_append_keep_step (d : Kd α) {Rr : α → List Value → Prop} {w0 W : World} (base : Nat) (hw : Region.wanted o (yielded ops a.tmps) = true) (s x : Operand) (t e : TypeId) (z : Value) (bytes : Nat)
    (ho : o.op = .call { callee := .builtin .append, args := #[s, x], argTypes := #[t, t] })
    (ht : P.underlying t = some (.slice e)) (hinfo : (P.info? e).map (fun i => (i.zero, i.size, i.bytes)) = some (some z, d.sz, bytes)) (hz : z.cells.size = d.sz) (hs0 : 0 < d.sz) (hb0 : 0 < bytes)
    (v : Value) (xs ys : List α) (A : Option Addr) (m c : Nat) (ok okp : Nat → Prop) (hs : a.eval s = v) (hx : a.eval x = .slice A m c)
    (HO : d.R e W base ok v xs) (HR : ReadsRow Rr d.sz W A m ys) (hKM : ∀ x cs, Rr x cs → d.M W base okp x cs) (hokp : ∀ k, okp k → ok k ∧ some k ≠ v.ownBlock) (hfresh : ∀ k, W.heap.size ≤ k → ok k)
    (HB : Below base w0 W) (hbase : base ≤ W.heap.size) (hl : (xs.length + m) * bytes ≤ 140737488355328)
    (h : ∀ v1 w1, d.R e w1 base ok v1 (xs ++ ys) → Below base w0 w1 → W.grownBy w1 v.ownBlock → (v1.ownBlock = v.ownBlock ∨ ∃ b, v1.ownBlock = some b ∧ W.heap.size ≤ b) → d.R e w1 base ok v xs → Kc (a.put o.dst v1) w1) :
    if Region.wanted o (yielded ops a.tmps) = true then Oper.wp P o a W Kc Q else Kc (a.put o.dst undef) W := by
  obtain ⟨i0, hi, hzz⟩ := Option.map_eq_some_iff.1 hinfo
  simp only [Prod.mk.injEq] at hzz
  obtain ⟨hz0, hz1, hz2⟩ := hzz
  have hm : ys.length = m := HR.1
  have hlen : xs.length + m ≤ 140737488355328 := Nat.le_trans (Nat.le_mul_of_pos_right _ hb0) hl
  have HC := HO
  obtain ⟨hok, inner, hown, hr⟩ := HO
  have hrun : ∃ v1 w1, (Builtin.append_ #[t, t] o.type #[v, .slice A m c]).run P W = .ok v1 w1 ∧ d.R e w1 base ok v1 (xs ++ ys) ∧ W.grownBy w1 v.ownBlock ∧ (v1.ownBlock = v.ownBlock ∨ ∃ b, v1.ownBlock = some b ∧ W.heap.size ≤ b) ∧ d.R e w1 base ok v xs := by
    rcases A with _ | ad
    · have h0 : m = 0 := by
        rcases Nat.eq_zero_or_pos m with h0 | h0
        · exact h0
        · obtain ⟨ad, h, _⟩ := HR.2.2 h0
          cases h
      subst h0
      obtain rfl : ys = [] := List.eq_nil_of_length_eq_zero hm
      refine ⟨v, W, ?_, by rw [List.append_nil]; exact ⟨hok, inner, hown, hr⟩, World.grownBy.refl W _, .inl rfl, HC⟩
      rcases hown.2 with ⟨rfl, hn⟩ | ⟨g, cap, cur, rfl, _, _, hnc, _⟩
      · simp [Builtin.append_, run_underlying ht, sizeOf, typeInfo, hi, Builtin.lenOf, Builtin.firstCells]
      · simp [Builtin.append_, run_underlying ht, sizeOf, typeInfo, hi, Builtin.lenOf, Builtin.firstCells, hnc, storeCells]
    · obtain ⟨news, hnr, hnc⟩ := ReadsRow.inner_ HR
      have hnM : Reps (d.M W base okp) d.sz ys news := hnr.imp_ (fun p c hp => hKM p c hp)
      have hone : ∀ u ∈ news, u.oneCell' = true := by
        intro u hu
        obtain ⟨q, hq, rfl⟩ := List.mem_iff_getElem.1 hu
        have hql : q / d.sz < ys.length := by
          rw [Nat.div_lt_iff_lt_mul hs0]
          rw [← hnM.1]
          exact hq
        have hc := hnM.2 (q / d.sz) _ (List.getElem?_eq_getElem hql)
        refine d.K_one (d.K_of_M hc) _ ?_
        rw [List.mem_iff_getElem?]
        refine ⟨q % d.sz, ?_⟩
        rw [List.getElem?_take, if_pos (Nat.mod_lt _ hs0), List.getElem?_drop, Nat.mul_comm, Nat.div_add_mod, List.getElem?_eq_getElem hq]
      obtain ⟨v1, w1, hrun, h2, hg, _, hat⟩ := run_append_own_at (P := P) W base t o.type e i0 z d.sz bytes ht hi hz0 hz1 hz2 hz hs0 v xs.length inner hown ad m c news (by rw [hnM.1, hm]) hnc hone (by simp only [maxLen]; omega) hl hbase
      have hat' : v1.ownBlock = v.ownBlock ∨ ∃ b, v1.ownBlock = some b ∧ W.heap.size ≤ b := by
        rcases hat with hat | hat
        · exact .inl hat
        · exact .inr ⟨_, hat, Nat.le_refl _⟩
      have hne : ∀ k, some k ≠ v.ownBlock → k < W.heap.size → some k ≠ v1.ownBlock := by
        intro k hk hlt
        rcases hat' with hat | ⟨b, hb, hle⟩
        · rw [hat]; exact hk
        · rw [hb]
          intro he
          injection he with he
          omega
      have step : ∀ {q : α} {c : List Value} {o : Nat → Prop}, d.M W base o q c → (∀ k, o k → ok k ∧ some k ≠ v.ownBlock) → d.M w1 base (fun k => ok k ∧ some k ≠ v1.ownBlock) q c := by
        intro q c o hq ho
        have h1 := d.M_move (w1 := w1) (fun k hk => hg.block k hk.2.2.1 (ho k hk.1).2) (d.M_bound hq)
        exact d.M_mono (fun k hk => ⟨(ho k hk.1).1, hne k (ho k hk.1).2 hk.2.2.1⟩) h1
      have hR1 : d.R e w1 base ok v1 (xs ++ ys) := by
        refine ⟨fun k hk => ?_, inner ++ news, by rw [List.length_append, hm]; exact h2, reps_append (hr.imp_ (fun _ _ hq => step hq (fun _ hk => hk))) (hnM.imp_ (fun _ _ hq => step hq hokp))⟩
        rcases hat' with hat | ⟨b, hb, hle⟩
        · exact hok k (hat ▸ hk)
        · rw [hb] at hk
          injection hk with hk
          exact hfresh k (by omega)
      refine ⟨v1, w1, hrun, hR1, hg, hat', ?_⟩
      have hnl : news.length = m * d.sz := by rw [hnM.1, hm]
      rcases hown.2 with ⟨hv, hn⟩ | ⟨g, cap, cur, hv, hbg, hgc, hnc', hcm, hcs, htake⟩
      · have hx0 : xs = [] := List.eq_nil_of_length_eq_zero hn
        rw [hv, hx0]
        exact R_nil d e w1 base ok
      · by_cases hroom : xs.length + m ≤ cap
        · have hfit : xs.length * i0.size + news.length ≤ cur.size := by rw [hnl, hcs, hz1, ← Nat.add_mul]; exact Nat.mul_le_mul_right _ hroom
          have hra := Go.run_append_room (P := P) W t o.type e i0 ht hi g xs.length cap cur hgc ad m c news (by rw [hz1]; exact hnl) hnc hone hroom hfit
          have hrun2 := hrun
          rw [hv, hra] at hrun2
          injection hrun2 with f1 f2
          have ho1 : v1.ownBlock = v.ownBlock := by rw [← f1, hv]; rfl
          refine ⟨hok, inner, ⟨hown.1, .inr ⟨g, cap, ?_⟩⟩, hr.imp_ (fun _ _ hq => by rw [← ho1]; exact step hq (fun _ hk => hk))⟩
          rcases h2.2 with ⟨hv1, _⟩ | ⟨g1, cap1, cur1, hv1, hbg1, hgc1, hnc1, hcm1, hcs1, htake1⟩
          · rw [← f1] at hv1
            injection hv1 with hv1
            cases hv1
          · rw [← f1] at hv1
            injection hv1 with hv1 _ hv2
            injection hv1 with hv1
            injection hv1 with hv1
            subst hv1 hv2
            refine ⟨cur1, hv, hbg, hgc1, hnc', hcm, hcs1, ?_⟩
            have h3 := congrArg (List.take inner.length) htake1
            rw [List.take_left, List.take_take, Nat.min_eq_left (by have e1 := hown.1; rw [e1]; exact Nat.mul_le_mul_right _ (by omega))] at h3
            rw [hown.1] at h3
            exact h3
        · have holds : ∀ j u, inner[j]? = some u → W.cell? ((⟨g, 0, none⟩ : Addr).add j) = some u := hown.cells (g := g) (by rw [hv]; rfl)
          have hra := Go.run_append_grow (P := P) W t o.type e i0 z ht hi hz0 ⟨g, 0, none⟩ xs.length cap inner (by rw [hz1]; exact hown.1) holds ad m c news (by rw [hz1]; exact hnl) hnc (by omega) (by omega) (growslice_fits (by omega) (by rw [hz2]; exact hl))
          have hrun2 := hrun
          rw [hv, hra] at hrun2
          injection hrun2 with f1 f2
          rw [← f2]
          exact R_alloc (R_drew HC) _
  obtain ⟨v1, w1, hr1, h1, hg, hat, hkp⟩ := hrun
  rw [if_pos hw]
  unfold Oper.wp execOp
  simp only [ho, resolve, invoke, builtin, Sem.run_bind, Sem.run_pure, Result.andThen_ok, List.map_toArray, List.map_cons, List.map_nil, hs, hx, hr1]
  exact h v1 w1 h1 (HB.grown hg hbase (own_base hown)) hg hat hkp
end
end Go.Proofs.Ytpgjcnjojfehjaa.Bk
/- The small cases of chapter 16 come out right: the walk by hand; condition: none. -/
namespace Go.Proofs.Ytpgjcnjojfehjaa.Bk
open Go.RowKit Go.Proofs.YtpgjcnjojfehjaaW.PrintWords Go.Proofs.YtpgjcnjojfehjaaW.PrintLast Go.Proofs.YtpgjcnjojfehjaaW.PrintMore Oct Kx Ab PBlBack

/-- A literal of one block. -/
theorem lit_event {P : Program} {ops : Array Oper} {Q : Exit → Act → World → Prop} {o : Oper} {rest : List Oper} {a : Act} {W : World} (hgd : o.guard = none) {N : Tmp} (_hd : o.dst = some N) {n : Nat} {cs : Array Value} {t : TypeId}
    (hrun : (execOp a.eval o).run P W = .ok (.value (.slice (some ⟨W.heap.size, 0, none⟩) n n)) (W.alloc (.cells cs t (0, 0))))
    (h : ∀ g, g = W.heap.size → ∀ w1, w1.heap[g]? = some (.cells cs t (0, 0)) → Below W.heap.size W w1 → wpList P ops Q rest (a.put o.dst (.slice (some ⟨g, 0, none⟩) n n)) w1) : wpList P ops Q (o :: rest) a W :=
  Kd.event_run hgd hrun (h _ rfl _ (blk_new W _) (below_alloc (Below.refl _ _) _))
/-- A head's block, written. -/
def set7 (W : World) (g : Nat) (a b c d e f h : Value) : World := ((((((W.setCell ⟨g, 0, none⟩ a).setCell ⟨g, 1, none⟩ b).setCell ⟨g, 2, none⟩ c).setCell ⟨g, 3, none⟩ d).setCell ⟨g, 4, none⟩ e).setCell ⟨g, 5, none⟩ f).setCell ⟨g, 6, none⟩ h
theorem set7_below {w W : World} {g : Nat} (hb : Below w.heap.size w W) (hg : w.heap.size ≤ g) (a b c d e f h : Value) : Below w.heap.size w (set7 W g a b c d e f h) :=
  Below.setCell (p := ⟨g, 6, none⟩) (Below.setCell (p := ⟨g, 5, none⟩) (Below.setCell (p := ⟨g, 4, none⟩) (Below.setCell (p := ⟨g, 3, none⟩) (Below.setCell (p := ⟨g, 2, none⟩) (Below.setCell (p := ⟨g, 1, none⟩) (Below.setCell (p := ⟨g, 0, none⟩) hb hg a) hg b) hg c) hg d) hg e) hg f) hg h
theorem set7_blk {W : World} {g T : Nat} {x0 x1 x2 x3 x4 x5 x6 : Value} (hx : W.heap[g]? = some (.cells #[x0, x1, x2, x3, x4, x5, x6] T (0, 0))) (a b c d e f h : Value) : (set7 W g a b c d e f h).heap[g]? = some (.cells #[a, b, c, d, e, f, h] T (0, 0)) := by
  have h0 : (W.setCell ⟨g, 0, none⟩ a).heap[g]? = some (.cells #[a, x1, x2, x3, x4, x5, x6] T (0, 0)) := blk_set hx 0 a
  have h1 : ((W.setCell ⟨g, 0, none⟩ a).setCell ⟨g, 1, none⟩ b).heap[g]? = some (.cells #[a, b, x2, x3, x4, x5, x6] T (0, 0)) := blk_set h0 1 b
  have h2 : (((W.setCell ⟨g, 0, none⟩ a).setCell ⟨g, 1, none⟩ b).setCell ⟨g, 2, none⟩ c).heap[g]? = some (.cells #[a, b, c, x3, x4, x5, x6] T (0, 0)) := blk_set h1 2 c
  have h3 : ((((W.setCell ⟨g, 0, none⟩ a).setCell ⟨g, 1, none⟩ b).setCell ⟨g, 2, none⟩ c).setCell ⟨g, 3, none⟩ d).heap[g]? = some (.cells #[a, b, c, d, x4, x5, x6] T (0, 0)) := blk_set h2 3 d
  have h4 : (((((W.setCell ⟨g, 0, none⟩ a).setCell ⟨g, 1, none⟩ b).setCell ⟨g, 2, none⟩ c).setCell ⟨g, 3, none⟩ d).setCell ⟨g, 4, none⟩ e).heap[g]? = some (.cells #[a, b, c, d, e, x5, x6] T (0, 0)) := blk_set h3 4 e
  have h5 : ((((((W.setCell ⟨g, 0, none⟩ a).setCell ⟨g, 1, none⟩ b).setCell ⟨g, 2, none⟩ c).setCell ⟨g, 3, none⟩ d).setCell ⟨g, 4, none⟩ e).setCell ⟨g, 5, none⟩ f).heap[g]? = some (.cells #[a, b, c, d, e, f, x6] T (0, 0)) := blk_set h4 5 f
  have h6 : (((((((W.setCell ⟨g, 0, none⟩ a).setCell ⟨g, 1, none⟩ b).setCell ⟨g, 2, none⟩ c).setCell ⟨g, 3, none⟩ d).setCell ⟨g, 4, none⟩ e).setCell ⟨g, 5, none⟩ f).setCell ⟨g, 6, none⟩ h).heap[g]? = some (.cells #[a, b, c, d, e, f, h] T (0, 0)) := blk_set h5 6 h
  exact h6
/-- A row that lies in one block. -/
theorem row_C {α : Type} {d : Kd α} {W : World} {g n e : Nat} {cs : Array Value} {xs : List α} (hb : W.heap[g]? = some (.cells cs e (0, 0))) (hx : xs.length = n) (hn : n ≤ 1000000) (hl : cs.size = n * d.sz) (hrep : Reps (d.M W g (fun _ => True)) d.sz xs cs.toList) (hE : d.E = []) : d.C W (some ⟨g, 0, none⟩) n xs := by
  subst hx
  have h : d.R e W g (fun _ => True) (.slice (some ⟨g, 0, none⟩) xs.length xs.length) xs := by
    refine ⟨fun _ _ => trivial, cs.toList, ⟨by simp [hl], .inr ⟨g, xs.length, cs, by simp, Nat.le_refl _, hb, by simp, by unfold maxLen; omega, by rw [hl], ?_⟩⟩, hrep.imp_ (fun x c hp => d.M_mono (fun k hk => ⟨trivial, ?_⟩) (d.M_bound hp))⟩
    · rw [List.take_of_length_le (by simp [hl])]
    · obtain ⟨_, _, _, q, hq, _⟩ := hk
      rw [hE] at hq
      cases hq
  exact (Kd.R_reads' h).2.2
/-- What a region leaves that appends to the row va: all other blocks of W0 stand. -/
structure Al (w W0 W : World) (va : Value) : Prop where
  keep : ∀ k, k < W0.heap.size → some k ≠ va.ownBlock → W.heap[k]? = W0.heap[k]?
  below : Below w.heap.size w W
  size : W0.heap.size ≤ W.heap.size
section
variable {w W0 W W1 : World} {va : Value}
theorem Al.start (h : Below w.heap.size w W) : Al w W W va := ⟨fun _ _ _ => rfl, h, Nat.le_refl _⟩
theorem Al.step (h : Al w W0 W va) (hb : Below W.heap.size W W1) : Al w W0 W1 va :=
  ⟨fun k hk hn => (hb.block k (Nat.lt_of_lt_of_le hk h.size)).trans (h.keep k hk hn), below_step h.below hb, Nat.le_trans h.size hb.size⟩
theorem Al.grown (h : Al w W0 W va) (hg : W.grownBy W1 va.ownBlock) (hbase : ∀ k, va.ownBlock = some k → w.heap.size ≤ k) : Al w W0 W1 va :=
  ⟨fun k hk hn => (hg.block k (Nat.lt_of_lt_of_le hk h.size) hn).trans (h.keep k hk hn), below_grown h.below hg hbase, Nat.le_trans h.size hg.size⟩
theorem Al.blk (h : Al w W0 W va) {g : Nat} {o : Obj} (hx : W0.heap[g]? = some o) (hn : some g ≠ va.ownBlock) : W.heap[g]? = some o := (h.keep g (blk_lt hx) hn).trans hx
theorem Al.set5 (h : Al w W0 W va) {g : Nat} (hg : W0.heap.size ≤ g) (hw : w.heap.size ≤ W0.heap.size) (a b c d e : Value) : Al w W0 (set5 W g a b c d e) va :=
  ⟨fun k hk hn => by
    have hne : k ≠ g := by omega
    unfold Bk.set5
    exact ((Below.heap_setCell _ ⟨g, 4, none⟩ _ k hne).trans ((Below.heap_setCell _ ⟨g, 3, none⟩ _ k hne).trans ((Below.heap_setCell _ ⟨g, 2, none⟩ _ k hne).trans ((Below.heap_setCell _ ⟨g, 1, none⟩ _ k hne).trans ((Below.heap_setCell _ ⟨g, 0, none⟩ _ k hne).trans (h.keep k hk hn)))))),
   set5_below h.below (Nat.le_trans hw hg) a b c d e, by simpa [Bk.set5, World.setCell] using h.size⟩
theorem Al.row {α : Type} {d : Kd α} {e base : Nat} {ok : Nat → Prop} {v : Value} {xs : List α} (h : Al w W0 W va) (hr : d.R e W0 base ok v xs) (hok : ∀ k, ok k → some k ≠ va.ownBlock) : d.R e W base ok v xs := Kd.R_step hr (fun k hk hl => h.keep k hl (hok k hk))
end
/-- A row that was made behind another one's is none of its block. -/
theorem row_new {α β : Type} {d : Kd α} {d' : Kd β} {e e' base : Nat} {w W : World} {ok ok' : Nat → Prop} {v u : Value} {xs : List α} {ys : List β} (h : d.R e w W.heap.size ok v xs) (hu : d'.R e' W base ok' u ys) : d.R e w W.heap.size (fun k => ok k ∧ some k ≠ u.ownBlock) v xs := Kd.R_newR h hu
/-- A row of other types is none of its block. -/
theorem row_types {α β : Type} {d : Kd α} {d' : Kd β} {e e' base base' : Nat} {W : World} {ok ok' : Nat → Prop} {v u : Value} {xs : List α} {ys : List β} (h : d.R e W base ok v xs) (hu : d'.R e' W base' ok' u ys) (ht : ∀ q, q ∈ e :: d.E → q ≠ e') : d.R e W base (fun k => ok k ∧ some k ≠ u.ownBlock) v xs :=
  Kd.R_mono (Kd.R_bound h) (fun k hk => ⟨hk.1, fun e1 => by
    obtain ⟨_, _, _, q, hq, cells, hc⟩ := hk
    obtain ⟨inner, ho⟩ := Kd.R_own hu
    obtain ⟨cells', hc'⟩ := own_typed ho k e1.symm
    rw [hc] at hc'
    injection hc' with hc'
    injection hc' with _ hc'
    exact ht q hq hc'⟩)
theorem C_none {α : Type} (d : Kd α) (W : World) (A : Option Addr) : d.C W A 0 [] := ⟨rfl, by simp, fun h => absurd h (Nat.lt_irrefl 0)⟩
/-- What two stores into one cell leave, the second of what stood there. -/
theorem back_same {W W2 : World} {g i T : Nat} {cs : Array Value} {u v : Value} (hx : W.heap[g]? = some (.cells cs T (0, 0))) (hv : cs[i]? = some v) (hb : Below (W.setCell ⟨g, i, none⟩ u).heap.size (W.setCell ⟨g, i, none⟩ u) W2) : Below W.heap.size W (W2.setCell ⟨g, i, none⟩ v) := by
  have hs : (W.setCell ⟨g, i, none⟩ u).heap.size = W.heap.size := by simp [World.setCell]
  have h0 : Below 0 W (W.setCell ⟨g, i, none⟩ u) := Below.setCell (p := ⟨g, i, none⟩) (Below.refl 0 W) (Nat.zero_le _) u
  have h1 : Below 0 (W.setCell ⟨g, i, none⟩ u) W2 := hb.mono (Nat.zero_le _)
  have h2 : Below 0 W (W2.setCell ⟨g, i, none⟩ v) := Below.setCell (p := ⟨g, i, none⟩) (h0.trans h1) (Nat.zero_le _) v
  refine ⟨h2.os, h2.tape, h2.output, h2.size, fun k hk => ?_⟩
  by_cases hkg : k = g
  · subst hkg
    have e1 := (hb.block k (by rw [hs]; exact hk)).trans (blk_set hx i u)
    have e2 := blk_set e1 i v
    rw [e2, hx]
    congr 2
    apply Array.ext_getElem?
    intro j
    rw [Array.getElem?_setIfInBounds, Array.getElem?_setIfInBounds]
    by_cases hj : i = j
    · subst hj
      have hlt := (Array.getElem?_eq_some_iff.1 hv).1
      simp [hlt]
      exact (Array.getElem?_eq_some_iff.1 hv).2.symm
    · simp [hj]
  · exact (Below.heap_setCell W2 ⟨g, i, none⟩ v k hkg).trans ((hb.block k (by rw [hs]; exact hk)).trans (Below.heap_setCell W ⟨g, i, none⟩ u k hkg))
def T10 : Bool × List (List Nat × List Nat) := (true, [([], []), ([], []), ([], []), ([1, 2], [1, 2]), ([0, 3, 3], [0, 3]), ([4], [4]), ([5], [5]), ([5], [5]), ([], []), ([8, 6, 4, 0, 1, 2, 3, 4, 5, 6, 8], [6, 8]), ([7, 9, 0, 1, 2, 3, 4, 5, 6, 7, 8, 9], [7])])
def B10 : List Nat := [0, 0, 0, 6, 15, 31, 63, 63, 0, 383, 1023]
theorem tab10 : rtab .any (opsOf Try.f8 10) = T10 := by kernel_rfl
theorem bits10 : waitsOk T10.2 B10 = true := by kernel_rfl
def sT : List S46 := [⟨0, false, ⟨#[85, 84, 67]⟩⟩]
def sA : List Int := [0, 0, 0, 0, 0, 0, 85, 84, 67, 0]
def yT : List S46 := [⟨-18000, false, ⟨#[69, 83, 84]⟩⟩, ⟨-14400, true, ⟨#[69, 68, 84]⟩⟩]
def yC : List S48 := [⟨-5, 1⟩]
def yD : List S48 := [⟨2147483648, 1⟩]
def yL : List S50 := [⟨7, 1⟩]
def sF : List Int := [255, 255, 255, 251, 1, 255, 255, 185, 176, 0, 0, 255, 255, 199, 192, 1, 4, 69, 83, 84, 0, 69, 68, 84, 0, 0, 0, 0, 7, 0, 0, 0, 1]
theorem rowT {W : World} {g : Nat} (hb : W.heap[g]? = some (.cells #[.int .i64 0, .bool false, .string ⟨#[85, 84, 67]⟩] 46 (0, 0))) : Kd.C k46 W (some ⟨g, 0, none⟩) 1 sT :=
  row_C hb rfl (by omega) rfl (Reps.c3 (show Kd.M k46 _ _ _ (⟨0, false, ⟨#[85, 84, 67]⟩⟩ : S46) [.int .i64 0, .bool false, .string ⟨#[85, 84, 67]⟩] from k46_mkM _ _ _ (⟨0, false, ⟨#[85, 84, 67]⟩⟩ : S46)) (Reps.none _ _)) rfl
theorem rowY {W : World} {g : Nat} (hb : W.heap[g]? = some (.cells #[.int .i64 (-18000), .bool false, .string ⟨#[69, 83, 84]⟩, .int .i64 (-14400), .bool true, .string ⟨#[69, 68, 84]⟩] 46 (0, 0))) : Kd.C k46 W (some ⟨g, 0, none⟩) 2 yT :=
  row_C hb rfl (by omega) rfl (Reps.c3 (show Kd.M k46 _ _ _ (⟨-18000, false, ⟨#[69, 83, 84]⟩⟩ : S46) [.int .i64 (-18000), .bool false, .string ⟨#[69, 83, 84]⟩] from k46_mkM _ _ _ (⟨-18000, false, ⟨#[69, 83, 84]⟩⟩ : S46)) (Reps.c3 (show Kd.M k46 _ _ _ (⟨-14400, true, ⟨#[69, 68, 84]⟩⟩ : S46) [.int .i64 (-14400), .bool true, .string ⟨#[69, 68, 84]⟩] from k46_mkM _ _ _ (⟨-14400, true, ⟨#[69, 68, 84]⟩⟩ : S46)) (Reps.none _ _))) rfl
theorem rowC {W : World} {g : Nat} (x y : Int) (hb : W.heap[g]? = some (.cells #[.int .i64 x, .int .i64 y] 48 (0, 0))) : Kd.C k48 W (some ⟨g, 0, none⟩) 1 [⟨x, y⟩] :=
  row_C hb rfl (by omega) rfl (Reps.c2 (show Kd.M k48 _ _ _ (⟨x, y⟩ : S48) [.int .i64 x, .int .i64 y] from k48_mkM _ _ _ (⟨x, y⟩ : S48)) (Reps.none _ _)) rfl
theorem rowL {W : World} {g : Nat} (hb : W.heap[g]? = some (.cells #[.int .i64 7, .int .i64 1] 50 (0, 0))) : Kd.C k50 W (some ⟨g, 0, none⟩) 1 yL :=
  row_C hb rfl (by omega) rfl (Reps.c2 (show Kd.M k50 _ _ _ (⟨7, 1⟩ : S50) [.int .i64 7, .int .i64 1] from k50_mkM _ _ _ (⟨7, 1⟩ : S50)) (Reps.none _ _)) rfl
theorem str_A : strOfNums sA = ⟨#[0, 0, 0, 0, 0, 0, 85, 84, 67, 0]⟩ := by kernel_rfl
theorem str_F : strOfNums sF = ⟨#[255, 255, 255, 251, 1, 255, 255, 185, 176, 0, 0, 255, 255, 199, 192, 1, 4, 69, 83, 84, 0, 69, 68, 84, 0, 0, 0, 0, 7, 0, 0, 0, 1]⟩ := by kernel_rfl
theorem e_z8 : encF sT [] [] ⟨#[]⟩ 2 8 = some (sA, true) := by kernel_rfl
theorem c_z : countF sT [] [] ⟨#[]⟩ 2 = some (2, 0, 0, 0, 0, 1, 4, true) := by kernel_rfl
theorem d_z8 : decF 2 0 0 0 0 1 4 sA 8 = some (sT, [], [], ⟨#[]⟩, 2, true) := by kernel_rfl
theorem e_y4 : encF yT yC yL ⟨#[]⟩ 4 4 = some (sF, true) := by kernel_rfl
theorem c_y : countF yT yC yL ⟨#[]⟩ 4 = some (4, 0, 0, 1, 1, 2, 8, true) := by kernel_rfl
theorem d_y4 : decF 4 0 0 1 1 2 8 sF 4 = some (yT, yC, yL, ⟨#[]⟩, 4, true) := by kernel_rfl
theorem e_none : encF [] [] [] ⟨#[]⟩ 2 8 = some ([], false) := by kernel_rfl
theorem d_more : decF 2 0 0 0 0 1 4 (sA ++ [0]) 8 = some ([], [], [], ⟨#[]⟩, 0, false) := by kernel_rfl
theorem e_far : encF yT yD yL ⟨#[]⟩ 4 4 = some ([], false) := by kernel_rfl
set_option maxHeartbeats 4000000 in
set_option maxRecDepth 100000 in
theorem small_true (w : World) : Calls Try.prog 8 #[] w fun e w' => e = .returned (.bool true) ∧ Below w.heap.size w w' := by
  go_enter Try.func8, Try.ntmps8
  have HB_0 := Aside0.mk (Below.refl w.heap.size w)
  go_wp2_with (first | ((with_reducible refine gate_dst (N := 22) rfl ?_); refine lit_event ?hg (N := 22) ?hd (n := 1) (cs := #[.int .i64 0, .bool false, .string ⟨#[85, 84, 67]⟩]) (t := 46) ?hr ?_; (case hd => rfl); (case hg => rfl); (case hr => first | (go_simp; done) | (go_simp; rfl)); intro g1 hg_ w1 hbox hb_; have GT1 : Aside0 (w.heap.size ≤ g1) := ⟨Nat.le_of_eq hg_.symm⟩; have HB_1 := Aside0.mk (below_step HB_0.out hb_); clear HB_0; have T1_1 := Aside0.mk (hbox); clear hbox hb_ hg_) | ((with_reducible refine gate_dst (N := 1) rfl ?_); refine box_event ?hg (N := 1) ?hd (cs := #[.slice none 0 0, .slice none 0 0, .slice none 0 0, .string ⟨#[]⟩, .int .i64 0]) (t := 26) ?hr ?_; (case hd => rfl); (case hg => rfl); (case hr => first | (go_simp; done) | (go_simp; rfl)); intro gz hg_ w2 hbox hb_; have HN := Aside0.mk hb_; have HBX := Aside0.mk hbox; have GZ : Aside0 (w1.heap.size ≤ gz) := ⟨Nat.le_of_eq hg_.symm⟩; obtain ⟨hy0, hy1, hy2, hy3, hy4⟩ := zone_cells hbox; have f0 := blk_frozen hbox 0; have f1 := blk_frozen hbox 1; have f2 := blk_frozen hbox 2; have f3 := blk_frozen hbox 3; have f4 := blk_frozen hbox 4; clear hbox hb_ hg_))
  have HX := Aside0.mk (set5_below HN.out GZ.out (.slice (some ⟨g1, 0, none⟩) 1 1) (.slice none 0 0) (.slice none 0 0) (.string ⟨#[]⟩) (.int .i64 2))
  have HY := Aside0.mk (set5_blk HBX.out (.slice (some ⟨g1, 0, none⟩) 1 1) (.slice none 0 0) (.slice none 0 0) (.string ⟨#[]⟩) (.int .i64 2))
  unfold set5 at HX HY
  clear HBX HN hy0 f0 hy1 f1 hy2 f2 hy3 f3 hy4 f4
  generalize (((((w2.setCell ⟨gz, 0, none⟩ (.slice (some ⟨g1, 0, none⟩) 1 1)).setCell ⟨gz, 1, none⟩ (.slice none 0 0)).setCell ⟨gz, 2, none⟩ (.slice none 0 0)).setCell ⟨gz, 3, none⟩ (.string ⟨#[]⟩)).setCell ⟨gz, 4, none⟩ (.int .i64 2)) = w3 at *
  have HB_3 := Aside0.mk (below_step HB_1.out HX.out)
  have T1_3 := Aside0.mk (blk_below T1_1.out HX.out)
  clear HB_1 T1_1
  have Z_3 := Aside0.mk (HY.out)
  clear HX HY
  refine (encode_is (some ⟨g1, 0, none⟩) 1 sT none 0 [] none 0 [] ⟨#[]⟩ 2 8 sA true w3 (rowT T1_3.out) (Nat.le_refl 1) (Kd.C_nil _ _) (Nat.le_refl 0) (Kd.C_nil _ _) (Nat.le_refl 0) e_z8).mono ?_
  rintro e w4 ⟨v0, rfl, hv, hb_⟩
  obtain ⟨Aa, ca, rfl⟩ := Kd.R_slice hv
  have hv := Kd.R_lower hv (Below.size HB_3.out)
  have HB_4 := Aside0.mk (below_step HB_3.out hb_)
  have T1_4 := Aside0.mk (blk_below T1_3.out hb_)
  have Z_4 := Aside0.mk (blk_below Z_3.out hb_)
  clear HB_3 T1_3 Z_3
  have A_4 := Aside0.mk (hv)
  clear hb_ hv
  obtain ⟨hz0, hz1, hz2, hz3, hz4⟩ := zone_cells Z_4.out
  go_wp2_with fail
  refine (count_is (some ⟨g1, 0, none⟩) 1 sT none 0 [] none 0 [] ⟨#[]⟩ 2 2 0 0 0 0 1 4 true w4 (rowT T1_4.out) (Nat.le_refl 1) (Kd.C_nil _ _) (Nat.le_refl 0) (Kd.C_nil _ _) (Nat.le_refl 0) c_z).mono ?_
  rintro e w5 ⟨rfl, hb_⟩
  have HB_5 := Aside0.mk (below_step HB_4.out hb_)
  have T1_5 := Aside0.mk (blk_below T1_4.out hb_)
  have Z_5 := Aside0.mk (blk_below Z_4.out hb_)
  have A_5 := Aside0.mk (Kd.R_below A_4.out hb_)
  clear HB_4 T1_4 Z_4 A_4
  clear hz0 hz1 hz2 hz3 hz4
  clear hb_
  go_wp2_with ((with_reducible refine gate_dst (N := 4) rfl ?_); refine box_event ?hg (N := 4) ?hd (cs := #[.int .i64 0, .int .i64 0, .int .i64 0, .int .i64 0, .int .i64 0, .int .i64 0, .int .i64 0]) (t := 28) ?hr ?_; (case hd => rfl); (case hg => rfl); (case hr => first | (go_simp; done) | (go_simp; rfl)); intro gh hg_ w6 hbox hb_; have HN := Aside0.mk hb_; have HBX := Aside0.mk hbox; have GH : Aside0 (w5.heap.size ≤ gh) := ⟨Nat.le_of_eq hg_.symm⟩; obtain ⟨hy0, hy1, hy2, hy3, hy4, hy5, hy6⟩ := cells7 hbox; have f0 := blk_frozen hbox 0; have f1 := blk_frozen hbox 1; have f2 := blk_frozen hbox 2; have f3 := blk_frozen hbox 3; have f4 := blk_frozen hbox 4; have f5 := blk_frozen hbox 5; have f6 := blk_frozen hbox 6; clear hbox hb_ hg_)
  have HX := Aside0.mk (set7_below HN.out GH.out (.int .i64 2) (.int .i64 0) (.int .i64 0) (.int .i64 0) (.int .i64 0) (.int .i64 1) (.int .i64 4))
  have HY := Aside0.mk (set7_blk HBX.out (.int .i64 2) (.int .i64 0) (.int .i64 0) (.int .i64 0) (.int .i64 0) (.int .i64 1) (.int .i64 4))
  unfold set7 at HX HY
  clear HBX HN hy0 f0 hy1 f1 hy2 f2 hy3 f3 hy4 f4 hy5 f5 hy6 f6
  generalize (((((((w6.setCell ⟨gh, 0, none⟩ (.int .i64 2)).setCell ⟨gh, 1, none⟩ (.int .i64 0)).setCell ⟨gh, 2, none⟩ (.int .i64 0)).setCell ⟨gh, 3, none⟩ (.int .i64 0)).setCell ⟨gh, 4, none⟩ (.int .i64 0)).setCell ⟨gh, 5, none⟩ (.int .i64 1)).setCell ⟨gh, 6, none⟩ (.int .i64 4)) = w7 at *
  have HB_7 := Aside0.mk (below_step HB_5.out HX.out)
  have T1_7 := Aside0.mk (blk_below T1_5.out HX.out)
  have Z_7 := Aside0.mk (blk_below Z_5.out HX.out)
  have A_7 := Aside0.mk (Kd.R_below A_5.out HX.out)
  clear HB_5 T1_5 Z_5 A_5
  have H_7 := Aside0.mk (HY.out)
  clear HX HY
  refine (decode_is 2 0 0 0 0 1 4 Aa ca sA 8 sT [] [] ⟨#[]⟩ 2 true w7 (Kd.R_reads' A_7.out).2.2 (Kd.R_reads' A_7.out).2.1 d_z8).mono ?_
  rintro e w8 ⟨v0, v1, v2, rfl, hr0, hr1, hr2, hb_⟩
  obtain ⟨D0, d0, rfl⟩ := Kd.R_slice hr0
  obtain ⟨D1, d1, rfl⟩ := Kd.R_slice hr1
  obtain ⟨D2, d2, rfl⟩ := Kd.R_slice hr2
  have HB_8 := Aside0.mk (below_step HB_7.out hb_)
  have T1_8 := Aside0.mk (blk_below T1_7.out hb_)
  have Z_8 := Aside0.mk (blk_below Z_7.out hb_)
  have A_8 := Aside0.mk (Kd.R_below A_7.out hb_)
  have H_8 := Aside0.mk (blk_below H_7.out hb_)
  clear HB_7 T1_7 Z_7 A_7 H_7
  have RD_8 := Aside0.mk (hr0)
  clear hb_ hr0 hr1 hr2
  go_upto_region 5 with ((with_reducible refine gate_dst (N := 6) rfl ?_); refine box_event ?hg (N := 6) ?hd (cs := #[.slice none 0 0, .slice none 0 0, .slice none 0 0, .string ⟨#[]⟩, .int .i64 0]) (t := 26) ?hr ?_; (case hd => rfl); (case hg => rfl); (case hr => first | (go_simp; done) | (go_simp; rfl)); intro gd hg_ w9 hbox hb_; have HN := Aside0.mk hb_; have HBX := Aside0.mk hbox; have GD : Aside0 (w8.heap.size ≤ gd) := ⟨Nat.le_of_eq hg_.symm⟩; obtain ⟨hy0, hy1, hy2, hy3, hy4⟩ := zone_cells hbox; have f0 := blk_frozen hbox 0; have f1 := blk_frozen hbox 1; have f2 := blk_frozen hbox 2; have f3 := blk_frozen hbox 3; have f4 := blk_frozen hbox 4; clear hbox hb_ hg_)
  have HX := Aside0.mk (set5_below HN.out GD.out (.slice D0 sT.length d0) (.slice D1 0 d1) (.slice D2 0 d2) (.string ⟨#[]⟩) (.int .i64 2))
  have HY := Aside0.mk (set5_blk HBX.out (.slice D0 sT.length d0) (.slice D1 0 d1) (.slice D2 0 d2) (.string ⟨#[]⟩) (.int .i64 2))
  unfold set5 at HX HY
  clear HBX HN hy0 f0 hy1 f1 hy2 f2 hy3 f3 hy4 f4
  generalize (((((w9.setCell ⟨gd, 0, none⟩ (.slice D0 sT.length d0)).setCell ⟨gd, 1, none⟩ (.slice D1 0 d1)).setCell ⟨gd, 2, none⟩ (.slice D2 0 d2)).setCell ⟨gd, 3, none⟩ (.string ⟨#[]⟩)).setCell ⟨gd, 4, none⟩ (.int .i64 2)) = w10 at *
  have HB_10 := Aside0.mk (below_step HB_8.out HX.out)
  have T1_10 := Aside0.mk (blk_below T1_8.out HX.out)
  have Z_10 := Aside0.mk (blk_below Z_8.out HX.out)
  have A_10 := Aside0.mk (Kd.R_below A_8.out HX.out)
  have H_10 := Aside0.mk (blk_below H_8.out HX.out)
  have RD_10 := Aside0.mk (Kd.R_below RD_8.out HX.out)
  clear HB_8 T1_8 Z_8 A_8 H_8 RD_8
  have D_10 := Aside0.mk (HY.out)
  clear HX HY
  go_wp2_with (first | ((with_reducible refine gate_dst (N := 42) rfl ?_); refine lit_event ?hg (N := 42) ?hd (n := 2) (cs := #[.int .i64 (-18000), .bool false, .string ⟨#[69, 83, 84]⟩, .int .i64 (-14400), .bool true, .string ⟨#[69, 68, 84]⟩]) (t := 46) ?hr ?_; (case hd => rfl); (case hg => rfl); (case hr => first | (go_simp; done) | (go_simp; rfl)); intro y1 hg_ w11 hbox hb_; have GY1 : Aside0 (w10.heap.size ≤ y1) := ⟨Nat.le_of_eq hg_.symm⟩; have HB_11 := Aside0.mk (below_step HB_10.out hb_); have T1_11 := Aside0.mk (blk_below T1_10.out hb_); have Z_11 := Aside0.mk (blk_below Z_10.out hb_); have A_11 := Aside0.mk (Kd.R_below A_10.out hb_); have H_11 := Aside0.mk (blk_below H_10.out hb_); have RD_11 := Aside0.mk (Kd.R_below RD_10.out hb_); have D_11 := Aside0.mk (blk_below D_10.out hb_); clear HB_10 T1_10 Z_10 A_10 H_10 RD_10 D_10; have Y1_11 := Aside0.mk (hbox); clear hbox hb_ hg_) | ((with_reducible refine gate_dst (N := 44) rfl ?_); refine lit_event ?hg (N := 44) ?hd (n := 1) (cs := #[.int .i64 (-5), .int .i64 1]) (t := 48) ?hr ?_; (case hd => rfl); (case hg => rfl); (case hr => first | (go_simp; done) | (go_simp; rfl)); intro y2 hg_ w12 hbox hb_; have GY2 : Aside0 (w11.heap.size ≤ y2) := ⟨Nat.le_of_eq hg_.symm⟩; have HB_12 := Aside0.mk (below_step HB_11.out hb_); have T1_12 := Aside0.mk (blk_below T1_11.out hb_); have Z_12 := Aside0.mk (blk_below Z_11.out hb_); have A_12 := Aside0.mk (Kd.R_below A_11.out hb_); have H_12 := Aside0.mk (blk_below H_11.out hb_); have RD_12 := Aside0.mk (Kd.R_below RD_11.out hb_); have D_12 := Aside0.mk (blk_below D_11.out hb_); have Y1_12 := Aside0.mk (blk_below Y1_11.out hb_); clear HB_11 T1_11 Z_11 A_11 H_11 RD_11 D_11 Y1_11; have Y2_12 := Aside0.mk (hbox); clear hbox hb_ hg_) | ((with_reducible refine gate_dst (N := 46) rfl ?_); refine lit_event ?hg (N := 46) ?hd (n := 1) (cs := #[.int .i64 7, .int .i64 1]) (t := 50) ?hr ?_; (case hd => rfl); (case hg => rfl); (case hr => first | (go_simp; done) | (go_simp; rfl)); intro y3 hg_ w13 hbox hb_; have GY3 : Aside0 (w12.heap.size ≤ y3) := ⟨Nat.le_of_eq hg_.symm⟩; have HB_13 := Aside0.mk (below_step HB_12.out hb_); have T1_13 := Aside0.mk (blk_below T1_12.out hb_); have Z_13 := Aside0.mk (blk_below Z_12.out hb_); have A_13 := Aside0.mk (Kd.R_below A_12.out hb_); have H_13 := Aside0.mk (blk_below H_12.out hb_); have RD_13 := Aside0.mk (Kd.R_below RD_12.out hb_); have D_13 := Aside0.mk (blk_below D_12.out hb_); have Y1_13 := Aside0.mk (blk_below Y1_12.out hb_); have Y2_13 := Aside0.mk (blk_below Y2_12.out hb_); clear HB_12 T1_12 Z_12 A_12 H_12 RD_12 D_12 Y1_12 Y2_12; have Y3_13 := Aside0.mk (hbox); clear hbox hb_ hg_) | ((with_reducible refine gate_dst (N := 8) rfl ?_); refine box_event ?hg (N := 8) ?hd (cs := #[.slice none 0 0, .slice none 0 0, .slice none 0 0, .string ⟨#[]⟩, .int .i64 0]) (t := 26) ?hr ?_; (case hd => rfl); (case hg => rfl); (case hr => first | (go_simp; done) | (go_simp; rfl)); intro gy hg_ w14 hbox hb_; have HN := Aside0.mk hb_; have HBX := Aside0.mk hbox; have GY : Aside0 (w13.heap.size ≤ gy) := ⟨Nat.le_of_eq hg_.symm⟩; obtain ⟨hy0, hy1, hy2, hy3, hy4⟩ := zone_cells hbox; have f0 := blk_frozen hbox 0; have f1 := blk_frozen hbox 1; have f2 := blk_frozen hbox 2; have f3 := blk_frozen hbox 3; have f4 := blk_frozen hbox 4; clear hbox hb_ hg_))
  have HX := Aside0.mk (set5_below HN.out GY.out (.slice (some ⟨y1, 0, none⟩) 2 2) (.slice (some ⟨y2, 0, none⟩) 1 1) (.slice (some ⟨y3, 0, none⟩) 1 1) (.string ⟨#[]⟩) (.int .i64 4))
  have HY := Aside0.mk (set5_blk HBX.out (.slice (some ⟨y1, 0, none⟩) 2 2) (.slice (some ⟨y2, 0, none⟩) 1 1) (.slice (some ⟨y3, 0, none⟩) 1 1) (.string ⟨#[]⟩) (.int .i64 4))
  unfold set5 at HX HY
  clear HBX HN hy0 f0 hy1 f1 hy2 f2 hy3 f3 hy4 f4
  generalize (((((w14.setCell ⟨gy, 0, none⟩ (.slice (some ⟨y1, 0, none⟩) 2 2)).setCell ⟨gy, 1, none⟩ (.slice (some ⟨y2, 0, none⟩) 1 1)).setCell ⟨gy, 2, none⟩ (.slice (some ⟨y3, 0, none⟩) 1 1)).setCell ⟨gy, 3, none⟩ (.string ⟨#[]⟩)).setCell ⟨gy, 4, none⟩ (.int .i64 4)) = w15 at *
  have HB_15 := Aside0.mk (below_step HB_13.out HX.out)
  have T1_15 := Aside0.mk (blk_below T1_13.out HX.out)
  have Z_15 := Aside0.mk (blk_below Z_13.out HX.out)
  have A_15 := Aside0.mk (Kd.R_below A_13.out HX.out)
  have H_15 := Aside0.mk (blk_below H_13.out HX.out)
  have RD_15 := Aside0.mk (Kd.R_below RD_13.out HX.out)
  have D_15 := Aside0.mk (blk_below D_13.out HX.out)
  have Y1_15 := Aside0.mk (blk_below Y1_13.out HX.out)
  have Y2_15 := Aside0.mk (blk_below Y2_13.out HX.out)
  have Y3_15 := Aside0.mk (blk_below Y3_13.out HX.out)
  clear HB_13 T1_13 Z_13 A_13 H_13 RD_13 D_13 Y1_13 Y2_13 Y3_13
  have Y_15 := Aside0.mk (HY.out)
  clear HX HY
  refine (encode_is (some ⟨y1, 0, none⟩) 2 yT (some ⟨y2, 0, none⟩) 1 yC (some ⟨y3, 0, none⟩) 1 yL ⟨#[]⟩ 4 4 sF true w15 (rowY Y1_15.out) (Nat.le_refl 2) (rowC (-5) 1 Y2_15.out) (Nat.le_refl 1) (rowL Y3_15.out) (Nat.le_refl 1) e_y4).mono ?_
  rintro e w16 ⟨v0, rfl, hv, hb_⟩
  obtain ⟨Af, cf, rfl⟩ := Kd.R_slice hv
  have hv := Kd.R_newR hv A_15.out
  have HB_16 := Aside0.mk (below_step HB_15.out hb_)
  have T1_16 := Aside0.mk (blk_below T1_15.out hb_)
  have Z_16 := Aside0.mk (blk_below Z_15.out hb_)
  have A_16 := Aside0.mk (Kd.R_below A_15.out hb_)
  have H_16 := Aside0.mk (blk_below H_15.out hb_)
  have RD_16 := Aside0.mk (Kd.R_below RD_15.out hb_)
  have D_16 := Aside0.mk (blk_below D_15.out hb_)
  have Y1_16 := Aside0.mk (blk_below Y1_15.out hb_)
  have Y2_16 := Aside0.mk (blk_below Y2_15.out hb_)
  have Y3_16 := Aside0.mk (blk_below Y3_15.out hb_)
  have Y_16 := Aside0.mk (blk_below Y_15.out hb_)
  clear HB_15 T1_15 Z_15 A_15 H_15 RD_15 D_15 Y1_15 Y2_15 Y3_15 Y_15
  have FR_16 := Aside0.mk (hv)
  clear hb_ hv
  obtain ⟨hz0, hz1, hz2, hz3, hz4⟩ := zone_cells Y_16.out
  go_wp2_with fail
  refine (count_is (some ⟨y1, 0, none⟩) 2 yT (some ⟨y2, 0, none⟩) 1 yC (some ⟨y3, 0, none⟩) 1 yL ⟨#[]⟩ 4 4 0 0 1 1 2 8 true w16 (rowY Y1_16.out) (Nat.le_refl 2) (rowC (-5) 1 Y2_16.out) (Nat.le_refl 1) (rowL Y3_16.out) (Nat.le_refl 1) c_y).mono ?_
  rintro e w17 ⟨rfl, hb_⟩
  have HB_17 := Aside0.mk (below_step HB_16.out hb_)
  have T1_17 := Aside0.mk (blk_below T1_16.out hb_)
  have Z_17 := Aside0.mk (blk_below Z_16.out hb_)
  have A_17 := Aside0.mk (Kd.R_below A_16.out hb_)
  have H_17 := Aside0.mk (blk_below H_16.out hb_)
  have RD_17 := Aside0.mk (Kd.R_below RD_16.out hb_)
  have D_17 := Aside0.mk (blk_below D_16.out hb_)
  have Y1_17 := Aside0.mk (blk_below Y1_16.out hb_)
  have Y2_17 := Aside0.mk (blk_below Y2_16.out hb_)
  have Y3_17 := Aside0.mk (blk_below Y3_16.out hb_)
  have Y_17 := Aside0.mk (blk_below Y_16.out hb_)
  have FR_17 := Aside0.mk (Kd.R_below FR_16.out hb_)
  clear HB_16 T1_16 Z_16 A_16 H_16 RD_16 D_16 Y1_16 Y2_16 Y3_16 Y_16 FR_16
  clear hz0 hz1 hz2 hz3 hz4
  clear hb_
  go_wp2_with ((with_reducible refine gate_dst (N := 11) rfl ?_); refine box_event ?hg (N := 11) ?hd (cs := #[.int .i64 0, .int .i64 0, .int .i64 0, .int .i64 0, .int .i64 0, .int .i64 0, .int .i64 0]) (t := 28) ?hr ?_; (case hd => rfl); (case hg => rfl); (case hr => first | (go_simp; done) | (go_simp; rfl)); intro gi hg_ w18 hbox hb_; have HN := Aside0.mk hb_; have HBX := Aside0.mk hbox; have GI : Aside0 (w17.heap.size ≤ gi) := ⟨Nat.le_of_eq hg_.symm⟩; obtain ⟨hy0, hy1, hy2, hy3, hy4, hy5, hy6⟩ := cells7 hbox; have f0 := blk_frozen hbox 0; have f1 := blk_frozen hbox 1; have f2 := blk_frozen hbox 2; have f3 := blk_frozen hbox 3; have f4 := blk_frozen hbox 4; have f5 := blk_frozen hbox 5; have f6 := blk_frozen hbox 6; clear hbox hb_ hg_)
  have HX := Aside0.mk (set7_below HN.out GI.out (.int .i64 4) (.int .i64 0) (.int .i64 0) (.int .i64 1) (.int .i64 1) (.int .i64 2) (.int .i64 8))
  have HY := Aside0.mk (set7_blk HBX.out (.int .i64 4) (.int .i64 0) (.int .i64 0) (.int .i64 1) (.int .i64 1) (.int .i64 2) (.int .i64 8))
  unfold set7 at HX HY
  clear HBX HN hy0 f0 hy1 f1 hy2 f2 hy3 f3 hy4 f4 hy5 f5 hy6 f6
  generalize (((((((w18.setCell ⟨gi, 0, none⟩ (.int .i64 4)).setCell ⟨gi, 1, none⟩ (.int .i64 0)).setCell ⟨gi, 2, none⟩ (.int .i64 0)).setCell ⟨gi, 3, none⟩ (.int .i64 1)).setCell ⟨gi, 4, none⟩ (.int .i64 1)).setCell ⟨gi, 5, none⟩ (.int .i64 2)).setCell ⟨gi, 6, none⟩ (.int .i64 8)) = w19 at *
  have HB_19 := Aside0.mk (below_step HB_17.out HX.out)
  have T1_19 := Aside0.mk (blk_below T1_17.out HX.out)
  have Z_19 := Aside0.mk (blk_below Z_17.out HX.out)
  have A_19 := Aside0.mk (Kd.R_below A_17.out HX.out)
  have H_19 := Aside0.mk (blk_below H_17.out HX.out)
  have RD_19 := Aside0.mk (Kd.R_below RD_17.out HX.out)
  have D_19 := Aside0.mk (blk_below D_17.out HX.out)
  have Y1_19 := Aside0.mk (blk_below Y1_17.out HX.out)
  have Y2_19 := Aside0.mk (blk_below Y2_17.out HX.out)
  have Y3_19 := Aside0.mk (blk_below Y3_17.out HX.out)
  have Y_19 := Aside0.mk (blk_below Y_17.out HX.out)
  have FR_19 := Aside0.mk (Kd.R_below FR_17.out HX.out)
  clear HB_17 T1_17 Z_17 A_17 H_17 RD_17 D_17 Y1_17 Y2_17 Y3_17 Y_17 FR_17
  have I_19 := Aside0.mk (HY.out)
  clear HX HY
  refine (decode_is 4 0 0 1 1 2 8 Af cf sF 4 yT yC yL ⟨#[]⟩ 4 true w19 (Kd.R_reads' FR_19.out).2.2 (Kd.R_reads' FR_19.out).2.1 d_y4).mono ?_
  rintro e w20 ⟨v0, v1, v2, rfl, hr0, hr1, hr2, hb_⟩
  obtain ⟨L0, e0, rfl⟩ := Kd.R_slice hr0
  obtain ⟨L1, e1, rfl⟩ := Kd.R_slice hr1
  obtain ⟨L2, e2, rfl⟩ := Kd.R_slice hr2
  have HB_20 := Aside0.mk (below_step HB_19.out hb_)
  have T1_20 := Aside0.mk (blk_below T1_19.out hb_)
  have Z_20 := Aside0.mk (blk_below Z_19.out hb_)
  have A_20 := Aside0.mk (Kd.R_below A_19.out hb_)
  have H_20 := Aside0.mk (blk_below H_19.out hb_)
  have RD_20 := Aside0.mk (Kd.R_below RD_19.out hb_)
  have D_20 := Aside0.mk (blk_below D_19.out hb_)
  have Y1_20 := Aside0.mk (blk_below Y1_19.out hb_)
  have Y2_20 := Aside0.mk (blk_below Y2_19.out hb_)
  have Y3_20 := Aside0.mk (blk_below Y3_19.out hb_)
  have Y_20 := Aside0.mk (blk_below Y_19.out hb_)
  have FR_20 := Aside0.mk (Kd.R_below FR_19.out hb_)
  have I_20 := Aside0.mk (blk_below I_19.out hb_)
  clear HB_19 T1_19 Z_19 A_19 H_19 RD_19 D_19 Y1_19 Y2_19 Y3_19 Y_19 FR_19 I_19
  have L0_20 := Aside0.mk (hr0)
  have L1_20 := Aside0.mk (hr1)
  have L2_20 := Aside0.mk (hr2)
  clear hb_ hr0 hr1 hr2
  go_wp2_with ((with_reducible refine gate_dst (N := 13) rfl ?_); refine box_event ?hg (N := 13) ?hd (cs := #[.slice none 0 0, .slice none 0 0, .slice none 0 0, .string ⟨#[]⟩, .int .i64 0]) (t := 26) ?hr ?_; (case hd => rfl); (case hg => rfl); (case hr => first | (go_simp; done) | (go_simp; rfl)); intro gl hg_ w21 hbox hb_; have HN := Aside0.mk hb_; have HBX := Aside0.mk hbox; have GL : Aside0 (w20.heap.size ≤ gl) := ⟨Nat.le_of_eq hg_.symm⟩; obtain ⟨hy0, hy1, hy2, hy3, hy4⟩ := zone_cells hbox; have f0 := blk_frozen hbox 0; have f1 := blk_frozen hbox 1; have f2 := blk_frozen hbox 2; have f3 := blk_frozen hbox 3; have f4 := blk_frozen hbox 4; clear hbox hb_ hg_)
  have HX := Aside0.mk (set5_below HN.out GL.out (.slice L0 yT.length e0) (.slice L1 yC.length e1) (.slice L2 yL.length e2) (.string ⟨#[]⟩) (.int .i64 4))
  have HY := Aside0.mk (set5_blk HBX.out (.slice L0 yT.length e0) (.slice L1 yC.length e1) (.slice L2 yL.length e2) (.string ⟨#[]⟩) (.int .i64 4))
  unfold set5 at HX HY
  clear HBX HN hy0 f0 hy1 f1 hy2 f2 hy3 f3 hy4 f4
  generalize (((((w21.setCell ⟨gl, 0, none⟩ (.slice L0 yT.length e0)).setCell ⟨gl, 1, none⟩ (.slice L1 yC.length e1)).setCell ⟨gl, 2, none⟩ (.slice L2 yL.length e2)).setCell ⟨gl, 3, none⟩ (.string ⟨#[]⟩)).setCell ⟨gl, 4, none⟩ (.int .i64 4)) = w22 at *
  have HB_22 := Aside0.mk (below_step HB_20.out HX.out)
  have T1_22 := Aside0.mk (blk_below T1_20.out HX.out)
  have Z_22 := Aside0.mk (blk_below Z_20.out HX.out)
  have A_22 := Aside0.mk (Kd.R_below A_20.out HX.out)
  have H_22 := Aside0.mk (blk_below H_20.out HX.out)
  have RD_22 := Aside0.mk (Kd.R_below RD_20.out HX.out)
  have D_22 := Aside0.mk (blk_below D_20.out HX.out)
  have Y1_22 := Aside0.mk (blk_below Y1_20.out HX.out)
  have Y2_22 := Aside0.mk (blk_below Y2_20.out HX.out)
  have Y3_22 := Aside0.mk (blk_below Y3_20.out HX.out)
  have Y_22 := Aside0.mk (blk_below Y_20.out HX.out)
  have FR_22 := Aside0.mk (Kd.R_below FR_20.out HX.out)
  have I_22 := Aside0.mk (blk_below I_20.out HX.out)
  have L0_22 := Aside0.mk (Kd.R_below L0_20.out HX.out)
  have L1_22 := Aside0.mk (Kd.R_below L1_20.out HX.out)
  have L2_22 := Aside0.mk (Kd.R_below L2_20.out HX.out)
  clear HB_20 T1_20 Z_20 A_20 H_20 RD_20 D_20 Y1_20 Y2_20 Y3_20 Y_20 FR_20 I_20 L0_20 L1_20 L2_20
  have L_22 := Aside0.mk (HY.out)
  clear HX HY
  clear I_22
  refine (encode_is none 0 [] none 0 [] none 0 [] ⟨#[]⟩ 2 8 [] false w22 (Kd.C_nil _ _) (Nat.le_refl 0) (Kd.C_nil _ _) (Nat.le_refl 0) (Kd.C_nil _ _) (Nat.le_refl 0) e_none).mono ?_
  rintro e w23 ⟨v0, rfl, hv, hb_⟩
  have HB_23 := Aside0.mk (below_step HB_22.out hb_)
  have T1_23 := Aside0.mk (blk_below T1_22.out hb_)
  have Z_23 := Aside0.mk (blk_below Z_22.out hb_)
  have A_23 := Aside0.mk (Kd.R_below A_22.out hb_)
  have H_23 := Aside0.mk (blk_below H_22.out hb_)
  have RD_23 := Aside0.mk (Kd.R_below RD_22.out hb_)
  have D_23 := Aside0.mk (blk_below D_22.out hb_)
  have Y1_23 := Aside0.mk (blk_below Y1_22.out hb_)
  have Y2_23 := Aside0.mk (blk_below Y2_22.out hb_)
  have Y3_23 := Aside0.mk (blk_below Y3_22.out hb_)
  have Y_23 := Aside0.mk (blk_below Y_22.out hb_)
  have FR_23 := Aside0.mk (Kd.R_below FR_22.out hb_)
  have L0_23 := Aside0.mk (Kd.R_below L0_22.out hb_)
  have L1_23 := Aside0.mk (Kd.R_below L1_22.out hb_)
  have L2_23 := Aside0.mk (Kd.R_below L2_22.out hb_)
  have L_23 := Aside0.mk (blk_below L_22.out hb_)
  clear HB_22 T1_22 Z_22 A_22 H_22 RD_22 D_22 Y1_22 Y2_22 Y3_22 Y_22 FR_22 L0_22 L1_22 L2_22 L_22
  clear hb_ hv
  obtain ⟨hx0, hx1, hx2, hx3, hx4, hx5, hx6⟩ := cells7 H_23.out
  go_upto_region 10 with fail
  clear hx0 hx1 hx2 hx3 hx4 hx5 hx6
  have HB_d := Aside0.mk (below_step HB_23.out (below_drew (Below.refl _ _) : Below w23.heap.size w23 w23.drew))
  have T1_d := Aside0.mk (blk_below T1_23.out (below_drew (Below.refl _ _) : Below w23.heap.size w23 w23.drew))
  have Z_d := Aside0.mk (blk_below Z_23.out (below_drew (Below.refl _ _) : Below w23.heap.size w23 w23.drew))
  have A_d := Aside0.mk (Kd.R_below A_23.out (below_drew (Below.refl _ _) : Below w23.heap.size w23 w23.drew))
  have H_d := Aside0.mk (blk_below H_23.out (below_drew (Below.refl _ _) : Below w23.heap.size w23 w23.drew))
  have RD_d := Aside0.mk (Kd.R_below RD_23.out (below_drew (Below.refl _ _) : Below w23.heap.size w23 w23.drew))
  have D_d := Aside0.mk (blk_below D_23.out (below_drew (Below.refl _ _) : Below w23.heap.size w23 w23.drew))
  have Y1_d := Aside0.mk (blk_below Y1_23.out (below_drew (Below.refl _ _) : Below w23.heap.size w23 w23.drew))
  have Y2_d := Aside0.mk (blk_below Y2_23.out (below_drew (Below.refl _ _) : Below w23.heap.size w23 w23.drew))
  have Y3_d := Aside0.mk (blk_below Y3_23.out (below_drew (Below.refl _ _) : Below w23.heap.size w23 w23.drew))
  have Y_d := Aside0.mk (blk_below Y_23.out (below_drew (Below.refl _ _) : Below w23.heap.size w23 w23.drew))
  have FR_d := Aside0.mk (Kd.R_below FR_23.out (below_drew (Below.refl _ _) : Below w23.heap.size w23 w23.drew))
  have L0_d := Aside0.mk (Kd.R_below L0_23.out (below_drew (Below.refl _ _) : Below w23.heap.size w23 w23.drew))
  have L1_d := Aside0.mk (Kd.R_below L1_23.out (below_drew (Below.refl _ _) : Below w23.heap.size w23 w23.drew))
  have L2_d := Aside0.mk (Kd.R_below L2_23.out (below_drew (Below.refl _ _) : Below w23.heap.size w23 w23.drew))
  have L_d := Aside0.mk (blk_below L_23.out (below_drew (Below.refl _ _) : Below w23.heap.size w23 w23.drew))
  clear HB_23 T1_23 Z_23 A_23 H_23 RD_23 D_23 Y1_23 Y2_23 Y3_23 Y_23 FR_23 L0_23 L1_23 L2_23 L_23
  refine start_ (n := 11) (S := fun w' => w'.cell? ⟨gh, 0, none⟩ = some (.int .i64 2) ∧ w'.cell? ⟨gh, 1, none⟩ = some (.int .i64 0) ∧ w'.cell? ⟨gh, 2, none⟩ = some (.int .i64 0) ∧ w'.cell? ⟨gh, 3, none⟩ = some (.int .i64 0) ∧ w'.cell? ⟨gh, 4, none⟩ = some (.int .i64 0) ∧ w'.cell? ⟨gh, 5, none⟩ = some (.int .i64 1) ∧ w'.cell? ⟨gh, 6, none⟩ = some (.int .i64 4)) (ds := []) #[false, false, false, false, false, false, false, false, false, false, false] (by kernel_rfl) rfl rfl (cells7 H_d.out) (fun hHeld => ?_); refine with_tabW tab10 bits10 (fun HT_ HW_ => ?_)
  generalize w23.drew = w24 at *
  have HVB := Aside0.mk (Kd.R_base A_d.out)
  have HVN := Aside0.mk (Kd.R_ne A_d.out H_d.out (by decide))
  have HAL := Aside0.mk (Al.start (va := .slice Aa sA.length ca) HB_d.out)
  refine pure_ (i := 1) (N := some 71) (v := ?_) (a' := ?_) #[false, true, false, false, false, false, false, false, false, false, false] rfl rfl (any_of HT_.out (by kernel_rfl)) (fun _ _ _ h => h) (Or.inl ⟨by rfl, ?_⟩) ?_ ?_
  rotate_left
  · intro w'
    go_simp
    with_reducible rfl
  rotate_left
  · simp only [Act.put, List.setIfInBounds_toArray, List.set_cons_zero, List.set_cons_succ]
    rfl
  refine take_ (i := 0) (N := some 70) (v := ?_) (a' := ?_) #[true, true, false, false, false, false, false, false, false, false, false] rfl rfl (take_ofW HT_.out HW_.out (by kernel_rfl)) (fun _ _ _ h => h) (Or.inl ⟨by rfl, ?_⟩) hHeld ?_ ?_
  rotate_left
  · rintro w' ⟨s0, s1, s2, s3, s4, s5, s6⟩
    go_simp
    with_reducible rfl
  rotate_left
  · simp only [Act.put, List.setIfInBounds_toArray, List.set_cons_zero, List.set_cons_succ]
    rfl
  refine join_ (σ := Value × Value × Value × Value × Value × Nat) 2 #[true, true, true, true, true, true, true, true, true, false, false] (fun s_ => [(72, s_.1), (73, s_.2.1), (74, .tuple #[.agg #[s_.2.2.1, s_.2.2.2.1, s_.2.2.2.2.1, .string ⟨#[]⟩, .int .i64 0], .bool false]), (17, .pointer (some ⟨s_.2.2.2.2.2, 0, none⟩)), (69, .tuple #[.agg #[s_.2.2.1, s_.2.2.2.1, s_.2.2.2.2.1, .string ⟨#[]⟩, .int .i64 0], .bool false]), (75, .agg #[s_.2.2.1, s_.2.2.2.1, s_.2.2.2.2.1, .string ⟨#[]⟩, .int .i64 0]), (76, .bool false)]) (fun s_ w' => Al w w24 w' (.slice Aa sA.length ca) ∧ Kd.R (Kd.int .u8) 5 w' w.heap.size (fun _ => True) (.slice Aa sA.length ca) sA ∧ w'.heap[s_.2.2.2.2.2]? = some (.cells #[.slice none 0 0, .slice none 0 0, .slice none 0 0, .string ⟨#[]⟩, .int .i64 0] 26 (0, 0)) ∧ w24.heap.size ≤ s_.2.2.2.2.2 ∧ (∃ A c, s_.2.2.1 = .slice A 0 c) ∧ (∃ A c, s_.2.2.2.1 = .slice A 0 c) ∧ (∃ A c, s_.2.2.2.2.1 = .slice A 0 c)) ?_ ?_
  rotate_left
  · intro hCont
    refine two_ (i := 2) (j := 8) (Ni := some 72) (Nj := some 17) #[true, true, true, false, false, false, false, false, false, false, false] #[true, true, false, false, false, false, false, false, true, false, false] rfl rfl rfl rfl (two_of HT_.out (by kernel_rfl)) (by decide) (by decide) (fun K hK => ?_) (fun K hK => ?_)
    · skip
      refine Kd.R_lit_step (Kd.int .u8) _ 5 ?hg (N := 72) ?hd (xs := ([0] : List Int)) (inner := [.int .u8 0]) (ok := fun _ => True) (okp := fun _ => True) ?hr ?hp (fun _ hk => hk) trivial (Below.refl _ _) (Nat.le_refl _) (by simp) ?_; (case hd => rfl); (case hg => rfl); (case hr => first | (go_simp; done) | (go_simp; rfl)); (case hp => exact (Reps.one (show Kd.M (Kd.int .u8) _ _ _ 0 [.int .u8 0] from rfl) (Reps.none _ _)))
      intro vs wr1 hs_ hb_ _ _
      obtain ⟨As, cs, rfl⟩ := Kd.R_slice hs_
      have AL2 := Aside0.mk (Al.step HAL.out hb_)
      have RA2 := Aside0.mk (Kd.R_below A_d.out hb_)
      have SR2 := Aside0.mk (Kd.R_reads' hs_).2.2
      refine hK.out _ _ (cells7 (Al.blk AL2.out H_d.out HVN.out)) (fun hHeld => ?_)
      refine norm_ (a' := ?_) ?_ ?_
      rotate_left
      · show Act.put _ (some 72) _ = _
        simp only [Act.put, List.setIfInBounds_toArray, List.set_cons_zero, List.set_cons_succ]
        rfl
      refine two_ (i := 3) (j := 8) (Ni := some 73) (Nj := some 17) #[true, true, true, true, false, false, false, false, false, false, false] #[true, true, true, false, false, false, false, false, true, false, false] rfl rfl rfl rfl (two_of HT_.out (by kernel_rfl)) (by decide) (by decide) (fun K hK => ?_) (fun K hK => ?_)
      · skip
        refine R_append_keep_step (Kd.int .u8) (w0 := w) w.heap.size (by rfl) (.tmp 71) (.tmp 72) 29 5 (.int .u8 0) 1 rfl Try.underlying29 info5 rfl (by decide) (by omega) (.slice Aa sA.length ca) sA [0] As 1 cs (fun _ => True) (fun _ => False) rfl rfl ?aO ?aR (fun _ _ h => h) (fun _ h => h.elim) ?aF ?aB ?aS ?aL ?_
        (case aR => exact SR2.out)
        (case aB => exact AL2.out.below)
        (case aF => exact (fun _ _ => trivial))
        (case aO => exact RA2.out)
        (case aS => exact Below.size AL2.out.below)
        (case aL => decide)
        intro vp wr3 hp_ _ hg_ _ hk_
        obtain ⟨Ap, cp, rfl⟩ := Kd.R_slice hp_
        have AL4 := Aside0.mk (Al.grown AL2.out hg_ HVB.out)
        have RA4 := Aside0.mk (hk_)
        have AP4 := Aside0.mk (Kd.R_reads' hp_).2
        refine hK.out _ _ (cells7 (Al.blk AL4.out H_d.out HVN.out)) (fun hHeld => ?_)
        refine norm_ (a' := ?_) ?_ ?_
        rotate_left
        · show Act.put _ (some 73) _ = _
          simp only [Act.put, List.setIfInBounds_toArray, List.set_cons_zero, List.set_cons_succ]
          rfl
        refine two_ (i := 4) (j := 8) (Ni := some 74) (Nj := some 17) #[true, true, true, true, true, false, false, false, false, false, false] #[true, true, true, true, false, false, false, false, true, false, false] rfl rfl rfl rfl (two_of HT_.out (by kernel_rfl)) (by decide) (by decide) (fun K hK => ?_) (fun K hK => ?_)
        · skip
          refine goes_ Try.func14 (by kernel_rfl) rfl #[.agg #[.int .i64 2, .int .i64 0, .int .i64 0, .int .i64 0, .int .i64 0, .int .i64 1, .int .i64 4], .slice Ap (sA ++ [0]).length cp, .int .i64 8] (by rfl) rfl rfl (by (try simp only [List.map_toArray, List.map_cons, List.map_nil]); first | done | rfl) ?_
          refine (decode_is 2 0 0 0 0 1 4 Ap cp (sA ++ [0]) 8 [] [] [] ⟨#[]⟩ 0 false _ AP4.out.2 AP4.out.1 d_more).mono ?_
          rintro e wr5 ⟨v0, v1, v2, rfl, hr0, hr1, hr2, hb_⟩
          obtain ⟨E0, x0, rfl⟩ := Kd.R_slice hr0
          obtain ⟨E1, x1, rfl⟩ := Kd.R_slice hr1
          obtain ⟨E2, x2, rfl⟩ := Kd.R_slice hr2
          refine ⟨_, rfl, ?_⟩
          have AL6 := Aside0.mk (Al.step AL4.out hb_)
          have RA6 := Aside0.mk (Kd.R_below RA4.out hb_)
          refine hK.out _ _ (cells7 (Al.blk AL6.out H_d.out HVN.out)) (fun hHeld => ?_)
          refine norm_ (a' := ?_) ?_ ?_
          rotate_left
          · show Act.put _ (some 74) _ = _
            simp only [Act.put, List.setIfInBounds_toArray, List.set_cons_zero, List.set_cons_succ]
            rfl
          refine pure_ (i := 5) (N := some 69) (v := ?_) (a' := ?_) #[true, true, true, true, true, true, false, false, false, false, false] rfl rfl (any_of HT_.out (by kernel_rfl)) (fun _ _ _ h => h) (Or.inl ⟨by rfl, ?_⟩) ?_ ?_
          rotate_left
          · intro w'
            go_simp
            with_reducible rfl
          rotate_left
          · simp only [Act.put, List.setIfInBounds_toArray, List.set_cons_zero, List.set_cons_succ]
            rfl
          refine pure_ (i := 6) (N := some 75) (v := ?_) (a' := ?_) #[true, true, true, true, true, true, true, false, false, false, false] rfl rfl (any_of HT_.out (by kernel_rfl)) (fun _ _ _ h => h) (Or.inl ⟨by rfl, ?_⟩) ?_ ?_
          rotate_left
          · intro w'
            go_simp
            with_reducible rfl
          rotate_left
          · simp only [Act.put, List.setIfInBounds_toArray, List.set_cons_zero, List.set_cons_succ]
            rfl
          refine pure_ (i := 7) (N := some 76) (v := ?_) (a' := ?_) #[true, true, true, true, true, true, true, true, false, false, false] rfl rfl (any_of HT_.out (by kernel_rfl)) (fun _ _ _ h => h) (Or.inl ⟨by rfl, ?_⟩) ?_ ?_
          rotate_left
          · intro w'
            go_simp
            with_reducible rfl
          rotate_left
          · simp only [Act.put, List.setIfInBounds_toArray, List.set_cons_zero, List.set_cons_succ]
            rfl
          refine one_ (i := 8) (N := some 17) #[true, true, true, true, true, true, true, true, true, false, false] rfl rfl (one_of HT_.out (by kernel_rfl)) (by decide) (fun K hK => ?_)
          refine box_step ?hg (N := 17) ?hd (cs := #[.slice none 0 0, .slice none 0 0, .slice none 0 0, .string ⟨#[]⟩, .int .i64 0]) (t := 26) ?hr ?_; (case hd => rfl); (case hg => rfl); (case hr => first | (go_simp; done) | (go_simp; rfl))
          intro gb hgb wr7 hbx_ hb_
          have GBX : Aside0 (w24.heap.size ≤ gb) := ⟨by have := AL6.out.size; omega⟩
          have AL8 := Aside0.mk (Al.step AL6.out hb_)
          have RA8 := Aside0.mk (Kd.R_below RA6.out hb_)
          have BX8 := Aside0.mk hbx_
          refine hK.out _ _ (cells7 (Al.blk AL8.out H_d.out HVN.out)) (fun hHeld => ?_)
          refine norm_ (a' := ?_) ?_ ?_
          rotate_left
          · show Act.put _ (some 17) _ = _
            simp only [Act.put, List.setIfInBounds_toArray, List.set_cons_zero, List.set_cons_succ]
            rfl
          exact norm_ (by simp only [putAll, Act.put, List.setIfInBounds_toArray, List.set_cons_zero, List.set_cons_succ] <;> rfl) (hCont (.slice As ([0] : List Int).length cs, .slice Ap (sA ++ [0]).length cp, .slice E0 ([] : List S46).length x0, .slice E1 ([] : List S48).length x1, .slice E2 ([] : List S50).length x2, gb) _ ⟨AL8.out, RA8.out, BX8.out, GBX.out, ⟨_, _, rfl⟩, ⟨_, _, rfl⟩, ⟨_, _, rfl⟩⟩)
        · skip
          refine box_step ?hg (N := 17) ?hd (cs := #[.slice none 0 0, .slice none 0 0, .slice none 0 0, .string ⟨#[]⟩, .int .i64 0]) (t := 26) ?hr ?_; (case hd => rfl); (case hg => rfl); (case hr => first | (go_simp; done) | (go_simp; rfl))
          intro gb hgb wr9 hbx_ hb_
          have APx := Aside0.mk (And.intro AP4.out.1 (Kd.C_below AP4.out.2 hb_))
          have GBX : Aside0 (w24.heap.size ≤ gb) := ⟨by have := AL4.out.size; omega⟩
          have AL10 := Aside0.mk (Al.step AL4.out hb_)
          have RA10 := Aside0.mk (Kd.R_below RA4.out hb_)
          have BX10 := Aside0.mk hbx_
          refine hK.out _ _ (cells7 (Al.blk AL10.out H_d.out HVN.out)) (fun hHeld => ?_)
          refine norm_ (a' := ?_) ?_ ?_
          rotate_left
          · show Act.put _ (some 17) _ = _
            simp only [Act.put, List.setIfInBounds_toArray, List.set_cons_zero, List.set_cons_succ]
            rfl
          refine one_ (i := 4) (N := some 74) #[true, true, true, true, true, false, false, false, true, false, false] rfl rfl (one_of HT_.out (by kernel_rfl)) (by decide) (fun K hK => ?_)
          refine goes_ Try.func14 (by kernel_rfl) rfl #[.agg #[.int .i64 2, .int .i64 0, .int .i64 0, .int .i64 0, .int .i64 0, .int .i64 1, .int .i64 4], .slice Ap (sA ++ [0]).length cp, .int .i64 8] (by rfl) rfl rfl (by (try simp only [List.map_toArray, List.map_cons, List.map_nil]); first | done | rfl) ?_
          refine (decode_is 2 0 0 0 0 1 4 Ap cp (sA ++ [0]) 8 [] [] [] ⟨#[]⟩ 0 false _ APx.out.2 APx.out.1 d_more).mono ?_
          rintro e wr11 ⟨v0, v1, v2, rfl, hr0, hr1, hr2, hb_⟩
          obtain ⟨E0, x0, rfl⟩ := Kd.R_slice hr0
          obtain ⟨E1, x1, rfl⟩ := Kd.R_slice hr1
          obtain ⟨E2, x2, rfl⟩ := Kd.R_slice hr2
          refine ⟨_, rfl, ?_⟩
          have AL12 := Aside0.mk (Al.step AL10.out hb_)
          have RA12 := Aside0.mk (Kd.R_below RA10.out hb_)
          have BX12 := Aside0.mk (blk_below BX10.out hb_)
          refine hK.out _ _ (cells7 (Al.blk AL12.out H_d.out HVN.out)) (fun hHeld => ?_)
          refine norm_ (a' := ?_) ?_ ?_
          rotate_left
          · show Act.put _ (some 74) _ = _
            simp only [Act.put, List.setIfInBounds_toArray, List.set_cons_zero, List.set_cons_succ]
            rfl
          refine pure_ (i := 5) (N := some 69) (v := ?_) (a' := ?_) #[true, true, true, true, true, true, false, false, true, false, false] rfl rfl (any_of HT_.out (by kernel_rfl)) (fun _ _ _ h => h) (Or.inl ⟨by rfl, ?_⟩) ?_ ?_
          rotate_left
          · intro w'
            go_simp
            with_reducible rfl
          rotate_left
          · simp only [Act.put, List.setIfInBounds_toArray, List.set_cons_zero, List.set_cons_succ]
            rfl
          refine pure_ (i := 6) (N := some 75) (v := ?_) (a' := ?_) #[true, true, true, true, true, true, true, false, true, false, false] rfl rfl (any_of HT_.out (by kernel_rfl)) (fun _ _ _ h => h) (Or.inl ⟨by rfl, ?_⟩) ?_ ?_
          rotate_left
          · intro w'
            go_simp
            with_reducible rfl
          rotate_left
          · simp only [Act.put, List.setIfInBounds_toArray, List.set_cons_zero, List.set_cons_succ]
            rfl
          refine pure_ (i := 7) (N := some 76) (v := ?_) (a' := ?_) #[true, true, true, true, true, true, true, true, true, false, false] rfl rfl (any_of HT_.out (by kernel_rfl)) (fun _ _ _ h => h) (Or.inl ⟨by rfl, ?_⟩) ?_ ?_
          rotate_left
          · intro w'
            go_simp
            with_reducible rfl
          rotate_left
          · simp only [Act.put, List.setIfInBounds_toArray, List.set_cons_zero, List.set_cons_succ]
            rfl
          exact norm_ (by simp only [putAll, Act.put, List.setIfInBounds_toArray, List.set_cons_zero, List.set_cons_succ] <;> rfl) (hCont (.slice As ([0] : List Int).length cs, .slice Ap (sA ++ [0]).length cp, .slice E0 ([] : List S46).length x0, .slice E1 ([] : List S48).length x1, .slice E2 ([] : List S50).length x2, gb) _ ⟨AL12.out, RA12.out, BX12.out, GBX.out, ⟨_, _, rfl⟩, ⟨_, _, rfl⟩, ⟨_, _, rfl⟩⟩)
      · skip
        refine box_step ?hg (N := 17) ?hd (cs := #[.slice none 0 0, .slice none 0 0, .slice none 0 0, .string ⟨#[]⟩, .int .i64 0]) (t := 26) ?hr ?_; (case hd => rfl); (case hg => rfl); (case hr => first | (go_simp; done) | (go_simp; rfl))
        intro gb hgb wr13 hbx_ hb_
        have GBX : Aside0 (w24.heap.size ≤ gb) := ⟨by have := AL2.out.size; omega⟩
        have AL14 := Aside0.mk (Al.step AL2.out hb_)
        have RA14 := Aside0.mk (Kd.R_below RA2.out hb_)
        have SR14 := Aside0.mk (Kd.C_below SR2.out hb_)
        have BX14 := Aside0.mk hbx_
        refine hK.out _ _ (cells7 (Al.blk AL14.out H_d.out HVN.out)) (fun hHeld => ?_)
        refine norm_ (a' := ?_) ?_ ?_
        rotate_left
        · show Act.put _ (some 17) _ = _
          simp only [Act.put, List.setIfInBounds_toArray, List.set_cons_zero, List.set_cons_succ]
          rfl
        refine one_ (i := 3) (N := some 73) #[true, true, true, true, false, false, false, false, true, false, false] rfl rfl (one_of HT_.out (by kernel_rfl)) (by decide) (fun K hK => ?_)
        refine R_append_keep_step (Kd.int .u8) (w0 := w) w.heap.size (by rfl) (.tmp 71) (.tmp 72) 29 5 (.int .u8 0) 1 rfl Try.underlying29 info5 rfl (by decide) (by omega) (.slice Aa sA.length ca) sA [0] As 1 cs (fun _ => True) (fun _ => False) rfl rfl ?aO ?aR (fun _ _ h => h) (fun _ h => h.elim) ?aF ?aB ?aS ?aL ?_
        (case aR => exact SR14.out)
        (case aB => exact AL14.out.below)
        (case aF => exact (fun _ _ => trivial))
        (case aO => exact RA14.out)
        (case aS => exact Below.size AL14.out.below)
        (case aL => decide)
        intro vp wr15 hp_ _ hg_ _ hk_
        obtain ⟨Ap, cp, rfl⟩ := Kd.R_slice hp_
        have AL16 := Aside0.mk (Al.grown AL14.out hg_ HVB.out)
        have RA16 := Aside0.mk (hk_)
        have BX16 := Aside0.mk (blk_grown BX14.out hg_ (Kd.R_ne RA14.out BX14.out (by decide)))
        have AP16 := Aside0.mk (Kd.R_reads' hp_).2
        refine hK.out _ _ (cells7 (Al.blk AL16.out H_d.out HVN.out)) (fun hHeld => ?_)
        refine norm_ (a' := ?_) ?_ ?_
        rotate_left
        · show Act.put _ (some 73) _ = _
          simp only [Act.put, List.setIfInBounds_toArray, List.set_cons_zero, List.set_cons_succ]
          rfl
        refine one_ (i := 4) (N := some 74) #[true, true, true, true, true, false, false, false, true, false, false] rfl rfl (one_of HT_.out (by kernel_rfl)) (by decide) (fun K hK => ?_)
        refine goes_ Try.func14 (by kernel_rfl) rfl #[.agg #[.int .i64 2, .int .i64 0, .int .i64 0, .int .i64 0, .int .i64 0, .int .i64 1, .int .i64 4], .slice Ap (sA ++ [0]).length cp, .int .i64 8] (by rfl) rfl rfl (by (try simp only [List.map_toArray, List.map_cons, List.map_nil]); first | done | rfl) ?_
        refine (decode_is 2 0 0 0 0 1 4 Ap cp (sA ++ [0]) 8 [] [] [] ⟨#[]⟩ 0 false _ AP16.out.2 AP16.out.1 d_more).mono ?_
        rintro e wr17 ⟨v0, v1, v2, rfl, hr0, hr1, hr2, hb_⟩
        obtain ⟨E0, x0, rfl⟩ := Kd.R_slice hr0
        obtain ⟨E1, x1, rfl⟩ := Kd.R_slice hr1
        obtain ⟨E2, x2, rfl⟩ := Kd.R_slice hr2
        refine ⟨_, rfl, ?_⟩
        have AL18 := Aside0.mk (Al.step AL16.out hb_)
        have RA18 := Aside0.mk (Kd.R_below RA16.out hb_)
        have BX18 := Aside0.mk (blk_below BX16.out hb_)
        refine hK.out _ _ (cells7 (Al.blk AL18.out H_d.out HVN.out)) (fun hHeld => ?_)
        refine norm_ (a' := ?_) ?_ ?_
        rotate_left
        · show Act.put _ (some 74) _ = _
          simp only [Act.put, List.setIfInBounds_toArray, List.set_cons_zero, List.set_cons_succ]
          rfl
        refine pure_ (i := 5) (N := some 69) (v := ?_) (a' := ?_) #[true, true, true, true, true, true, false, false, true, false, false] rfl rfl (any_of HT_.out (by kernel_rfl)) (fun _ _ _ h => h) (Or.inl ⟨by rfl, ?_⟩) ?_ ?_
        rotate_left
        · intro w'
          go_simp
          with_reducible rfl
        rotate_left
        · simp only [Act.put, List.setIfInBounds_toArray, List.set_cons_zero, List.set_cons_succ]
          rfl
        refine pure_ (i := 6) (N := some 75) (v := ?_) (a' := ?_) #[true, true, true, true, true, true, true, false, true, false, false] rfl rfl (any_of HT_.out (by kernel_rfl)) (fun _ _ _ h => h) (Or.inl ⟨by rfl, ?_⟩) ?_ ?_
        rotate_left
        · intro w'
          go_simp
          with_reducible rfl
        rotate_left
        · simp only [Act.put, List.setIfInBounds_toArray, List.set_cons_zero, List.set_cons_succ]
          rfl
        refine pure_ (i := 7) (N := some 76) (v := ?_) (a' := ?_) #[true, true, true, true, true, true, true, true, true, false, false] rfl rfl (any_of HT_.out (by kernel_rfl)) (fun _ _ _ h => h) (Or.inl ⟨by rfl, ?_⟩) ?_ ?_
        rotate_left
        · intro w'
          go_simp
          with_reducible rfl
        rotate_left
        · simp only [Act.put, List.setIfInBounds_toArray, List.set_cons_zero, List.set_cons_succ]
          rfl
        exact norm_ (by simp only [putAll, Act.put, List.setIfInBounds_toArray, List.set_cons_zero, List.set_cons_succ] <;> rfl) (hCont (.slice As ([0] : List Int).length cs, .slice Ap (sA ++ [0]).length cp, .slice E0 ([] : List S46).length x0, .slice E1 ([] : List S48).length x1, .slice E2 ([] : List S50).length x2, gb) _ ⟨AL18.out, RA18.out, BX18.out, GBX.out, ⟨_, _, rfl⟩, ⟨_, _, rfl⟩, ⟨_, _, rfl⟩⟩)
    · skip
      refine box_step ?hg (N := 17) ?hd (cs := #[.slice none 0 0, .slice none 0 0, .slice none 0 0, .string ⟨#[]⟩, .int .i64 0]) (t := 26) ?hr ?_; (case hd => rfl); (case hg => rfl); (case hr => first | (go_simp; done) | (go_simp; rfl))
      intro gb hgb wr19 hbx_ hb_
      have GBX : Aside0 (w24.heap.size ≤ gb) := ⟨by have := HAL.out.size; omega⟩
      have AL20 := Aside0.mk (Al.step HAL.out hb_)
      have RA20 := Aside0.mk (Kd.R_below A_d.out hb_)
      have BX20 := Aside0.mk hbx_
      refine hK.out _ _ (cells7 (Al.blk AL20.out H_d.out HVN.out)) (fun hHeld => ?_)
      refine norm_ (a' := ?_) ?_ ?_
      rotate_left
      · show Act.put _ (some 17) _ = _
        simp only [Act.put, List.setIfInBounds_toArray, List.set_cons_zero, List.set_cons_succ]
        rfl
      refine one_ (i := 2) (N := some 72) #[true, true, true, false, false, false, false, false, true, false, false] rfl rfl (one_of HT_.out (by kernel_rfl)) (by decide) (fun K hK => ?_)
      refine Kd.R_lit_step (Kd.int .u8) _ 5 ?hg (N := 72) ?hd (xs := ([0] : List Int)) (inner := [.int .u8 0]) (ok := fun _ => True) (okp := fun _ => True) ?hr ?hp (fun _ hk => hk) trivial (Below.refl _ _) (Nat.le_refl _) (by simp) ?_; (case hd => rfl); (case hg => rfl); (case hr => first | (go_simp; done) | (go_simp; rfl)); (case hp => exact (Reps.one (show Kd.M (Kd.int .u8) _ _ _ 0 [.int .u8 0] from rfl) (Reps.none _ _)))
      intro vs wr21 hs_ hb_ _ _
      obtain ⟨As, cs, rfl⟩ := Kd.R_slice hs_
      have AL22 := Aside0.mk (Al.step AL20.out hb_)
      have RA22 := Aside0.mk (Kd.R_below RA20.out hb_)
      have BX22 := Aside0.mk (blk_below BX20.out hb_)
      have SR22 := Aside0.mk (Kd.R_reads' hs_).2.2
      refine hK.out _ _ (cells7 (Al.blk AL22.out H_d.out HVN.out)) (fun hHeld => ?_)
      refine norm_ (a' := ?_) ?_ ?_
      rotate_left
      · show Act.put _ (some 72) _ = _
        simp only [Act.put, List.setIfInBounds_toArray, List.set_cons_zero, List.set_cons_succ]
        rfl
      refine one_ (i := 3) (N := some 73) #[true, true, true, true, false, false, false, false, true, false, false] rfl rfl (one_of HT_.out (by kernel_rfl)) (by decide) (fun K hK => ?_)
      refine R_append_keep_step (Kd.int .u8) (w0 := w) w.heap.size (by rfl) (.tmp 71) (.tmp 72) 29 5 (.int .u8 0) 1 rfl Try.underlying29 info5 rfl (by decide) (by omega) (.slice Aa sA.length ca) sA [0] As 1 cs (fun _ => True) (fun _ => False) rfl rfl ?aO ?aR (fun _ _ h => h) (fun _ h => h.elim) ?aF ?aB ?aS ?aL ?_
      (case aR => exact SR22.out)
      (case aB => exact AL22.out.below)
      (case aF => exact (fun _ _ => trivial))
      (case aO => exact RA22.out)
      (case aS => exact Below.size AL22.out.below)
      (case aL => decide)
      intro vp wr23 hp_ _ hg_ _ hk_
      obtain ⟨Ap, cp, rfl⟩ := Kd.R_slice hp_
      have AL24 := Aside0.mk (Al.grown AL22.out hg_ HVB.out)
      have RA24 := Aside0.mk (hk_)
      have BX24 := Aside0.mk (blk_grown BX22.out hg_ (Kd.R_ne RA22.out BX22.out (by decide)))
      have AP24 := Aside0.mk (Kd.R_reads' hp_).2
      refine hK.out _ _ (cells7 (Al.blk AL24.out H_d.out HVN.out)) (fun hHeld => ?_)
      refine norm_ (a' := ?_) ?_ ?_
      rotate_left
      · show Act.put _ (some 73) _ = _
        simp only [Act.put, List.setIfInBounds_toArray, List.set_cons_zero, List.set_cons_succ]
        rfl
      refine one_ (i := 4) (N := some 74) #[true, true, true, true, true, false, false, false, true, false, false] rfl rfl (one_of HT_.out (by kernel_rfl)) (by decide) (fun K hK => ?_)
      refine goes_ Try.func14 (by kernel_rfl) rfl #[.agg #[.int .i64 2, .int .i64 0, .int .i64 0, .int .i64 0, .int .i64 0, .int .i64 1, .int .i64 4], .slice Ap (sA ++ [0]).length cp, .int .i64 8] (by rfl) rfl rfl (by (try simp only [List.map_toArray, List.map_cons, List.map_nil]); first | done | rfl) ?_
      refine (decode_is 2 0 0 0 0 1 4 Ap cp (sA ++ [0]) 8 [] [] [] ⟨#[]⟩ 0 false _ AP24.out.2 AP24.out.1 d_more).mono ?_
      rintro e wr25 ⟨v0, v1, v2, rfl, hr0, hr1, hr2, hb_⟩
      obtain ⟨E0, x0, rfl⟩ := Kd.R_slice hr0
      obtain ⟨E1, x1, rfl⟩ := Kd.R_slice hr1
      obtain ⟨E2, x2, rfl⟩ := Kd.R_slice hr2
      refine ⟨_, rfl, ?_⟩
      have AL26 := Aside0.mk (Al.step AL24.out hb_)
      have RA26 := Aside0.mk (Kd.R_below RA24.out hb_)
      have BX26 := Aside0.mk (blk_below BX24.out hb_)
      refine hK.out _ _ (cells7 (Al.blk AL26.out H_d.out HVN.out)) (fun hHeld => ?_)
      refine norm_ (a' := ?_) ?_ ?_
      rotate_left
      · show Act.put _ (some 74) _ = _
        simp only [Act.put, List.setIfInBounds_toArray, List.set_cons_zero, List.set_cons_succ]
        rfl
      refine pure_ (i := 5) (N := some 69) (v := ?_) (a' := ?_) #[true, true, true, true, true, true, false, false, true, false, false] rfl rfl (any_of HT_.out (by kernel_rfl)) (fun _ _ _ h => h) (Or.inl ⟨by rfl, ?_⟩) ?_ ?_
      rotate_left
      · intro w'
        go_simp
        with_reducible rfl
      rotate_left
      · simp only [Act.put, List.setIfInBounds_toArray, List.set_cons_zero, List.set_cons_succ]
        rfl
      refine pure_ (i := 6) (N := some 75) (v := ?_) (a' := ?_) #[true, true, true, true, true, true, true, false, true, false, false] rfl rfl (any_of HT_.out (by kernel_rfl)) (fun _ _ _ h => h) (Or.inl ⟨by rfl, ?_⟩) ?_ ?_
      rotate_left
      · intro w'
        go_simp
        with_reducible rfl
      rotate_left
      · simp only [Act.put, List.setIfInBounds_toArray, List.set_cons_zero, List.set_cons_succ]
        rfl
      refine pure_ (i := 7) (N := some 76) (v := ?_) (a' := ?_) #[true, true, true, true, true, true, true, true, true, false, false] rfl rfl (any_of HT_.out (by kernel_rfl)) (fun _ _ _ h => h) (Or.inl ⟨by rfl, ?_⟩) ?_ ?_
      rotate_left
      · intro w'
        go_simp
        with_reducible rfl
      rotate_left
      · simp only [Act.put, List.setIfInBounds_toArray, List.set_cons_zero, List.set_cons_succ]
        rfl
      exact norm_ (by simp only [putAll, Act.put, List.setIfInBounds_toArray, List.set_cons_zero, List.set_cons_succ] <;> rfl) (hCont (.slice As ([0] : List Int).length cs, .slice Ap (sA ++ [0]).length cp, .slice E0 ([] : List S46).length x0, .slice E1 ([] : List S48).length x1, .slice E2 ([] : List S50).length x2, gb) _ ⟨AL26.out, RA26.out, BX26.out, GBX.out, ⟨_, _, rfl⟩, ⟨_, _, rfl⟩, ⟨_, _, rfl⟩⟩)
  rintro ⟨vs, vp, v0, v1, v2, gb⟩ w25 ⟨hal_, hra_, hbx_, hge_, ⟨E0, x0, h0_⟩, ⟨E1, x1, h1_⟩, ⟨E2, x2, h2_⟩⟩
  dsimp only at h0_ h1_ h2_ hbx_ hge_
  subst h0_ h1_ h2_
  have HAL1 := Aside0.mk hal_
  have HRA := Aside0.mk hra_
  have HBX := Aside0.mk hbx_
  have HGE : Aside0 (w24.heap.size ≤ gb) := ⟨hge_⟩
  have HGN : Aside0 (gh ≠ gb) := ⟨by have := blk_lt H_d.out; omega⟩
  have HGY : Aside0 (gy ≠ gb) := ⟨by have := blk_lt Y_d.out; omega⟩
  clear hal_ hra_ hge_ hHeld HAL
  refine norm_ (a' := ?_) ?_ ?_
  rotate_left
  · simp only [putAll, Act.put, List.setIfInBounds_toArray, List.set_cons_zero, List.set_cons_succ]
    rfl
  refine one_ (i := 9) (N := none) #[true, true, true, true, true, true, true, true, true, true, false] rfl rfl (one_of HT_.out (by kernel_rfl)) (by decide) (fun K hK => ?_)
  obtain ⟨hy0, hy1, hy2, hy3, hy4⟩ := zone_cells hbx_
  have f0 := blk_frozen hbx_ 0
  have f1 := blk_frozen hbx_ 1
  have f2 := blk_frozen hbx_ 2
  have f3 := blk_frozen hbx_ 3
  have f4 := blk_frozen hbx_ 4
  clear hbx_
  refine skip_ (w1 := ?_) (by rfl) rfl ?_ ?_
  rotate_left
  · go_simp
    rfl
  have HAL2 := Aside0.mk (Al.set5 HAL1.out HGE.out (Below.size HB_d.out) (.slice E0 0 x0) (.slice E1 0 x1) (.slice E2 0 x2) (.string ⟨#[]⟩) (.int .i64 0))
  have HRA2 := Aside0.mk (set5_row HRA.out HBX.out (E5 (by decide)) (Nat.le_refl _) (.slice E0 0 x0) (.slice E1 0 x1) (.slice E2 0 x2) (.string ⟨#[]⟩) (.int .i64 0))
  unfold set5 at HAL2 HRA2
  clear hy0 hy1 hy2 hy3 hy4 f0 f1 f2 f3 f4 HBX HAL1 HRA
  generalize (((((w25.setCell ⟨gb, 0, none⟩ (.slice E0 0 x0)).setCell ⟨gb, 1, none⟩ (.slice E1 0 x1)).setCell ⟨gb, 2, none⟩ (.slice E2 0 x2)).setCell ⟨gb, 3, none⟩ (.string ⟨#[]⟩)).setCell ⟨gb, 4, none⟩ (.int .i64 0)) = w26 at *
  refine hK.out _ _ (cells7 (Al.blk HAL2.out H_d.out HVN.out)) (fun _ => ?_)
  clear hK K
  refine pure_ (i := 10) (N := some 18) (v := ?_) (a' := ?_) #[true, true, true, true, true, true, true, true, true, true, true] rfl rfl (any_of HT_.out (by kernel_rfl)) (fun _ _ _ h => h) (Or.inl ⟨by rfl, ?_⟩) ?_ ?_
  rotate_left
  · intro w'
    go_simp
    with_reducible rfl
  rotate_left
  · simp only [Act.put, List.setIfInBounds_toArray, List.set_cons_zero, List.set_cons_succ]
    rfl
  refine done_ (done_of HT_.out (by kernel_rfl)) ?_
  have HB_26 := Aside0.mk (HAL2.out.below)
  have T1_26 := Aside0.mk (Al.blk HAL2.out T1_d.out (Kd.R_ne A_d.out T1_d.out (by decide)))
  have Z_26 := Aside0.mk (Al.blk HAL2.out Z_d.out (Kd.R_ne A_d.out Z_d.out (by decide)))
  have A_26 := Aside0.mk (HRA2.out)
  have H_26 := Aside0.mk (Al.blk HAL2.out H_d.out (Kd.R_ne A_d.out H_d.out (by decide)))
  have RD_26 := Aside0.mk (Kd.R_mono (Al.row HAL2.out (row_types RD_d.out A_d.out (by decide)) (fun _ hk => hk.2)) (ok' := fun _ => True) (fun _ _ => trivial))
  have D_26 := Aside0.mk (Al.blk HAL2.out D_d.out (Kd.R_ne A_d.out D_d.out (by decide)))
  have Y1_26 := Aside0.mk (Al.blk HAL2.out Y1_d.out (Kd.R_ne A_d.out Y1_d.out (by decide)))
  have Y2_26 := Aside0.mk (Al.blk HAL2.out Y2_d.out (Kd.R_ne A_d.out Y2_d.out (by decide)))
  have Y3_26 := Aside0.mk (Al.blk HAL2.out Y3_d.out (Kd.R_ne A_d.out Y3_d.out (by decide)))
  have Y_26 := Aside0.mk (Al.blk HAL2.out Y_d.out (Kd.R_ne A_d.out Y_d.out (by decide)))
  have FR_26 := Aside0.mk (Al.row HAL2.out FR_d.out (fun _ hk => hk.2))
  have L0_26 := Aside0.mk (Kd.R_mono (Al.row HAL2.out (row_types L0_d.out A_d.out (by decide)) (fun _ hk => hk.2)) (ok' := fun _ => True) (fun _ _ => trivial))
  have L1_26 := Aside0.mk (Kd.R_mono (Al.row HAL2.out (row_types L1_d.out A_d.out (by decide)) (fun _ hk => hk.2)) (ok' := fun _ => True) (fun _ _ => trivial))
  have L2_26 := Aside0.mk (Kd.R_mono (Al.row HAL2.out (row_types L2_d.out A_d.out (by decide)) (fun _ hk => hk.2)) (ok' := fun _ => True) (fun _ _ => trivial))
  have L_26 := Aside0.mk (Al.blk HAL2.out L_d.out (Kd.R_ne A_d.out L_d.out (by decide)))
  clear HB_d T1_d Z_d A_d H_d RD_d D_d Y1_d Y2_d Y3_d Y_d FR_d L0_d L1_d L2_d L_d HAL2 HRA2 HT_ HW_ HVB HVN HGE HGN HGY
  obtain ⟨hz0, hz1, hz2, hz3, hz4⟩ := zone_cells Y_26.out
  have hq0 : w26.cell? ⟨y2, 0, none⟩ = some (.int .i64 (-5)) := (blk_cell Y2_26.out 0).trans rfl
  have fq0 := blk_frozen Y2_26.out 0
  go_upto_region 12 with fail
  clear hz0 hz1 hz2 hz3 hz4 hq0 fq0
  have PY1 := Aside0.mk (blk_far (p := ⟨y2, 0, none⟩) Y1_26.out (blk_ne Y1_26.out Y2_26.out (by decide)) (.int .i64 2147483648))
  have PY3 := Aside0.mk (blk_far (p := ⟨y2, 0, none⟩) Y3_26.out (blk_ne Y3_26.out Y2_26.out (by decide)) (.int .i64 2147483648))
  have PY := Aside0.mk (blk_far (p := ⟨y2, 0, none⟩) Y_26.out (blk_ne Y_26.out Y2_26.out (by decide)) (.int .i64 2147483648))
  have PY2 : Aside0 ((w26.setCell ⟨y2, 0, none⟩ (.int .i64 2147483648)).heap[y2]? = some (.cells #[.int .i64 2147483648, .int .i64 1] 48 (0, 0))) := ⟨blk_set Y2_26.out 0 (.int .i64 2147483648)⟩
  have HBK := Aside0.mk (fun (W2 : World) (hb : Below (w26.setCell ⟨y2, 0, none⟩ (.int .i64 2147483648)).heap.size (w26.setCell ⟨y2, 0, none⟩ (.int .i64 2147483648)) W2) => back_same (v := .int .i64 (-5)) Y2_26.out rfl hb)
  generalize (w26.setCell ⟨y2, 0, none⟩ (.int .i64 2147483648)) = w27 at *
  obtain ⟨hz0, hz1, hz2, hz3, hz4⟩ := zone_cells PY.out
  go_wp2_with fail
  refine (encode_is (some ⟨y1, 0, none⟩) 2 yT (some ⟨y2, 0, none⟩) 1 yD (some ⟨y3, 0, none⟩) 1 yL ⟨#[]⟩ 4 4 [] false w27 (rowY PY1.out) (Nat.le_refl 2) (rowC 2147483648 1 PY2.out) (Nat.le_refl 1) (rowL PY3.out) (Nat.le_refl 1) e_far).mono ?_
  rintro e w28 ⟨v0f, rfl, hv, hb_⟩
  obtain ⟨Ae, ce, rfl⟩ := Kd.R_slice hv
  have HBK2 := Aside0.mk (HBK.out _ hb_)
  have QY := Aside0.mk (blk_below PY.out hb_)
  have QY2 := Aside0.mk (blk_below PY2.out hb_)
  clear hz0 hz1 hz2 hz3 hz4
  clear HBK PY1 PY2 PY3 PY hv hb_
  obtain ⟨hz0, hz1, hz2, hz3, hz4⟩ := zone_cells QY.out
  have hq0 : w28.cell? ⟨y2, 0, none⟩ = some (.int .i64 2147483648) := (blk_cell QY2.out 0).trans rfl
  have fq0 := blk_frozen QY2.out 0
  go_upto_region 14 with fail
  clear hz0 hz1 hz2 hz3 hz4 hq0 fq0
  clear QY QY2
  generalize (w28.setCell ⟨y2, 0, none⟩ (.int .i64 (-5))) = w29 at *
  have HB_29 := Aside0.mk (below_step HB_26.out HBK2.out)
  have T1_29 := Aside0.mk (blk_below T1_26.out HBK2.out)
  have Z_29 := Aside0.mk (blk_below Z_26.out HBK2.out)
  have A_29 := Aside0.mk (Kd.R_below A_26.out HBK2.out)
  have H_29 := Aside0.mk (blk_below H_26.out HBK2.out)
  have RD_29 := Aside0.mk (Kd.R_below RD_26.out HBK2.out)
  have D_29 := Aside0.mk (blk_below D_26.out HBK2.out)
  have Y1_29 := Aside0.mk (blk_below Y1_26.out HBK2.out)
  have Y2_29 := Aside0.mk (blk_below Y2_26.out HBK2.out)
  have Y3_29 := Aside0.mk (blk_below Y3_26.out HBK2.out)
  have Y_29 := Aside0.mk (blk_below Y_26.out HBK2.out)
  have FR_29 := Aside0.mk (Kd.R_below FR_26.out HBK2.out)
  have L0_29 := Aside0.mk (Kd.R_below L0_26.out HBK2.out)
  have L1_29 := Aside0.mk (Kd.R_below L1_26.out HBK2.out)
  have L2_29 := Aside0.mk (Kd.R_below L2_26.out HBK2.out)
  have L_29 := Aside0.mk (blk_below L_26.out HBK2.out)
  clear HB_26 T1_26 Z_26 A_26 H_26 RD_26 D_26 Y1_26 Y2_26 Y3_26 Y_26 FR_26 L0_26 L1_26 L2_26 L_26
  clear HBK2
  have hca := own_string (P := Try.prog) Try.underlying29 Try.underlying5 Try.underlying9 (Kd.own_of_R A_29.out)
  rw [str_A] at hca
  obtain ⟨hx0, hx1, hx2, hx3, hx4, hx5, hx6⟩ := cells7 H_29.out
  obtain ⟨hz0, hz1, hz2, hz3, hz4⟩ := zone_cells D_29.out
  obtain ⟨hy0, hy1, hy2, hy3, hy4⟩ := zone_cells Z_29.out
  go_wp2_with fail
  obtain ⟨k1, h1⟩ := same_ev sT [] [] ⟨#[]⟩ 2 (by decide) (by decide) (by decide)
  refine (epactref16_Same.calls k1 D0 d0 sT D1 d1 [] D2 d2 [] ⟨#[]⟩ 2 (some ⟨g1, 0, none⟩) 1 sT none 0 [] none 0 [] ⟨#[]⟩ 2 true w29 (Kd.R_reads' RD_29.out).2.2 (Kd.R_reads' RD_29.out).2.1 (C_none _ _ _) (Nat.zero_le _) (C_none _ _ _) (Nat.zero_le _) (rowT T1_29.out) (Nat.le_refl 1) (C_none _ _ _) (Nat.le_refl 0) (C_none _ _ _) (Nat.le_refl 0) (h1 k1 (Nat.le_refl _))).mono ?_
  rintro e w30 ⟨rfl, hb_⟩
  have HB_30 := Aside0.mk (below_step HB_29.out hb_)
  have T1_30 := Aside0.mk (blk_below T1_29.out hb_)
  have Z_30 := Aside0.mk (blk_below Z_29.out hb_)
  have A_30 := Aside0.mk (Kd.R_below A_29.out hb_)
  have H_30 := Aside0.mk (blk_below H_29.out hb_)
  have RD_30 := Aside0.mk (Kd.R_below RD_29.out hb_)
  have D_30 := Aside0.mk (blk_below D_29.out hb_)
  have Y1_30 := Aside0.mk (blk_below Y1_29.out hb_)
  have Y2_30 := Aside0.mk (blk_below Y2_29.out hb_)
  have Y3_30 := Aside0.mk (blk_below Y3_29.out hb_)
  have Y_30 := Aside0.mk (blk_below Y_29.out hb_)
  have FR_30 := Aside0.mk (Kd.R_below FR_29.out hb_)
  have L0_30 := Aside0.mk (Kd.R_below L0_29.out hb_)
  have L1_30 := Aside0.mk (Kd.R_below L1_29.out hb_)
  have L2_30 := Aside0.mk (Kd.R_below L2_29.out hb_)
  have L_30 := Aside0.mk (blk_below L_29.out hb_)
  clear HB_29 T1_29 Z_29 A_29 H_29 RD_29 D_29 Y1_29 Y2_29 Y3_29 Y_29 FR_29 L0_29 L1_29 L2_29 L_29
  clear hca hx0 hx1 hx2 hx3 hx4 hx5 hx6 hz0 hz1 hz2 hz3 hz4 hy0 hy1 hy2 hy3 hy4
  clear hb_
  clear h1
  have hcf := own_string (P := Try.prog) Try.underlying29 Try.underlying5 Try.underlying9 (Kd.own_of_R FR_30.out)
  rw [str_F] at hcf
  obtain ⟨hz0, hz1, hz2, hz3, hz4⟩ := zone_cells L_30.out
  obtain ⟨hy0, hy1, hy2, hy3, hy4⟩ := zone_cells Y_30.out
  go_wp2_with fail
  obtain ⟨k2, h2⟩ := same_ev yT yC yL ⟨#[]⟩ 4 (by decide) (by decide) (by decide)
  refine (epactref16_Same.calls k2 L0 e0 yT L1 e1 yC L2 e2 yL ⟨#[]⟩ 4 (some ⟨y1, 0, none⟩) 2 yT (some ⟨y2, 0, none⟩) 1 yC (some ⟨y3, 0, none⟩) 1 yL ⟨#[]⟩ 4 true w30 (Kd.R_reads' L0_30.out).2.2 (Kd.R_reads' L0_30.out).2.1 (Kd.R_reads' L1_30.out).2.2 (Kd.R_reads' L1_30.out).2.1 (Kd.R_reads' L2_30.out).2.2 (Kd.R_reads' L2_30.out).2.1 (rowY Y1_30.out) (Nat.le_refl 2) (rowC (-5) 1 Y2_30.out) (Nat.le_refl 1) (rowL Y3_30.out) (Nat.le_refl 1) (h2 k2 (Nat.le_refl _))).mono ?_
  rintro e w31 ⟨rfl, hb_⟩
  have HB_31 := Aside0.mk (below_step HB_30.out hb_)
  have T1_31 := Aside0.mk (blk_below T1_30.out hb_)
  have Z_31 := Aside0.mk (blk_below Z_30.out hb_)
  have A_31 := Aside0.mk (Kd.R_below A_30.out hb_)
  have H_31 := Aside0.mk (blk_below H_30.out hb_)
  have RD_31 := Aside0.mk (Kd.R_below RD_30.out hb_)
  have D_31 := Aside0.mk (blk_below D_30.out hb_)
  have Y1_31 := Aside0.mk (blk_below Y1_30.out hb_)
  have Y2_31 := Aside0.mk (blk_below Y2_30.out hb_)
  have Y3_31 := Aside0.mk (blk_below Y3_30.out hb_)
  have Y_31 := Aside0.mk (blk_below Y_30.out hb_)
  have FR_31 := Aside0.mk (Kd.R_below FR_30.out hb_)
  have L0_31 := Aside0.mk (Kd.R_below L0_30.out hb_)
  have L1_31 := Aside0.mk (Kd.R_below L1_30.out hb_)
  have L2_31 := Aside0.mk (Kd.R_below L2_30.out hb_)
  have L_31 := Aside0.mk (blk_below L_30.out hb_)
  clear HB_30 T1_30 Z_30 A_30 H_30 RD_30 D_30 Y1_30 Y2_30 Y3_30 Y_30 FR_30 L0_30 L1_30 L2_30 L_30
  clear hcf hz0 hz1 hz2 hz3 hz4 hy0 hy1 hy2 hy3 hy4
  clear hb_
  clear h2
  go_wp2_with fail
  go_ret
  all_goals exact ⟨rfl, HB_31.out⟩
theorem small_is (r : Bool) (w : World) (h : (some true : Option Bool) = some r) :
    Calls Try.prog 8 #[] w fun e w' => e = .returned (.bool r) ∧ Below w.heap.size w w' := by
  injection h with h
  subst h
  exact small_true w
end Go.Proofs.Ytpgjcnjojfehjaa.Bk
/- Plain law: numbers that were read may be laid again. -/
namespace Go.Proofs.Ytpgjcnjojfehjaa.Bk
open Go.RowKit Go.Proofs.YtpgjcnjojfehjaaW.PrintWords Go.Proofs.YtpgjcnjojfehjaaW.PrintLast Go.Proofs.YtpgjcnjojfehjaaW.PrintMore Oct Kx Ab

/-- A number that may be laid in so many bytes, of 64 bits. -/
def Fits (n size : Int) : Prop := (putS [] n size).2 = true ∧ R64 n
theorem fits_of {n size : Int} (h : mayS n size = true) (hr : R64 n) : Fits n size := ⟨by unfold putS; rw [if_pos h], hr⟩
theorem fits_zero {size : Int} (hs : sizeB size = true) : Fits 0 size := by
  rcases size_cases hs with rfl | rfl | rfl <;> exact fits_of (by decide) (by unfold R64; omega)
theorem wrap_R (x : Int) : R64 (wrap64 x) := by unfold wrap64 R64; omega
theorem take_B8 {l : List Int} (n : Nat) (h : B8 l) : B8 (l.take n) := fun x hx => h x (List.mem_of_mem_take hx)
theorem drop_B8 {l : List Int} (n : Nat) (h : B8 l) : B8 (l.drop n) := fun x hx => h x (List.mem_of_mem_drop hx)
theorem num_fits {l : List Int} {bad : Bool} {size : Int} (hb : B8 l) (hs : sizeB size = true) : Fits (numS l bad size).1 size ∧ B8 (numS l bad size).2.1 := by
  have hz : sizeS size = size := by unfold sizeS; rw [if_pos hs]
  unfold numS
  rw [hz]
  unfold takeS
  split
  · exact ⟨fits_zero hs, fun x hx => by simp at hx⟩
  · rename_i hn
    have h1 : size = 1 ∨ size = 4 ∨ size = 8 := size_cases hs
    have hl : (l.take size.toNat).length = size.toNat := by
      rw [List.length_take]
      have : ¬ ((l.length : Int) < size) := fun h => hn (.inr (.inr h))
      omega
    have ht := take_B8 size.toNat hb
    obtain ⟨hm, -⟩ := back_read ht hs hl
    refine ⟨fits_of hm ?_, drop_B8 _ hb⟩
    rcases h1 with rfl | rfl | rfl
    · have hm' := hm; unfold mayS at hm'; rw [decide_eq_true_eq] at hm'; unfold R64; simp only at hm' ⊢; omega
    · have hm' := hm; unfold mayS at hm'; rw [decide_eq_true_eq] at hm'; unfold R64; simp only at hm' ⊢; omega
    · obtain ⟨a, b, c, d, e, f, g, k, he⟩ := len8 hl
      rw [he] at ht ⊢
      rw [val8 _ _ _ _ _ _ _ _ ht]
      exact wrap_R _
def TF (size : Int) (t : S48) : Prop := Fits t.f0 size ∧ Fits t.f1 1
theorem one_size : sizeB 1 = true := rfl
theorem four_size : sizeB 4 = true := rfl
theorem getD_all {α : Type} {P : α → Prop} {l : List α} {z : α} (h : ∀ t ∈ l, P t) (hz : P z) (k : Nat) : P (l.getD k z) := by
  rw [List.getD]
  by_cases hk : k < l.length
  · rw [List.getElem?_eq_getElem hk]; exact h _ (List.getElem_mem hk)
  · rw [List.getElem?_eq_none (by omega)]; exact hz
theorem set_all {α : Type} {P : α → Prop} {l : List α} (h : ∀ t ∈ l, P t) {x : α} (hx : P x) (k : Nat) : ∀ t ∈ l.set k x, P t := fun t ht => by
  rcases List.mem_or_eq_of_mem_set ht with h1 | rfl
  · exact h t h1
  · exact hx
theorem trA_fits (size : Int) (hs : sizeB size = true) {l : List Int} {b : Bool} {L0 : List S48} (h0 : ∀ t ∈ L0, TF size t) (hl : B8 l) : ∀ k, (∀ t ∈ (trA size k L0 l b).1, TF size t) ∧ B8 (trA size k L0 l b).2.1
  | 0 => ⟨h0, hl⟩
  | k + 1 => by
    obtain ⟨h1, h2⟩ := trA_fits size hs h0 hl (b := b) k
    unfold trA
    obtain ⟨h3, h4⟩ := num_fits (bad := (trA size k L0 l b).2.2) h2 hs
    have hx : TF size ⟨(numS (trA size k L0 l b).2.1 (trA size k L0 l b).2.2 size).1, ((trA size k L0 l b).1.getD k z48).f1⟩ := ⟨h3, (getD_all h1 (show TF size z48 from ⟨fits_zero hs, fits_zero one_size⟩) k).2⟩
    exact ⟨set_all h1 hx k, h4⟩
theorem trB_fits (size : Int) (hs : sizeB size = true) {l : List Int} {b : Bool} {L0 : List S48} (h0 : ∀ t ∈ L0, TF size t) (hl : B8 l) : ∀ k, (∀ t ∈ (trB k L0 l b).1, TF size t) ∧ B8 (trB k L0 l b).2.1
  | 0 => ⟨h0, hl⟩
  | k + 1 => by
    obtain ⟨h1, h2⟩ := trB_fits size hs h0 hl (b := b) k
    unfold trB
    obtain ⟨h3, h4⟩ := num_fits (bad := (trB k L0 l b).2.2) h2 one_size
    have hx : TF size ⟨((trB k L0 l b).1.getD k z48).f0, (numS (trB k L0 l b).2.1 (trB k L0 l b).2.2 1).1⟩ := ⟨(getD_all h1 (show TF size z48 from ⟨fits_zero hs, fits_zero one_size⟩) k).1, h3⟩
    exact ⟨set_all h1 hx k, h4⟩
theorem tyK_fits {l : List Int} {b : Bool} (hl : B8 l) : ∀ k, (∀ t ∈ (tyK k l b).1, Fits t.f0 4) ∧ B8 (tyK k l b).2.2.2.1
  | 0 => ⟨fun t h => (by cases h), hl⟩
  | k + 1 => by
    obtain ⟨h1, h2⟩ := tyK_fits hl (b := b) k
    unfold tyK
    obtain ⟨h3, h4⟩ := num_fits (bad := (tyK k l b).2.2.2.2) h2 four_size
    obtain ⟨-, h6⟩ := num_fits (bad := (numS (tyK k l b).2.2.2.1 (tyK k l b).2.2.2.2 4).2.2) h4 one_size
    obtain ⟨-, h8⟩ := num_fits (bad := (numS (numS (tyK k l b).2.2.2.1 (tyK k l b).2.2.2.2 4).2.1 (numS (tyK k l b).2.2.2.1 (tyK k l b).2.2.2.2 4).2.2 1).2.2) h6 one_size
    refine ⟨fun t ht => ?_, h8⟩
    rcases List.mem_append.1 ht with h | h
    · exact h1 t h
    · rw [List.mem_singleton] at h; subst h; exact h3
theorem lpK_fits (size : Int) (hs : sizeB size = true) {l : List Int} {b : Bool} (hl : B8 l) : ∀ k, (∀ t ∈ (lpK size k l b).1, Fits t.f0 size ∧ Fits t.f1 4) ∧ B8 (lpK size k l b).2.1
  | 0 => ⟨fun t h => (by cases h), hl⟩
  | k + 1 => by
    obtain ⟨h1, h2⟩ := lpK_fits size hs hl (b := b) k
    unfold lpK
    obtain ⟨h3, h4⟩ := num_fits (bad := (lpK size k l b).2.2) h2 hs
    obtain ⟨h5, h6⟩ := num_fits (bad := (numS (lpK size k l b).2.1 (lpK size k l b).2.2 size).2.2) h4 four_size
    refine ⟨fun t ht => ?_, h6⟩
    rcases List.mem_append.1 ht with h | h
    · exact h1 t h
    · rw [List.mem_singleton] at h; subst h; exact ⟨h3, h5⟩
theorem pool_fits {l : List ByteArray} (h : (poolT l).2.2 = true) : ∀ i, i < l.length → Fits ((poolT l).2.1.getD i 0) 1 := by
  intro i hi
  have hsz := pool_size l
  rcases right_or l with hr | hw
  · have I := inv_steps l St0 [] inv0 hr
    rw [List.nil_append] at I
    rw [poolT_right hr] at h hsz ⊢
    unfold poolE at h hsz ⊢
    simp only at h hsz ⊢
    split at h
    · simp at h
    · rename_i hd
      rw [hd] at hsz
      simp only at hsz
      obtain ⟨k, h1, h2⟩ := I.at_ i l[i] (List.getElem?_eq_getElem hi)
      obtain ⟨pre, post, e1, e2, -⟩ := I.place _ _ h1
      have e3 := congrArg List.length e1
      rw [data_length, List.length_append, List.length_append, List.length_cons] at e3
      show Fits ((steps St0 l).ats.getD i 0) 1
      rw [List.getD, h2]
      show Fits k 1
      exact fits_of (by unfold mayS; rw [decide_eq_true_eq]; omega) (by unfold R64; omega)
  · rw [poolT_wrong hw] at h; cases h
theorem fit_all {ns : List (Int × Int)} (h : ∀ p ∈ ns, (putS [] p.1 p.2).2 = true) : fit ns = true := by
  unfold fit
  exact List.all_eq_true.2 h
theorem fitT_of {tr : List S48} {size : Int} (h : ∀ t ∈ tr, TF size t) : fit (numsT tr size) = true ∧ fit (numsK tr) = true :=
  ⟨fit_all fun p hp => by obtain ⟨t, ht, rfl⟩ := List.mem_map.1 hp; exact (h t ht).1.1, fit_all fun p hp => by obtain ⟨t, ht, rfl⟩ := List.mem_map.1 hp; exact (h t ht).2.1⟩
theorem fitL_of {lp : List S50} {size : Int} (h : ∀ t ∈ lp, Fits t.f0 size ∧ Fits t.f1 4) : fit (numsL lp size) = true := fit_all fun p hp => by
  obtain ⟨t, ht, hp⟩ := List.mem_flatMap.1 hp
  simp only [List.mem_cons, List.not_mem_nil, or_false] at hp
  rcases hp with rfl | rfl
  · exact (h t ht).1.1
  · exact (h t ht).2.1
theorem mk_fits (b : Bool) : (putS [] (mk b) 1).2 = true := by cases b <;> decide
theorem fitY_of {ty : List S46} {ats : List Int} (h : ∀ t ∈ ty, Fits t.f0 4) (ha : ∀ i, i < ty.length → Fits (ats.getD i 0) 1) (hl : ats.length = ty.length) : fit (numsY ty ats) = true := fit_all fun p hp => by
  obtain ⟨q, hq, hp⟩ := List.mem_flatMap.1 hp
  obtain ⟨i, hi, hz⟩ := List.mem_iff_getElem.1 hq
  rw [List.getElem_zip] at hz
  have hi2 : i < ty.length := by rw [List.length_zip] at hi; omega
  have h2 := ha i hi2
  rw [List.getD, List.getElem?_eq_getElem (by omega)] at h2
  subst hz
  simp only [List.mem_cons, List.not_mem_nil, or_false] at hp
  rcases hp with rfl | rfl | rfl
  · exact (h _ (List.getElem_mem hi2)).1
  · exact mk_fits _
  · exact h2.1
end Go.Proofs.Ytpgjcnjojfehjaa.Bk
/- A zone that is handed in: what it reads; condition: it reads as data. -/
namespace Go.Proofs.Ytpgjcnjojfehjaa.Bk
open Go.Joins Go.RowKit Go.ChangeShapes Go.WideShapes Go.Deep Go.Proofs.YtpgjcnjojfehjaaW.PrintWords Kx Oct

section
variable {H : Type} {enc : TypeId × Value → H} {P : Program} {w : World} {base : Nat} {spare : Nat → Bool} {held : Bool}
/-- (turned from the guide's page on structs) -/
theorem open_slice_fields {t e : TypeId} {fs : Array Field} {fuel : Nat} {cs : List Value} {x : DataW H × List MemPlace} (ht : P.underlying t = some (.slice e)) (he : P.underlying e = some (.struct fs))
    (hone : oneCellFields P fs = true) (hC : P.cellsOf e = fs.size) (h : DataW.trod enc P w base spare held fuel t cs = some x) :
    (cs = [.slice none 0 0] ∧ x = (.nil, [])) ∨
    ∃ (a : Addr) (len cap m : Nat) (D : Nat → DataW H) (Pl : Nat → List MemPlace), cs = [.slice (some a) len cap] ∧ base ≤ a.block ∧ len ≤ cap ∧ cap ≤ maxLen ∧ m = (if spare a.block then cap else len) ∧
      x = (.slice ((List.range len).map D) ((List.range (m - len)).map fun j => D (len + j)), MemPlace.row a (m * fs.size) ++ (List.range m).flatMap Pl) ∧
      ∀ i, i < m → ∃ (ys : List (DataW H × List MemPlace)) (n : Nat), D i = .agg (ys.map (·.1)) ∧ Pl i = ys.flatMap (·.2) ∧ ys.length = fs.size ∧
        ∀ (j : Nat) (f : Field), fs[j]? = some f → ∃ (v : Value) (y : DataW H × List MemPlace), w.cell? (a.add (i * fs.size + j)) = some v ∧ ys[j]? = some y ∧ DataW.trod enc P w base spare held n f.type [v] = some y := by
  rcases open_slice ht h with h0 | ⟨a, len, cap, m, n, D, Pl, hcs, hb, hl, hm, hmm, hx, hi⟩
  · exact .inl h0
  · refine .inr ⟨a, len, cap, m, D, Pl, hcs, hb, hl, hm, hmm, by rw [hC] at hx; exact hx, fun i him => ?_⟩
    obtain ⟨cs', hc, ht'⟩ := hi i him
    rw [hC] at hc
    obtain ⟨ys, n', hn', hy, hlen, hyl, hf⟩ := DataW.trod_struct he ht'
    obtain ⟨_, hcl, hat⟩ := World.cells?_some hc
    simp only [Prod.mk.injEq] at hy
    refine ⟨ys, n', hy.1, hy.2, hyl, fun j f hj => ?_⟩
    obtain ⟨ho, hk⟩ := hone_of hone j f hj
    have hjl : j < fs.size := (Array.getElem?_eq_some_iff.1 hj).1
    have hcell := hat j hjl
    have hv : cs'[j]? = some (cs'[j]'(by omega)) := List.getElem?_eq_getElem (by omega)
    have h1 := hf j f hj
    rw [ho, hk] at h1
    have hone' : (cs'.drop j).take 1 = [cs'[j]'(by omega)] := by
      rw [List.drop_eq_getElem_cons (by omega)]
      rfl
    rw [hone'] at h1
    have hys : ys[j]? = some (ys[j]'(by omega)) := List.getElem?_eq_getElem (by omega)
    refine ⟨_, _, ?_, hys, h1.trans hys⟩
    rw [← Go.Deep.add_add, hcell, hv]
theorem open_agg5 {r : Reach} {b0 : Nat} {t : TypeId} {f0 f1 f2 f3 f4 : Field} {v : Value} {d : DataW H} {p : List MemPlace} (hs : P.underlying t = some (.struct #[f0, f1, f2, f3, f4])) (hone : oneCellFields P #[f0, f1, f2, f3, f4] = true) (hC : P.cellsOf t = 5)
    (hv : Value.okWide P w r b0 t v) (h : DataW.Trod enc P w base spare held t v d p) :
    ∃ (v0 v1 v2 v3 v4 : Value) (y0 y1 y2 y3 y4 : DataW H × List MemPlace) (n : Nat), v = .agg #[v0, v1, v2, v3, v4] ∧
      DataW.trod enc P w base spare held n f0.type [v0] = some y0 ∧ DataW.trod enc P w base spare held n f1.type [v1] = some y1 ∧ DataW.trod enc P w base spare held n f2.type [v2] = some y2 ∧ DataW.trod enc P w base spare held n f3.type [v3] = some y3 ∧ DataW.trod enc P w base spare held n f4.type [v4] = some y4 := by
  obtain ⟨cs, rfl, hsz⟩ := okWide_struct hs hv
  obtain ⟨l⟩ := cs
  match l, hsz.trans hC with
  | [c0, c1, c2, c3, c4], _ =>
    obtain ⟨fuel, hf⟩ := h
    obtain ⟨xs, n, _, hx, _, hlen, hg⟩ := DataW.trod_struct hs hf
    obtain ⟨o0, k0⟩ := hone_of hone 0 f0 rfl
    obtain ⟨o1, k1⟩ := hone_of hone 1 f1 rfl
    obtain ⟨o2, k2⟩ := hone_of hone 2 f2 rfl
    obtain ⟨o3, k3⟩ := hone_of hone 3 f3 rfl
    obtain ⟨o4, k4⟩ := hone_of hone 4 f4 rfl
    match xs, hlen with
    | [y0, y1, y2, y3, y4], _ =>
      exact ⟨c0, c1, c2, c3, c4, y0, y1, y2, y3, y4, n, rfl, by simpa [Value.cells, o0, k0] using hg 0 f0 rfl, by simpa [Value.cells, o1, k1] using hg 1 f1 rfl, by simpa [Value.cells, o2, k2] using hg 2 f2 rfl, by simpa [Value.cells, o3, k3] using hg 3 f3 rfl, by simpa [Value.cells, o4, k4] using hg 4 f4 rfl⟩
end
theorem list_of {α : Type} {Q : Nat → α → Prop} (n : Nat) (h : ∀ i, i < n → ∃ x, Q i x) : ∃ l : List α, l.length = n ∧ ∀ i x, l[i]? = some x → Q i x := by
  induction n with
  | zero => exact ⟨[], rfl, fun i x hx => by simp at hx⟩
  | succ n ih =>
    obtain ⟨l, hl, hq⟩ := ih (fun i hi => h i (by omega))
    obtain ⟨x, hx⟩ := h n (by omega)
    refine ⟨l ++ [x], by simp [hl], fun i y hy => ?_⟩
    by_cases hi : i < l.length
    · rw [List.getElem?_append_left hi] at hy; exact hq i y hy
    · rw [List.getElem?_append_right (by omega)] at hy
      have : i - l.length = 0 := by
        by_cases hz : i - l.length = 0
        · exact hz
        · rw [List.getElem?_eq_none (by simp; omega)] at hy; cases hy
      rw [this] at hy
      simp at hy
      have : i = n := by omega
      rw [this, ← hy]; exact hx
theorem open_types {H : Type} {enc : TypeId × Value → H} {w : World} {base fuel : Nat} {spare : Nat → Bool} {held : Bool} {v : Value} {x : DataW H × List MemPlace}
    (h : DataW.trod enc Try.prog w base spare held fuel 22 [v] = some x) :
    ∃ (a : Option Addr) (cap : Nat) (l : List S46), v = .slice a l.length cap ∧ l.length ≤ cap ∧ Kd.C k46 w a l.length l ∧ ∀ y ∈ l, (Lit.int .i64 y.f0).wf = true := by
  rcases open_slice_fields Try.underlying22 Try.underlying46 (by kernel_rfl) (by kernel_rfl) h with ⟨hcs, _⟩ | ⟨ad, len', cap', m, D, Pl, hcs, _, hl, hm, hmm, _, hi⟩
  · simp at hcs
    subst hcs
    exact ⟨none, 0, [], rfl, Nat.le_refl _, Kd.C_nil _ _, fun y hy => by cases hy⟩
  · simp at hcs
    subst hcs
    have hlm : len' ≤ m := by rw [hmm]; split <;> omega
    obtain ⟨l, hll, hq⟩ := list_of (Q := fun i (y : S46) => (w.cell? (ad.add (i * 3)) = some (.int .i64 y.f0) ∧ w.cell? (ad.add (i * 3 + 1)) = some (.bool y.f1) ∧ w.cell? (ad.add (i * 3 + 2)) = some (.string y.f2)) ∧ (Lit.int .i64 y.f0).wf = true) len' (fun i hlt => by
      obtain ⟨ys, n, _, _, _, hf⟩ := hi i (by omega)
      obtain ⟨v0, y0, hc0, _, ht0⟩ := hf 0 _ rfl
      obtain ⟨x0, e0, _, wx0⟩ := DataW.trod_int Try.underlying3 ht0
      obtain ⟨v1, y1, hc1, _, ht1⟩ := hf 1 _ rfl
      obtain ⟨x1, e1, _⟩ := DataW.trod_bool Try.underlying4 ht1
      obtain ⟨v2, y2, hc2, _, ht2⟩ := hf 2 _ rfl
      obtain ⟨x2, e2, _, _⟩ := DataW.trod_string Try.underlying9 ht2
      simp at e0 e1 e2
      subst e0 e1 e2
      exact ⟨⟨x0, x1, x2⟩, ⟨hc0, hc1, hc2⟩, wx0⟩)
    subst hll
    refine ⟨some ad, cap', l, rfl, hl, ⟨rfl, by have h1 := Nat.le_trans hl hm; simpa [maxLen] using h1, fun _ => ⟨ad, rfl, fun j p hj => ?_⟩⟩, fun y hy => ?_⟩
    · obtain ⟨⟨h0, h1, h2⟩, _⟩ := hq j p hj
      refine ⟨[.int .i64 p.f0, .bool p.f1, .string p.f2], rfl, k46_mk _ _, fun i u hu => ?_⟩
      match i with
      | 0 => simp at hu; subst hu; exact h0
      | 1 => simp at hu; subst hu; exact h1
      | 2 => simp at hu; subst hu; exact h2
      | i + 3 => simp at hu
    · obtain ⟨i, hi', rfl⟩ := List.getElem_of_mem hy
      exact (hq i _ (List.getElem?_eq_getElem hi')).2
theorem open_trans {H : Type} {enc : TypeId × Value → H} {w : World} {base fuel : Nat} {spare : Nat → Bool} {held : Bool} {v : Value} {x : DataW H × List MemPlace}
    (h : DataW.trod enc Try.prog w base spare held fuel 23 [v] = some x) :
    ∃ (a : Option Addr) (cap : Nat) (l : List S48), v = .slice a l.length cap ∧ l.length ≤ cap ∧ Kd.C k48 w a l.length l ∧ ∀ y ∈ l, (Lit.int .i64 y.f0).wf = true ∧ (Lit.int .i64 y.f1).wf = true := by
  rcases open_slice_fields Try.underlying23 Try.underlying48 (by kernel_rfl) (by kernel_rfl) h with ⟨hcs, _⟩ | ⟨ad, len', cap', m, D, Pl, hcs, _, hl, hm, hmm, _, hi⟩
  · simp at hcs
    subst hcs
    exact ⟨none, 0, [], rfl, Nat.le_refl _, Kd.C_nil _ _, fun y hy => by cases hy⟩
  · simp at hcs
    subst hcs
    have hlm : len' ≤ m := by rw [hmm]; split <;> omega
    obtain ⟨l, hll, hq⟩ := list_of (Q := fun i (y : S48) => (w.cell? (ad.add (i * 2)) = some (.int .i64 y.f0) ∧ w.cell? (ad.add (i * 2 + 1)) = some (.int .i64 y.f1)) ∧ (Lit.int .i64 y.f0).wf = true ∧ (Lit.int .i64 y.f1).wf = true) len' (fun i hlt => by
      obtain ⟨ys, n, _, _, _, hf⟩ := hi i (by omega)
      obtain ⟨v0, y0, hc0, _, ht0⟩ := hf 0 _ rfl
      obtain ⟨x0, e0, _, wx0⟩ := DataW.trod_int Try.underlying3 ht0
      obtain ⟨v1, y1, hc1, _, ht1⟩ := hf 1 _ rfl
      obtain ⟨x1, e1, _, wx1⟩ := DataW.trod_int Try.underlying3 ht1
      simp at e0 e1
      subst e0 e1
      exact ⟨⟨x0, x1⟩, ⟨hc0, hc1⟩, ⟨wx0, wx1⟩⟩)
    subst hll
    refine ⟨some ad, cap', l, rfl, hl, ⟨rfl, by have h1 := Nat.le_trans hl hm; simpa [maxLen] using h1, fun _ => ⟨ad, rfl, fun j p hj => ?_⟩⟩, fun y hy => ?_⟩
    · obtain ⟨⟨h0, h1⟩, _⟩ := hq j p hj
      refine ⟨[.int .i64 p.f0, .int .i64 p.f1], rfl, k48_mk _ _, fun i u hu => ?_⟩
      match i with
      | 0 => simp at hu; subst hu; exact h0
      | 1 => simp at hu; subst hu; exact h1
      | i + 2 => simp at hu
    · obtain ⟨i, hi', rfl⟩ := List.getElem_of_mem hy
      exact (hq i _ (List.getElem?_eq_getElem hi')).2
theorem open_corrs {H : Type} {enc : TypeId × Value → H} {w : World} {base fuel : Nat} {spare : Nat → Bool} {held : Bool} {v : Value} {x : DataW H × List MemPlace}
    (h : DataW.trod enc Try.prog w base spare held fuel 24 [v] = some x) :
    ∃ (a : Option Addr) (cap : Nat) (l : List S50), v = .slice a l.length cap ∧ l.length ≤ cap ∧ Kd.C k50 w a l.length l ∧ ∀ y ∈ l, (Lit.int .i64 y.f0).wf = true ∧ (Lit.int .i64 y.f1).wf = true := by
  rcases open_slice_fields Try.underlying24 Try.underlying50 (by kernel_rfl) (by kernel_rfl) h with ⟨hcs, _⟩ | ⟨ad, len', cap', m, D, Pl, hcs, _, hl, hm, hmm, _, hi⟩
  · simp at hcs
    subst hcs
    exact ⟨none, 0, [], rfl, Nat.le_refl _, Kd.C_nil _ _, fun y hy => by cases hy⟩
  · simp at hcs
    subst hcs
    have hlm : len' ≤ m := by rw [hmm]; split <;> omega
    obtain ⟨l, hll, hq⟩ := list_of (Q := fun i (y : S50) => (w.cell? (ad.add (i * 2)) = some (.int .i64 y.f0) ∧ w.cell? (ad.add (i * 2 + 1)) = some (.int .i64 y.f1)) ∧ (Lit.int .i64 y.f0).wf = true ∧ (Lit.int .i64 y.f1).wf = true) len' (fun i hlt => by
      obtain ⟨ys, n, _, _, _, hf⟩ := hi i (by omega)
      obtain ⟨v0, y0, hc0, _, ht0⟩ := hf 0 _ rfl
      obtain ⟨x0, e0, _, wx0⟩ := DataW.trod_int Try.underlying3 ht0
      obtain ⟨v1, y1, hc1, _, ht1⟩ := hf 1 _ rfl
      obtain ⟨x1, e1, _, wx1⟩ := DataW.trod_int Try.underlying3 ht1
      simp at e0 e1
      subst e0 e1
      exact ⟨⟨x0, x1⟩, ⟨hc0, hc1⟩, ⟨wx0, wx1⟩⟩)
    subst hll
    refine ⟨some ad, cap', l, rfl, hl, ⟨rfl, by have h1 := Nat.le_trans hl hm; simpa [maxLen] using h1, fun _ => ⟨ad, rfl, fun j p hj => ?_⟩⟩, fun y hy => ?_⟩
    · obtain ⟨⟨h0, h1⟩, _⟩ := hq j p hj
      refine ⟨[.int .i64 p.f0, .int .i64 p.f1], rfl, k50_mk _ _, fun i u hu => ?_⟩
      match i with
      | 0 => simp at hu; subst hu; exact h0
      | 1 => simp at hu; subst hu; exact h1
      | i + 2 => simp at hu
    · obtain ⟨i, hi', rfl⟩ := List.getElem_of_mem hy
      exact (hq i _ (List.getElem?_eq_getElem hi')).2
theorem R64_of {x : Int} (h : (Lit.int .i64 x).wf = true) : R64 x := R_of h
theorem open_zone {H : Type} {enc : TypeId × Value → H} {w : World} {base : Nat} {spare : Nat → Bool} {held : Bool} {r : Reach} {b0 : Nat} {v : Value} {d : DataW H} {p : List MemPlace}
    (hv : Value.okWide Try.prog w r b0 26 v) (h : DataW.Trod enc Try.prog w base spare held 26 v d p) :
    ∃ (A0 : Option Addr) (c0 : Nat) (l0 : List S46) (A1 : Option Addr) (c1 : Nat) (l1 : List S48) (A2 : Option Addr) (c2 : Nat) (l2 : List S50) (foot : ByteArray) (ver : Int), v = .agg #[.slice A0 l0.length c0, .slice A1 l1.length c1, .slice A2 l2.length c2, .string foot, .int .i64 ver] ∧ l0.length ≤ c0 ∧ l1.length ≤ c1 ∧ l2.length ≤ c2 ∧ Kd.C k46 w A0 l0.length l0 ∧ Kd.C k48 w A1 l1.length l1 ∧ Kd.C k50 w A2 l2.length l2 ∧ RZ l0 l1 l2 := by
  obtain ⟨v0, v1, v2, v3, v4, y0, y1, y2, y3, y4, n, rfl, h0, h1, h2, h3, h4⟩ := open_agg5 Try.underlying26 (by kernel_rfl) (by kernel_rfl) hv h
  obtain ⟨A0, c0, l0, rfl, i0, j0, k0⟩ := open_types h0
  obtain ⟨A1, c1, l1, rfl, i1, j1, k1⟩ := open_trans h1
  obtain ⟨A2, c2, l2, rfl, i2, j2, k2⟩ := open_corrs h2
  obtain ⟨foot, e3, _, _⟩ := DataW.trod_string Try.underlying9 h3
  obtain ⟨ver, e4, _⟩ := DataW.trod_int Try.underlying3 h4
  simp at e3 e4
  subst e3 e4
  exact ⟨A0, c0, l0, A1, c1, l1, A2, c2, l2, foot, ver, rfl, i0, i1, i2, j0, j1, j2, fun t ht => R64_of (k0 t ht), fun t ht => ⟨R64_of (k1 t ht).1, R64_of (k1 t ht).2⟩, fun t ht => ⟨R64_of (k2 t ht).1, R64_of (k2 t ht).2⟩⟩
end Go.Proofs.Ytpgjcnjojfehjaa.Bk
