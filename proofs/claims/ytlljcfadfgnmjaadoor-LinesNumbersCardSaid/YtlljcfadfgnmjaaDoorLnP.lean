/- lines: plain laws on bytes, folds and rounds; no condition. -/
import Derived.Test.YtlljcfadfgnmjaaDoorLnS
namespace Go.Proofs.YtlljcfadfgnmjaaDoor.Ln
open Go.RowKit Go.Proofs.YtlljcfadfgnmjaaDoorW.PrintWords Go.Proofs.YtlljcfadfgnmjaaDoorW.PrintLast Go.Proofs.YtlljcfadfgnmjaaDoorW.PrintMore

/-- From some number of rounds on. -/
def Evn {α : Type} (f : Nat → Option α) (r : α) : Prop := ∃ k0, ∀ k, k0 ≤ k → f k = some r
theorem Evn.step {α : Type} {f g : Nat → Option α} {r : α} (h : Evn f r) (hg : ∀ k, g (k + 1) = f k) : Evn g r := by
  obtain ⟨k0, hk⟩ := h
  refine ⟨k0 + 1, fun k hk' => ?_⟩
  obtain ⟨m, rfl⟩ : ∃ m, k = m + 1 := ⟨k - 1, by omega⟩
  rw [hg]
  exact hk m (by omega)
theorem Evn.now {α : Type} {g : Nat → Option α} {r : α} (hg : ∀ k, g (k + 1) = some r) : Evn g r :=
  Evn.step (f := fun _ => some r) ⟨0, fun _ _ => rfl⟩ hg
theorem Evn.all {α : Type} {g : Nat → Option α} {r : α} (hg : ∀ k, g k = some r) : Evn g r := ⟨0, fun k _ => hg k⟩
theorem Evn.bind {α β : Type} {f : Nat → Option α} {g : Nat → α → Option β} {a : α} {r : β} (h1 : Evn f a) (h2 : Evn (fun k => g k a) r) : Evn (fun k => (f k).bind (g k)) r := by
  obtain ⟨k1, e1⟩ := h1
  obtain ⟨k2, e2⟩ := h2
  refine ⟨max k1 k2, fun k hk => ?_⟩
  show (f k).bind (g k) = some r
  rw [e1 k (by omega), Option.bind_some]
  exact e2 k (by omega)
theorem Evn.get {α : Type} {f : Nat → Option α} {r : α} (h : Evn f r) : ∃ k, f k = some r := by
  obtain ⟨k0, hk⟩ := h
  exact ⟨k0, hk k0 (Nat.le_refl _)⟩
theorem w64 {x : Int} (h : -9223372036854775808 ≤ x ∧ x ≤ 9223372036854775807) : wrap64 x = x := by
  unfold wrap64; omega
theorem next_i {i : Nat} (h : i < 9223372036854775807) : wrap64 ((i : Int) + 1) = ((i + 1 : Nat) : Int) := by
  rw [w64 (by omega)]; omega
theorem get_lt {s : ByteArray} {k : Nat} {x : UInt8} (h : s.data[k]? = some x) : k < s.size := by
  by_cases hk : k < s.data.size
  · exact hk
  · rw [Array.getElem?_eq_none (by omega)] at h; cases h
theorem bt_get {s : ByteArray} {k : Nat} {x : UInt8} (h : s.data[k]? = some x) : bt s (k : Int) = x.toNat := by
  have hlt := get_lt h
  unfold bt
  rw [dif_pos (by simpa using hlt)]
  have h2 : s.data[k]? = some (s.data[k]'hlt) := Array.getElem?_eq_getElem hlt
  rw [h2] at h
  injection h with h
  rw [← h]
  rfl
theorem has_at {s : ByteArray} {j : Nat} (h : j < s.size) : ∃ x : UInt8, s.data[j]? = some x := ⟨s.data[j]'h, Array.getElem?_eq_getElem h⟩
theorem bytes_eq {s t : ByteArray} (h : s.data.toList = t.data.toList) : s = t := by
  cases s; cases t
  congr
  exact Array.toList_inj.mp h
theorem str_beq {s t : ByteArray} : (s.toList == t.toList) = decide (s = t) := by
  by_cases h : s = t
  · subst h; simp
  · rw [decide_eq_false h]
    refine beq_eq_false_iff_ne.mpr fun e => h ?_
    rw [ByteArray.toList_eq, ByteArray.toList_eq] at e
    exact bytes_eq e
theorem toList_iff {s t : ByteArray} : s.toList = t.toList ↔ s = t := by
  constructor
  · intro e
    rw [ByteArray.toList_eq, ByteArray.toList_eq] at e
    exact bytes_eq e
  · rintro rfl; rfl
theorem fold_size (s : ByteArray) : (foldS s).size = s.size := by
  show (s.data.map foldU).size = s.data.size
  simp
theorem fold_bt {s : ByteArray} {i : Nat} (h : i < s.size) : bt (foldS s) (i : Int) = foldB (bt s (i : Int)) := by
  obtain ⟨x, hx⟩ := has_at h
  have h2 : (foldS s).data[i]? = some (foldU x) := by
    show (s.data.map foldU)[i]? = _
    rw [Array.getElem?_map, hx]; rfl
  rw [bt_get h2, bt_get hx, foldU_B]
theorem foldU_foldU (b : UInt8) : foldU (foldU b) = foldU b := by
  unfold foldU
  by_cases h : 65 ≤ b.toNat ∧ b.toNat ≤ 90
  · rw [if_pos h, if_neg]
    rw [UInt8.toNat_add]
    have : (32 : UInt8).toNat = 32 := rfl
    omega
  · rw [if_neg h, if_neg h]
theorem fold_fold (s : ByteArray) : foldS (foldS s) = foldS s := bytes_eq (by
  show ((s.data.map foldU).map foldU).toList = (s.data.map foldU).toList
  rw [Array.map_map]
  congr 2
  funext b
  exact foldU_foldU b)
theorem ifB_true {α : Type} {b : Bool} {x : α} (h : b = true) : ifB b x = some x := by unfold ifB; rw [h]
theorem foldF_some {s : ByteArray} (h : s.size ≤ 9223372036854775807) : foldF s = some (foldS s) := ifB_true (decide_eq_true h)
theorem numF_some {s : ByteArray} (h : s.size ≤ 9223372036854775807) : numF s = some (numN s) := ifB_true (decide_eq_true h)
theorem wordsF_some {s : ByteArray} (h : s.size + 1 ≤ 8796093022208) : wordsF s = some (wordsN s) := ifB_true (decide_eq_true h)
theorem cutF_some {s t : ByteArray} (h : s.size < 4294967281) : cutF s t = some (cutN s t) := ifB_true (decide_eq_true h)
theorem splitF_some {s : ByteArray} (h : s.size < 4294967281) : splitF s = some (splitN s) := ifB_true (decide_eq_true h)
end Go.Proofs.YtlljcfadfgnmjaaDoor.Ln
