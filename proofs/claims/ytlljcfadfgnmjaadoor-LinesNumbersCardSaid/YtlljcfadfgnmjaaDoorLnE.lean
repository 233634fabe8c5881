/- lines.Split: lines: the walk; condition: the text's size; the library's variable internal/bytealg.MaxLen holds some number. -/
import Derived.Test.YtlljcfadfgnmjaaDoorLnD
import Derived.Lib.SplitLaws
namespace Go.Proofs.YtlljcfadfgnmjaaDoor.Ln
open Go.RowKit Go.Proofs.YtlljcfadfgnmjaaDoorW.PrintWords Go.Proofs.YtlljcfadfgnmjaaDoorW.PrintLast Go.Proofs.YtlljcfadfgnmjaaDoorW.PrintMore

def trimS (t : ByteArray) : ByteArray := ⟨(Lib.trimSuffix t.data.toList [13]).toArray⟩
/-- Pieces between line feeds, the last one left out if it is empty, trimmed. -/
def linesE (n : Nat) (ps : List ByteArray) : List ByteArray := match (rdOf ByteArray.empty ps (n : Int)).toList.isEmpty with
  | true => (ps.take n).map trimS
  | false => ps.map trimS
def splitN (s : ByteArray) : List ByteArray := linesE (Lib.countB s ⟨#[10]⟩) (Lib.splitB ⟨#[10]⟩ 0 (Lib.countB s ⟨#[10]⟩) s)
theorem set_step {L : List ByteArray} {k : Nat} (h : k < L.length) : ((L.take k).map trimS ++ L.drop k).set k (trimS (rdOf ByteArray.empty L (k : Int))) = (L.take (k + 1)).map trimS ++ L.drop (k + 1) := by
  have h1 : L[k]? = some (rdOf ByteArray.empty L (k : Int)) := by
    unfold rdOf
    rw [Int.toNat_natCast, List.getElem?_eq_getElem h]
    simp [List.getD, h]
  have h2 : L.drop k = rdOf ByteArray.empty L (k : Int) :: L.drop (k + 1) := by
    rw [List.drop_eq_getElem_cons h]
    congr 1
    rw [List.getElem?_eq_getElem h] at h1
    injection h1
  have h3 : ((L.take k).map trimS).length = k := by rw [List.length_map, List.length_take]; omega
  rw [List.set_append_right _ _ (by omega), h3, Nat.sub_self, h2, List.set_cons_zero, List.take_add_one, h1]
  simp
theorem at_step {L : List ByteArray} {k : Nat} (h : k < L.length) : rdOf ByteArray.empty ((L.take k).map trimS ++ L.drop k) (k : Int) = rdOf ByteArray.empty L (k : Int) := by
  have h3 : ((L.take k).map trimS).length = k := by rw [List.length_map, List.length_take]; omega
  unfold rdOf
  rw [Int.toNat_natCast]
  simp only [List.getD]
  rw [List.getElem?_append_right (by omega), h3, Nat.sub_self, List.getElem?_drop, Nat.add_zero]
theorem splitB_size (sep : ByteArray) : ∀ (k : Nat) (s : ByteArray), ∀ p ∈ Lib.splitB sep 0 k s, p.size ≤ s.size
  | 0, s, p, hp => by
    rw [Lib.splitB_zero, List.mem_singleton] at hp
    rw [hp]
    exact Nat.le_refl _
  | k + 1, s, p, hp => by
    unfold Lib.splitB at hp
    split at hp
    · rw [List.mem_singleton] at hp
      rw [hp]
      exact Nat.le_refl _
    · rcases List.mem_cons.1 hp with h | h
      · rw [h, ByteArray.size_extract]; omega
      · have := splitB_size sep k _ p h
        rw [ByteArray.size_extract] at this
        omega
set_option maxHeartbeats 4000000 in
set_option maxRecDepth 100000 in
theorem split_calls (s : ByteArray) (w : World) (hm : MaxIs w) (hs : s.size < 4294967281) :
    Calls Tryd.prog 16 #[.string s] w fun e w' => ∃ v1, e = .returned v1 ∧ Kd.R Kd.string 9 w' w.heap.size (fun _ => True) v1 (splitN s) ∧ Below w.heap.size w w' := by
  obtain ⟨m, hm⟩ := hm
  have hc := Tryd.strings_Split s ⟨#[10]⟩ m w hs hm (by decide)
  have hlen := Lib.splitB_all ⟨#[10]⟩ (by decide) 0 _ s rfl
  have hle := Lib.countB_le ⟨#[10]⟩ (by decide) s.size s (Nat.le_refl _)
  have hS : splitN s = linesE (Lib.countB s ⟨#[10]⟩) (Lib.splitB ⟨#[10]⟩ 0 (Lib.countB s ⟨#[10]⟩) s) := rfl
  rw [hS]
  clear hS
  have hsz := splitB_size ⟨#[10]⟩ (Lib.countB s ⟨#[10]⟩) s
  generalize Lib.splitB ⟨#[10]⟩ 0 (Lib.countB s ⟨#[10]⟩) s = ps at *
  generalize Lib.countB s ⟨#[10]⟩ = n at *
  have hR : Kd.R Kd.string 9 (w.alloc (.cells (ps.map Value.string).toArray 9)) w.heap.size (fun _ => True) (.slice (some ⟨w.heap.size, 0, none⟩) (n + 1) (n + 1)) ps := by
    have h := own_lit_of (enc := Value.string) w w.heap.size 9 ps (Nat.le_refl _) (by omega)
    rw [hlen] at h
    exact Kd.R_of_own (by rw [hlen]; exact h) (fun _ _ => trivial)
  have hB : Below w.heap.size w (w.alloc (.cells (ps.map Value.string).toArray 9)) := below_alloc (Below.refl _ _) _
  generalize w.alloc (.cells (ps.map Value.string).toArray 9) = W at *
  have HR := Aside0.mk hR
  have HB := Aside0.mk hB
  have HSZ := fun (t : ByteArray) (W : World) (h : t.size ≤ 9223372036854775807) => Tryd.strings_TrimSuffix t ⟨#[13]⟩ W h
  have hwn : wrap64 (n : Int) = (n : Int) := Plain.wrap_in (by unfold Plain.R; omega)
  have c1 : (0 : Int) ≤ wrap64 (n : Int) := by omega
  have c2 : wrap64 (n : Int) < (n : Int) + 1 := by omega
  have hx := (Kd.R_celln ByteArray.empty hR (n : Int) (by omega) (by omega)).1
  rw [Int.toNat_natCast] at hx
  have HPS : Aside0 (∀ p ∈ ps, p.size ≤ 9223372036854775807) := ⟨fun p hp => by have := hsz p hp; omega⟩
  clear hB hm hsz
  go_enter Tryd.func16, Tryd.ntmps16
  go_wp2_with fail
  refine hc.mono ?_
  rintro e w' ⟨rfl, rfl⟩
  cases hb : (rdOf ByteArray.empty ps (n : Int)).toList.isEmpty with
  | true =>
    have hL : linesE n ps = (ps.take n).map trimS := by unfold linesE; rw [hb]
    go_wp2
    obtain ⟨L, hL0⟩ : ∃ L, ps.take n = L := ⟨_, rfl⟩
    have HRL : Aside0 (Kd.R Kd.string 9 w' w.heap.size (fun _ => True) (.slice (some ⟨w.heap.size, 0, none⟩) (n) (n + 1)) L) := ⟨hL0 ▸ (Kd.R_take HR.out (by rw [hlen]; omega))⟩
    have HLL : Aside0 (L.length = n) := ⟨by rw [← hL0]; exact (by rw [List.length_take]; omega)⟩
    have HPL : Aside0 (∀ p ∈ L, p.size ≤ 9223372036854775807) := ⟨fun p hp => HPS.out p (by rw [← hL0] at hp; first | exact hp | exact List.mem_of_mem_take hp)⟩
    have HLE : Aside0 (linesE n ps = L.map trimS) := ⟨hL.trans (congrArg (List.map trimS) hL0)⟩
    clear HR HPS hL hL0
    go_loopw [21] (fun i wr => ∃ k : Nat, k ≤ n ∧ i = .int .i64 k ∧ Aside0 (Below w.heap.size w wr) ∧ Aside0 (Kd.R Kd.string 9 wr w.heap.size (fun _ => True) (.slice (some ⟨w.heap.size, 0, none⟩) (n) (n + 1)) ((L.take k).map trimS ++ L.drop k))) (fun i _ => n - (intOf i).toNat)
    case atStart => exact ⟨0, by omega, rfl, HB, ⟨by simpa using HRL.out⟩⟩
    case round =>
      obtain ⟨k, hk, rfl, HBr, HRr⟩ := hrel
      clear HRL HB
      by_cases hlt : k < n
      · have hkl : k < L.length := by rw [HLL.out]; exact hlt
        obtain ⟨hcell, hfz⟩ := Kd.R_celln ByteArray.empty HRr.out (k : Int) (by omega) (by omega)
        rw [at_step hkl, Int.toNat_natCast] at hcell
        rw [Int.toNat_natCast] at hfz
        have hmem : rdOf ByteArray.empty L (k : Int) ∈ L := by
          unfold rdOf
          rw [Int.toNat_natCast]
          simp only [List.getD, List.getElem?_eq_getElem hkl, Option.getD_some]
          exact List.getElem_mem hkl
        have hszk := HPL.out _ hmem
        have HST := Aside0.mk (set_step hkl)
        have HNX := Aside0.mk (Kd.R_putn HRr.out (k : Int) (trimS (rdOf ByteArray.empty L (k : Int))))
        rw [Int.toNat_natCast, HST.out] at HNX
        have HB2 := Aside0.mk (below_set (j := k) (v := .string (trimS (rdOf ByteArray.empty L (k : Int)))) HBr.out (Nat.le_refl _))
        generalize rdOf ByteArray.empty L (k : Int) = x at *
        clear HST
        go_wp2_with fail
        refine (HSZ x _ hszk).mono ?_
        rintro e w2 ⟨rfl, rfl⟩
        go_wp2
        exact ⟨⟨k + 1, by omega, by go_num, HB2, HNX⟩, by simp [intOf]; omega⟩
      · have hkn : k = n := by omega
        subst k
        have hE : (L.take (n)).map trimS ++ L.drop (n) = L.map trimS := by rw [← HLL.out, List.take_length, List.drop_length, List.append_nil]
        go_wp2
        go_ret
        exact ⟨_, rfl, by rw [HLE.out, ← hE]; exact HRr.out, HBr.out⟩
  | false =>
    have hL : linesE n ps = ps.map trimS := by unfold linesE; rw [hb]
    go_wp2
    obtain ⟨L, hL0⟩ : ∃ L, ps = L := ⟨_, rfl⟩
    have HRL : Aside0 (Kd.R Kd.string 9 w' w.heap.size (fun _ => True) (.slice (some ⟨w.heap.size, 0, none⟩) (n + 1) (n + 1)) L) := ⟨hL0 ▸ (HR.out)⟩
    have HLL : Aside0 (L.length = n + 1) := ⟨by rw [← hL0]; exact (hlen)⟩
    have HPL : Aside0 (∀ p ∈ L, p.size ≤ 9223372036854775807) := ⟨fun p hp => HPS.out p (by rw [← hL0] at hp; first | exact hp | exact List.mem_of_mem_take hp)⟩
    have HLE : Aside0 (linesE n ps = L.map trimS) := ⟨hL.trans (congrArg (List.map trimS) hL0)⟩
    clear HR HPS hL hL0
    go_loopw [21] (fun i wr => ∃ k : Nat, k ≤ n + 1 ∧ i = .int .i64 k ∧ Aside0 (Below w.heap.size w wr) ∧ Aside0 (Kd.R Kd.string 9 wr w.heap.size (fun _ => True) (.slice (some ⟨w.heap.size, 0, none⟩) (n + 1) (n + 1)) ((L.take k).map trimS ++ L.drop k))) (fun i _ => n + 1 - (intOf i).toNat)
    case atStart => exact ⟨0, by omega, rfl, HB, ⟨by simpa using HRL.out⟩⟩
    case round =>
      obtain ⟨k, hk, rfl, HBr, HRr⟩ := hrel
      clear HRL HB
      by_cases hlt : k < n + 1
      · have hkl : k < L.length := by rw [HLL.out]; exact hlt
        obtain ⟨hcell, hfz⟩ := Kd.R_celln ByteArray.empty HRr.out (k : Int) (by omega) (by omega)
        rw [at_step hkl, Int.toNat_natCast] at hcell
        rw [Int.toNat_natCast] at hfz
        have hmem : rdOf ByteArray.empty L (k : Int) ∈ L := by
          unfold rdOf
          rw [Int.toNat_natCast]
          simp only [List.getD, List.getElem?_eq_getElem hkl, Option.getD_some]
          exact List.getElem_mem hkl
        have hszk := HPL.out _ hmem
        have HST := Aside0.mk (set_step hkl)
        have HNX := Aside0.mk (Kd.R_putn HRr.out (k : Int) (trimS (rdOf ByteArray.empty L (k : Int))))
        rw [Int.toNat_natCast, HST.out] at HNX
        have HB2 := Aside0.mk (below_set (j := k) (v := .string (trimS (rdOf ByteArray.empty L (k : Int)))) HBr.out (Nat.le_refl _))
        generalize rdOf ByteArray.empty L (k : Int) = x at *
        clear HST
        go_wp2_with fail
        refine (HSZ x _ hszk).mono ?_
        rintro e w2 ⟨rfl, rfl⟩
        go_wp2
        exact ⟨⟨k + 1, by omega, by go_num, HB2, HNX⟩, by simp [intOf]; omega⟩
      · have hkn : k = n + 1 := by omega
        subst k
        have hE : (L.take (n + 1)).map trimS ++ L.drop (n + 1) = L.map trimS := by rw [← HLL.out, List.take_length, List.drop_length, List.append_nil]
        go_wp2
        go_ret
        exact ⟨_, rfl, by rw [HLE.out, ← hE]; exact HRr.out, HBr.out⟩
end Go.Proofs.YtlljcfadfgnmjaaDoor.Ln
