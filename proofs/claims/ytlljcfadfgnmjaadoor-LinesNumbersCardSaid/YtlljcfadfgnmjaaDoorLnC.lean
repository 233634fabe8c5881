/- lines.Fold: small letters: the walk; condition: none but the text's size. -/
import Derived.Test.YtlljcfadfgnmjaaDoorLnB
namespace Go.Proofs.YtlljcfadfgnmjaaDoor.Ln
open Go.RowKit Go.Proofs.YtlljcfadfgnmjaaDoorW.PrintWords Go.Proofs.YtlljcfadfgnmjaaDoorW.PrintLast Go.Proofs.YtlljcfadfgnmjaaDoorW.PrintMore Plain

def foldU (b : UInt8) : UInt8 := if 65 ≤ b.toNat ∧ b.toNat ≤ 90 then b + 32 else b
def foldB (n : Int) : Int := if 65 ≤ n ∧ n ≤ 90 then n + 32 else n
def foldS (s : ByteArray) : ByteArray := ⟨s.data.map foldU⟩
theorem foldU_B (b : UInt8) : ((foldU b).toNat : Int) = foldB b.toNat := by
  unfold foldU foldB
  by_cases h : 65 ≤ b.toNat ∧ b.toNat ≤ 90
  · rw [if_pos h, if_pos (by omega), UInt8.toNat_add]
    have : (32 : UInt8).toNat = 32 := rfl
    omega
  · rw [if_neg h, if_neg (by omega)]
/-- The bytes, as far as they are folded. -/
def part (s : ByteArray) (k j : Nat) : Int := if j < k then foldB (s.get! j).toNat else (s.get! j).toNat
theorem part_old {s : ByteArray} {k j : Nat} (h : ¬ j < k) : part s k j = (s.get! j).toNat := if_neg h
theorem part_new {s : ByteArray} {k j : Nat} (h : j < k) : part s k j = foldB (s.get! j).toNat := if_pos h
theorem part_step {s : ByteArray} {k j : Nat} (h : j ≠ k) : part s (k + 1) j = part s k j := by
  unfold part
  by_cases h1 : j < k
  · rw [if_pos h1, if_pos (by omega)]
  · rw [if_neg h1, if_neg (by omega)]
theorem fold_nums (s : ByteArray) : strOfNums ((s.data.toList.map foldU).map (fun b => (b.toNat : Int))) = foldS s := by
  have h : (strOfNums ((s.data.toList.map foldU).map (fun b => (b.toNat : Int)))).data.toList = (foldS s).data.toList := by
    rw [strOfNums_data, List.map_map]
    show _ = (s.data.map foldU).toList
    rw [Array.toList_map]
    refine (List.map_congr_left fun b _ => ?_).trans (List.map_id _)
    simp
  have h2 := Array.toList_inj.mp h
  cases hh : strOfNums ((s.data.toList.map foldU).map (fun b => (b.toNat : Int)))
  rw [hh] at h2
  cases hf : foldS s
  rw [hf] at h2
  simp only at h2
  rw [h2]
theorem cell_other {W : World} {g k j : Nat} {v : Value} (h : k ≠ j) : (W.setCell ⟨g, k, none⟩ v).cell? ⟨g, j, none⟩ = W.cell? ⟨g, j, none⟩ := by
  have h' : (⟨g, k, none⟩ : Addr) ≠ ⟨g, j, none⟩ := fun e => h (congrArg Addr.off e)
  first | exact World.cell?_setCell_other _ _ _ _ h' | exact World.cell?_setCell_other h' | simp [go_sem, h, h']
set_option maxHeartbeats 4000000 in
set_option maxRecDepth 100000 in
theorem fold_calls (s : ByteArray) (w : World) (hs : s.size ≤ 9223372036854775807) :
    Calls Tryd.prog 20 #[.string s] w fun e w' => e = .returned (.string (foldS s)) ∧ Below w.heap.size w w' := by
  have hcv := Lib.run_convert_string_bytes w 9 34 5 s Tryd.underlying9 Tryd.underlying34 Tryd.underlying5
  have hbw : Below w.heap.size w (Lib.bytesWorld w 5 s) := ⟨rfl, rfl, rfl, by rw [Lib.bytesWorld_size]; omega, fun j hj => Lib.bytesWorld_at_old w _ s j hj⟩
  have hcell : ∀ j < s.size, (Lib.bytesWorld w 5 s).cell? ⟨w.heap.size, j, none⟩ = some (.int .u8 (part s 0 j)) := fun j hj => by
    rw [Lib.bytesWorld_cell w 5 s j hj, getD_at hj, part_old (by omega)]
  have hfz : ∀ j < s.size, (Lib.bytesWorld w 5 s).frozen? ⟨w.heap.size, j, none⟩ = false := fun j hj => by
    simp [World.frozen?, Lib.bytesWorld_at_new, Lib.bytesCells]
    omega
  generalize Lib.bytesWorld w 5 s = W at *
  have HBW := Aside0.mk hbw
  have HC := Aside0.mk hcell
  have HFZ := Aside0.mk hfz
  clear hbw hcell hfz
  go_enter Tryd.func20, Tryd.ntmps20
  go_wp2
  go_loopw [10] (fun i wr => ∃ k : Nat, k ≤ s.size ∧ i = .int .i64 k ∧ Aside0 (Below w.heap.size w wr) ∧ Aside0 (∀ j < s.size, wr.cell? ⟨w.heap.size, j, none⟩ = some (.int .u8 (part s k j))) ∧ Aside0 (∀ j < s.size, wr.frozen? ⟨w.heap.size, j, none⟩ = false)) (fun i _ => s.size - (intOf i).toNat)
  case atStart => exact ⟨0, by omega, rfl, HBW, HC, HFZ⟩
  case round =>
    obtain ⟨k, hk, rfl, HB, HK, HZ⟩ := hrel
    clear HBW HC HFZ hcv
    by_cases hlt : k < s.size
    · have hx : wr.cell? ⟨w.heap.size, k, none⟩ = some (.int .u8 (s.get! k).toNat) := by rw [HK.out k hlt, part_old (by omega)]
      have hz := HZ.out k hlt
      have hb8 : (s.get! k).toNat < 256 := UInt8.toNat_lt _
      have hp1 : part s (k + 1) k = foldB (s.get! k).toNat := part_new (by omega)
      have hp0 : part s k k = (s.get! k).toNat := part_old (by omega)
      have HP : Aside0 (∀ j, j ≠ k → part s (k + 1) j = part s k j) := ⟨fun j h => part_step h⟩
      generalize (s.get! k).toNat = b at *
      by_cases h1 : (b : Int) ≥ 65
      · by_cases h2 : (b : Int) ≤ 90
        · have HK2 : Aside0 (∀ j < s.size, (wr.setCell ⟨w.heap.size, k, none⟩ (.int .u8 ((b : Int) + 32))).cell? ⟨w.heap.size, j, none⟩ = some (.int .u8 (part s (k + 1) j))) := ⟨fun j hj => by
            by_cases hjk : j = k
            · subst hjk
              rw [World.cell?_setCell_same' _ _ _ (by rw [hx]; rfl), hp1]
              unfold foldB
              rw [if_pos (by omega)]
            · rw [cell_other (fun e => hjk e.symm), HK.out j hj, HP.out j hjk]⟩
          have HZ2 : Aside0 (∀ j < s.size, (wr.setCell ⟨w.heap.size, k, none⟩ (.int .u8 ((b : Int) + 32))).frozen? ⟨w.heap.size, j, none⟩ = false) := ⟨fun j hj => by rw [World.frozen?_setCell]; exact HZ.out j hj⟩
          have HB2 := Aside0.mk (below_set (j := k) (v := .int .u8 ((b : Int) + 32)) HB.out (Nat.le_refl _))
          have hw8 : IntKind.u8.wrap ((b : Int) + 32) = (b : Int) + 32 := by simp [IntKind.wrap, IntKind.bits, IntKind.signed]; omega
          clear HK HZ hp1 hp0 HP
          go_wp2
          first | rw [hw8] | skip
          exact ⟨⟨k + 1, by omega, by go_num, HB2, HK2, HZ2⟩, by simp [intOf]; omega⟩
        · have HK2 : Aside0 (∀ j < s.size, wr.cell? ⟨w.heap.size, j, none⟩ = some (.int .u8 (part s (k + 1) j))) := ⟨fun j hj => by
            by_cases hjk : j = k
            · subst hjk
              rw [hx, hp1]
              unfold foldB
              rw [if_neg (by omega)]
            · rw [HK.out j hj, HP.out j hjk]⟩
          clear HK hp1 hp0 HP
          go_wp2
          exact ⟨⟨k + 1, by omega, by go_num, HB, HK2, HZ⟩, by simp [intOf]; omega⟩
      · have HK2 : Aside0 (∀ j < s.size, wr.cell? ⟨w.heap.size, j, none⟩ = some (.int .u8 (part s (k + 1) j))) := ⟨fun j hj => by
          by_cases hjk : j = k
          · subst hjk
            rw [hx, hp1]
            unfold foldB
            rw [if_neg (by omega)]
          · rw [HK.out j hj, HP.out j hjk]⟩
        clear HK hp1 hp0 HP
        go_wp2
        exact ⟨⟨k + 1, by omega, by go_num, HB, HK2, HZ⟩, by simp [intOf]; omega⟩
    · obtain rfl : k = s.size := by omega
      have hC : Kd.C (Kd.int .u8) wr (some ⟨w.heap.size, 0, none⟩) s.size ((s.data.toList.map foldU).map (fun b => (b.toNat : Int))) := by
        refine Kd.C_of_reads (enc := Value.int .u8) (d := (0 : Int)) (h1 := fun _ => rfl) ⟨by rw [List.length_map, List.length_map, Array.length_toList]; rfl, hs, fun _ => ⟨_, rfl, fun j hj => ?_⟩⟩
        rw [add_plain, HK.out j hj, part_new hj]
        have h1 := get_at hj
        have h2 := congrArg (fun l => l[0]?) h1
        simp only [List.getElem?_drop, Nat.add_zero, List.getElem?_cons_zero] at h2
        congr 2
        rw [← foldU_B]
        simp [List.getD, h2]
      have hcs := Kd.C_string (c := grownCap w s.size 0 5) Tryd.underlying34 Tryd.underlying5 Tryd.underlying9 hC
      rw [fold_nums] at hcs
      clear HK HZ hC
      go_wp2
      go_ret
      exact ⟨rfl, HB.out⟩
end Go.Proofs.YtlljcfadfgnmjaaDoor.Ln
