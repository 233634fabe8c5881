/- What head's functions answer, in one word each; condition: bytes that are read have room. -/
import Derived.Test.YthgghbmckpflcaaHeadD
namespace Go.Proofs.Ythgghbmckpflcaa.Oct
open Go.RowKit Go.Proofs.YthgghbmckpflcaaW.PrintWords Go.Proofs.YthgghbmckpflcaaW.PrintLast Go.Proofs.YthgghbmckpflcaaW.PrintMore

def encF (v u s l t ty c : Int) : List Int × Bool := match rightS v u s l t ty c with
  | true => (encS v u s l t ty c, true)
  | false => ([], false)
theorem encode_calls (v u s l t ty c : Int) (r1 : List Int) (r2 : Bool) (w : World) (h : encF v u s l t ty c = (r1, r2)) :
    Calls Try.prog 9 #[.agg #[.int .i64 v, .int .i64 u, .int .i64 s, .int .i64 l, .int .i64 t, .int .i64 ty, .int .i64 c]] w fun e w' => ∃ v0_ : Value, e = .returned (.tuple #[v0_, .bool r2]) ∧ Kd.R (Kd.int .u8) 5 w' w.heap.size (fun _ => True) v0_ r1 ∧ Below w.heap.size w w' := by
  unfold encF at h
  cases hr : rightS v u s l t ty c with
  | true =>
    rw [hr] at h
    injection h with h1 h2
    subst h1 h2
    exact encode_yes v u s l t ty c w hr
  | false =>
    rw [hr] at h
    injection h with h1 h2
    subst h1 h2
    exact (encode_no v u s l t ty c w hr).mono fun e w' ⟨he, hb⟩ => ⟨_, he, Kd.R_nil _ _ _ _ _, hb⟩

def sizeF (v u s l t ty c size : Int) : Int := match rightS v u s l t ty c with
  | true => if size = 4 ∨ size = 8 then t * (size + 1) + ty * 6 + c + l * (size + 4) + s + u else 0
  | false => 0
set_option maxHeartbeats 1000000 in
theorem size_calls (v u s l t ty c size : Int) (w : World) :
    Calls Try.prog 15 #[.agg #[.int .i64 v, .int .i64 u, .int .i64 s, .int .i64 l, .int .i64 t, .int .i64 ty, .int .i64 c], .int .i64 size] w fun e w' => e = .returned (.int .i64 (sizeF v u s l t ty c size)) ∧ Below w.heap.size w w' := by
  cases hr : rightS v u s l t ty c with
  | false =>
    have hs : sizeF v u s l t ty c size = 0 := by unfold sizeF; rw [hr]
    rw [hs]
    have HR := Aside0.mk hr
    clear hr hs
    go_enter Try.func15, Try.ntmps15
    go_wp2_with fail
    refine (right_calls v u s l t ty c _).mono ?_
    rintro e w1 ⟨rfl, hb⟩
    rw [HR.out]
    have HB := Aside0.mk hb
    clear hb
    go_wp2
    go_ret
    exact ⟨rfl, below_then (below_alloc (Below.refl _ _) _) (by simp) HB.out⟩
  | true =>
    have hR := of_decide_eq_true hr
    by_cases h48 : size = 4 ∨ size = 8
    · have hs : sizeF v u s l t ty c size = t * (size + 1) + ty * 6 + c + l * (size + 4) + s + u := by unfold sizeF; rw [hr]; exact if_pos h48
      have HR := Aside0.mk hr
      have HS := Aside0.mk hs
      have HX := Aside0.mk hR
      clear hr hs hR
      rcases h48 with rfl | rfl
      all_goals
        go_enter Try.func15, Try.ntmps15
        go_wp2_with fail
        refine (right_calls v u s l t ty c _).mono ?_
        rintro e w1 ⟨rfl, hb⟩
        rw [HR.out]
        have hbp : w1.heap[w.heap.size]? = some (.cells #[.int .i64 v, .int .i64 u, .int .i64 s, .int .i64 l, .int .i64 t, .int .i64 ty, .int .i64 c] 23 (0, 0)) := (hb.block _ (by simp)).trans (heap_alloc_new w _)
        have hc0 : w1.cell? ⟨w.heap.size, 0, none⟩ = some (.int .i64 v) := (blk_cell hbp 0).trans rfl
        have hc1 : w1.cell? ⟨w.heap.size, 1, none⟩ = some (.int .i64 u) := (blk_cell hbp 1).trans rfl
        have hc2 : w1.cell? ⟨w.heap.size, 2, none⟩ = some (.int .i64 s) := (blk_cell hbp 2).trans rfl
        have hc3 : w1.cell? ⟨w.heap.size, 3, none⟩ = some (.int .i64 l) := (blk_cell hbp 3).trans rfl
        have hc4 : w1.cell? ⟨w.heap.size, 4, none⟩ = some (.int .i64 t) := (blk_cell hbp 4).trans rfl
        have hc5 : w1.cell? ⟨w.heap.size, 5, none⟩ = some (.int .i64 ty) := (blk_cell hbp 5).trans rfl
        have hc6 : w1.cell? ⟨w.heap.size, 6, none⟩ = some (.int .i64 c) := (blk_cell hbp 6).trans rfl
        have HB := Aside0.mk hb
        clear hb hbp
        go_wp2
        go_ret
        refine ⟨?_, below_then (below_alloc (Below.refl _ _) _) (by simp) HB.out⟩
        have h := HX.out
        rw [HS.out]
        show Ending.returned (Value.int .i64 _) = Ending.returned (Value.int .i64 _)
        congr 2
        simp only [wrap64] at *
        omega
    · have hs : sizeF v u s l t ty c size = 0 := by unfold sizeF; rw [hr]; exact if_neg h48
      rw [hs]
      have HR := Aside0.mk hr
      have h4 : (size != 4) = true := bne_iff_ne.2 (fun e => h48 (.inl e))
      have h8 : (size != 8) = true := bne_iff_ne.2 (fun e => h48 (.inr e))
      clear hr hs hR h48
      go_enter Try.func15, Try.ntmps15
      go_wp2_with fail
      refine (right_calls v u s l t ty c _).mono ?_
      rintro e w1 ⟨rfl, hb⟩
      rw [HR.out]
      have HB := Aside0.mk hb
      clear hb
      go_wp2
      go_ret
      exact ⟨rfl, below_then (below_alloc (Below.refl _ _) _) (by simp) HB.out⟩

/-- What is read of bytes. -/
def decT (b : List Int) : List Int × Bool :=
  let t1 := takeS b false 4
  let n1 := numS t1.2.1 t1.2.2 1
  let t2 := takeS n1.2.1 n1.2.2 15
  let f := fillS 6 [0, 0, 0, 0, 0, 0] t2.2.1 t2.2.2
  (hdS (okS (strOfNums t1.1) t2.1 f.2.2 (verS n1.1) f.1) (verS n1.1) f.1, okS (strOfNums t1.1) t2.1 f.2.2 (verS n1.1) f.1)
def tup8 : List Int × Bool → Option (Int × Int × Int × Int × Int × Int × Int × Bool)
  | ([v, u, s, l, t, ty, c], ok) => some (v, u, s, l, t, ty, c, ok)
  | _ => none
def decF (b : List Int) : Option (Int × Int × Int × Int × Int × Int × Int × Bool) := if b.length ≤ 1000 then tup8 (decT b) else none
theorem decode_is (A0 : Option Addr) (c0 : Nat) (l0 : List Int) (r1 r2 r3 r4 r5 r6 r7 : Int) (r8 : Bool) (w : World) (hr0 : Kd.C (Kd.int .u8) w A0 l0.length l0) (h : decF l0 = some (r1, r2, r3, r4, r5, r6, r7, r8)) :
    Calls Try.prog 11 #[.slice A0 l0.length c0] w fun e w' => e = .returned (.tuple #[.agg #[.int .i64 r1, .int .i64 r2, .int .i64 r3, .int .i64 r4, .int .i64 r5, .int .i64 r6, .int .i64 r7], .bool r8]) ∧ Below w.heap.size w w' := by
  unfold decF at h
  split at h
  · rename_i hl
    have hT : decT l0 = ([r1, r2, r3, r4, r5, r6, r7], r8) := by
      revert h
      generalize decT l0 = p
      obtain ⟨ys, ok⟩ := p
      rcases ys with _ | ⟨y1, _ | ⟨y2, _ | ⟨y3, _ | ⟨y4, _ | ⟨y5, _ | ⟨y6, _ | ⟨y7, _ | _⟩⟩⟩⟩⟩⟩⟩ <;> intro h <;> simp [tup8] at h
      obtain ⟨rfl, rfl, rfl, rfl, rfl, rfl, rfl, rfl⟩ := h
      rfl
    refine (decode_calls A0 c0 l0 w hr0 hl _ _ _ _ _ _ _ _ _ _ _ _ _ rfl rfl rfl rfl rfl).mono ?_
    rintro e w' ⟨ys, rfl, hy, hb⟩
    have h1 : ys = [r1, r2, r3, r4, r5, r6, r7] := hy.trans (show (decT l0).1 = _ by rw [hT])
    have h2 : (decT l0).2 = r8 := by rw [hT]
    subst h1
    refine ⟨?_, hb⟩
    rw [← h2]
    rfl
  · cases h
end Go.Proofs.Ythgghbmckpflcaa.Oct
