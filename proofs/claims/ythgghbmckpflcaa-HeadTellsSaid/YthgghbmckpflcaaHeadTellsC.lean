/- The document's contracts in one word, for HeadTells; condition: what is read are bytes. -/
import Derived.Test.YthgghbmckpflcaaHeadTellsP
namespace Go.Proofs.Ythgghbmckpflcaa.Oct
open Go.RowKit Go.Proofs.YthgghbmckpflcaaW.PrintWords Go.Proofs.YthgghbmckpflcaaW.PrintLast Go.Proofs.YthgghbmckpflcaaW.PrintMore

theorem rencode_calls (v u s l t ty c : Int) (r1 : List Int) (r2 : Bool) (w : World) (h : encF v u s l t ty c = (r1, r2)) :
    Calls Try.prog 10 #[.agg #[.int .i64 v, .int .i64 u, .int .i64 s, .int .i64 l, .int .i64 t, .int .i64 ty, .int .i64 c]] w fun e w' => ∃ v0_ : Value, e = .returned (.tuple #[v0_, .bool r2]) ∧ Kd.R (Kd.int .u8) 5 w' w.heap.size (fun _ => True) v0_ r1 ∧ Below w.heap.size w w' := by
  unfold encF at h
  cases hr : rightS v u s l t ty c with
  | true =>
    rw [hr] at h
    injection h with h1 h2
    subst h1 h2
    exact (rencode_yes v u s l t ty c w hr).mono fun e w' ⟨q, he, hq, hb⟩ => ⟨q, he, hq, hb⟩
  | false =>
    rw [hr] at h
    injection h with h1 h2
    subst h1 h2
    exact (rencode_no v u s l t ty c w hr).mono fun e w' ⟨he, hb⟩ => ⟨_, he, Kd.R_nil _ _ _ _ _, hb⟩
theorem rsize_calls (v u s l t ty c size : Int) (w : World) :
    Calls Try.prog 16 #[.agg #[.int .i64 v, .int .i64 u, .int .i64 s, .int .i64 l, .int .i64 t, .int .i64 ty, .int .i64 c], .int .i64 size] w fun e w' => e = .returned (.int .i64 (sizeF v u s l t ty c size)) ∧ Below w.heap.size w w' :=
  PSize.epactref15_Size.calls v u s l t ty c size _ w (rsize_f v u s l t ty c size)
/-- A conversion of bytes that are had. -/
theorem conv_R {W : World} {base : Nat} {p : Nat → Prop} {v : Value} {l : List Int} (h : Kd.R (Kd.int .u8) 5 W base p v l) : (convert 24 9 v).run Try.prog W = .ok (.string (strOfNums l)) W := by
  obtain ⟨A, c, rfl, _, hr⟩ := Kd.R_reads h
  exact str_of hr rfl
/-- What the document's Decode makes of bytes. -/
def rdecF (b : List Int) : Option (Int × Int × Int × Int × Int × Int × Int × Bool) := match b.all (fun x => decide (0 ≤ x ∧ x ≤ 255)) with
  | true => decF b
  | false => none
theorem rdecF_B8 {b : List Int} (h : B8 b) : rdecF b = decF b := by
  unfold rdecF
  rw [List.all_eq_true.2 (fun x hx => decide_eq_true (h x hx))]
theorem decF_inv {l0 : List Int} {r1 r2 r3 r4 r5 r6 r7 : Int} {r8 : Bool} (h : decF l0 = some (r1, r2, r3, r4, r5, r6, r7, r8)) : l0.length ≤ 1000 ∧ decT l0 = ([r1, r2, r3, r4, r5, r6, r7], r8) := by
  unfold decF at h
  split at h
  · rename_i hl
    refine ⟨hl, ?_⟩
    revert h
    generalize decT l0 = p
    obtain ⟨ys, ok⟩ := p
    rcases ys with _ | ⟨y1, _ | ⟨y2, _ | ⟨y3, _ | ⟨y4, _ | ⟨y5, _ | ⟨y6, _ | ⟨y7, _ | _⟩⟩⟩⟩⟩⟩⟩ <;> intro h <;> simp [tup8] at h
    obtain ⟨rfl, rfl, rfl, rfl, rfl, rfl, rfl, rfl⟩ := h
    rfl
  · cases h
theorem rdecF_is (A0 : Option Addr) (c0 : Nat) (l0 : List Int) (r1 r2 r3 r4 r5 r6 r7 : Int) (r8 : Bool) (w : World) (hr0 : Kd.C (Kd.int .u8) w A0 l0.length l0) (hc0 : l0.length ≤ c0) (h : rdecF l0 = some (r1, r2, r3, r4, r5, r6, r7, r8)) :
    Calls Try.prog 12 #[.slice A0 l0.length c0] w fun e w' => e = .returned (.tuple #[.agg #[.int .i64 r1, .int .i64 r2, .int .i64 r3, .int .i64 r4, .int .i64 r5, .int .i64 r6, .int .i64 r7], .bool r8]) ∧ Below w.heap.size w w' := by
  unfold rdecF at h
  cases hb : l0.all (fun x => decide (0 ≤ x ∧ x ≤ 255)) with
  | true =>
    rw [hb] at h
    obtain ⟨hl, hT⟩ := decF_inv h
    exact rdecode_is A0 c0 l0 r1 r2 r3 r4 r5 r6 r7 r8 w hr0 hc0 (fun x hx => of_decide_eq_true (List.all_eq_true.1 hb x hx)) hl hT
  | false =>
    rw [hb] at h
    cases h
end Go.Proofs.Ythgghbmckpflcaa.Oct
