/- The document's Text: the walk; no condition. -/
import Derived.Test.YtncbhlionllpmaaNtD
namespace Go.Proofs.Ytncbhlionllpmaa.Nt
open Go.RowKit Go.Proofs.YtncbhlionllpmaaW.PrintWords Go.Proofs.YtncbhlionllpmaaW.PrintLast Go.Proofs.YtncbhlionllpmaaW.PrintMore

theorem wraps_u32i (n : Int) (h0 : 0 ≤ n) (h1 : n < 2 ^ 32) : IntKind.u32.wrap n = n := by rw [IntKind.wrap_u32]; omega
theorem u32_and15 {x : Int} (h0 : 0 ≤ x) (h1 : x < 4294967296) : bits .and .u32 x 15 = x % 16 := bits_mask .u32 32 (by decide) wraps_u32i 4 (by decide) x h0 h1
/-- A word's digit. -/
def digAt (x : Int) (m : Nat) : Nat := (x / 2 ^ (28 - 4 * m) % 16).toNat
theorem digAt_lt (x : Int) (m : Nat) : digAt x m < 16 := by unfold digAt; omega
/-- A text with a word's first digits behind it. -/
def refW (b : ByteArray) (x : Int) : Nat → ByteArray
  | 0 => b
  | m + 1 => refW b x m ++ DIG.extract (digAt x m) (digAt x m + 1)
theorem refW_size (b : ByteArray) (x : Int) : ∀ m, (refW b x m).size = b.size + m
  | 0 => rfl
  | m + 1 => by
    unfold refW
    have := digAt_lt x m
    have hD : DIG.size = 16 := rfl
    rw [ByteArray.size_append, refW_size b x m, ByteArray.size_extract]
    omega
def refSep (b : ByteArray) (i : Nat) : ByteArray := if i = 0 then b else b ++ ⟨#[32]⟩
/-- The text, as far as it is written. -/
def refB (H : List Int) : Nat → ByteArray
  | 0 => ⟨#[]⟩
  | i + 1 => refW (refSep (refB H i) i) (H.getD i 0) 8
theorem refSep_size (b : ByteArray) (i : Nat) : (refSep b i).size ≤ b.size + 1 := by
  unfold refSep
  split
  · omega
  · rw [ByteArray.size_append]; exact Nat.le_refl _
theorem refB_size (H : List Int) : ∀ i, (refB H i).size ≤ 9 * i
  | 0 => Nat.le_refl _
  | i + 1 => by
    unfold refB
    have h1 := refB_size H i
    have h2 := refSep_size (refB H i) i
    rw [refW_size]
    omega
theorem quo_bound {x : Int} (h : 0 ≤ x ∧ x < 4294967296) (n : Nat) : 0 ≤ x / 2 ^ n ∧ x / 2 ^ n < 4294967296 := by
  have hp : (0 : Int) < 2 ^ n := Int.pow_pos (by decide)
  have h1 : 0 ≤ x / 2 ^ n := Int.ediv_nonneg h.1 (Int.le_of_lt hp)
  have h2 : x / 2 ^ n ≤ x := Int.ediv_le_self _ h.1
  omega
set_option maxHeartbeats 2000000 in
set_option maxRecDepth 100000 in
theorem reftext_calls (H : List Int) (w : World) (hl : H.length = 5) (hb : ∀ i < 5, 0 ≤ H.getD i 0 ∧ H.getD i 0 < 4294967296) :
    Calls Try.prog 18 #[.agg (arrC .u32 H)] w fun e w' => e = .returned (.string (refB H 5)) ∧ Below w.heap.size w w' := by
  obtain ⟨T, hT⟩ : ∃ T, refB H 5 = T := ⟨_, rfl⟩
  rw [hT]
  have HT := Aside0.mk hT
  have HBD := Aside0.mk hb
  clear hb hT
  go_enter Try.func18, Try.ntmps18
  go_wp2_with (first
    | ((with_reducible refine gate_dst (N := 1) rfl ?_); refine box_event ?hg (N := 1) ?hd (cs := arrC .u32 H) (t := 23) ?hr ?_; (case hd => rfl); (case hg => rfl); (case hr => first | (go_simp; done) | (go_simp; rfl)); intro g hgW w1 hbox hb1; have HB := Aside0.mk hb1; have BK := Aside0.mk hbox; clear hb1 hbox hgW))
  go_loopw [4, 5] (fun v i wr => ∃ k : Nat, k ≤ 5 ∧ i = .int .i64 (k : Int) ∧ v = .string (refB H k) ∧ Aside0 (wr.heap[g]? = some (.cells (arrC .u32 H) 23 (0, 0))) ∧ Aside0 (Below w.heap.size w wr)) (fun _ i _ => 5 - (intOf i).toNat)
  case atStart => exact ⟨0, by omega, rfl, rfl, BK, HB⟩
  case round =>
    obtain ⟨k, hk, rfl, rfl, HH, HB2⟩ := hrel
    clear BK HB
    by_cases hlt : k < 5
    · have hx := HBD.out k hlt
      have hc := (blk_cell HH.out k).trans (arrC_at (k := .u32) (L := H) (i := k) (by omega))
      have hsz := refB_size H k
      have HN : Aside0 (refB H (k + 1) = refW (refSep (refB H k) k) (H.getD k 0) 8) := ⟨rfl⟩
      obtain ⟨x, hxx⟩ : ∃ x, H.getD k 0 = x := ⟨_, rfl⟩
      have HXX := Aside0.mk hxx
      rw [hxx] at hx hc HN
      clear hxx
      obtain ⟨b, hb⟩ : ∃ b, refSep (refB H k) k = b := ⟨_, rfl⟩
      have hbz := refSep_size (refB H k) k
      rw [hb] at hbz HN
      have HBS := Aside0.mk hb
      clear hb
      generalize hr : refB H k = rb at *
      have HRB := Aside0.mk hr
      clear hr
      have hsum : (9223372036854775807 < rb.size + 1) = False := eq_false (by omega)
      by_cases h0 : k = 0
      · subst h0
        have hb0 : b = rb := by rw [← HBS.out]; unfold refSep; rw [if_pos rfl]
        subst hb0
        go_wp2
        go_loopw [4, 6] (fun v i wr => ∃ m : Nat, m ≤ 8 ∧ i = .int .i64 (28 - 4 * (m : Int)) ∧ v = .string (refW b x m) ∧ Aside0 (wr.heap[g]? = some (.cells (arrC .u32 H) 23 (0, 0))) ∧ Aside0 (Below w.heap.size w wr)) (fun _ i _ => (intOf i + 4).toNat)
        case atStart => exact ⟨0, by omega, rfl, rfl, HH, HB2⟩
        case round =>
          obtain ⟨m, hm, rfl, rfl, HH2, HB3⟩ := hrel
          clear hc HH HB2
          by_cases hlm : m < 8
          · have hc2 := (blk_cell HH2.out 0).trans (arrC_at (k := .u32) (L := H) (i := 0) (by omega))
            rw [HXX.out] at hc2
            have hd := digAt_lt x m
            have hq := quo_bound hx (28 - 4 * m)
            have hand : bits .and .u32 (x / 2 ^ (28 - 4 * m)) 15 = (digAt x m : Int) := by rw [u32_and15 hq.1 hq.2]; unfold digAt; omega
            have HN2 : Aside0 (refW b x (m + 1) = refW b x m ++ DIG.extract (digAt x m) (digAt x m + 1)) := ⟨rfl⟩
            have hrw := refW_size b x m
            have hsh : (0 : Int) ≤ 28 - 4 * (m : Int) := by omega
            generalize refW b x m = rm at *
            generalize digAt x m = d at *
            have hdw : ((d : Int) + 1) % 4294967296 = (d : Int) + 1 := by omega
            clear hq
            go_wp2
            exact ⟨⟨m + 1, by omega, congrArg (Value.int .i64) (by omega), congrArg Value.string HN2.out.symm, HH2, HB3⟩, by simp [intOf] <;> omega⟩
          · obtain rfl : m = 8 := by omega
            have HW := Aside0.mk (refW_size b x 8)
            obtain ⟨y, hy⟩ : ∃ y, refW b x 8 = y := ⟨_, rfl⟩
            rw [hy] at HN ⊢
            have HNY := HN
            clear hy HW HN
            go_wp2
            exact ⟨⟨0 + 1, by omega, by go_num, congrArg Value.string HNY.out.symm, HH2, HB3⟩, by simp [intOf] <;> omega⟩
      · have hb0 : b = rb ++ (⟨#[32]⟩ : ByteArray) := by rw [← HBS.out]; unfold refSep; rw [if_neg h0]
        have hk0 : (0 : Int) < (k : Int) := by omega
        go_wp2
        go_loopw [4, 6] (fun v i wr => ∃ m : Nat, m ≤ 8 ∧ i = .int .i64 (28 - 4 * (m : Int)) ∧ v = .string (refW b x m) ∧ Aside0 (wr.heap[g]? = some (.cells (arrC .u32 H) 23 (0, 0))) ∧ Aside0 (Below w.heap.size w wr)) (fun _ i _ => (intOf i + 4).toNat)
        case atStart => exact ⟨0, by omega, rfl, by rw [hb0]; rfl, HH, HB2⟩
        case round =>
          obtain ⟨m, hm, rfl, rfl, HH2, HB3⟩ := hrel
          clear hc HH HB2
          by_cases hlm : m < 8
          · have hc2 := (blk_cell HH2.out k).trans (arrC_at (k := .u32) (L := H) (i := k) (by omega))
            rw [HXX.out] at hc2
            have hd := digAt_lt x m
            have hq := quo_bound hx (28 - 4 * m)
            have hand : bits .and .u32 (x / 2 ^ (28 - 4 * m)) 15 = (digAt x m : Int) := by rw [u32_and15 hq.1 hq.2]; unfold digAt; omega
            have HN2 : Aside0 (refW b x (m + 1) = refW b x m ++ DIG.extract (digAt x m) (digAt x m + 1)) := ⟨rfl⟩
            have hrw := refW_size b x m
            have hsh : (0 : Int) ≤ 28 - 4 * (m : Int) := by omega
            generalize refW b x m = rm at *
            generalize digAt x m = d at *
            have hdw : ((d : Int) + 1) % 4294967296 = (d : Int) + 1 := by omega
            clear hq
            go_wp2
            exact ⟨⟨m + 1, by omega, congrArg (Value.int .i64) (by omega), congrArg Value.string HN2.out.symm, HH2, HB3⟩, by simp [intOf] <;> omega⟩
          · obtain rfl : m = 8 := by omega
            have HW := Aside0.mk (refW_size b x 8)
            obtain ⟨y, hy⟩ : ∃ y, refW b x 8 = y := ⟨_, rfl⟩
            rw [hy] at HN ⊢
            have HNY := HN
            clear hy HW HN
            go_wp2
            exact ⟨⟨k + 1, by omega, by go_num, congrArg Value.string HNY.out.symm, HH2, HB3⟩, by simp [intOf] <;> omega⟩
    · obtain rfl : k = 5 := by omega
      go_wp2
      go_ret
      exact ⟨congrArg (fun x => Ending.returned (Value.string x)) HT.out, HB2.out⟩
end Go.Proofs.Ytncbhlionllpmaa.Nt
