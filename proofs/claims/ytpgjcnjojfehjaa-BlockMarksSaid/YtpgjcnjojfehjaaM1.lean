/- Texts of chapter 16 laid together (wip/block/merge16.py): OctA, OctB, OctC, OctD, OctE, OctF, OctH, OctI, OctP, PRightx0, PRightx1, BkR, Shelf, Pgoodx0, Pgoodx1, AbA, AbB, AbC, AbP, AbQ, Kx. -/
import Derived.Test.YtpgjcnjojfehjaaProg
import Derived.Test.YtpgjcnjojfehjaaWMore
import Derived.Test.YtpgjcnjojfehjaaWGuard
import Derived.Test.YtpgjcnjojfehjaaWKept
import Derived.WalkSpells
import Derived.RegionTactic
import Derived.BigRegion
import Derived.Outline
import Derived.Deep.LoopGhost
import Derived.Below
import Derived.Deep.Draws
import Derived.Deep.AppendLies
import Derived.Maps.AppendAt
import Derived.OwnWalk
import Derived.Laws.BytesArg
import Derived.Laws.MakeOwn
import Derived.Laws.OwnMore
import Derived.Deep.OwnRows
import Derived.Tactics
import Derived.Lib.ConvBytes
import Derived.Laws.Slices
import Derived.WalkKit
import Derived.KernelRfl
import Derived.RowKit3
import Derived.Deep.QuietTactic
import Derived.BigQuiet
import Derived.WideLaws
import Derived.Deep.DeepCutAuto
import Derived.Deep.CutBlock
import Derived.Deep.RegionHeld3
import Derived.Laws.Rows
import Derived.Lib.AppendStr
import Derived.ArgAppend
import Derived.Laws.IdiomCopy
import Derived.OrdersHeld
import Derived.Laws.BitsLemmas
import Derived.RowKit
import Derived.Test.YtpgjcnjojfehjaaWWords
import Derived.Test.YtpgjcnjojfehjaaWLast
import Derived.Test.YtpgjcnjojfehjaaWTab
import Derived.Test.YtpgjcnjojfehjaaWFour
import Derived.Test.YtpgjcnjojfehjaaWQPut
import Derived.Test.YtpgjcnjojfehjaaWApart
import Derived.Test.YtpgjcnjojfehjaaWArr
import Derived.Test.YtpgjcnjojfehjaaWZeros
import Derived.Test.YtpgjcnjojfehjaaWFoot
import Derived.Test.YtpgjcnjojfehjaaWShare
import Derived.Test.YtpgjcnjojfehjaaWN
import Derived.Test.YtpgjcnjojfehjaaWFootNe
import Derived.Test.YtpgjcnjojfehjaaWAt
import Derived.Test.YtpgjcnjojfehjaaWEqStruct
import Derived.Test.YtpgjcnjojfehjaaWRepsOne
import Derived.Test.YtpgjcnjojfehjaaWInv
import Derived.Test.YtpgjcnjojfehjaaWInvWords
import Derived.Test.YtpgjcnjojfehjaaWNEv
import Derived.Shelf.Strings.Search1
import Derived.Shelf.Strings.Search2
import Derived.Shelf.Strings.Cut
import Derived.Shelf.LaysM
import Derived.Shelf.Strings.Shaped
import Derived.Shelf.GgClosure.StringsIndexFunc
import Derived.Ground.GgwProg
import Derived.Shelf.GgClosure.StringsIndexFuncTop
import Derived.Maps.OwnSet
import Derived.Carry
/- slices.Clone at bytes: it hands back the same bytes in a row of its own; the reader's state, and what keeps it. -/
namespace Go.Proofs.Ytpgjcnjojfehjaa.Oct
open Go.RowKit Go.Proofs.YtpgjcnjojfehjaaW.PrintWords Go.Proofs.YtpgjcnjojfehjaaW.PrintLast Go.Proofs.YtpgjcnjojfehjaaW.PrintMore
theorem info5 : (Try.prog.info? 5).map (fun i => (i.zero, i.size, i.bytes)) = some (some (.int .u8 0), 1, 1) := by kernel_rfl

theorem C_none {α : Type} {d : Kd α} {w : World} {n : Nat} {l : List α} (h : d.C w none n l) : n = 0 ∧ l = [] := by
  have h1 := h.1
  have h3 := h.2.2
  by_cases hn : 0 < n
  · obtain ⟨ad, he, _⟩ := h3 hn
    cases he
  · have : n = 0 := by omega
    subst this
    exact ⟨rfl, List.length_eq_zero_iff.1 h1⟩

/-- What is read stays so, where the block that it lies in stays so. -/
theorem C_same {α : Type} {v : α → Value} {h1 : ∀ x, (v x).oneCell' = true} {w w1 : World} {A : Option Addr} {n : Nat} {l : List α} (h : Kd.C (Kd.scalar v h1) w A n l) (hk : ∀ ad, A = some ad → w1.heap[ad.block]? = w.heap[ad.block]?) : Kd.C (Kd.scalar v h1) w1 A n l :=
  ⟨h.1, h.2.1, fun hn => by
    obtain ⟨ad, e, hc⟩ := h.2.2 hn
    refine ⟨ad, e, fun j p hj => ?_⟩
    obtain ⟨c, hs, hr, hcell⟩ := hc j p hj
    refine ⟨c, hs, hr, fun i u hu => ?_⟩
    have hb := hcell i u hu
    have hk' := hk ad e
    have hz : ∀ m, (ad.add m).block = ad.block := fun m => by unfold Addr.add; split <;> rfl
    unfold World.cell? at hb ⊢
    rw [hz] at hb ⊢
    rw [hk']
    exact hb⟩

/-- 'xs[m:]', and where it lies. -/
theorem drop_run {P : Program} {k : IntKind} (t e : TypeId) {i : TypeInfo} (ht : P.underlying t = some (.slice e)) (hi : P.info? e = some i) (hsz : i.size = 1) (A : Option Addr) (c : Nat) (xs : List Int) (m : Int) (h0 : 0 ≤ m) (hm : m ≤ xs.length) (hc : xs.length ≤ c) :
    ∃ A' : Option Addr, (∀ W : World, (Instr.slice t (.slice A xs.length c) (some (.int .i64 m)) none none).run P W = .ok (.slice A' (xs.drop m.toNat).length (c - m.toNat)) W) ∧
      (∀ w : World, Kd.C (Kd.int k) w A xs.length xs → Kd.C (Kd.int k) w A' (xs.drop m.toNat).length (xs.drop m.toNat)) ∧ (xs.drop m.toNat).length ≤ c - m.toNat ∧ (∀ ad', A' = some ad' → ∃ ad, A = some ad ∧ ad'.block = ad.block) := by
  have hl : (xs.drop m.toNat).length = xs.length - m.toNat := List.length_drop
  have hz : ∀ (ad : Addr) (j : Nat), (ad.add j).block = ad.block := fun ad j => by unfold Addr.add; split <;> rfl
  refine ⟨if c = m.toNat then A else A.map (·.add (m.toNat * (Kd.int k).sz)), fun W => ?_, fun w h => Kd.C_drop h (by omega) hc, by omega, ?_⟩
  · have hel : P.elem t = e := by simp [Program.elem, ht]
    have hu : P.underlying t = some (.slice (P.elem t)) := by rw [hel]; exact ht
    rw [run_slice_l W t A xs.length c hu .i64 m h0 (by omega), hel, hl]
    simp [sizeOf, typeInfo, hi, hsz, sliced, Result.andThen, Kd.int, Kd.scalar]
  · intro ad' he
    split at he
    · exact ⟨ad', he, rfl⟩
    · cases A with
      | none => cases he
      | some ad =>
        refine ⟨ad, rfl, ?_⟩
        injection he with he
        rw [← he]; exact hz _ _

set_option maxHeartbeats 1000000 in
theorem clone_calls (A : Option Addr) (c : Nat) (l : List Int) (w : World) (hr : Kd.C (Kd.int .u8) w A l.length l) (hl : l.length ≤ 140737488355328) :
    Calls Try.prog 44 #[.slice A l.length c] w fun e w' => ∃ v, e = .returned v ∧ Kd.R (Kd.int .u8) 5 w' w.heap.size (fun _ => True) v l ∧ Below w.heap.size w w' := by
  cases A with
  | none =>
    obtain ⟨h0, rfl⟩ := C_none hr
    clear hr hl
    have he : ∀ W : World, (binOp .eql 29 (.slice none 0 c) (.slice none 0 0)).run Try.prog W = .ok (.bool true) W := fun W => Lib.run_eql_slice_nil (P := Try.prog) W 29 5 none 0 c 0 0 Try.underlying29
    show Calls Try.prog 44 #[.slice none 0 c] w _
    go_enter Try.func44, Try.ntmps44
    go_wp2
    go_ret
    exact ⟨_, rfl, Kd.R_nil _ _ _ _ _, Below.refl _ _⟩
  | some ad =>
    have he : ∀ W : World, (binOp .eql 29 (.slice (some ad) l.length c) (.slice none 0 0)).run Try.prog W = .ok (.bool false) W := fun W => Lib.run_eql_slice_nil (P := Try.prog) W 29 5 (some ad) l.length c 0 0 Try.underlying29
    have HR0 := Aside0.mk hr
    have HL := Aside0.mk hl
    have HB := Aside0.mk (Below.refl w.heap.size w)
    clear hr hl
    go_enter Try.func44, Try.ntmps44
    go_wp2_with (first
      | ((with_reducible refine gate_dst (N := 5) rfl ?_); refine Kd.R_lit (Kd.int .u8) _ 5 ?hg (N := 5) ?hd (xs := ([] : List Int)) (inner := []) (ok := fun _ => True) (okp := fun _ => True) ?hr ?hp (fun _ hk => hk) trivial (Below.refl _ _) (Nat.le_refl _) (by simp) ?_; (case hd => rfl); (case hg => rfl); (case hr => first | (go_simp; done) | (go_simp; rfl)); (case hp => exact (Reps.none _ _)); intro v1 w1 ho hb hg_ hnew_; clear hg_ hnew_; have HO := Aside0.mk ho; have HB1 := Aside0.mk hb; clear ho hb)
      | ((with_reducible refine gate_builtin (b := .append) (xs := #[.tmp 5, .tmp 6]) rfl ?_); at_builtin; refine Kd.R_append_rows (Kd.int .u8) (w0 := w) w.heap.size rfl (.tmp 5) (.tmp 6) 29 5 (.int .u8 0) 1 rfl Try.underlying29 info5 rfl (by decide) (by omega) v1 [] l _ _ _ (fun _ => True) (fun _ => False) rfl rfl HO.out ?aR (fun _ _ h => h) (fun _ h => h.elim) (fun _ _ => trivial) HB1.out (below_size HB1.out) ?aL ?_; (case aR => exact Kd.C_below HR0.out HB1.out); (case aL => have := HL.out; simp; omega); intro v2 w2 ho2 hb2 hg2 hat2; have HO2 := Aside0.mk ho2; have HB2 := Aside0.mk hb2; clear ho2 hb2 hg2 hat2))
    go_ret
    exact ⟨_, rfl, HO2.out, HB2.out⟩
end Go.Proofs.Ytpgjcnjojfehjaa.Oct
/- The reader of bytes (of the program, and of the document's answer): its state in memory, and what Take does to it; condition: the state is as told. -/
namespace Go.Proofs.Ytpgjcnjojfehjaa.Oct
open Go.RowKit Go.Proofs.YtpgjcnjojfehjaaW.PrintWords Go.Proofs.YtpgjcnjojfehjaaW.PrintLast Go.Proofs.YtpgjcnjojfehjaaW.PrintMore

/-- A reader of type T at block g: what is left, whether it failed; its block and its bytes' block lie in [B, N). -/
def Rd (T : Nat) (B N : Nat) (W : World) (g : Nat) (l : List Int) (bad : Bool) : Prop :=
  ∃ A c, W.heap[g]? = some (.cells #[.slice A l.length c, .bool bad] T (0, 0)) ∧ B ≤ g ∧ g < N ∧ N ≤ W.heap.size ∧ l.length ≤ c ∧ Kd.C (Kd.int .u8) W A l.length l ∧ (∀ ad, A = some ad → B ≤ ad.block ∧ ad.block < N ∧ ad.block ≠ g)
theorem Rd.of_same {T B N : Nat} {W W1 : World} {g : Nat} {l : List Int} {bad : Bool} (h : Rd T B N W g l bad) (hs : W.heap.size ≤ W1.heap.size) (hk : ∀ k, B ≤ k → k < N → W1.heap[k]? = W.heap[k]?) : Rd T B N W1 g l bad := by
  obtain ⟨A, c, hb, h1, h2, h3, h4, h5, h6⟩ := h
  refine ⟨A, c, (hk g h1 h2).trans hb, h1, h2, by omega, h4, ?_, h6⟩
  exact C_same h5 (fun ad he => hk ad.block (h6 ad he).1 (h6 ad he).2.1)
theorem Rd.below {T B N : Nat} {W W1 : World} {g : Nat} {l : List Int} {bad : Bool} (h : Rd T B N W g l bad) (hb : Below W.heap.size W W1) : Rd T B N W1 g l bad := by
  obtain ⟨_, _, _, _, _, h3, _⟩ := id h
  exact h.of_same hb.size (fun k _ hk => hb.block k (by omega))
theorem Rd.grown {T B N : Nat} {W W1 : World} {g : Nat} {l : List Int} {bad : Bool} {row : Option Nat} (h : Rd T B N W g l bad) (hb : W.grownBy W1 row) (hr : ∀ k, row = some k → k < B ∨ N ≤ k) : Rd T B N W1 g l bad := by
  obtain ⟨_, _, _, _, _, h3, _⟩ := id h
  refine h.of_same hb.size (fun k h1 hk => hb.block k (by omega) ?_)
  intro he
  rcases hr k he.symm with h | h <;> omega
theorem Rd.size {T B N : Nat} {W : World} {g : Nat} {l : List Int} {bad : Bool} (h : Rd T B N W g l bad) : B ≤ g ∧ g < N ∧ N ≤ W.heap.size := by
  obtain ⟨_, _, _, h1, h2, h3, _⟩ := h
  exact ⟨h1, h2, h3⟩
theorem grown_set (W : World) (p : Addr) (v : Value) : W.grownBy (W.setCell p v) (some p.block) :=
  ⟨rfl, rfl, rfl, by simp [World.setCell], fun k _ hk => Below.heap_setCell W p v k (fun h => hk (by rw [h]))⟩
/-- Nothing is left, and it has failed. -/
theorem Rd.failed {T B N : Nat} {W : World} {g : Nat} {l : List Int} {bad : Bool} (h : Rd T B N W g l bad) : Rd T B N ((W.setCell ⟨g, 0, none⟩ (.slice none 0 0)).setCell ⟨g, 1, none⟩ (.bool true)) g [] true ∧ W.grownBy ((W.setCell ⟨g, 0, none⟩ (.slice none 0 0)).setCell ⟨g, 1, none⟩ (.bool true)) (some g) := by
  obtain ⟨A, c, hb, h1, h2, h3, h4, h5, h6⟩ := h
  have hg := (grown_set W ⟨g, 0, none⟩ (.slice none 0 0)).trans (grown_set _ ⟨g, 1, none⟩ (.bool true))
  refine ⟨⟨none, 0, ?_, h1, h2, Nat.le_trans h3 hg.size, by simp, Kd.C_nil _ _, fun ad e => by cases e⟩, hg⟩
  exact blk_set (blk_set hb 0 (.slice none 0 0)) 1 (.bool true)
theorem Rd.failed' {T B N : Nat} {W : World} {g : Nat} {l : List Int} {bad : Bool} (h : Rd T B N W g l bad) : Rd T B N ((W.setCell ⟨g, 1, none⟩ (.bool true)).setCell ⟨g, 0, none⟩ (.slice none 0 0)) g [] true ∧ W.grownBy ((W.setCell ⟨g, 1, none⟩ (.bool true)).setCell ⟨g, 0, none⟩ (.slice none 0 0)) (some g) := by
  obtain ⟨A, c, hb, h1, h2, h3, h4, h5, h6⟩ := h
  have hg := (grown_set W ⟨g, 1, none⟩ (.bool true)).trans (grown_set _ ⟨g, 0, none⟩ (.slice none 0 0))
  refine ⟨⟨none, 0, ?_, h1, h2, Nat.le_trans h3 hg.size, by simp, Kd.C_nil _ _, fun ad e => by cases e⟩, hg⟩
  exact blk_set (blk_set hb 1 (.bool true)) 0 (.slice none 0 0)
/-- A row made since: a store into an elder block leaves it. -/
theorem R_elder {α : Type} {d : Kd α} {e base : Nat} {W : World} {v : Value} {xs : List α} (h : d.R e W base (fun _ => True) v xs) {p : Addr} (hp : p.block < base) (u : Value) : d.R e (W.setCell p u) base (fun _ => True) v xs :=
  Kd.R_mono (Kd.R_far (Kd.R_bound h) (fun k hk => by have := hk.2.1; omega) u) (fun _ _ => trivial)
def takeS (l : List Int) (bad : Bool) (n : Int) : List Int × List Int × Bool := if bad = true ∨ n < 0 ∨ (l.length : Int) < n then ([], [], true) else (l.take n.toNat, l.drop n.toNat, false)
end Go.Proofs.Ytpgjcnjojfehjaa.Oct
/- Take of the program's reader: what it hands back and what is left; condition: the state is as told. -/
namespace Go.Proofs.Ytpgjcnjojfehjaa.Oct
open Go.RowKit Go.Proofs.YtpgjcnjojfehjaaW.PrintWords Go.Proofs.YtpgjcnjojfehjaaW.PrintLast Go.Proofs.YtpgjcnjojfehjaaW.PrintMore

set_option maxHeartbeats 1000000 in
theorem take_bad (B N : Nat) (W : World) (g : Nat) (l : List Int) (n : Int) (h : Rd 82 B N W g l true) :
    Calls Try.prog 29 #[.pointer (some ⟨g, 0, none⟩), .int .i64 n] W fun e w' => ∃ v, e = .returned v ∧ Kd.R (Kd.int .u8) 5 w' W.heap.size (fun _ => True) v [] ∧ Rd 82 B N w' g [] true ∧ W.grownBy w' (some g) := by
  have H := Aside0.mk h
  obtain ⟨A, c, hb, h1, h2, h3, h4, h5, h6⟩ := h
  have hc0 : W.cell? ⟨g, 0, none⟩ = some (.slice A l.length c) := (blk_cell hb 0).trans rfl
  have hc1 : W.cell? ⟨g, 1, none⟩ = some (.bool true) := (blk_cell hb 1).trans rfl
  have hf0 := blk_frozen hb 0
  have hf1 := blk_frozen hb 1
  have hln := Kd.C_max h5
  clear hb h4 h5 h6
  go_enter Try.func29, Try.ntmps29
  go_wp2
  go_ret
  exact ⟨_, rfl, Kd.R_nil _ _ _ _ _, H.out.failed⟩
set_option maxHeartbeats 1000000 in
theorem take_neg (B N : Nat) (W : World) (g : Nat) (l : List Int) (n : Int) (h : Rd 82 B N W g l false) (hn : n < 0) :
    Calls Try.prog 29 #[.pointer (some ⟨g, 0, none⟩), .int .i64 n] W fun e w' => ∃ v, e = .returned v ∧ Kd.R (Kd.int .u8) 5 w' W.heap.size (fun _ => True) v [] ∧ Rd 82 B N w' g [] true ∧ W.grownBy w' (some g) := by
  have H := Aside0.mk h
  obtain ⟨A, c, hb, h1, h2, h3, h4, h5, h6⟩ := h
  have hc0 : W.cell? ⟨g, 0, none⟩ = some (.slice A l.length c) := (blk_cell hb 0).trans rfl
  have hc1 : W.cell? ⟨g, 1, none⟩ = some (.bool false) := (blk_cell hb 1).trans rfl
  have hf0 := blk_frozen hb 0
  have hf1 := blk_frozen hb 1
  have hln := Kd.C_max h5
  clear hb h4 h5 h6
  go_enter Try.func29, Try.ntmps29
  go_wp2
  go_ret
  exact ⟨_, rfl, Kd.R_nil _ _ _ _ _, H.out.failed⟩
set_option maxHeartbeats 1000000 in
theorem take_much (B N : Nat) (W : World) (g : Nat) (l : List Int) (n : Int) (h : Rd 82 B N W g l false) (hn0 : 0 ≤ n) (hn : (l.length : Int) < n) :
    Calls Try.prog 29 #[.pointer (some ⟨g, 0, none⟩), .int .i64 n] W fun e w' => ∃ v, e = .returned v ∧ Kd.R (Kd.int .u8) 5 w' W.heap.size (fun _ => True) v [] ∧ Rd 82 B N w' g [] true ∧ W.grownBy w' (some g) := by
  have H := Aside0.mk h
  obtain ⟨A, c, hb, h1, h2, h3, h4, h5, h6⟩ := h
  have hc0 : W.cell? ⟨g, 0, none⟩ = some (.slice A l.length c) := (blk_cell hb 0).trans rfl
  have hc1 : W.cell? ⟨g, 1, none⟩ = some (.bool false) := (blk_cell hb 1).trans rfl
  have hf0 := blk_frozen hb 0
  have hf1 := blk_frozen hb 1
  have hln := Kd.C_max h5
  clear hb h4 h5 h6
  go_enter Try.func29, Try.ntmps29
  go_wp2
  go_ret
  exact ⟨_, rfl, Kd.R_nil _ _ _ _ _, H.out.failed⟩
theorem take_no (B N : Nat) (W : World) (g : Nat) (l : List Int) (bad : Bool) (n : Int) (h : Rd 82 B N W g l bad) (hc : bad = true ∨ n < 0 ∨ (l.length : Int) < n) :
    Calls Try.prog 29 #[.pointer (some ⟨g, 0, none⟩), .int .i64 n] W fun e w' => ∃ v, e = .returned v ∧ Kd.R (Kd.int .u8) 5 w' W.heap.size (fun _ => True) v [] ∧ Rd 82 B N w' g [] true ∧ W.grownBy w' (some g) := by
  cases bad with
  | true => exact take_bad B N W g l n h
  | false =>
    by_cases h1 : n < 0
    · exact take_neg B N W g l n h h1
    · exact take_much B N W g l n h (by omega) (by rcases hc with hc | hc | hc; · cases hc
                                                   · exact absurd hc h1
                                                   · exact hc)
set_option maxHeartbeats 1000000 in
theorem take_yes (B N : Nat) (W : World) (g : Nat) (l : List Int) (n : Int) (h : Rd 82 B N W g l false) (hl : l.length ≤ 140737488355328) (hn0 : 0 ≤ n) (hn : n ≤ (l.length : Int)) :
    Calls Try.prog 29 #[.pointer (some ⟨g, 0, none⟩), .int .i64 n] W fun e w' => ∃ v, e = .returned v ∧ Kd.R (Kd.int .u8) 5 w' W.heap.size (fun _ => True) v (l.take n.toNat) ∧ Rd 82 B N w' g (l.drop n.toNat) false ∧ W.grownBy w' (some g) := by
  obtain ⟨A, c, hb, h1, h2, h3, h4, h5, h6⟩ := h
  have hc0 : W.cell? ⟨g, 0, none⟩ = some (.slice A l.length c) := (blk_cell hb 0).trans rfl
  have hc1 : W.cell? ⟨g, 1, none⟩ = some (.bool false) := (blk_cell hb 1).trans rfl
  have hf0 := blk_frozen hb 0
  obtain ⟨i5, hi5, _, hsz5, _⟩ := info_parts info5
  obtain ⟨hcut, hA1, hC1⟩ := print_take_of (P := Try.prog) (Value.int .u8) 0 29 5 .i64 Try.underlying29 hi5 hsz5 A c l n hn0 hn h4
  obtain ⟨A2, hcut2, hA2, hC2, hB2⟩ := drop_run (P := Try.prog) (k := .u8) 29 5 Try.underlying29 hi5 hsz5 A c l n hn0 hn h4
  have HT := Aside0.mk (Kd.C_of_reads (h1 := fun _ => rfl) (hA1 W (Kd.reads_of_C h5)))
  have HD := Aside0.mk (hA2 W h5)
  have HC2 := Aside0.mk hC2
  have HB := Aside0.mk hb
  have H6 := Aside0.mk h6
  have HB2 := Aside0.mk hB2
  have HL := Aside0.mk hl
  have HN := Aside0.mk h3
  have HLT : Aside0 (n.toNat = (l.take n.toNat).length) := ⟨by rw [List.length_take]; omega⟩
  have HLD : Aside0 (l.length - n.toNat = (l.drop n.toNat).length) := ⟨List.length_drop.symm⟩
  have hd1 : decide (n < 0) = false := decide_eq_false (by omega)
  have hd2 : decide ((l.length : Int) < n) = false := decide_eq_false (by omega)
  clear hb h4 h5 h6 hA1 hC1 hA2 hC2 hB2 hl h3 hi5 hsz5
  go_enter Try.func29, Try.ntmps29
  go_wp2_with fail
  rw [HLT.out]
  refine (clone_calls A c (l.take n.toNat) W HT.out (by have := HL.out; have := List.length_take_le' n.toNat l; omega)).mono ?_
  rintro e w1 ⟨v, rfl, hv, hbl⟩
  have HV := Aside0.mk hv
  have HBL := Aside0.mk hbl
  have hgW : g < W.heap.size := blk_lt HB.out
  have hb1 : w1.heap[g]? = some (.cells #[.slice A l.length c, .bool false] 82 (0, 0)) := (hbl.block g hgW).trans HB.out
  have hd0 : w1.cell? ⟨g, 0, none⟩ = some (.slice A l.length c) := (blk_cell hb1 0).trans rfl
  have hg0 := blk_frozen hb1 0
  have HB1 := Aside0.mk hb1
  clear hv hbl hb1
  go_wp2
  go_ret
  refine ⟨_, rfl, R_elder HV.out hgW _, ⟨A2, c - n.toNat, ?_, h1, h2, ?_, HC2.out, ?_, ?_⟩, ?_⟩
  · rw [blk_set HB1.out 0 _, ← HLD.out]; rfl
  · have h7 := HBL.out.size
    have h8 := HN.out
    simp only [World.setCell]; simp; omega
  · exact C_same (Kd.C_below HD.out HBL.out) (fun ad e => by
      obtain ⟨ad0, e0, hbk⟩ := HB2.out ad e
      have h9 := (H6.out ad0 e0).2.2
      exact Below.heap_setCell _ _ _ _ (by rw [hbk]; exact h9))
  · intro ad e
    obtain ⟨ad0, e0, hbk⟩ := HB2.out ad e
    rw [hbk]; exact H6.out ad0 e0
  · exact (grown_of_below HBL.out (some g)).trans (grown_set _ _ _)
end Go.Proofs.Ytpgjcnjojfehjaa.Oct
/- The program's reader: Take in one statement, Left, Ok, and which sizes may be; condition: the state is as told. -/
namespace Go.Proofs.Ytpgjcnjojfehjaa.Oct
open Go.RowKit Go.Proofs.YtpgjcnjojfehjaaW.PrintWords Go.Proofs.YtpgjcnjojfehjaaW.PrintLast Go.Proofs.YtpgjcnjojfehjaaW.PrintMore

theorem take_calls (B N : Nat) (W : World) (g : Nat) (l : List Int) (bad : Bool) (n : Int) (h : Rd 82 B N W g l bad) (hl : l.length ≤ 140737488355328) :
    Calls Try.prog 29 #[.pointer (some ⟨g, 0, none⟩), .int .i64 n] W fun e w' => ∃ v, e = .returned v ∧ Kd.R (Kd.int .u8) 5 w' W.heap.size (fun _ => True) v (takeS l bad n).1 ∧ Rd 82 B N w' g (takeS l bad n).2.1 (takeS l bad n).2.2 ∧ W.grownBy w' (some g) := by
  by_cases hc : bad = true ∨ n < 0 ∨ (l.length : Int) < n
  · rw [show takeS l bad n = ([], [], true) from if_pos hc]
    exact take_no B N W g l bad n h hc
  · rw [show takeS l bad n = (l.take n.toNat, l.drop n.toNat, false) from if_neg hc]
    cases bad with
    | true => exact absurd (Or.inl rfl) hc
    | false => exact take_yes B N W g l n h hl (by omega) (by omega)
def sizeB (size : Int) : Bool := decide (size = 1 ∨ size = 4 ∨ size = 8)
set_option maxHeartbeats 400000 in
theorem may0_calls (W : World) (size : Int) :
    Calls Try.prog 45 #[.int .i64 0, .int .i64 size] W fun e w' => e = .returned (.bool (sizeB size)) ∧ w' = W := by
  by_cases h1 : size = 1
  · subst h1
    go_enter Try.func45, Try.ntmps45
    go_wp2
    go_ret
    exact ⟨rfl, rfl⟩
  by_cases h4 : size = 4
  · subst h4
    go_enter Try.func45, Try.ntmps45
    go_wp2
    go_ret
    exact ⟨rfl, rfl⟩
  by_cases h8 : size = 8
  · subst h8
    go_enter Try.func45, Try.ntmps45
    go_wp2
    go_ret
    exact ⟨rfl, rfl⟩
  have hs : sizeB size = false := decide_eq_false (by omega)
  rw [hs]
  have b1 : (size == 1) = false := beq_eq_false_iff_ne.2 h1
  have b4 : (size == 4) = false := beq_eq_false_iff_ne.2 h4
  have b8 : (size == 8) = false := beq_eq_false_iff_ne.2 h8
  have c1 : ((1 : Int) == size) = false := beq_eq_false_iff_ne.2 (fun h => h1 h.symm)
  have c4 : ((4 : Int) == size) = false := beq_eq_false_iff_ne.2 (fun h => h4 h.symm)
  have c8 : ((8 : Int) == size) = false := beq_eq_false_iff_ne.2 (fun h => h8 h.symm)
  clear hs h1 h4 h8
  go_enter Try.func45, Try.ntmps45
  go_wp2
  go_ret
  exact ⟨rfl, rfl⟩
theorem Rd.make {T : Nat} {w W : World} {A : Option Addr} {c : Nat} {l : List Int} (hb : Below w.heap.size w W) (hl : l.length ≤ c) (hr : Kd.C (Kd.int .u8) W A l.length l) (hA : ∀ ad, A = some ad → w.heap.size ≤ ad.block ∧ ad.block < W.heap.size) :
    Rd T w.heap.size (W.alloc (.cells #[.slice A l.length c, .bool false] T)).heap.size (W.alloc (.cells #[.slice A l.length c, .bool false] T)) W.heap.size l false := by
  have hz : (W.alloc (.cells #[.slice A l.length c, .bool false] T)).heap.size = W.heap.size + 1 := by simp
  refine ⟨A, c, by simpa using heap_alloc_new W _, hb.size, by omega, Nat.le_refl _, hl, Kd.C_below hr (below_alloc (Below.refl _ _) _), fun ad e => ?_⟩
  have := hA ad e
  omega
set_option maxHeartbeats 1000000 in
theorem open_calls (A : Option Addr) (c : Nat) (l : List Int) (w : World) (hr : Kd.C (Kd.int .u8) w A l.length l) (hl : l.length ≤ 140737488355328) :
    Calls Try.prog 26 #[.slice A l.length c] w fun e w' => ∃ g, e = .returned (.pointer (some ⟨g, 0, none⟩)) ∧ Rd 82 w.heap.size w'.heap.size w' g l false ∧ Below w.heap.size w w' := by
  have HR := Aside0.mk hr
  have HL := Aside0.mk hl
  clear hr hl
  go_enter Try.func26, Try.ntmps26
  go_wp2_with fail
  refine (clone_calls A c l w HR.out HL.out).mono ?_
  rintro e w1 ⟨v, rfl, hv, hbl⟩
  obtain ⟨A1, c1, rfl, hc1, hr1⟩ := Kd.R_reads hv
  have HBL := Aside0.mk hbl
  have HC1 := Aside0.mk hc1
  have HR1 := Aside0.mk hr1
  have HA1 : Aside0 (∀ ad, A1 = some ad → w.heap.size ≤ ad.block ∧ ad.block < w1.heap.size) := ⟨fun ad e => by
    subst e
    have h := (Kd.R_bound hv).1 ad.block (by simp [Value.ownBlock])
    exact ⟨h.2.1, h.2.2.1⟩⟩
  clear hv hbl hc1 hr1
  go_wp2
  go_ret
  exact ⟨_, rfl, Rd.make HBL.out HC1.out HR1.out HA1.out, below_alloc HBL.out _⟩
end Go.Proofs.Ytpgjcnjojfehjaa.Oct
/- The program's reader: Num; condition: the state is as told. -/
namespace Go.Proofs.Ytpgjcnjojfehjaa.Oct
open Go.RowKit Go.Proofs.YtpgjcnjojfehjaaW.PrintWords Go.Proofs.YtpgjcnjojfehjaaW.PrintLast Go.Proofs.YtpgjcnjojfehjaaW.PrintMore

/-- What the loop over the bytes makes of a number. -/
def numL (size : Int) : Bool → Int → List Int → Int
  | _, n, [] => n
  | first, n, c :: r => numL size false (if first = true ∧ size = 4 then wrap64 (IntKind.i8.wrap c) else Go.bits .or .i64 (wrap64 (n * 256)) (wrap64 c)) r
def sizeS (size : Int) : Int := if sizeB size = true then size else -1
def numS (l : List Int) (bad : Bool) (size : Int) : Int × List Int × Bool := (numL (sizeS size) true 0 (takeS l bad (sizeS size)).1, (takeS l bad (sizeS size)).2)

set_option maxHeartbeats 2000000 in
theorem num_good (B N : Nat) (W : World) (g : Nat) (l : List Int) (bad : Bool) (size : Int) (h : Rd 82 B N W g l bad) (hl : l.length ≤ 140737488355328) (hs : sizeB size = true) (bs l2 : List Int) (b2 : Bool) (ht : takeS l bad size = (bs, l2, b2)) :
    Calls Try.prog 27 #[.pointer (some ⟨g, 0, none⟩), .int .i64 size] W fun e w' => e = .returned (.int .i64 (numL size true 0 bs)) ∧ Rd 82 B N w' g l2 b2 ∧ W.grownBy w' (some g) := by
  have H := Aside0.mk h
  have HL := Aside0.mk hl
  have HS := Aside0.mk hs
  have HT := Aside0.mk ht
  clear h hl hs ht
  go_enter Try.func27, Try.ntmps27
  go_wp2_with fail
  refine (may0_calls W size).mono ?_
  rintro e w1 ⟨rfl, rfl⟩
  rw [HS.out]
  go_wp2_with fail
  refine (take_calls B N _ g l bad size H.out HL.out).mono ?_
  rintro e w1 ⟨v, rfl, hv, hrd, hgr⟩
  rw [HT.out] at hv hrd
  obtain ⟨A1, c1, rfl, hc1, hr1⟩ := Kd.R_reads hv
  have HRD := Aside0.mk hrd
  have HGR := Aside0.mk hgr
  have HR1 := Aside0.mk hr1
  clear hv hrd hgr hc1 hr1
  go_wp2
  go_loop [4, 14] (fun n i => ∃ (k : Nat) (m : Int), k ≤ bs.length ∧ i = .int .i64 k ∧ n = .int .i64 m ∧ Aside0 (numL size (decide (k = 0)) m (bs.drop k) = numL size true 0 bs)) (fun _ i => bs.length - (intOf i).toNat)
  case atStart => exact ⟨0, 0, Nat.zero_le _, rfl, rfl, ⟨by simp⟩⟩
  case round =>
    obtain ⟨k, m, hk, rfl, rfl, HK⟩ := hrel
    have hmx : bs.length ≤ 9223372036854775807 := Kd.C_max HR1.out
    by_cases hlt : k < bs.length
    · obtain ⟨ad, rfl, hcell⟩ := Kd.at_int HR1.out (k : Int) (by omega) (by omega)
      have hx : rd bs (k : Int) = bs[k] := by unfold rd; simp [List.getD, hlt]
      rw [hx, Int.toNat_natCast] at hcell
      have HD : Aside0 (bs.drop k = bs[k] :: bs.drop (k + 1)) := ⟨List.drop_eq_getElem_cons hlt⟩
      generalize bs[k] = c at *
      clear hx
      by_cases hk0 : k = 0
      · subst hk0
        rw [Addr.add_zero'] at hcell
        by_cases h4 : size = 4
        · subst h4
          go_wp2
          go_round
          case rel => exact ⟨1, wrap64 (IntKind.i8.wrap c), by omega, rfl, rfl, ⟨by rw [← HK.out, HD.out]; rfl⟩⟩
          case measure => simp [intOf]; omega
        · have b4 : (size == 4) = false := beq_eq_false_iff_ne.2 h4
          have H4 := Aside0.mk h4
          clear h4
          go_wp2
          go_round
          case rel => exact ⟨1, _, by omega, rfl, rfl, ⟨by rw [← HK.out, HD.out]; simp [numL, H4.out]⟩⟩
          case measure => simp [intOf]; omega
      · have b0 : ((k : Int) == 0) = false := beq_eq_false_iff_ne.2 (by omega)
        have H0 := Aside0.mk hk0
        clear hk0
        go_wp2
        go_round
        case rel => exact ⟨k + 1, _, by omega, by go_num, rfl, ⟨by rw [← HK.out, HD.out]; simp [numL, H0.out]⟩⟩
        case measure => simp [intOf]; omega
    · have hke : k = bs.length := by omega
      have HF : Aside0 (m = numL size true 0 bs) := ⟨by rw [← HK.out, List.drop_of_length_le (by omega)]; rfl⟩
      clear hke
      go_wp2
      go_ret
      exact ⟨by rw [← HF.out]; rfl, HRD.out, HGR.out⟩

theorem takeS_neg (l : List Int) (bad : Bool) : takeS l bad (-1) = ([], [], true) := if_pos (by omega)
set_option maxHeartbeats 2000000 in
theorem num_none (B N : Nat) (W : World) (g : Nat) (l : List Int) (bad : Bool) (size : Int) (h : Rd 82 B N W g l bad) (hl : l.length ≤ 140737488355328) (hs : sizeB size = false) :
    Calls Try.prog 27 #[.pointer (some ⟨g, 0, none⟩), .int .i64 size] W fun e w' => e = .returned (.int .i64 0) ∧ Rd 82 B N w' g [] true ∧ W.grownBy w' (some g) := by
  have H := Aside0.mk h
  have HL := Aside0.mk hl
  have HS := Aside0.mk hs
  have HT := Aside0.mk (takeS_neg l bad)
  clear h hl hs
  go_enter Try.func27, Try.ntmps27
  go_wp2_with fail
  refine (may0_calls W size).mono ?_
  rintro e w1 ⟨rfl, rfl⟩
  rw [HS.out]
  go_wp2_with fail
  refine (take_calls B N _ g l bad (-1) H.out HL.out).mono ?_
  rintro e w1 ⟨v, rfl, hv, hrd, hgr⟩
  rw [HT.out] at hv hrd
  obtain ⟨A1, c1, rfl, hc1, hr1⟩ := Kd.R_reads hv
  have HRD := Aside0.mk hrd
  have HGR := Aside0.mk hgr
  clear hv hrd hgr hc1 hr1
  go_wp2
  go_loop [4, 14] (fun n i => i = .int .i64 0 ∧ n = .int .i64 0) (fun _ i => (intOf i).toNat)
  case atStart => exact ⟨rfl, rfl⟩
  case round =>
    obtain ⟨rfl, rfl⟩ := hrel
    go_wp2
    go_ret
    exact ⟨rfl, HRD.out, HGR.out⟩
theorem num_calls (B N : Nat) (W : World) (g : Nat) (l : List Int) (bad : Bool) (size : Int) (h : Rd 82 B N W g l bad) (hl : l.length ≤ 140737488355328) :
    Calls Try.prog 27 #[.pointer (some ⟨g, 0, none⟩), .int .i64 size] W fun e w' => e = .returned (.int .i64 (numS l bad size).1) ∧ Rd 82 B N w' g (numS l bad size).2.1 (numS l bad size).2.2 ∧ W.grownBy w' (some g) := by
  unfold numS sizeS
  by_cases hs : sizeB size = true
  · rw [if_pos hs]
    exact num_good B N W g l bad size h hl hs _ _ _ rfl
  · have hs' : sizeB size = false := Bool.eq_false_iff.mpr hs
    rw [if_neg hs, takeS_neg]
    exact num_none B N W g l bad size h hl hs'
end Go.Proofs.Ytpgjcnjojfehjaa.Oct
/- The document's reader: Take, Left, Ok, Open; condition: the state is as told. -/
namespace Go.Proofs.Ytpgjcnjojfehjaa.Oct.Ref
open Go.RowKit Go.Proofs.YtpgjcnjojfehjaaW.PrintWords Go.Proofs.YtpgjcnjojfehjaaW.PrintLast Go.Proofs.YtpgjcnjojfehjaaW.PrintMore

set_option maxHeartbeats 1000000 in
theorem take_bad (B N : Nat) (W : World) (g : Nat) (l : List Int) (n : Int) (h : Rd 90 B N W g l true) :
    Calls Try.prog 35 #[.pointer (some ⟨g, 0, none⟩), .int .i64 n] W fun e w' => ∃ v, e = .returned v ∧ Kd.R (Kd.int .u8) 5 w' W.heap.size (fun _ => True) v [] ∧ Rd 90 B N w' g [] true ∧ W.grownBy w' (some g) := by
  have H := Aside0.mk h
  obtain ⟨A, c, hb, h1, h2, h3, h4, h5, h6⟩ := h
  have hc0 : W.cell? ⟨g, 0, none⟩ = some (.slice A l.length c) := (blk_cell hb 0).trans rfl
  have hc1 : W.cell? ⟨g, 1, none⟩ = some (.bool true) := (blk_cell hb 1).trans rfl
  have hf0 := blk_frozen hb 0
  have hf1 := blk_frozen hb 1
  have hln := Kd.C_max h5
  clear hb h4 h5 h6
  go_enter Try.func35, Try.ntmps35
  go_wp2
  go_ret
  exact ⟨_, rfl, Kd.R_nil _ _ _ _ _, H.out.failed'⟩
set_option maxHeartbeats 1000000 in
theorem take_neg (B N : Nat) (W : World) (g : Nat) (l : List Int) (n : Int) (h : Rd 90 B N W g l false) (hn : n < 0) :
    Calls Try.prog 35 #[.pointer (some ⟨g, 0, none⟩), .int .i64 n] W fun e w' => ∃ v, e = .returned v ∧ Kd.R (Kd.int .u8) 5 w' W.heap.size (fun _ => True) v [] ∧ Rd 90 B N w' g [] true ∧ W.grownBy w' (some g) := by
  have H := Aside0.mk h
  obtain ⟨A, c, hb, h1, h2, h3, h4, h5, h6⟩ := h
  have hc0 : W.cell? ⟨g, 0, none⟩ = some (.slice A l.length c) := (blk_cell hb 0).trans rfl
  have hc1 : W.cell? ⟨g, 1, none⟩ = some (.bool false) := (blk_cell hb 1).trans rfl
  have hf0 := blk_frozen hb 0
  have hf1 := blk_frozen hb 1
  have hln := Kd.C_max h5
  clear hb h4 h5 h6
  go_enter Try.func35, Try.ntmps35
  go_wp2
  go_ret
  exact ⟨_, rfl, Kd.R_nil _ _ _ _ _, H.out.failed'⟩
set_option maxHeartbeats 1000000 in
theorem take_much (B N : Nat) (W : World) (g : Nat) (l : List Int) (n : Int) (h : Rd 90 B N W g l false) (hn0 : 0 ≤ n) (hn : (l.length : Int) < n) :
    Calls Try.prog 35 #[.pointer (some ⟨g, 0, none⟩), .int .i64 n] W fun e w' => ∃ v, e = .returned v ∧ Kd.R (Kd.int .u8) 5 w' W.heap.size (fun _ => True) v [] ∧ Rd 90 B N w' g [] true ∧ W.grownBy w' (some g) := by
  have H := Aside0.mk h
  obtain ⟨A, c, hb, h1, h2, h3, h4, h5, h6⟩ := h
  have hc0 : W.cell? ⟨g, 0, none⟩ = some (.slice A l.length c) := (blk_cell hb 0).trans rfl
  have hc1 : W.cell? ⟨g, 1, none⟩ = some (.bool false) := (blk_cell hb 1).trans rfl
  have hf0 := blk_frozen hb 0
  have hf1 := blk_frozen hb 1
  have hln := Kd.C_max h5
  clear hb h4 h5 h6
  go_enter Try.func35, Try.ntmps35
  go_wp2
  go_ret
  exact ⟨_, rfl, Kd.R_nil _ _ _ _ _, H.out.failed'⟩
theorem take_no (B N : Nat) (W : World) (g : Nat) (l : List Int) (bad : Bool) (n : Int) (h : Rd 90 B N W g l bad) (hc : bad = true ∨ n < 0 ∨ (l.length : Int) < n) :
    Calls Try.prog 35 #[.pointer (some ⟨g, 0, none⟩), .int .i64 n] W fun e w' => ∃ v, e = .returned v ∧ Kd.R (Kd.int .u8) 5 w' W.heap.size (fun _ => True) v [] ∧ Rd 90 B N w' g [] true ∧ W.grownBy w' (some g) := by
  cases bad with
  | true => exact take_bad B N W g l n h
  | false =>
    by_cases h1 : n < 0
    · exact take_neg B N W g l n h h1
    · exact take_much B N W g l n h (by omega) (by rcases hc with hc | hc | hc; · cases hc
                                                   · exact absurd hc h1
                                                   · exact hc)
set_option maxHeartbeats 1000000 in
theorem take_yes (B N : Nat) (W : World) (g : Nat) (l : List Int) (n : Int) (h : Rd 90 B N W g l false) (hl : l.length ≤ 140737488355328) (hn0 : 0 ≤ n) (hn : n ≤ (l.length : Int)) :
    Calls Try.prog 35 #[.pointer (some ⟨g, 0, none⟩), .int .i64 n] W fun e w' => ∃ v, e = .returned v ∧ Kd.R (Kd.int .u8) 5 w' W.heap.size (fun _ => True) v (l.take n.toNat) ∧ Rd 90 B N w' g (l.drop n.toNat) false ∧ W.grownBy w' (some g) := by
  obtain ⟨A, c, hb, h1, h2, h3, h4, h5, h6⟩ := h
  have hc0 : W.cell? ⟨g, 0, none⟩ = some (.slice A l.length c) := (blk_cell hb 0).trans rfl
  have hc1 : W.cell? ⟨g, 1, none⟩ = some (.bool false) := (blk_cell hb 1).trans rfl
  have hf0 := blk_frozen hb 0
  obtain ⟨i5, hi5, _, hsz5, _⟩ := info_parts info5
  obtain ⟨hcut, hA1, hC1⟩ := print_take_of (P := Try.prog) (Value.int .u8) 0 29 5 .i64 Try.underlying29 hi5 hsz5 A c l n hn0 hn h4
  obtain ⟨A2, hcut2, hA2, hC2, hB2⟩ := drop_run (P := Try.prog) (k := .u8) 29 5 Try.underlying29 hi5 hsz5 A c l n hn0 hn h4
  have HT := Aside0.mk (Kd.C_of_reads (h1 := fun _ => rfl) (hA1 W (Kd.reads_of_C h5)))
  have HD := Aside0.mk (hA2 W h5)
  have HC2 := Aside0.mk hC2
  have HB := Aside0.mk hb
  have hgW : g < W.heap.size := blk_lt hb
  have HREF := Aside0.mk (Below.refl W.heap.size W)
  have H6 := Aside0.mk h6
  have HB2 := Aside0.mk hB2
  have HL := Aside0.mk hl
  have HN := Aside0.mk h3
  have HLT : Aside0 (n.toNat = (l.take n.toNat).length) := ⟨by rw [List.length_take]; omega⟩
  have HLD : Aside0 (l.length - n.toNat = (l.drop n.toNat).length) := ⟨List.length_drop.symm⟩
  have hd1 : decide (n < 0) = false := decide_eq_false (by omega)
  have hd2 : decide ((l.length : Int) < n) = false := decide_eq_false (by omega)
  clear hb h4 h5 h6 hA1 hC1 hA2 hC2 hB2 hl h3 hi5 hsz5
  go_enter Try.func35, Try.ntmps35
  go_wp2_with (first
    | ((with_reducible refine gate_dst (N := 29) rfl ?_); refine Kd.R_lit (Kd.int .u8) _ 5 ?hg (N := 29) ?hd (xs := ([] : List Int)) (inner := []) (ok := fun _ => True) (okp := fun _ => True) ?hr ?hp (fun _ hk => hk) trivial (Below.refl _ _) (Nat.le_refl _) (by simp) ?_; (case hd => rfl); (case hg => rfl); (case hr => first | (go_simp; done) | (go_simp; rfl)); (case hp => exact (Reps.none _ _)); intro v1 w1 ho hbl hg_ hnew_; clear hg_ hnew_; have HO := Aside0.mk ho; have HB1 := Aside0.mk hbl; have hb1 : w1.heap[g]? = some (.cells #[.slice A l.length c, .bool false] 90 (0, 0)) := (hbl.block g hgW).trans HB.out; have hd0 : w1.cell? ⟨g, 0, none⟩ = some (.slice A l.length c) := (blk_cell hb1 0).trans rfl; clear ho hbl hb1)
    | ((with_reducible refine gate_builtin (b := .append) (xs := #[.tmp 29, .tmp 35]) rfl ?_); at_builtin; refine Kd.R_append_rows (Kd.int .u8) (w0 := W) W.heap.size rfl (.tmp 29) (.tmp 35) 29 5 (.int .u8 0) 1 rfl Try.underlying29 info5 rfl (by decide) (by omega) v1 [] (l.take n.toNat) _ _ _ (fun _ => True) (fun _ => False) rfl rfl HO.out ?aR (fun _ _ h => h) (fun _ h => h.elim) (fun _ _ => trivial) HB1.out (below_size HB1.out) ?aL ?_; (case aR => have hq := Kd.C_below HT.out HB1.out; rw [← HLT.out] at hq; exact hq); (case aL => have := HL.out; simp; omega); intro v2 w2 ho2 hb2 hg2 hat2; have HO2 := Aside0.mk ho2; have HBL := Aside0.mk hb2; have hb3 : w2.heap[g]? = some (.cells #[.slice A l.length c, .bool false] 90 (0, 0)) := (hb2.block g hgW).trans HB.out; have hd2 : w2.cell? ⟨g, 0, none⟩ = some (.slice A l.length c) := (blk_cell hb3 0).trans rfl; have hg02 := blk_frozen hb3 0; have HB3 := Aside0.mk hb3; clear ho2 hb2 hg2 hat2 hb3))
  go_ret
  refine ⟨_, rfl, R_elder HO2.out hgW _, ⟨A2, c - n.toNat, ?_, h1, h2, ?_, HC2.out, ?_, ?_⟩, ?_⟩
  · rw [blk_set HB3.out 0 _, ← HLD.out]; rfl
  · have h7 := HBL.out.size
    have h8 := HN.out
    simp only [World.setCell]; simp; omega
  · exact C_same (Kd.C_below HD.out HBL.out) (fun ad e => by
      obtain ⟨ad0, e0, hbk⟩ := HB2.out ad e
      have h9 := (H6.out ad0 e0).2.2
      exact Below.heap_setCell _ _ _ _ (by rw [hbk]; exact h9))
  · intro ad e
    obtain ⟨ad0, e0, hbk⟩ := HB2.out ad e
    rw [hbk]; exact H6.out ad0 e0
  · exact (grown_of_below HBL.out (some g)).trans (grown_set _ _ _)
theorem take_calls (B N : Nat) (W : World) (g : Nat) (l : List Int) (bad : Bool) (n : Int) (h : Rd 90 B N W g l bad) (hl : l.length ≤ 140737488355328) :
    Calls Try.prog 35 #[.pointer (some ⟨g, 0, none⟩), .int .i64 n] W fun e w' => ∃ v, e = .returned v ∧ Kd.R (Kd.int .u8) 5 w' W.heap.size (fun _ => True) v (takeS l bad n).1 ∧ Rd 90 B N w' g (takeS l bad n).2.1 (takeS l bad n).2.2 ∧ W.grownBy w' (some g) := by
  by_cases hc : bad = true ∨ n < 0 ∨ (l.length : Int) < n
  · rw [show takeS l bad n = ([], [], true) from if_pos hc]
    exact take_no B N W g l bad n h hc
  · rw [show takeS l bad n = (l.take n.toNat, l.drop n.toNat, false) from if_neg hc]
    cases bad with
    | true => exact absurd (Or.inl rfl) hc
    | false => exact take_yes B N W g l n h hl (by omega) (by omega)
set_option maxHeartbeats 1000000 in
theorem open_calls (A : Option Addr) (c : Nat) (l : List Int) (w : World) (hr : Kd.C (Kd.int .u8) w A l.length l) (hl : l.length ≤ 140737488355328) :
    Calls Try.prog 33 #[.slice A l.length c] w fun e w' => ∃ g, e = .returned (.pointer (some ⟨g, 0, none⟩)) ∧ Rd 90 w.heap.size w'.heap.size w' g l false ∧ Below w.heap.size w w' := by
  have HR := Aside0.mk hr
  have HL := Aside0.mk hl
  clear hr hl
  go_enter Try.func33, Try.ntmps33
  go_wp2_with (first
    | ((with_reducible refine gate_dst (N := 3) rfl ?_); refine Kd.R_lit (Kd.int .u8) _ 5 ?hg (N := 3) ?hd (xs := ([] : List Int)) (inner := []) (ok := fun _ => True) (okp := fun _ => True) ?hr ?hp (fun _ hk => hk) trivial (Below.refl _ _) (Nat.le_refl _) (by simp) ?_; (case hd => rfl); (case hg => rfl); (case hr => first | (go_simp; done) | (go_simp; rfl)); (case hp => exact (Reps.none _ _)); intro v1 w1 ho hbl hg_ hnew_; clear hg_ hnew_; have HO := Aside0.mk ho; have HB1 := Aside0.mk hbl; clear ho hbl)
    | ((with_reducible refine gate_builtin (b := .append) (xs := #[.tmp 3, .tmp 4]) rfl ?_); at_builtin; refine Kd.R_append_rows (Kd.int .u8) (w0 := w) w.heap.size rfl (.tmp 3) (.tmp 4) 29 5 (.int .u8 0) 1 rfl Try.underlying29 info5 rfl (by decide) (by omega) v1 [] l _ _ _ (fun _ => True) (fun _ => False) rfl rfl HO.out ?aR (fun _ _ h => h) (fun _ h => h.elim) (fun _ _ => trivial) HB1.out (below_size HB1.out) ?aL ?_; (case aR => exact Kd.C_below HR.out HB1.out); (case aL => have := HL.out; simp; omega); intro v2 w2 ho2 hb2 hg2 hat2; obtain ⟨A1, c1, rfl, hc1, hr1⟩ := Kd.R_reads ho2; have HBL := Aside0.mk hb2; have HC1 := Aside0.mk hc1; have HR1 := Aside0.mk hr1; have HA1 : Aside0 (∀ ad, A1 = some ad → w.heap.size ≤ ad.block ∧ ad.block < w2.heap.size) := Aside0.mk (fun ad e => by (subst e; have h := (Kd.R_bound ho2).1 ad.block (by simp [Value.ownBlock]); exact And.intro h.2.1 h.2.2.1)); clear ho2 hb2 hg2 hat2 hc1 hr1))
  go_ret
  exact ⟨_, rfl, Rd.make HBL.out HC1.out HR1.out HA1.out, below_alloc HBL.out _⟩
end Go.Proofs.Ytpgjcnjojfehjaa.Oct.Ref
/- Put of the program and of the document: what it lays; condition: the bytes have room. -/
namespace Go.Proofs.Ytpgjcnjojfehjaa.Oct
open Go.RowKit Go.Proofs.YtpgjcnjojfehjaaW.PrintWords Go.Proofs.YtpgjcnjojfehjaaW.PrintLast Go.Proofs.YtpgjcnjojfehjaaW.PrintMore

def bytesS (n : Int) : Nat → List Int
  | 0 => []
  | m + 1 => (n / 2 ^ (8 * m)) % 256 :: bytesS n m
theorem bytesS_length (n : Int) (m : Nat) : (bytesS n m).length = m := by
  induction m with
  | zero => rfl
  | succ m ih => simp [bytesS, ih]
def mayS (n size : Int) : Bool := decide ((size = 1 ∧ n % 256 = n) ∨ (size = 4 ∧ -2147483648 ≤ n ∧ n ≤ 2147483647) ∨ size = 8)
def putS (l : List Int) (n size : Int) : List Int × Bool := if mayS n size = true then (l ++ bytesS n size.toNat, true) else (l, false)
set_option maxHeartbeats 400000 in
theorem may_calls (W : World) (n size : Int) :
    Calls Try.prog 45 #[.int .i64 n, .int .i64 size] W fun e w' => e = .returned (.bool (mayS n size)) ∧ w' = W := by
  by_cases h1 : size = 1
  · subst h1
    have e1 : mayS n 1 = (n == n % 256) := by unfold mayS; rw [Bool.eq_iff_iff]; simp; omega
    rw [e1]
    clear e1
    go_enter Try.func45, Try.ntmps45
    go_wp2
    go_ret
    exact ⟨rfl, rfl⟩
  by_cases h4 : size = 4
  · subst h4
    by_cases hn : -2147483648 ≤ n ∧ n ≤ 2147483647
    · have e1 : mayS n 4 = true := by unfold mayS; simp; omega
      have e2 : wrap32 n = n := by unfold wrap32; omega
      rw [e1]
      clear e1
      go_enter Try.func45, Try.ntmps45
      go_wp2
      go_ret
      exact ⟨rfl, rfl⟩
    · have e1 : mayS n 4 = false := by unfold mayS; simp; omega
      have e3 : (n != wrap64 (wrap32 n)) = true := by rw [bne_iff_ne]; unfold wrap64 wrap32; omega
      rw [e1]
      clear e1
      go_enter Try.func45, Try.ntmps45
      go_wp2
      go_ret
      exact ⟨rfl, rfl⟩
  by_cases h8 : size = 8
  · subst h8
    have e1 : mayS n 8 = true := by unfold mayS; simp
    rw [e1]
    clear e1
    go_enter Try.func45, Try.ntmps45
    go_wp2
    go_ret
    exact ⟨rfl, rfl⟩
  have hs : mayS n size = false := decide_eq_false (by omega)
  rw [hs]
  have b1 : (size == 1) = false := beq_eq_false_iff_ne.2 h1
  have b4 : (size == 4) = false := beq_eq_false_iff_ne.2 h4
  have b8 : (size == 8) = false := beq_eq_false_iff_ne.2 h8
  clear hs h1 h4 h8
  go_enter Try.func45, Try.ntmps45
  go_wp2
  go_ret
  exact ⟨rfl, rfl⟩
theorem mayS_size {n size : Int} (h : mayS n size = true) : 1 ≤ size ∧ size ≤ 8 := by
  unfold mayS at h; rw [decide_eq_true_eq] at h; omega
set_option maxHeartbeats 2000000 in
theorem put_yes (A : Option Addr) (c : Nat) (l : List Int) (n size : Int) (w : World) (hr : Kd.C (Kd.int .u8) w A l.length l) (hl : l.length ≤ 140737488355320) (hm : mayS n size = true) :
    Calls Try.prog 42 #[.slice A l.length c, .int .i64 n, .int .i64 size] w fun e w' => ∃ v, e = .returned (.tuple #[v, .bool true]) ∧ Kd.R (Kd.int .u8) 5 w' w.heap.size (fun _ => True) v (l ++ bytesS n size.toNat) ∧ Below w.heap.size w w' := by
  obtain ⟨hs1, hs8⟩ := mayS_size hm
  obtain ⟨z, rfl⟩ := Int.eq_ofNat_of_zero_le (by omega : 0 ≤ size)
  rw [Int.toNat_natCast]
  have HR := Aside0.mk hr
  have HL := Aside0.mk hl
  have HM := Aside0.mk hm
  clear hr hl hm
  go_enter Try.func42, Try.ntmps42
  go_wp2_with fail
  refine (clone_calls A c l w HR.out (by have := HL.out; omega)).mono ?_
  rintro e w1 ⟨v, rfl, hv, hbl⟩
  have HV := Aside0.mk hv
  have HB := Aside0.mk hbl
  clear hv hbl
  go_wp2_with fail
  refine (may_calls w1 n z).mono ?_
  rintro e w2 ⟨rfl, rfl⟩
  rw [HM.out]
  go_wp2
  go_loopw [8, 9] (fun v k wr => ∃ (j : Nat) (pre : List Int), j ≤ z ∧ k = .int .i64 j ∧ Aside0 (pre ++ bytesS n j = l ++ bytesS n z) ∧ Aside0 (Kd.R (Kd.int .u8) 5 wr w.heap.size (fun _ => True) v pre) ∧ Aside0 (Below w.heap.size w wr)) (fun _ k _ => (intOf k).toNat)
  case atStart => exact ⟨z, l, Nat.le_refl _, rfl, ⟨rfl⟩, HV, HB⟩
  case round =>
    obtain ⟨j, pre, hj, rfl, HE, HO, HB2⟩ := hrel
    clear HV HB
    have HLP : Aside0 (pre.length ≤ 140737488355328) := ⟨by
      have h1 := congrArg List.length HE.out
      rw [List.length_append, List.length_append, bytesS_length, bytesS_length] at h1
      have := HL.out; omega⟩
    cases j with
    | zero =>
      have HF : Aside0 (pre = l ++ bytesS n z) := ⟨by have h1 := HE.out; simpa [bytesS] using h1⟩
      go_wp2
      go_ret2
      exact ⟨_, rfl, by rw [← HF.out]; exact HO.out, HB2.out⟩
    | succ m =>
      have HLQ : Aside0 (pre.length + 1 ≤ 140737488355328) := ⟨by
        have h1 := congrArg List.length HE.out
        rw [List.length_append, List.length_append, bytesS_length, bytesS_length] at h1
        have := HL.out; omega⟩
      have hm8 : m < 8 := by omega
      go_wp2_with (first
        | ((with_reducible refine gate_builtin (b := .append) (xs := #[.tmp 22, .tmp 29]) rfl ?_); at_builtin; refine Kd.R_append (Kd.int .u8) (w0 := w) w.heap.size rfl (.tmp 22) (.tmp 29) 29 5 (.int .u8 0) 1 rfl Try.underlying29 info5 rfl (by decide) (by omega) u8 pre _ [.int .u8 _] (fun _ => True) (fun _ => False) rfl rfl rfl (fun _ hk => hk.elim) (fun _ _ => trivial) HO.out HB2.out (below_size HB2.out) (by have := HLQ.out; omega) ?_; intro v2 w2 ho hb hg hat; have HO2 := Aside0.mk ho; have HB3 := Aside0.mk hb; clear ho hb hg hat))
      exact ⟨⟨m, _, by omega, rfl, ⟨by rw [← HE.out]; simp [bytesS]⟩, HO2, HB3⟩, by simp [intOf]⟩
set_option maxHeartbeats 1000000 in
theorem put_no (A : Option Addr) (c : Nat) (l : List Int) (n size : Int) (w : World) (hr : Kd.C (Kd.int .u8) w A l.length l) (hl : l.length ≤ 140737488355320) (hm : mayS n size = false) :
    Calls Try.prog 42 #[.slice A l.length c, .int .i64 n, .int .i64 size] w fun e w' => ∃ v, e = .returned (.tuple #[v, .bool false]) ∧ Kd.R (Kd.int .u8) 5 w' w.heap.size (fun _ => True) v l ∧ Below w.heap.size w w' := by
  have HR := Aside0.mk hr
  have HL := Aside0.mk hl
  have HM := Aside0.mk hm
  clear hr hl hm
  go_enter Try.func42, Try.ntmps42
  go_wp2_with fail
  refine (clone_calls A c l w HR.out (by have := HL.out; omega)).mono ?_
  rintro e w1 ⟨v, rfl, hv, hbl⟩
  have HV := Aside0.mk hv
  have HB := Aside0.mk hbl
  clear hv hbl
  go_wp2_with fail
  refine (may_calls w1 n size).mono ?_
  rintro e w2 ⟨rfl, rfl⟩
  rw [HM.out]
  go_wp2
  go_ret2
  exact ⟨_, rfl, HV.out, HB.out⟩
theorem put_calls (A : Option Addr) (c : Nat) (l : List Int) (n size : Int) (w : World) (hr : Kd.C (Kd.int .u8) w A l.length l) (hl : l.length ≤ 140737488355320) :
    Calls Try.prog 42 #[.slice A l.length c, .int .i64 n, .int .i64 size] w fun e w' => ∃ v, e = .returned (.tuple #[v, .bool (putS l n size).2]) ∧ Kd.R (Kd.int .u8) 5 w' w.heap.size (fun _ => True) v (putS l n size).1 ∧ Below w.heap.size w w' := by
  unfold putS
  by_cases hm : mayS n size = true
  · rw [if_pos hm]; exact put_yes A c l n size w hr hl hm
  · rw [if_neg hm]; exact put_no A c l n size w hr hl (Bool.eq_false_iff.mpr hm)
end Go.Proofs.Ytpgjcnjojfehjaa.Oct
/- Put and Num of the document; condition: the state is as told, the bytes have room. -/
namespace Go.Proofs.Ytpgjcnjojfehjaa.Oct.Ref
open Go.RowKit Go.Proofs.YtpgjcnjojfehjaaW.PrintWords Go.Proofs.YtpgjcnjojfehjaaW.PrintLast Go.Proofs.YtpgjcnjojfehjaaW.PrintMore Go.Proofs.Ytpgjcnjojfehjaa.Oct

/-- What the loop over the bytes makes of a number of 64 bits without a sign. -/
def numU : Int → List Int → Int
  | n, [] => n
  | n, c :: r => numU (Go.bits .or .u64 (IntKind.u64.wrap (n * 256)) (IntKind.u64.wrap c)) r
def finU (size n : Int) : Int := if size = 4 then wrap64 (wrap32 (n % 4294967296)) else wrap64 n
def numS (l : List Int) (bad : Bool) (size : Int) : Int × List Int × Bool := (finU (sizeS size) (numU 0 (takeS l bad (sizeS size)).1), (takeS l bad (sizeS size)).2)

set_option maxHeartbeats 2000000 in
theorem num_any (B N : Nat) (W : World) (g : Nat) (l : List Int) (bad : Bool) (size sz : Int) (h : Rd 90 B N W g l bad) (hl : l.length ≤ 140737488355328) (hs : (sizeB size = true ∧ sz = size) ∨ (sizeB size = false ∧ sz = -1)) (bs l2 : List Int) (b2 : Bool) (ht : takeS l bad sz = (bs, l2, b2)) :
    Calls Try.prog 34 #[.pointer (some ⟨g, 0, none⟩), .int .i64 size] W fun e w' => e = .returned (.int .i64 (finU sz (numU 0 bs))) ∧ Rd 90 B N w' g l2 b2 ∧ W.grownBy w' (some g) := by
  have H := Aside0.mk h
  have HL := Aside0.mk hl
  have HT := Aside0.mk ht
  have HE := Aside0.mk (show (size = 1 ∧ sz = 1) ∨ (size = 4 ∧ sz = 4) ∨ (size = 8 ∧ sz = 8) ∨ (size ≠ 1 ∧ size ≠ 4 ∧ size ≠ 8 ∧ sz = -1) by
    unfold sizeB at hs; simp only [decide_eq_true_eq, decide_eq_false_iff_not] at hs; omega)
  clear h hl ht hs
  rcases HE.out with ⟨rfl, rfl⟩ | ⟨rfl, rfl⟩ | ⟨rfl, rfl⟩ | ⟨n1, n4, n8, rfl⟩
  all_goals clear HE
  · go_enter Try.func34, Try.ntmps34
    go_wp2_with fail
    refine (take_calls B N _ g l bad (1) H.out HL.out).mono ?_
    rintro e w1 ⟨v, rfl, hv, hrd, hgr⟩
    rw [HT.out] at hv hrd
    obtain ⟨A1, c1, rfl, hc1, hr1⟩ := Kd.R_reads hv
    have HRD := Aside0.mk hrd
    have HGR := Aside0.mk hgr
    have HR1 := Aside0.mk hr1
    clear hv hrd hgr hc1 hr1
    go_wp2
    go_loop [6, 7] (fun n i => ∃ (k : Nat) (m : Int), k ≤ bs.length ∧ i = .int .i64 k ∧ n = .int .u64 m ∧ Aside0 (numU m (bs.drop k) = numU 0 bs)) (fun _ i => bs.length - (intOf i).toNat)
    case atStart => exact ⟨0, 0, Nat.zero_le _, rfl, rfl, ⟨by simp⟩⟩
    case round =>
      obtain ⟨k, m, hk, rfl, rfl, HK⟩ := hrel
      have hmx : bs.length ≤ 9223372036854775807 := Kd.C_max HR1.out
      by_cases hlt : k < bs.length
      · obtain ⟨ad, rfl, hcell⟩ := Kd.at_int HR1.out (k : Int) (by omega) (by omega)
        have hx : rd bs (k : Int) = bs[k] := by unfold rd; simp [List.getD, hlt]
        rw [hx, Int.toNat_natCast] at hcell
        have HD : Aside0 (bs.drop k = bs[k] :: bs.drop (k + 1)) := ⟨List.drop_eq_getElem_cons hlt⟩
        generalize bs[k] = c at *
        clear hx
        go_wp2
        go_round
        case rel => exact ⟨k + 1, _, by omega, by go_num, rfl, ⟨by rw [← HK.out, HD.out]; rfl⟩⟩
        case measure => simp [intOf]; omega
      · have hke : k = bs.length := by omega
        have HF : Aside0 (m = numU 0 bs) := ⟨by rw [← HK.out, List.drop_of_length_le (by omega)]; rfl⟩
        clear hke
        go_wp2
        go_ret
        exact ⟨by rw [← HF.out]; rfl, HRD.out, HGR.out⟩
  · go_enter Try.func34, Try.ntmps34
    go_wp2_with fail
    refine (take_calls B N _ g l bad (4) H.out HL.out).mono ?_
    rintro e w1 ⟨v, rfl, hv, hrd, hgr⟩
    rw [HT.out] at hv hrd
    obtain ⟨A1, c1, rfl, hc1, hr1⟩ := Kd.R_reads hv
    have HRD := Aside0.mk hrd
    have HGR := Aside0.mk hgr
    have HR1 := Aside0.mk hr1
    clear hv hrd hgr hc1 hr1
    go_wp2
    go_loop [6, 7] (fun n i => ∃ (k : Nat) (m : Int), k ≤ bs.length ∧ i = .int .i64 k ∧ n = .int .u64 m ∧ Aside0 (numU m (bs.drop k) = numU 0 bs)) (fun _ i => bs.length - (intOf i).toNat)
    case atStart => exact ⟨0, 0, Nat.zero_le _, rfl, rfl, ⟨by simp⟩⟩
    case round =>
      obtain ⟨k, m, hk, rfl, rfl, HK⟩ := hrel
      have hmx : bs.length ≤ 9223372036854775807 := Kd.C_max HR1.out
      by_cases hlt : k < bs.length
      · obtain ⟨ad, rfl, hcell⟩ := Kd.at_int HR1.out (k : Int) (by omega) (by omega)
        have hx : rd bs (k : Int) = bs[k] := by unfold rd; simp [List.getD, hlt]
        rw [hx, Int.toNat_natCast] at hcell
        have HD : Aside0 (bs.drop k = bs[k] :: bs.drop (k + 1)) := ⟨List.drop_eq_getElem_cons hlt⟩
        generalize bs[k] = c at *
        clear hx
        go_wp2
        go_round
        case rel => exact ⟨k + 1, _, by omega, by go_num, rfl, ⟨by rw [← HK.out, HD.out]; rfl⟩⟩
        case measure => simp [intOf]; omega
      · have hke : k = bs.length := by omega
        have HF : Aside0 (m = numU 0 bs) := ⟨by rw [← HK.out, List.drop_of_length_le (by omega)]; rfl⟩
        clear hke
        go_wp2
        go_ret
        exact ⟨by rw [← HF.out]; rfl, HRD.out, HGR.out⟩
  · go_enter Try.func34, Try.ntmps34
    go_wp2_with fail
    refine (take_calls B N _ g l bad (8) H.out HL.out).mono ?_
    rintro e w1 ⟨v, rfl, hv, hrd, hgr⟩
    rw [HT.out] at hv hrd
    obtain ⟨A1, c1, rfl, hc1, hr1⟩ := Kd.R_reads hv
    have HRD := Aside0.mk hrd
    have HGR := Aside0.mk hgr
    have HR1 := Aside0.mk hr1
    clear hv hrd hgr hc1 hr1
    go_wp2
    go_loop [6, 7] (fun n i => ∃ (k : Nat) (m : Int), k ≤ bs.length ∧ i = .int .i64 k ∧ n = .int .u64 m ∧ Aside0 (numU m (bs.drop k) = numU 0 bs)) (fun _ i => bs.length - (intOf i).toNat)
    case atStart => exact ⟨0, 0, Nat.zero_le _, rfl, rfl, ⟨by simp⟩⟩
    case round =>
      obtain ⟨k, m, hk, rfl, rfl, HK⟩ := hrel
      have hmx : bs.length ≤ 9223372036854775807 := Kd.C_max HR1.out
      by_cases hlt : k < bs.length
      · obtain ⟨ad, rfl, hcell⟩ := Kd.at_int HR1.out (k : Int) (by omega) (by omega)
        have hx : rd bs (k : Int) = bs[k] := by unfold rd; simp [List.getD, hlt]
        rw [hx, Int.toNat_natCast] at hcell
        have HD : Aside0 (bs.drop k = bs[k] :: bs.drop (k + 1)) := ⟨List.drop_eq_getElem_cons hlt⟩
        generalize bs[k] = c at *
        clear hx
        go_wp2
        go_round
        case rel => exact ⟨k + 1, _, by omega, by go_num, rfl, ⟨by rw [← HK.out, HD.out]; rfl⟩⟩
        case measure => simp [intOf]; omega
      · have hke : k = bs.length := by omega
        have HF : Aside0 (m = numU 0 bs) := ⟨by rw [← HK.out, List.drop_of_length_le (by omega)]; rfl⟩
        clear hke
        go_wp2
        go_ret
        exact ⟨by rw [← HF.out]; rfl, HRD.out, HGR.out⟩
  · have b1 : (size != 1) = true := bne_iff_ne.2 n1
    have b4 : (size != 4) = true := bne_iff_ne.2 n4
    have b8 : (size != 8) = true := bne_iff_ne.2 n8
    clear n1 n4 n8
    go_enter Try.func34, Try.ntmps34
    go_wp2_with fail
    refine (take_calls B N _ g l bad (-1) H.out HL.out).mono ?_
    rintro e w1 ⟨v, rfl, hv, hrd, hgr⟩
    rw [HT.out] at hv hrd
    obtain ⟨A1, c1, rfl, hc1, hr1⟩ := Kd.R_reads hv
    have HRD := Aside0.mk hrd
    have HGR := Aside0.mk hgr
    have HR1 := Aside0.mk hr1
    clear hv hrd hgr hc1 hr1
    go_wp2
    go_loop [6, 7] (fun n i => ∃ (k : Nat) (m : Int), k ≤ bs.length ∧ i = .int .i64 k ∧ n = .int .u64 m ∧ Aside0 (numU m (bs.drop k) = numU 0 bs)) (fun _ i => bs.length - (intOf i).toNat)
    case atStart => exact ⟨0, 0, Nat.zero_le _, rfl, rfl, ⟨by simp⟩⟩
    case round =>
      obtain ⟨k, m, hk, rfl, rfl, HK⟩ := hrel
      have hmx : bs.length ≤ 9223372036854775807 := Kd.C_max HR1.out
      by_cases hlt : k < bs.length
      · obtain ⟨ad, rfl, hcell⟩ := Kd.at_int HR1.out (k : Int) (by omega) (by omega)
        have hx : rd bs (k : Int) = bs[k] := by unfold rd; simp [List.getD, hlt]
        rw [hx, Int.toNat_natCast] at hcell
        have HD : Aside0 (bs.drop k = bs[k] :: bs.drop (k + 1)) := ⟨List.drop_eq_getElem_cons hlt⟩
        generalize bs[k] = c at *
        clear hx
        go_wp2
        go_round
        case rel => exact ⟨k + 1, _, by omega, by go_num, rfl, ⟨by rw [← HK.out, HD.out]; rfl⟩⟩
        case measure => simp [intOf]; omega
      · have hke : k = bs.length := by omega
        have HF : Aside0 (m = numU 0 bs) := ⟨by rw [← HK.out, List.drop_of_length_le (by omega)]; rfl⟩
        clear hke
        go_wp2
        go_ret
        exact ⟨by rw [← HF.out]; rfl, HRD.out, HGR.out⟩
theorem num_calls (B N : Nat) (W : World) (g : Nat) (l : List Int) (bad : Bool) (size : Int) (h : Rd 90 B N W g l bad) (hl : l.length ≤ 140737488355328) :
    Calls Try.prog 34 #[.pointer (some ⟨g, 0, none⟩), .int .i64 size] W fun e w' => e = .returned (.int .i64 (numS l bad size).1) ∧ Rd 90 B N w' g (numS l bad size).2.1 (numS l bad size).2.2 ∧ W.grownBy w' (some g) := by
  unfold numS
  refine num_any B N W g l bad size (sizeS size) h hl ?_ _ _ _ rfl
  unfold sizeS
  by_cases hs : sizeB size = true
  · rw [if_pos hs]; exact Or.inl ⟨hs, rfl⟩
  · rw [if_neg hs]; exact Or.inr ⟨Bool.eq_false_iff.mpr hs, rfl⟩
end Go.Proofs.Ytpgjcnjojfehjaa.Oct.Ref
/- Plain facts of chapter 13: numbers as bytes and back, both ways; no program in sight. -/
namespace Go.Proofs.Ytpgjcnjojfehjaa.Oct
open Go.RowKit

def B8 (l : List Int) : Prop := ∀ x ∈ l, 0 ≤ x ∧ x ≤ 255
theorem B8_of {l : List Int} (h : ∀ x ∈ l, (Lit.int .u8 x).wf = true) : B8 l := fun x hx => by
  have := h x hx
  simp [Lit.wf, IntKind.min, IntKind.max, IntKind.signed, IntKind.bits] at this
  omega
theorem R_of {x : Int} (h : (Lit.int .i64 x).wf = true) : -9223372036854775808 ≤ x ∧ x ≤ 9223372036854775807 := by
  simp [Lit.wf, IntKind.min, IntKind.max, IntKind.signed, IntKind.bits] at h
  omega
theorem or_low (k : IntKind) (hk : k.bits = 64) (x c : Int) (hx : x % 256 = 0) (h0 : 0 ≤ c) (h1 : c < 256) : Go.bits .or k x c = k.wrap (x % 18446744073709551616 + c) := by
  obtain ⟨b, rfl⟩ := Int.eq_ofNat_of_zero_le h0
  have hb : b < 256 := by omega
  have hm : x % 256 = 0 := hx
  have hbl : (b % 2 ^ k.bits) = b := by rw [hk]; exact Nat.mod_eq_of_lt (by omega)
  have e : (x % 2 ^ k.bits).toNat = 2 ^ 8 * ((x % 18446744073709551616).toNat / 256) := by
    rw [hk, show ((2 : Int) ^ 64) = 18446744073709551616 by decide]
    omega
  have e2 : (BitVec.ofInt k.bits x ||| BitVec.ofInt k.bits (b : Int)).toNat = (x % 18446744073709551616).toNat + b := by
    rw [BitVec.toNat_or, BitVec.ofInt_natCast, BitVec.toNat_ofNat, BitVec.toNat_ofInt, hbl]
    have e3 : (x % ((2 ^ k.bits : Nat) : Int)).toNat = 2 ^ 8 * ((x % 18446744073709551616).toNat / 256) := by
      rw [← e]; congr 2
    rw [e3, ← Nat.two_pow_add_eq_or_of_lt hb]
    omega
  show k.wrap ((BitVec.ofInt k.bits x ||| BitVec.ofInt k.bits (b : Int)).toNat : Int) = _
  rw [e2]
  congr 1
  omega
theorem or_byte (n c : Int) (h0 : 0 ≤ c) (h1 : c ≤ 255) : Go.bits .or .i64 (wrap64 (n * 256)) (wrap64 c) = wrap64 (n * 256) + c := by
  have ec : wrap64 c = c := by unfold wrap64; omega
  rw [ec, or_low .i64 rfl _ _ (by unfold wrap64; omega) h0 (by omega), IntKind.wrap_i64]
  unfold wrap64; omega
theorem or_byte_u (n c : Int) (h0 : 0 ≤ c) (h1 : c ≤ 255) : Go.bits .or .u64 (IntKind.u64.wrap (n * 256)) (IntKind.u64.wrap c) = (n * 256) % 18446744073709551616 + c := by
  have ew : ∀ n : Int, IntKind.u64.wrap n = n % 18446744073709551616 := fun n => by simp [IntKind.wrap, IntKind.bits, IntKind.signed]
  rw [ew, ew, or_low .u64 rfl _ _ (by omega) (by omega) (by omega), ew]
  omega
/-- The loop, without bits. -/
def numP (size : Int) : Bool → Int → List Int → Int
  | _, n, [] => n
  | first, n, c :: r => numP size false (if first = true ∧ size = 4 then (if c < 128 then c else c - 256) else wrap64 (n * 256) + c) r
theorem numL_eq (size : Int) (l : List Int) (hl : B8 l) : ∀ first n, numL size first n l = numP size first n l := by
  induction l with
  | nil => intro _ _; rfl
  | cons c r ih =>
    intro first n
    have hc := hl c (List.mem_cons_self ..)
    unfold numL numP
    rw [ih (fun x hx => hl x (List.mem_cons_of_mem _ hx)), or_byte n c hc.1 hc.2]
    have e : wrap64 (IntKind.i8.wrap c) = if c < 128 then c else c - 256 := by
      have : IntKind.i8.wrap c = (c + 128) % 256 - 128 := by
        simp [IntKind.wrap, IntKind.bits, IntKind.signed]; split <;> omega
      rw [this]; unfold wrap64; split <;> omega
    rw [e]
def numQ : Int → List Int → Int
  | n, [] => n
  | n, c :: r => numQ ((n * 256) % 18446744073709551616 + c) r
theorem numU_eq (l : List Int) (hl : B8 l) : ∀ n, Ref.numU n l = numQ n l := by
  induction l with
  | nil => intro _; rfl
  | cons c r ih =>
    intro n
    have hc := hl c (List.mem_cons_self ..)
    unfold Ref.numU numQ
    rw [ih (fun x hx => hl x (List.mem_cons_of_mem _ hx)), or_byte_u n c hc.1 hc.2]
theorem len1 {l : List Int} (h : l.length = 1) : ∃ a, l = [a] := by
  match l, h with
  | [a], _ => exact ⟨a, rfl⟩
theorem len4 {l : List Int} (h : l.length = 4) : ∃ a b c d, l = [a, b, c, d] := by
  match l, h with
  | [a, b, c, d], _ => exact ⟨a, b, c, d, rfl⟩
theorem len8 {l : List Int} (h : l.length = 8) : ∃ a b c d e f g k, l = [a, b, c, d, e, f, g, k] := by
  match l, h with
  | [a, b, c, d, e, f, g, k], _ => exact ⟨a, b, c, d, e, f, g, k, rfl⟩
theorem bytes1 (n : Int) : bytesS n 1 = [n % 256] := by simp [bytesS]
theorem bytes4 (n : Int) : bytesS n 4 = [n / 16777216 % 256, n / 65536 % 256, n / 256 % 256, n % 256] := by simp [bytesS]
theorem bytes8 (n : Int) : bytesS n 8 = [n / 72057594037927936 % 256, n / 281474976710656 % 256, n / 1099511627776 % 256, n / 4294967296 % 256, n / 16777216 % 256, n / 65536 % 256, n / 256 % 256, n % 256] := by simp [bytesS]
theorem bytes_B8 (n : Int) (m : Nat) : B8 (bytesS n m) := by
  induction m with
  | zero => intro x hx; cases hx
  | succ m ih =>
    intro x hx
    unfold bytesS at hx
    rcases List.mem_cons.1 hx with h | h
    · subst h; omega
    · exact ih x h
theorem size_cases {size : Int} (h : sizeB size = true) : size = 1 ∨ size = 4 ∨ size = 8 := by unfold sizeB at h; exact of_decide_eq_true h
theorem mem4 {a b c d : Int} (h : B8 [a, b, c, d]) : (0 ≤ a ∧ a ≤ 255) ∧ (0 ≤ b ∧ b ≤ 255) ∧ (0 ≤ c ∧ c ≤ 255) ∧ (0 ≤ d ∧ d ≤ 255) :=
  ⟨h a (by simp), h b (by simp), h c (by simp), h d (by simp)⟩
theorem val1 (a : Int) (h : B8 [a]) : numL 1 true 0 [a] = a := by
  have ha := h a (by simp)
  rw [numL_eq _ _ h]; simp only [numP]; simp; unfold wrap64; omega
theorem val4 (a b c d : Int) (h : B8 [a, b, c, d]) : numL 4 true 0 [a, b, c, d] = (if a < 128 then a else a - 256) * 16777216 + b * 65536 + c * 256 + d := by
  obtain ⟨ha, hb, hc, hd⟩ := mem4 h
  rw [numL_eq _ _ h]; simp only [numP]; simp; unfold wrap64; split <;> omega
theorem val8 (a b c d e f g k : Int) (h : B8 [a, b, c, d, e, f, g, k]) : numL 8 true 0 [a, b, c, d, e, f, g, k] = wrap64 (a * 72057594037927936 + b * 281474976710656 + c * 1099511627776 + d * 4294967296 + e * 16777216 + f * 65536 + g * 256 + k) := by
  have ha := h a (by simp)
  have hb := h b (by simp)
  have hc := h c (by simp)
  have hd := h d (by simp)
  have he := h e (by simp)
  have hf := h f (by simp)
  have hg := h g (by simp)
  have hk := h k (by simp)
  rw [numL_eq _ _ h]; simp only [numP]; simp; unfold wrap64; omega
/-- What is read is laid so. -/
theorem back_read {bs : List Int} {size : Int} (hb : B8 bs) (hs : sizeB size = true) (hl : bs.length = size.toNat) :
    mayS (numL size true 0 bs) size = true ∧ bytesS (numL size true 0 bs) size.toNat = bs := by
  rcases size_cases hs with rfl | rfl | rfl
  · obtain ⟨a, rfl⟩ := len1 hl
    have ha := hb a (by simp)
    rw [val1 a hb]
    refine ⟨by unfold mayS; simp; omega, ?_⟩
    show bytesS a 1 = [a]
    rw [bytes1]; congr 1; omega
  · obtain ⟨a, b, c, d, rfl⟩ := len4 hl
    obtain ⟨ha, hb', hc, hd⟩ := mem4 hb
    rw [val4 a b c d hb]
    refine ⟨by unfold mayS; simp; split <;> omega, ?_⟩
    show bytesS _ 4 = _
    rw [bytes4]
    have e1 : ((if a < 128 then a else a - 256) * 16777216 + b * 65536 + c * 256 + d) / 16777216 % 256 = a := by split <;> omega
    have e2 : ((if a < 128 then a else a - 256) * 16777216 + b * 65536 + c * 256 + d) / 65536 % 256 = b := by split <;> omega
    have e3 : ((if a < 128 then a else a - 256) * 16777216 + b * 65536 + c * 256 + d) / 256 % 256 = c := by split <;> omega
    have e4 : ((if a < 128 then a else a - 256) * 16777216 + b * 65536 + c * 256 + d) % 256 = d := by split <;> omega
    rw [e1, e2, e3, e4]
  · obtain ⟨a, b, c, d, e, f, g, k, rfl⟩ := len8 hl
    have ha := hb a (by simp)
    have hb' := hb b (by simp)
    have hc := hb c (by simp)
    have hd := hb d (by simp)
    have he := hb e (by simp)
    have hf := hb f (by simp)
    have hg := hb g (by simp)
    have hk := hb k (by simp)
    rw [val8 a b c d e f g k hb]
    refine ⟨by unfold mayS; simp, ?_⟩
    show bytesS _ 8 = _
    rw [bytes8]
    generalize hn : wrap64 (a * 72057594037927936 + b * 281474976710656 + c * 1099511627776 + d * 4294967296 + e * 16777216 + f * 65536 + g * 256 + k) = n
    have hn2 : n = a * 72057594037927936 + b * 281474976710656 + c * 1099511627776 + d * 4294967296 + e * 16777216 + f * 65536 + g * 256 + k ∨ n = a * 72057594037927936 + b * 281474976710656 + c * 1099511627776 + d * 4294967296 + e * 16777216 + f * 65536 + g * 256 + k - 18446744073709551616 := by
      rw [← hn]; unfold wrap64; omega
    have e1 : n / 72057594037927936 % 256 = a := by omega
    have e2 : n / 281474976710656 % 256 = b := by omega
    have e3 : n / 1099511627776 % 256 = c := by omega
    have e4 : n / 4294967296 % 256 = d := by omega
    have e5 : n / 16777216 % 256 = e := by omega
    have e6 : n / 65536 % 256 = f := by omega
    have e7 : n / 256 % 256 = g := by omega
    have e8 : n % 256 = k := by omega
    rw [e1, e2, e3, e4, e5, e6, e7, e8]
theorem R_mod (n : Int) (h : -9223372036854775808 ≤ n ∧ n ≤ 9223372036854775807) : wrap64 n = n := by unfold wrap64; omega
/-- What was laid is read so. -/
theorem read_back {n size : Int} (hn : -9223372036854775808 ≤ n ∧ n ≤ 9223372036854775807) (hm : mayS n size = true) : numL size true 0 (bytesS n size.toNat) = n := by
  have hs : (size = 1 ∧ n % 256 = n) ∨ (size = 4 ∧ -2147483648 ≤ n ∧ n ≤ 2147483647) ∨ size = 8 := of_decide_eq_true hm
  rcases hs with ⟨rfl, h⟩ | ⟨rfl, h⟩ | rfl
  · show numL 1 true 0 (bytesS n 1) = n
    have hb := bytes_B8 n 1
    rw [bytes1] at hb ⊢
    rw [val1 _ hb, h]
  · show numL 4 true 0 (bytesS n 4) = n
    have hb := bytes_B8 n 4
    rw [bytes4] at hb ⊢
    rw [val4 _ _ _ _ hb]; split <;> omega
  · show numL 8 true 0 (bytesS n 8) = n
    have hb := bytes_B8 n 8
    rw [bytes8] at hb ⊢
    rw [val8 _ _ _ _ _ _ _ _ hb]
    have e : n / 72057594037927936 % 256 * 72057594037927936 + n / 281474976710656 % 256 * 281474976710656 + n / 1099511627776 % 256 * 1099511627776 + n / 4294967296 % 256 * 4294967296 + n / 16777216 % 256 * 16777216 + n / 65536 % 256 * 65536 + n / 256 % 256 * 256 + n % 256 = n % 18446744073709551616 := by omega
    rw [e]; unfold wrap64; omega
/-- The document reads the same number. -/
theorem ref_num {bs : List Int} {size : Int} (hb : B8 bs) (hs : bs = [] ∨ (sizeB size = true ∧ bs.length = size.toNat)) : Ref.finU size (Ref.numU 0 bs) = numL size true 0 bs := by
  rcases hs with rfl | ⟨hs, hl⟩
  · unfold Ref.finU; simp only [Ref.numU, numL]; split <;> (unfold wrap64; (try unfold wrap32); omega)
  · rw [numU_eq _ hb]
    rcases size_cases hs with rfl | rfl | rfl
    · obtain ⟨a, rfl⟩ := len1 hl
      have ha := hb a (by simp)
      rw [val1 a hb]; unfold Ref.finU; rw [if_neg (by omega)]; simp only [numQ]; unfold wrap64; omega
    · obtain ⟨a, b, c, d, rfl⟩ := len4 hl
      obtain ⟨ha, hb', hc, hd⟩ := mem4 hb
      rw [val4 a b c d hb]; unfold Ref.finU; rw [if_pos rfl]; simp only [numQ]; unfold wrap64 wrap32; split <;> omega
    · obtain ⟨a, b, c, d, e, f, g, k, rfl⟩ := len8 hl
      have ha := hb a (by simp)
      have hb' := hb b (by simp)
      have hc := hb c (by simp)
      have hd := hb d (by simp)
      have he := hb e (by simp)
      have hf := hb f (by simp)
      have hg := hb g (by simp)
      have hk := hb k (by simp)
      rw [val8 a b c d e f g k hb]; unfold Ref.finU; rw [if_neg (by omega)]; simp only [numQ]
      congr 1; omega
end Go.Proofs.Ytpgjcnjojfehjaa.Oct
-- Written by a program of this session (wip/print/setup.py turns the kit's print tool)
namespace Go.Proofs.Ytpgjcnjojfehjaa.PRight
open Go.RowKit Go.Proofs.YtpgjcnjojfehjaaW.PrintWords Go.Proofs.YtpgjcnjojfehjaaW.PrintLast Go.Proofs.YtpgjcnjojfehjaaW.PrintMore
attribute [local go_sem] max2_int min2_int max_two min_two max_three min_three max_four min_four   -- for this text's walks alone
set_option linter.unusedVariables false
set_option linter.unusedSimpArgs false



def errW : Option Int → Value
  | none => .nilIface
  | some c => .iface 0 (.int .i64 c)
theorem errW_none : errW none = .nilIface := rfl
theorem errW_some (c : Int) : errW (some c) = .iface 0 (.int .i64 c) := rfl

-- the values' own types

end Go.Proofs.Ytpgjcnjojfehjaa.PRight
-- Written by a program of this session (wip/print/setup.py turns the kit's print tool)
namespace Go.Proofs.Ytpgjcnjojfehjaa.PRight
open Go.RowKit Go.Proofs.YtpgjcnjojfehjaaW.PrintWords Go.Proofs.YtpgjcnjojfehjaaW.PrintLast Go.Proofs.YtpgjcnjojfehjaaW.PrintMore
attribute [local go_sem] max2_int min2_int max_two min_two max_three min_three max_four min_four   -- for this text's walks alone
set_option linter.unusedVariables false
set_option linter.unusedSimpArgs false

/-! ### head_within: function 39 -/
def head_within.f (a0 : Int) (a1 : Int) (a2 : Int) : Option (Bool) := if a0 ≥ a1 then (some (decide (a0 ≤ a2))) else (some false)
set_option maxHeartbeats 8000000 in
set_option maxRecDepth 100000 in
theorem head_within.calls (a0 : Int) (a1 : Int) (a2 : Int) (r : Bool) (w : World) (h : head_within.f a0 a1 a2 = some r) :
    Calls Try.prog 39 #[.int .i64 a0, .int .i64 a1, .int .i64 a2] w fun e w' => e = .returned (.bool r) ∧ Drawn0 w w' := by
  have H : (if a0 ≥ a1 then (some (decide (a0 ≤ a2))) else (some false)) = some r := h
  clear h
  by_cases c4 : a0 ≥ a1
  · rw [if_pos c4] at H
    have c4b0 : decide (a1 ≤ a0) = true := decide_eq_true c4
    clear c4
    obtain rfl := Option.some.inj H
    go_enter Try.func39, Try.ntmps39
    go_wp2
    go_ret
    exact ⟨by first | rfl | (simp; done) | (simp [*]; done), by repeat (first | exact Drawn0.refl _ | apply Drawn0.step)⟩
  · rw [if_neg c4] at H
    have c4b0 : decide (a1 ≤ a0) = false := decide_eq_false c4
    clear c4
    obtain rfl := Option.some.inj H
    go_enter Try.func39, Try.ntmps39
    go_wp2
    go_ret
    exact ⟨by first | rfl | (simp; done) | (simp [*]; done), by repeat (first | exact Drawn0.refl _ | apply Drawn0.step)⟩

/-! ### head_Right: function 18 -/
def head_Right.f (a0_0 : Int) (a0_1 : Int) (a0_2 : Int) (a0_3 : Int) (a0_4 : Int) (a0_5 : Int) (a0_6 : Int) : Option (Bool) := (head_within.f a0_3 0 201).bind fun t102 => (if t102 = true then ((head_within.f a0_4 0 2000).bind fun t103 => (if t103 = true then ((head_within.f a0_5 1 64).bind fun t104 => (if t104 = true then ((head_within.f a0_6 1 256).bind fun t105 => (if a0_1 = 0 then (if a0_2 = 0 then (if t105 = true then ((head_within.f a0_0 1 4).bind fun t106 => (some t106)) else (some false)) else (if t105 = true then (if a0_2 = a0_5 then ((head_within.f a0_0 1 4).bind fun t107 => (some t107)) else (some false)) else (some false))) else (if a0_1 = a0_5 then (if a0_2 = 0 then (if t105 = true then ((head_within.f a0_0 1 4).bind fun t108 => (some t108)) else (some false)) else (if t105 = true then (if a0_2 = a0_5 then ((head_within.f a0_0 1 4).bind fun t109 => (some t109)) else (some false)) else (some false))) else (if t105 = true then (some false) else (some false))))) else (if a0_1 = 0 then (if a0_2 = 0 then (some false) else (some false)) else (if a0_1 = a0_5 then (if a0_2 = 0 then (some false) else (some false)) else (some false))))) else (if a0_1 = 0 then (if a0_2 = 0 then (some false) else (some false)) else (if a0_1 = a0_5 then (if a0_2 = 0 then (some false) else (some false)) else (some false))))) else (if a0_1 = 0 then (if a0_2 = 0 then (some false) else (some false)) else (if a0_1 = a0_5 then (if a0_2 = 0 then (some false) else (some false)) else (some false))))
set_option maxHeartbeats 8000000 in
set_option maxRecDepth 100000 in
theorem head_Right.calls (a0_0 : Int) (a0_1 : Int) (a0_2 : Int) (a0_3 : Int) (a0_4 : Int) (a0_5 : Int) (a0_6 : Int) (r : Bool) (w : World) (h : head_Right.f a0_0 a0_1 a0_2 a0_3 a0_4 a0_5 a0_6 = some r) :
    Calls Try.prog 18 #[.agg #[.int .i64 a0_0, .int .i64 a0_1, .int .i64 a0_2, .int .i64 a0_3, .int .i64 a0_4, .int .i64 a0_5, .int .i64 a0_6]] w fun e w' => e = .returned (.bool r) ∧ Below w.heap.size w w' := by
  have hu28 := Try.underlying28
  have HB := Aside0.mk (Below.refl w.heap.size w)
  have H : ((head_within.f a0_3 0 201).bind fun t102 => (if t102 = true then ((head_within.f a0_4 0 2000).bind fun t103 => (if t103 = true then ((head_within.f a0_5 1 64).bind fun t104 => (if t104 = true then ((head_within.f a0_6 1 256).bind fun t105 => (if a0_1 = 0 then (if a0_2 = 0 then (if t105 = true then ((head_within.f a0_0 1 4).bind fun t106 => (some t106)) else (some false)) else (if t105 = true then (if a0_2 = a0_5 then ((head_within.f a0_0 1 4).bind fun t107 => (some t107)) else (some false)) else (some false))) else (if a0_1 = a0_5 then (if a0_2 = 0 then (if t105 = true then ((head_within.f a0_0 1 4).bind fun t108 => (some t108)) else (some false)) else (if t105 = true then (if a0_2 = a0_5 then ((head_within.f a0_0 1 4).bind fun t109 => (some t109)) else (some false)) else (some false))) else (if t105 = true then (some false) else (some false))))) else (if a0_1 = 0 then (if a0_2 = 0 then (some false) else (some false)) else (if a0_1 = a0_5 then (if a0_2 = 0 then (some false) else (some false)) else (some false))))) else (if a0_1 = 0 then (if a0_2 = 0 then (some false) else (some false)) else (if a0_1 = a0_5 then (if a0_2 = 0 then (some false) else (some false)) else (some false))))) else (if a0_1 = 0 then (if a0_2 = 0 then (some false) else (some false)) else (if a0_1 = a0_5 then (if a0_2 = 0 then (some false) else (some false)) else (some false))))) = some r := h
  clear h
  replace H := Option.bind_eq_some_iff.mp H
  obtain ⟨t102, A20, H⟩ := H
  replace H : (if t102 = true then ((head_within.f a0_4 0 2000).bind fun t103 => (if t103 = true then ((head_within.f a0_5 1 64).bind fun t104 => (if t104 = true then ((head_within.f a0_6 1 256).bind fun t105 => (if a0_1 = 0 then (if a0_2 = 0 then (if t105 = true then ((head_within.f a0_0 1 4).bind fun t106 => (some t106)) else (some false)) else (if t105 = true then (if a0_2 = a0_5 then ((head_within.f a0_0 1 4).bind fun t107 => (some t107)) else (some false)) else (some false))) else (if a0_1 = a0_5 then (if a0_2 = 0 then (if t105 = true then ((head_within.f a0_0 1 4).bind fun t108 => (some t108)) else (some false)) else (if t105 = true then (if a0_2 = a0_5 then ((head_within.f a0_0 1 4).bind fun t109 => (some t109)) else (some false)) else (some false))) else (if t105 = true then (some false) else (some false))))) else (if a0_1 = 0 then (if a0_2 = 0 then (some false) else (some false)) else (if a0_1 = a0_5 then (if a0_2 = 0 then (some false) else (some false)) else (some false))))) else (if a0_1 = 0 then (if a0_2 = 0 then (some false) else (some false)) else (if a0_1 = a0_5 then (if a0_2 = 0 then (some false) else (some false)) else (some false))))) else (if a0_1 = 0 then (if a0_2 = 0 then (some false) else (some false)) else (if a0_1 = a0_5 then (if a0_2 = 0 then (some false) else (some false)) else (some false)))) = some r := H
  have A2 := Aside0.mk A20
  clear A20
  by_cases c3 : t102 = true
  · subst c3
    have H1 : ((head_within.f a0_4 0 2000).bind fun t103 => (if t103 = true then ((head_within.f a0_5 1 64).bind fun t104 => (if t104 = true then ((head_within.f a0_6 1 256).bind fun t105 => (if a0_1 = 0 then (if a0_2 = 0 then (if t105 = true then ((head_within.f a0_0 1 4).bind fun t106 => (some t106)) else (some false)) else (if t105 = true then (if a0_2 = a0_5 then ((head_within.f a0_0 1 4).bind fun t107 => (some t107)) else (some false)) else (some false))) else (if a0_1 = a0_5 then (if a0_2 = 0 then (if t105 = true then ((head_within.f a0_0 1 4).bind fun t108 => (some t108)) else (some false)) else (if t105 = true then (if a0_2 = a0_5 then ((head_within.f a0_0 1 4).bind fun t109 => (some t109)) else (some false)) else (some false))) else (if t105 = true then (some false) else (some false))))) else (if a0_1 = 0 then (if a0_2 = 0 then (some false) else (some false)) else (if a0_1 = a0_5 then (if a0_2 = 0 then (some false) else (some false)) else (some false))))) else (if a0_1 = 0 then (if a0_2 = 0 then (some false) else (some false)) else (if a0_1 = a0_5 then (if a0_2 = 0 then (some false) else (some false)) else (some false))))) = some r := by rw [if_pos rfl] at H; exact H
    clear H
    have H := H1
    clear H1
    replace H := Option.bind_eq_some_iff.mp H
    obtain ⟨t103, A40, H⟩ := H
    replace H : (if t103 = true then ((head_within.f a0_5 1 64).bind fun t104 => (if t104 = true then ((head_within.f a0_6 1 256).bind fun t105 => (if a0_1 = 0 then (if a0_2 = 0 then (if t105 = true then ((head_within.f a0_0 1 4).bind fun t106 => (some t106)) else (some false)) else (if t105 = true then (if a0_2 = a0_5 then ((head_within.f a0_0 1 4).bind fun t107 => (some t107)) else (some false)) else (some false))) else (if a0_1 = a0_5 then (if a0_2 = 0 then (if t105 = true then ((head_within.f a0_0 1 4).bind fun t108 => (some t108)) else (some false)) else (if t105 = true then (if a0_2 = a0_5 then ((head_within.f a0_0 1 4).bind fun t109 => (some t109)) else (some false)) else (some false))) else (if t105 = true then (some false) else (some false))))) else (if a0_1 = 0 then (if a0_2 = 0 then (some false) else (some false)) else (if a0_1 = a0_5 then (if a0_2 = 0 then (some false) else (some false)) else (some false))))) else (if a0_1 = 0 then (if a0_2 = 0 then (some false) else (some false)) else (if a0_1 = a0_5 then (if a0_2 = 0 then (some false) else (some false)) else (some false)))) = some r := H
    have A4 := Aside0.mk A40
    clear A40
    by_cases c5 : t103 = true
    · subst c5
      have H1 : ((head_within.f a0_5 1 64).bind fun t104 => (if t104 = true then ((head_within.f a0_6 1 256).bind fun t105 => (if a0_1 = 0 then (if a0_2 = 0 then (if t105 = true then ((head_within.f a0_0 1 4).bind fun t106 => (some t106)) else (some false)) else (if t105 = true then (if a0_2 = a0_5 then ((head_within.f a0_0 1 4).bind fun t107 => (some t107)) else (some false)) else (some false))) else (if a0_1 = a0_5 then (if a0_2 = 0 then (if t105 = true then ((head_within.f a0_0 1 4).bind fun t108 => (some t108)) else (some false)) else (if t105 = true then (if a0_2 = a0_5 then ((head_within.f a0_0 1 4).bind fun t109 => (some t109)) else (some false)) else (some false))) else (if t105 = true then (some false) else (some false))))) else (if a0_1 = 0 then (if a0_2 = 0 then (some false) else (some false)) else (if a0_1 = a0_5 then (if a0_2 = 0 then (some false) else (some false)) else (some false))))) = some r := by rw [if_pos rfl] at H; exact H
      clear H
      have H := H1
      clear H1
      replace H := Option.bind_eq_some_iff.mp H
      obtain ⟨t104, A60, H⟩ := H
      replace H : (if t104 = true then ((head_within.f a0_6 1 256).bind fun t105 => (if a0_1 = 0 then (if a0_2 = 0 then (if t105 = true then ((head_within.f a0_0 1 4).bind fun t106 => (some t106)) else (some false)) else (if t105 = true then (if a0_2 = a0_5 then ((head_within.f a0_0 1 4).bind fun t107 => (some t107)) else (some false)) else (some false))) else (if a0_1 = a0_5 then (if a0_2 = 0 then (if t105 = true then ((head_within.f a0_0 1 4).bind fun t108 => (some t108)) else (some false)) else (if t105 = true then (if a0_2 = a0_5 then ((head_within.f a0_0 1 4).bind fun t109 => (some t109)) else (some false)) else (some false))) else (if t105 = true then (some false) else (some false))))) else (if a0_1 = 0 then (if a0_2 = 0 then (some false) else (some false)) else (if a0_1 = a0_5 then (if a0_2 = 0 then (some false) else (some false)) else (some false)))) = some r := H
      have A6 := Aside0.mk A60
      clear A60
      by_cases c7 : t104 = true
      · subst c7
        have H1 : ((head_within.f a0_6 1 256).bind fun t105 => (if a0_1 = 0 then (if a0_2 = 0 then (if t105 = true then ((head_within.f a0_0 1 4).bind fun t106 => (some t106)) else (some false)) else (if t105 = true then (if a0_2 = a0_5 then ((head_within.f a0_0 1 4).bind fun t107 => (some t107)) else (some false)) else (some false))) else (if a0_1 = a0_5 then (if a0_2 = 0 then (if t105 = true then ((head_within.f a0_0 1 4).bind fun t108 => (some t108)) else (some false)) else (if t105 = true then (if a0_2 = a0_5 then ((head_within.f a0_0 1 4).bind fun t109 => (some t109)) else (some false)) else (some false))) else (if t105 = true then (some false) else (some false))))) = some r := by rw [if_pos rfl] at H; exact H
        clear H
        have H := H1
        clear H1
        replace H := Option.bind_eq_some_iff.mp H
        obtain ⟨t105, A80, H⟩ := H
        replace H : (if a0_1 = 0 then (if a0_2 = 0 then (if t105 = true then ((head_within.f a0_0 1 4).bind fun t106 => (some t106)) else (some false)) else (if t105 = true then (if a0_2 = a0_5 then ((head_within.f a0_0 1 4).bind fun t107 => (some t107)) else (some false)) else (some false))) else (if a0_1 = a0_5 then (if a0_2 = 0 then (if t105 = true then ((head_within.f a0_0 1 4).bind fun t108 => (some t108)) else (some false)) else (if t105 = true then (if a0_2 = a0_5 then ((head_within.f a0_0 1 4).bind fun t109 => (some t109)) else (some false)) else (some false))) else (if t105 = true then (some false) else (some false)))) = some r := H
        have A8 := Aside0.mk A80
        clear A80
        by_cases c9 : a0_1 = 0
        · rw [if_pos c9] at H
          have c9b0 : (a0_1 == 0) = true := beq_iff_eq.mpr c9
          have c9b1 : (a0_1 != 0) = false := bne_eq_false_iff_eq.mpr c9
          clear c9
          by_cases c10 : a0_2 = 0
          · rw [if_pos c10] at H
            have c10b0 : (a0_2 == 0) = true := beq_iff_eq.mpr c10
            have c10b1 : (a0_2 != 0) = false := bne_eq_false_iff_eq.mpr c10
            clear c10
            by_cases c11 : t105 = true
            · subst c11
              have H1 : ((head_within.f a0_0 1 4).bind fun t106 => (some t106)) = some r := by rw [if_pos rfl] at H; exact H
              clear H
              have H := H1
              clear H1
              replace H := Option.bind_eq_some_iff.mp H
              obtain ⟨t106, A120, H⟩ := H
              replace H : (some t106) = some r := H
              have A12 := Aside0.mk A120
              clear A120
              obtain rfl := Option.some.inj H
              go_enter Try.func18, Try.ntmps18
              go_wp2_with (first | ((with_reducible refine gate_dst (N := 1) rfl ?_); refine box_event ?hg (N := 1) ?hd (cs := #[.int .i64 a0_0, .int .i64 a0_1, .int .i64 a0_2, .int .i64 a0_3, .int .i64 a0_4, .int .i64 a0_5, .int .i64 a0_6]) (t := 28) ?hr ?_; (case hd => rfl); (case hg => rfl); (case hr => first | (go_simp; done) | (go_simp; rfl)); intro gb101 hg w13 hbox hb; have n0_ := Aside0.mk (below_step (by repeat (first | (with_reducible first | exact HB.out | apply below_alloc | apply pw_below_drewN | apply below_drew1) | exact HB.out)) hb); have n1_ := Aside0.mk (hbox); have n2_ := Aside0.mk ((by rw [hg]; exact (below_size (by repeat (first | (with_reducible first | exact HB.out | apply below_alloc | apply pw_below_drewN | apply below_drew1) | exact HB.out))) : w.heap.size ≤ gb101)); have n3_ := Aside0.mk ((by rw [hg]; exact (below_size (by repeat (first | (with_reducible first | exact HB.out | apply below_alloc | apply pw_below_drewN | apply below_drew1) | exact HB.out))) : w.heap.size ≤ gb101)); clear HB; have HB := n0_; have BK101 := n1_; have GW101 := n2_; have GE101 := n3_; clear n0_ n1_ n2_ n3_; clear hb hbox hg; have hcz14_0 : w13.cell? ⟨gb101, 0, none⟩ = some (.int .i64 a0_0) := (blk_cell BK101.out 0).trans rfl; have hcz14_1 : w13.cell? ⟨gb101, 1, none⟩ = some (.int .i64 a0_1) := (blk_cell BK101.out 1).trans rfl; have hcz14_2 : w13.cell? ⟨gb101, 2, none⟩ = some (.int .i64 a0_2) := (blk_cell BK101.out 2).trans rfl; have hcz14_3 : w13.cell? ⟨gb101, 3, none⟩ = some (.int .i64 a0_3) := (blk_cell BK101.out 3).trans rfl; have hcz14_4 : w13.cell? ⟨gb101, 4, none⟩ = some (.int .i64 a0_4) := (blk_cell BK101.out 4).trans rfl; have hcz14_5 : w13.cell? ⟨gb101, 5, none⟩ = some (.int .i64 a0_5) := (blk_cell BK101.out 5).trans rfl; have hcz14_6 : w13.cell? ⟨gb101, 6, none⟩ = some (.int .i64 a0_6) := (blk_cell BK101.out 6).trans rfl; have hfz14_0 := blk_frozen BK101.out 0; have hfz14_1 := blk_frozen BK101.out 1; have hfz14_2 := blk_frozen BK101.out 2; have hfz14_3 := blk_frozen BK101.out 3; have hfz14_4 := blk_frozen BK101.out 4; have hfz14_5 := blk_frozen BK101.out 5; have hfz14_6 := blk_frozen BK101.out 6) | ((with_reducible refine gate_callee (f := 39) rfl ?_); refine goesL_ (some 7) rfl rfl Try.func39 (by kernel_rfl) rfl #[.int .i64 a0_3, .int .i64 0, .int .i64 201] rfl (by (try simp only [List.map_toArray, List.map_cons, List.map_nil]); first | done | rfl | (simp only [List.length_drop, List.length_take]; rfl)) ?_; (with_reducible refine (head_within.calls a0_3 0 201 true _ A2.out).mono ?_); rintro e w' ⟨rfl, ⟨nd, rfl⟩⟩; refine ⟨_, rfl, ?_⟩) | (go_at_call 39; (with_reducible refine (head_within.calls a0_4 0 2000 true _ A4.out).mono ?_); rintro e w' ⟨rfl, ⟨nd, rfl⟩⟩) | (go_at_call 39; (with_reducible refine (head_within.calls a0_5 1 64 true _ A6.out).mono ?_); rintro e w' ⟨rfl, ⟨nd, rfl⟩⟩) | (go_at_call 39; (with_reducible refine (head_within.calls a0_6 1 256 true _ A8.out).mono ?_); rintro e w' ⟨rfl, ⟨nd, rfl⟩⟩) | (go_at_call 39; (with_reducible refine (head_within.calls a0_0 1 4 t106 _ A12.out).mono ?_); rintro e w' ⟨rfl, ⟨nd, rfl⟩⟩))
              go_ret
              exact ⟨by first | rfl | (simp [errW_none, errW_some] <;> rfl) | (simp [*, errW_none, errW_some] <;> rfl), by repeat (first | (with_reducible first | exact HB.out | apply below_alloc | apply pw_below_drewN | apply below_drew1 | refine below_set ?_ GE101.out) | exact HB.out)⟩
            · replace c11 := Bool.eq_false_iff.mpr c11
              subst c11
              have H1 : (some false) = some r := by rw [if_neg (show ¬ (false = true) by decide)] at H; exact H
              clear H
              have H := H1
              clear H1
              obtain rfl := Option.some.inj H
              go_enter Try.func18, Try.ntmps18
              go_wp2_with (first | ((with_reducible refine gate_dst (N := 1) rfl ?_); refine box_event ?hg (N := 1) ?hd (cs := #[.int .i64 a0_0, .int .i64 a0_1, .int .i64 a0_2, .int .i64 a0_3, .int .i64 a0_4, .int .i64 a0_5, .int .i64 a0_6]) (t := 28) ?hr ?_; (case hd => rfl); (case hg => rfl); (case hr => first | (go_simp; done) | (go_simp; rfl)); intro gb101 hg w15 hbox hb; have n0_ := Aside0.mk (below_step (by repeat (first | (with_reducible first | exact HB.out | apply below_alloc | apply pw_below_drewN | apply below_drew1) | exact HB.out)) hb); have n1_ := Aside0.mk (hbox); have n2_ := Aside0.mk ((by rw [hg]; exact (below_size (by repeat (first | (with_reducible first | exact HB.out | apply below_alloc | apply pw_below_drewN | apply below_drew1) | exact HB.out))) : w.heap.size ≤ gb101)); have n3_ := Aside0.mk ((by rw [hg]; exact (below_size (by repeat (first | (with_reducible first | exact HB.out | apply below_alloc | apply pw_below_drewN | apply below_drew1) | exact HB.out))) : w.heap.size ≤ gb101)); clear HB; have HB := n0_; have BK101 := n1_; have GW101 := n2_; have GE101 := n3_; clear n0_ n1_ n2_ n3_; clear hb hbox hg; have hcz16_0 : w15.cell? ⟨gb101, 0, none⟩ = some (.int .i64 a0_0) := (blk_cell BK101.out 0).trans rfl; have hcz16_1 : w15.cell? ⟨gb101, 1, none⟩ = some (.int .i64 a0_1) := (blk_cell BK101.out 1).trans rfl; have hcz16_2 : w15.cell? ⟨gb101, 2, none⟩ = some (.int .i64 a0_2) := (blk_cell BK101.out 2).trans rfl; have hcz16_3 : w15.cell? ⟨gb101, 3, none⟩ = some (.int .i64 a0_3) := (blk_cell BK101.out 3).trans rfl; have hcz16_4 : w15.cell? ⟨gb101, 4, none⟩ = some (.int .i64 a0_4) := (blk_cell BK101.out 4).trans rfl; have hcz16_5 : w15.cell? ⟨gb101, 5, none⟩ = some (.int .i64 a0_5) := (blk_cell BK101.out 5).trans rfl; have hcz16_6 : w15.cell? ⟨gb101, 6, none⟩ = some (.int .i64 a0_6) := (blk_cell BK101.out 6).trans rfl; have hfz16_0 := blk_frozen BK101.out 0; have hfz16_1 := blk_frozen BK101.out 1; have hfz16_2 := blk_frozen BK101.out 2; have hfz16_3 := blk_frozen BK101.out 3; have hfz16_4 := blk_frozen BK101.out 4; have hfz16_5 := blk_frozen BK101.out 5; have hfz16_6 := blk_frozen BK101.out 6) | ((with_reducible refine gate_callee (f := 39) rfl ?_); refine goesL_ (some 7) rfl rfl Try.func39 (by kernel_rfl) rfl #[.int .i64 a0_3, .int .i64 0, .int .i64 201] rfl (by (try simp only [List.map_toArray, List.map_cons, List.map_nil]); first | done | rfl | (simp only [List.length_drop, List.length_take]; rfl)) ?_; (with_reducible refine (head_within.calls a0_3 0 201 true _ A2.out).mono ?_); rintro e w' ⟨rfl, ⟨nd, rfl⟩⟩; refine ⟨_, rfl, ?_⟩) | (go_at_call 39; (with_reducible refine (head_within.calls a0_4 0 2000 true _ A4.out).mono ?_); rintro e w' ⟨rfl, ⟨nd, rfl⟩⟩) | (go_at_call 39; (with_reducible refine (head_within.calls a0_5 1 64 true _ A6.out).mono ?_); rintro e w' ⟨rfl, ⟨nd, rfl⟩⟩) | (go_at_call 39; (with_reducible refine (head_within.calls a0_6 1 256 false _ A8.out).mono ?_); rintro e w' ⟨rfl, ⟨nd, rfl⟩⟩))
              go_ret
              exact ⟨by first | rfl | (simp [errW_none, errW_some] <;> rfl) | (simp [*, errW_none, errW_some] <;> rfl), by repeat (first | (with_reducible first | exact HB.out | apply below_alloc | apply pw_below_drewN | apply below_drew1 | refine below_set ?_ GE101.out) | exact HB.out)⟩
          · rw [if_neg c10] at H
            have c10b0 : (a0_2 == 0) = false := beq_eq_false_iff_ne.mpr c10
            have c10b1 : (a0_2 != 0) = true := bne_iff_ne.mpr c10
            by_cases c17 : t105 = true
            · subst c17
              have H1 : (if a0_2 = a0_5 then ((head_within.f a0_0 1 4).bind fun t107 => (some t107)) else (some false)) = some r := by rw [if_pos rfl] at H; exact H
              clear H
              have H := H1
              clear H1
              by_cases c18 : a0_2 = a0_5
              · rw [if_pos c18] at H
                have c18b0 : (a0_2 == a0_5) = true := beq_iff_eq.mpr c18
                have c18b1 : (a0_2 != a0_5) = false := bne_eq_false_iff_eq.mpr c18
                clear c18
                replace H := Option.bind_eq_some_iff.mp H
                obtain ⟨t107, A190, H⟩ := H
                replace H : (some t107) = some r := H
                have A19 := Aside0.mk A190
                clear A190
                obtain rfl := Option.some.inj H
                go_enter Try.func18, Try.ntmps18
                go_wp2_with (first | ((with_reducible refine gate_dst (N := 1) rfl ?_); refine box_event ?hg (N := 1) ?hd (cs := #[.int .i64 a0_0, .int .i64 a0_1, .int .i64 a0_2, .int .i64 a0_3, .int .i64 a0_4, .int .i64 a0_5, .int .i64 a0_6]) (t := 28) ?hr ?_; (case hd => rfl); (case hg => rfl); (case hr => first | (go_simp; done) | (go_simp; rfl)); intro gb101 hg w20 hbox hb; have n0_ := Aside0.mk (below_step (by repeat (first | (with_reducible first | exact HB.out | apply below_alloc | apply pw_below_drewN | apply below_drew1) | exact HB.out)) hb); have n1_ := Aside0.mk (hbox); have n2_ := Aside0.mk ((by rw [hg]; exact (below_size (by repeat (first | (with_reducible first | exact HB.out | apply below_alloc | apply pw_below_drewN | apply below_drew1) | exact HB.out))) : w.heap.size ≤ gb101)); have n3_ := Aside0.mk ((by rw [hg]; exact (below_size (by repeat (first | (with_reducible first | exact HB.out | apply below_alloc | apply pw_below_drewN | apply below_drew1) | exact HB.out))) : w.heap.size ≤ gb101)); clear HB; have HB := n0_; have BK101 := n1_; have GW101 := n2_; have GE101 := n3_; clear n0_ n1_ n2_ n3_; clear hb hbox hg; have hcz21_0 : w20.cell? ⟨gb101, 0, none⟩ = some (.int .i64 a0_0) := (blk_cell BK101.out 0).trans rfl; have hcz21_1 : w20.cell? ⟨gb101, 1, none⟩ = some (.int .i64 a0_1) := (blk_cell BK101.out 1).trans rfl; have hcz21_2 : w20.cell? ⟨gb101, 2, none⟩ = some (.int .i64 a0_2) := (blk_cell BK101.out 2).trans rfl; have hcz21_3 : w20.cell? ⟨gb101, 3, none⟩ = some (.int .i64 a0_3) := (blk_cell BK101.out 3).trans rfl; have hcz21_4 : w20.cell? ⟨gb101, 4, none⟩ = some (.int .i64 a0_4) := (blk_cell BK101.out 4).trans rfl; have hcz21_5 : w20.cell? ⟨gb101, 5, none⟩ = some (.int .i64 a0_5) := (blk_cell BK101.out 5).trans rfl; have hcz21_6 : w20.cell? ⟨gb101, 6, none⟩ = some (.int .i64 a0_6) := (blk_cell BK101.out 6).trans rfl; have hfz21_0 := blk_frozen BK101.out 0; have hfz21_1 := blk_frozen BK101.out 1; have hfz21_2 := blk_frozen BK101.out 2; have hfz21_3 := blk_frozen BK101.out 3; have hfz21_4 := blk_frozen BK101.out 4; have hfz21_5 := blk_frozen BK101.out 5; have hfz21_6 := blk_frozen BK101.out 6) | ((with_reducible refine gate_callee (f := 39) rfl ?_); refine goesL_ (some 7) rfl rfl Try.func39 (by kernel_rfl) rfl #[.int .i64 a0_3, .int .i64 0, .int .i64 201] rfl (by (try simp only [List.map_toArray, List.map_cons, List.map_nil]); first | done | rfl | (simp only [List.length_drop, List.length_take]; rfl)) ?_; (with_reducible refine (head_within.calls a0_3 0 201 true _ A2.out).mono ?_); rintro e w' ⟨rfl, ⟨nd, rfl⟩⟩; refine ⟨_, rfl, ?_⟩) | (go_at_call 39; (with_reducible refine (head_within.calls a0_4 0 2000 true _ A4.out).mono ?_); rintro e w' ⟨rfl, ⟨nd, rfl⟩⟩) | (go_at_call 39; (with_reducible refine (head_within.calls a0_5 1 64 true _ A6.out).mono ?_); rintro e w' ⟨rfl, ⟨nd, rfl⟩⟩) | (go_at_call 39; (with_reducible refine (head_within.calls a0_6 1 256 true _ A8.out).mono ?_); rintro e w' ⟨rfl, ⟨nd, rfl⟩⟩) | (go_at_call 39; (with_reducible refine (head_within.calls a0_0 1 4 t107 _ A19.out).mono ?_); rintro e w' ⟨rfl, ⟨nd, rfl⟩⟩))
                go_ret
                exact ⟨by first | rfl | (simp [errW_none, errW_some] <;> rfl) | (simp [*, errW_none, errW_some] <;> rfl), by repeat (first | (with_reducible first | exact HB.out | apply below_alloc | apply pw_below_drewN | apply below_drew1 | refine below_set ?_ GE101.out) | exact HB.out)⟩
              · rw [if_neg c18] at H
                have c18b0 : (a0_2 == a0_5) = false := beq_eq_false_iff_ne.mpr c18
                have c18b1 : (a0_2 != a0_5) = true := bne_iff_ne.mpr c18
                obtain rfl := Option.some.inj H
                go_enter Try.func18, Try.ntmps18
                go_wp2_with (first | ((with_reducible refine gate_dst (N := 1) rfl ?_); refine box_event ?hg (N := 1) ?hd (cs := #[.int .i64 a0_0, .int .i64 a0_1, .int .i64 a0_2, .int .i64 a0_3, .int .i64 a0_4, .int .i64 a0_5, .int .i64 a0_6]) (t := 28) ?hr ?_; (case hd => rfl); (case hg => rfl); (case hr => first | (go_simp; done) | (go_simp; rfl)); intro gb101 hg w22 hbox hb; have n0_ := Aside0.mk (below_step (by repeat (first | (with_reducible first | exact HB.out | apply below_alloc | apply pw_below_drewN | apply below_drew1) | exact HB.out)) hb); have n1_ := Aside0.mk (hbox); have n2_ := Aside0.mk ((by rw [hg]; exact (below_size (by repeat (first | (with_reducible first | exact HB.out | apply below_alloc | apply pw_below_drewN | apply below_drew1) | exact HB.out))) : w.heap.size ≤ gb101)); have n3_ := Aside0.mk ((by rw [hg]; exact (below_size (by repeat (first | (with_reducible first | exact HB.out | apply below_alloc | apply pw_below_drewN | apply below_drew1) | exact HB.out))) : w.heap.size ≤ gb101)); clear HB; have HB := n0_; have BK101 := n1_; have GW101 := n2_; have GE101 := n3_; clear n0_ n1_ n2_ n3_; clear hb hbox hg; have hcz23_0 : w22.cell? ⟨gb101, 0, none⟩ = some (.int .i64 a0_0) := (blk_cell BK101.out 0).trans rfl; have hcz23_1 : w22.cell? ⟨gb101, 1, none⟩ = some (.int .i64 a0_1) := (blk_cell BK101.out 1).trans rfl; have hcz23_2 : w22.cell? ⟨gb101, 2, none⟩ = some (.int .i64 a0_2) := (blk_cell BK101.out 2).trans rfl; have hcz23_3 : w22.cell? ⟨gb101, 3, none⟩ = some (.int .i64 a0_3) := (blk_cell BK101.out 3).trans rfl; have hcz23_4 : w22.cell? ⟨gb101, 4, none⟩ = some (.int .i64 a0_4) := (blk_cell BK101.out 4).trans rfl; have hcz23_5 : w22.cell? ⟨gb101, 5, none⟩ = some (.int .i64 a0_5) := (blk_cell BK101.out 5).trans rfl; have hcz23_6 : w22.cell? ⟨gb101, 6, none⟩ = some (.int .i64 a0_6) := (blk_cell BK101.out 6).trans rfl; have hfz23_0 := blk_frozen BK101.out 0; have hfz23_1 := blk_frozen BK101.out 1; have hfz23_2 := blk_frozen BK101.out 2; have hfz23_3 := blk_frozen BK101.out 3; have hfz23_4 := blk_frozen BK101.out 4; have hfz23_5 := blk_frozen BK101.out 5; have hfz23_6 := blk_frozen BK101.out 6) | ((with_reducible refine gate_callee (f := 39) rfl ?_); refine goesL_ (some 7) rfl rfl Try.func39 (by kernel_rfl) rfl #[.int .i64 a0_3, .int .i64 0, .int .i64 201] rfl (by (try simp only [List.map_toArray, List.map_cons, List.map_nil]); first | done | rfl | (simp only [List.length_drop, List.length_take]; rfl)) ?_; (with_reducible refine (head_within.calls a0_3 0 201 true _ A2.out).mono ?_); rintro e w' ⟨rfl, ⟨nd, rfl⟩⟩; refine ⟨_, rfl, ?_⟩) | (go_at_call 39; (with_reducible refine (head_within.calls a0_4 0 2000 true _ A4.out).mono ?_); rintro e w' ⟨rfl, ⟨nd, rfl⟩⟩) | (go_at_call 39; (with_reducible refine (head_within.calls a0_5 1 64 true _ A6.out).mono ?_); rintro e w' ⟨rfl, ⟨nd, rfl⟩⟩) | (go_at_call 39; (with_reducible refine (head_within.calls a0_6 1 256 true _ A8.out).mono ?_); rintro e w' ⟨rfl, ⟨nd, rfl⟩⟩))
                go_ret
                exact ⟨by first | rfl | (simp [errW_none, errW_some] <;> rfl) | (simp [*, errW_none, errW_some] <;> rfl), by repeat (first | (with_reducible first | exact HB.out | apply below_alloc | apply pw_below_drewN | apply below_drew1 | refine below_set ?_ GE101.out) | exact HB.out)⟩
            · replace c17 := Bool.eq_false_iff.mpr c17
              subst c17
              have H1 : (some false) = some r := by rw [if_neg (show ¬ (false = true) by decide)] at H; exact H
              clear H
              have H := H1
              clear H1
              obtain rfl := Option.some.inj H
              go_enter Try.func18, Try.ntmps18
              go_wp2_with (first | ((with_reducible refine gate_dst (N := 1) rfl ?_); refine box_event ?hg (N := 1) ?hd (cs := #[.int .i64 a0_0, .int .i64 a0_1, .int .i64 a0_2, .int .i64 a0_3, .int .i64 a0_4, .int .i64 a0_5, .int .i64 a0_6]) (t := 28) ?hr ?_; (case hd => rfl); (case hg => rfl); (case hr => first | (go_simp; done) | (go_simp; rfl)); intro gb101 hg w24 hbox hb; have n0_ := Aside0.mk (below_step (by repeat (first | (with_reducible first | exact HB.out | apply below_alloc | apply pw_below_drewN | apply below_drew1) | exact HB.out)) hb); have n1_ := Aside0.mk (hbox); have n2_ := Aside0.mk ((by rw [hg]; exact (below_size (by repeat (first | (with_reducible first | exact HB.out | apply below_alloc | apply pw_below_drewN | apply below_drew1) | exact HB.out))) : w.heap.size ≤ gb101)); have n3_ := Aside0.mk ((by rw [hg]; exact (below_size (by repeat (first | (with_reducible first | exact HB.out | apply below_alloc | apply pw_below_drewN | apply below_drew1) | exact HB.out))) : w.heap.size ≤ gb101)); clear HB; have HB := n0_; have BK101 := n1_; have GW101 := n2_; have GE101 := n3_; clear n0_ n1_ n2_ n3_; clear hb hbox hg; have hcz25_0 : w24.cell? ⟨gb101, 0, none⟩ = some (.int .i64 a0_0) := (blk_cell BK101.out 0).trans rfl; have hcz25_1 : w24.cell? ⟨gb101, 1, none⟩ = some (.int .i64 a0_1) := (blk_cell BK101.out 1).trans rfl; have hcz25_2 : w24.cell? ⟨gb101, 2, none⟩ = some (.int .i64 a0_2) := (blk_cell BK101.out 2).trans rfl; have hcz25_3 : w24.cell? ⟨gb101, 3, none⟩ = some (.int .i64 a0_3) := (blk_cell BK101.out 3).trans rfl; have hcz25_4 : w24.cell? ⟨gb101, 4, none⟩ = some (.int .i64 a0_4) := (blk_cell BK101.out 4).trans rfl; have hcz25_5 : w24.cell? ⟨gb101, 5, none⟩ = some (.int .i64 a0_5) := (blk_cell BK101.out 5).trans rfl; have hcz25_6 : w24.cell? ⟨gb101, 6, none⟩ = some (.int .i64 a0_6) := (blk_cell BK101.out 6).trans rfl; have hfz25_0 := blk_frozen BK101.out 0; have hfz25_1 := blk_frozen BK101.out 1; have hfz25_2 := blk_frozen BK101.out 2; have hfz25_3 := blk_frozen BK101.out 3; have hfz25_4 := blk_frozen BK101.out 4; have hfz25_5 := blk_frozen BK101.out 5; have hfz25_6 := blk_frozen BK101.out 6) | ((with_reducible refine gate_callee (f := 39) rfl ?_); refine goesL_ (some 7) rfl rfl Try.func39 (by kernel_rfl) rfl #[.int .i64 a0_3, .int .i64 0, .int .i64 201] rfl (by (try simp only [List.map_toArray, List.map_cons, List.map_nil]); first | done | rfl | (simp only [List.length_drop, List.length_take]; rfl)) ?_; (with_reducible refine (head_within.calls a0_3 0 201 true _ A2.out).mono ?_); rintro e w' ⟨rfl, ⟨nd, rfl⟩⟩; refine ⟨_, rfl, ?_⟩) | (go_at_call 39; (with_reducible refine (head_within.calls a0_4 0 2000 true _ A4.out).mono ?_); rintro e w' ⟨rfl, ⟨nd, rfl⟩⟩) | (go_at_call 39; (with_reducible refine (head_within.calls a0_5 1 64 true _ A6.out).mono ?_); rintro e w' ⟨rfl, ⟨nd, rfl⟩⟩) | (go_at_call 39; (with_reducible refine (head_within.calls a0_6 1 256 false _ A8.out).mono ?_); rintro e w' ⟨rfl, ⟨nd, rfl⟩⟩))
              go_ret
              exact ⟨by first | rfl | (simp [errW_none, errW_some] <;> rfl) | (simp [*, errW_none, errW_some] <;> rfl), by repeat (first | (with_reducible first | exact HB.out | apply below_alloc | apply pw_below_drewN | apply below_drew1 | refine below_set ?_ GE101.out) | exact HB.out)⟩
        · rw [if_neg c9] at H
          have c9b0 : (a0_1 == 0) = false := beq_eq_false_iff_ne.mpr c9
          have c9b1 : (a0_1 != 0) = true := bne_iff_ne.mpr c9
          by_cases c26 : a0_1 = a0_5
          · rw [if_pos c26] at H
            have c26b0 : (a0_1 == a0_5) = true := beq_iff_eq.mpr c26
            have c26b1 : (a0_1 != a0_5) = false := bne_eq_false_iff_eq.mpr c26
            clear c26
            by_cases c27 : a0_2 = 0
            · rw [if_pos c27] at H
              have c27b0 : (a0_2 == 0) = true := beq_iff_eq.mpr c27
              have c27b1 : (a0_2 != 0) = false := bne_eq_false_iff_eq.mpr c27
              clear c27
              by_cases c28 : t105 = true
              · subst c28
                have H1 : ((head_within.f a0_0 1 4).bind fun t108 => (some t108)) = some r := by rw [if_pos rfl] at H; exact H
                clear H
                have H := H1
                clear H1
                replace H := Option.bind_eq_some_iff.mp H
                obtain ⟨t108, A290, H⟩ := H
                replace H : (some t108) = some r := H
                have A29 := Aside0.mk A290
                clear A290
                obtain rfl := Option.some.inj H
                go_enter Try.func18, Try.ntmps18
                go_wp2_with (first | ((with_reducible refine gate_dst (N := 1) rfl ?_); refine box_event ?hg (N := 1) ?hd (cs := #[.int .i64 a0_0, .int .i64 a0_1, .int .i64 a0_2, .int .i64 a0_3, .int .i64 a0_4, .int .i64 a0_5, .int .i64 a0_6]) (t := 28) ?hr ?_; (case hd => rfl); (case hg => rfl); (case hr => first | (go_simp; done) | (go_simp; rfl)); intro gb101 hg w30 hbox hb; have n0_ := Aside0.mk (below_step (by repeat (first | (with_reducible first | exact HB.out | apply below_alloc | apply pw_below_drewN | apply below_drew1) | exact HB.out)) hb); have n1_ := Aside0.mk (hbox); have n2_ := Aside0.mk ((by rw [hg]; exact (below_size (by repeat (first | (with_reducible first | exact HB.out | apply below_alloc | apply pw_below_drewN | apply below_drew1) | exact HB.out))) : w.heap.size ≤ gb101)); have n3_ := Aside0.mk ((by rw [hg]; exact (below_size (by repeat (first | (with_reducible first | exact HB.out | apply below_alloc | apply pw_below_drewN | apply below_drew1) | exact HB.out))) : w.heap.size ≤ gb101)); clear HB; have HB := n0_; have BK101 := n1_; have GW101 := n2_; have GE101 := n3_; clear n0_ n1_ n2_ n3_; clear hb hbox hg; have hcz31_0 : w30.cell? ⟨gb101, 0, none⟩ = some (.int .i64 a0_0) := (blk_cell BK101.out 0).trans rfl; have hcz31_1 : w30.cell? ⟨gb101, 1, none⟩ = some (.int .i64 a0_1) := (blk_cell BK101.out 1).trans rfl; have hcz31_2 : w30.cell? ⟨gb101, 2, none⟩ = some (.int .i64 a0_2) := (blk_cell BK101.out 2).trans rfl; have hcz31_3 : w30.cell? ⟨gb101, 3, none⟩ = some (.int .i64 a0_3) := (blk_cell BK101.out 3).trans rfl; have hcz31_4 : w30.cell? ⟨gb101, 4, none⟩ = some (.int .i64 a0_4) := (blk_cell BK101.out 4).trans rfl; have hcz31_5 : w30.cell? ⟨gb101, 5, none⟩ = some (.int .i64 a0_5) := (blk_cell BK101.out 5).trans rfl; have hcz31_6 : w30.cell? ⟨gb101, 6, none⟩ = some (.int .i64 a0_6) := (blk_cell BK101.out 6).trans rfl; have hfz31_0 := blk_frozen BK101.out 0; have hfz31_1 := blk_frozen BK101.out 1; have hfz31_2 := blk_frozen BK101.out 2; have hfz31_3 := blk_frozen BK101.out 3; have hfz31_4 := blk_frozen BK101.out 4; have hfz31_5 := blk_frozen BK101.out 5; have hfz31_6 := blk_frozen BK101.out 6) | ((with_reducible refine gate_callee (f := 39) rfl ?_); refine goesL_ (some 7) rfl rfl Try.func39 (by kernel_rfl) rfl #[.int .i64 a0_3, .int .i64 0, .int .i64 201] rfl (by (try simp only [List.map_toArray, List.map_cons, List.map_nil]); first | done | rfl | (simp only [List.length_drop, List.length_take]; rfl)) ?_; (with_reducible refine (head_within.calls a0_3 0 201 true _ A2.out).mono ?_); rintro e w' ⟨rfl, ⟨nd, rfl⟩⟩; refine ⟨_, rfl, ?_⟩) | (go_at_call 39; (with_reducible refine (head_within.calls a0_4 0 2000 true _ A4.out).mono ?_); rintro e w' ⟨rfl, ⟨nd, rfl⟩⟩) | (go_at_call 39; (with_reducible refine (head_within.calls a0_5 1 64 true _ A6.out).mono ?_); rintro e w' ⟨rfl, ⟨nd, rfl⟩⟩) | (go_at_call 39; (with_reducible refine (head_within.calls a0_6 1 256 true _ A8.out).mono ?_); rintro e w' ⟨rfl, ⟨nd, rfl⟩⟩) | (go_at_call 39; (with_reducible refine (head_within.calls a0_0 1 4 t108 _ A29.out).mono ?_); rintro e w' ⟨rfl, ⟨nd, rfl⟩⟩))
                go_ret
                exact ⟨by first | rfl | (simp [errW_none, errW_some] <;> rfl) | (simp [*, errW_none, errW_some] <;> rfl), by repeat (first | (with_reducible first | exact HB.out | apply below_alloc | apply pw_below_drewN | apply below_drew1 | refine below_set ?_ GE101.out) | exact HB.out)⟩
              · replace c28 := Bool.eq_false_iff.mpr c28
                subst c28
                have H1 : (some false) = some r := by rw [if_neg (show ¬ (false = true) by decide)] at H; exact H
                clear H
                have H := H1
                clear H1
                obtain rfl := Option.some.inj H
                go_enter Try.func18, Try.ntmps18
                go_wp2_with (first | ((with_reducible refine gate_dst (N := 1) rfl ?_); refine box_event ?hg (N := 1) ?hd (cs := #[.int .i64 a0_0, .int .i64 a0_1, .int .i64 a0_2, .int .i64 a0_3, .int .i64 a0_4, .int .i64 a0_5, .int .i64 a0_6]) (t := 28) ?hr ?_; (case hd => rfl); (case hg => rfl); (case hr => first | (go_simp; done) | (go_simp; rfl)); intro gb101 hg w32 hbox hb; have n0_ := Aside0.mk (below_step (by repeat (first | (with_reducible first | exact HB.out | apply below_alloc | apply pw_below_drewN | apply below_drew1) | exact HB.out)) hb); have n1_ := Aside0.mk (hbox); have n2_ := Aside0.mk ((by rw [hg]; exact (below_size (by repeat (first | (with_reducible first | exact HB.out | apply below_alloc | apply pw_below_drewN | apply below_drew1) | exact HB.out))) : w.heap.size ≤ gb101)); have n3_ := Aside0.mk ((by rw [hg]; exact (below_size (by repeat (first | (with_reducible first | exact HB.out | apply below_alloc | apply pw_below_drewN | apply below_drew1) | exact HB.out))) : w.heap.size ≤ gb101)); clear HB; have HB := n0_; have BK101 := n1_; have GW101 := n2_; have GE101 := n3_; clear n0_ n1_ n2_ n3_; clear hb hbox hg; have hcz33_0 : w32.cell? ⟨gb101, 0, none⟩ = some (.int .i64 a0_0) := (blk_cell BK101.out 0).trans rfl; have hcz33_1 : w32.cell? ⟨gb101, 1, none⟩ = some (.int .i64 a0_1) := (blk_cell BK101.out 1).trans rfl; have hcz33_2 : w32.cell? ⟨gb101, 2, none⟩ = some (.int .i64 a0_2) := (blk_cell BK101.out 2).trans rfl; have hcz33_3 : w32.cell? ⟨gb101, 3, none⟩ = some (.int .i64 a0_3) := (blk_cell BK101.out 3).trans rfl; have hcz33_4 : w32.cell? ⟨gb101, 4, none⟩ = some (.int .i64 a0_4) := (blk_cell BK101.out 4).trans rfl; have hcz33_5 : w32.cell? ⟨gb101, 5, none⟩ = some (.int .i64 a0_5) := (blk_cell BK101.out 5).trans rfl; have hcz33_6 : w32.cell? ⟨gb101, 6, none⟩ = some (.int .i64 a0_6) := (blk_cell BK101.out 6).trans rfl; have hfz33_0 := blk_frozen BK101.out 0; have hfz33_1 := blk_frozen BK101.out 1; have hfz33_2 := blk_frozen BK101.out 2; have hfz33_3 := blk_frozen BK101.out 3; have hfz33_4 := blk_frozen BK101.out 4; have hfz33_5 := blk_frozen BK101.out 5; have hfz33_6 := blk_frozen BK101.out 6) | ((with_reducible refine gate_callee (f := 39) rfl ?_); refine goesL_ (some 7) rfl rfl Try.func39 (by kernel_rfl) rfl #[.int .i64 a0_3, .int .i64 0, .int .i64 201] rfl (by (try simp only [List.map_toArray, List.map_cons, List.map_nil]); first | done | rfl | (simp only [List.length_drop, List.length_take]; rfl)) ?_; (with_reducible refine (head_within.calls a0_3 0 201 true _ A2.out).mono ?_); rintro e w' ⟨rfl, ⟨nd, rfl⟩⟩; refine ⟨_, rfl, ?_⟩) | (go_at_call 39; (with_reducible refine (head_within.calls a0_4 0 2000 true _ A4.out).mono ?_); rintro e w' ⟨rfl, ⟨nd, rfl⟩⟩) | (go_at_call 39; (with_reducible refine (head_within.calls a0_5 1 64 true _ A6.out).mono ?_); rintro e w' ⟨rfl, ⟨nd, rfl⟩⟩) | (go_at_call 39; (with_reducible refine (head_within.calls a0_6 1 256 false _ A8.out).mono ?_); rintro e w' ⟨rfl, ⟨nd, rfl⟩⟩))
                go_ret
                exact ⟨by first | rfl | (simp [errW_none, errW_some] <;> rfl) | (simp [*, errW_none, errW_some] <;> rfl), by repeat (first | (with_reducible first | exact HB.out | apply below_alloc | apply pw_below_drewN | apply below_drew1 | refine below_set ?_ GE101.out) | exact HB.out)⟩
            · rw [if_neg c27] at H
              have c27b0 : (a0_2 == 0) = false := beq_eq_false_iff_ne.mpr c27
              have c27b1 : (a0_2 != 0) = true := bne_iff_ne.mpr c27
              by_cases c34 : t105 = true
              · subst c34
                have H1 : (if a0_2 = a0_5 then ((head_within.f a0_0 1 4).bind fun t109 => (some t109)) else (some false)) = some r := by rw [if_pos rfl] at H; exact H
                clear H
                have H := H1
                clear H1
                by_cases c35 : a0_2 = a0_5
                · rw [if_pos c35] at H
                  have c35b0 : (a0_2 == a0_5) = true := beq_iff_eq.mpr c35
                  have c35b1 : (a0_2 != a0_5) = false := bne_eq_false_iff_eq.mpr c35
                  clear c35
                  replace H := Option.bind_eq_some_iff.mp H
                  obtain ⟨t109, A360, H⟩ := H
                  replace H : (some t109) = some r := H
                  have A36 := Aside0.mk A360
                  clear A360
                  obtain rfl := Option.some.inj H
                  go_enter Try.func18, Try.ntmps18
                  go_wp2_with (first | ((with_reducible refine gate_dst (N := 1) rfl ?_); refine box_event ?hg (N := 1) ?hd (cs := #[.int .i64 a0_0, .int .i64 a0_1, .int .i64 a0_2, .int .i64 a0_3, .int .i64 a0_4, .int .i64 a0_5, .int .i64 a0_6]) (t := 28) ?hr ?_; (case hd => rfl); (case hg => rfl); (case hr => first | (go_simp; done) | (go_simp; rfl)); intro gb101 hg w37 hbox hb; have n0_ := Aside0.mk (below_step (by repeat (first | (with_reducible first | exact HB.out | apply below_alloc | apply pw_below_drewN | apply below_drew1) | exact HB.out)) hb); have n1_ := Aside0.mk (hbox); have n2_ := Aside0.mk ((by rw [hg]; exact (below_size (by repeat (first | (with_reducible first | exact HB.out | apply below_alloc | apply pw_below_drewN | apply below_drew1) | exact HB.out))) : w.heap.size ≤ gb101)); have n3_ := Aside0.mk ((by rw [hg]; exact (below_size (by repeat (first | (with_reducible first | exact HB.out | apply below_alloc | apply pw_below_drewN | apply below_drew1) | exact HB.out))) : w.heap.size ≤ gb101)); clear HB; have HB := n0_; have BK101 := n1_; have GW101 := n2_; have GE101 := n3_; clear n0_ n1_ n2_ n3_; clear hb hbox hg; have hcz38_0 : w37.cell? ⟨gb101, 0, none⟩ = some (.int .i64 a0_0) := (blk_cell BK101.out 0).trans rfl; have hcz38_1 : w37.cell? ⟨gb101, 1, none⟩ = some (.int .i64 a0_1) := (blk_cell BK101.out 1).trans rfl; have hcz38_2 : w37.cell? ⟨gb101, 2, none⟩ = some (.int .i64 a0_2) := (blk_cell BK101.out 2).trans rfl; have hcz38_3 : w37.cell? ⟨gb101, 3, none⟩ = some (.int .i64 a0_3) := (blk_cell BK101.out 3).trans rfl; have hcz38_4 : w37.cell? ⟨gb101, 4, none⟩ = some (.int .i64 a0_4) := (blk_cell BK101.out 4).trans rfl; have hcz38_5 : w37.cell? ⟨gb101, 5, none⟩ = some (.int .i64 a0_5) := (blk_cell BK101.out 5).trans rfl; have hcz38_6 : w37.cell? ⟨gb101, 6, none⟩ = some (.int .i64 a0_6) := (blk_cell BK101.out 6).trans rfl; have hfz38_0 := blk_frozen BK101.out 0; have hfz38_1 := blk_frozen BK101.out 1; have hfz38_2 := blk_frozen BK101.out 2; have hfz38_3 := blk_frozen BK101.out 3; have hfz38_4 := blk_frozen BK101.out 4; have hfz38_5 := blk_frozen BK101.out 5; have hfz38_6 := blk_frozen BK101.out 6) | ((with_reducible refine gate_callee (f := 39) rfl ?_); refine goesL_ (some 7) rfl rfl Try.func39 (by kernel_rfl) rfl #[.int .i64 a0_3, .int .i64 0, .int .i64 201] rfl (by (try simp only [List.map_toArray, List.map_cons, List.map_nil]); first | done | rfl | (simp only [List.length_drop, List.length_take]; rfl)) ?_; (with_reducible refine (head_within.calls a0_3 0 201 true _ A2.out).mono ?_); rintro e w' ⟨rfl, ⟨nd, rfl⟩⟩; refine ⟨_, rfl, ?_⟩) | (go_at_call 39; (with_reducible refine (head_within.calls a0_4 0 2000 true _ A4.out).mono ?_); rintro e w' ⟨rfl, ⟨nd, rfl⟩⟩) | (go_at_call 39; (with_reducible refine (head_within.calls a0_5 1 64 true _ A6.out).mono ?_); rintro e w' ⟨rfl, ⟨nd, rfl⟩⟩) | (go_at_call 39; (with_reducible refine (head_within.calls a0_6 1 256 true _ A8.out).mono ?_); rintro e w' ⟨rfl, ⟨nd, rfl⟩⟩) | (go_at_call 39; (with_reducible refine (head_within.calls a0_0 1 4 t109 _ A36.out).mono ?_); rintro e w' ⟨rfl, ⟨nd, rfl⟩⟩))
                  go_ret
                  exact ⟨by first | rfl | (simp [errW_none, errW_some] <;> rfl) | (simp [*, errW_none, errW_some] <;> rfl), by repeat (first | (with_reducible first | exact HB.out | apply below_alloc | apply pw_below_drewN | apply below_drew1 | refine below_set ?_ GE101.out) | exact HB.out)⟩
                · rw [if_neg c35] at H
                  have c35b0 : (a0_2 == a0_5) = false := beq_eq_false_iff_ne.mpr c35
                  have c35b1 : (a0_2 != a0_5) = true := bne_iff_ne.mpr c35
                  obtain rfl := Option.some.inj H
                  go_enter Try.func18, Try.ntmps18
                  go_wp2_with (first | ((with_reducible refine gate_dst (N := 1) rfl ?_); refine box_event ?hg (N := 1) ?hd (cs := #[.int .i64 a0_0, .int .i64 a0_1, .int .i64 a0_2, .int .i64 a0_3, .int .i64 a0_4, .int .i64 a0_5, .int .i64 a0_6]) (t := 28) ?hr ?_; (case hd => rfl); (case hg => rfl); (case hr => first | (go_simp; done) | (go_simp; rfl)); intro gb101 hg w39 hbox hb; have n0_ := Aside0.mk (below_step (by repeat (first | (with_reducible first | exact HB.out | apply below_alloc | apply pw_below_drewN | apply below_drew1) | exact HB.out)) hb); have n1_ := Aside0.mk (hbox); have n2_ := Aside0.mk ((by rw [hg]; exact (below_size (by repeat (first | (with_reducible first | exact HB.out | apply below_alloc | apply pw_below_drewN | apply below_drew1) | exact HB.out))) : w.heap.size ≤ gb101)); have n3_ := Aside0.mk ((by rw [hg]; exact (below_size (by repeat (first | (with_reducible first | exact HB.out | apply below_alloc | apply pw_below_drewN | apply below_drew1) | exact HB.out))) : w.heap.size ≤ gb101)); clear HB; have HB := n0_; have BK101 := n1_; have GW101 := n2_; have GE101 := n3_; clear n0_ n1_ n2_ n3_; clear hb hbox hg; have hcz40_0 : w39.cell? ⟨gb101, 0, none⟩ = some (.int .i64 a0_0) := (blk_cell BK101.out 0).trans rfl; have hcz40_1 : w39.cell? ⟨gb101, 1, none⟩ = some (.int .i64 a0_1) := (blk_cell BK101.out 1).trans rfl; have hcz40_2 : w39.cell? ⟨gb101, 2, none⟩ = some (.int .i64 a0_2) := (blk_cell BK101.out 2).trans rfl; have hcz40_3 : w39.cell? ⟨gb101, 3, none⟩ = some (.int .i64 a0_3) := (blk_cell BK101.out 3).trans rfl; have hcz40_4 : w39.cell? ⟨gb101, 4, none⟩ = some (.int .i64 a0_4) := (blk_cell BK101.out 4).trans rfl; have hcz40_5 : w39.cell? ⟨gb101, 5, none⟩ = some (.int .i64 a0_5) := (blk_cell BK101.out 5).trans rfl; have hcz40_6 : w39.cell? ⟨gb101, 6, none⟩ = some (.int .i64 a0_6) := (blk_cell BK101.out 6).trans rfl; have hfz40_0 := blk_frozen BK101.out 0; have hfz40_1 := blk_frozen BK101.out 1; have hfz40_2 := blk_frozen BK101.out 2; have hfz40_3 := blk_frozen BK101.out 3; have hfz40_4 := blk_frozen BK101.out 4; have hfz40_5 := blk_frozen BK101.out 5; have hfz40_6 := blk_frozen BK101.out 6) | ((with_reducible refine gate_callee (f := 39) rfl ?_); refine goesL_ (some 7) rfl rfl Try.func39 (by kernel_rfl) rfl #[.int .i64 a0_3, .int .i64 0, .int .i64 201] rfl (by (try simp only [List.map_toArray, List.map_cons, List.map_nil]); first | done | rfl | (simp only [List.length_drop, List.length_take]; rfl)) ?_; (with_reducible refine (head_within.calls a0_3 0 201 true _ A2.out).mono ?_); rintro e w' ⟨rfl, ⟨nd, rfl⟩⟩; refine ⟨_, rfl, ?_⟩) | (go_at_call 39; (with_reducible refine (head_within.calls a0_4 0 2000 true _ A4.out).mono ?_); rintro e w' ⟨rfl, ⟨nd, rfl⟩⟩) | (go_at_call 39; (with_reducible refine (head_within.calls a0_5 1 64 true _ A6.out).mono ?_); rintro e w' ⟨rfl, ⟨nd, rfl⟩⟩) | (go_at_call 39; (with_reducible refine (head_within.calls a0_6 1 256 true _ A8.out).mono ?_); rintro e w' ⟨rfl, ⟨nd, rfl⟩⟩))
                  go_ret
                  exact ⟨by first | rfl | (simp [errW_none, errW_some] <;> rfl) | (simp [*, errW_none, errW_some] <;> rfl), by repeat (first | (with_reducible first | exact HB.out | apply below_alloc | apply pw_below_drewN | apply below_drew1 | refine below_set ?_ GE101.out) | exact HB.out)⟩
              · replace c34 := Bool.eq_false_iff.mpr c34
                subst c34
                have H1 : (some false) = some r := by rw [if_neg (show ¬ (false = true) by decide)] at H; exact H
                clear H
                have H := H1
                clear H1
                obtain rfl := Option.some.inj H
                go_enter Try.func18, Try.ntmps18
                go_wp2_with (first | ((with_reducible refine gate_dst (N := 1) rfl ?_); refine box_event ?hg (N := 1) ?hd (cs := #[.int .i64 a0_0, .int .i64 a0_1, .int .i64 a0_2, .int .i64 a0_3, .int .i64 a0_4, .int .i64 a0_5, .int .i64 a0_6]) (t := 28) ?hr ?_; (case hd => rfl); (case hg => rfl); (case hr => first | (go_simp; done) | (go_simp; rfl)); intro gb101 hg w41 hbox hb; have n0_ := Aside0.mk (below_step (by repeat (first | (with_reducible first | exact HB.out | apply below_alloc | apply pw_below_drewN | apply below_drew1) | exact HB.out)) hb); have n1_ := Aside0.mk (hbox); have n2_ := Aside0.mk ((by rw [hg]; exact (below_size (by repeat (first | (with_reducible first | exact HB.out | apply below_alloc | apply pw_below_drewN | apply below_drew1) | exact HB.out))) : w.heap.size ≤ gb101)); have n3_ := Aside0.mk ((by rw [hg]; exact (below_size (by repeat (first | (with_reducible first | exact HB.out | apply below_alloc | apply pw_below_drewN | apply below_drew1) | exact HB.out))) : w.heap.size ≤ gb101)); clear HB; have HB := n0_; have BK101 := n1_; have GW101 := n2_; have GE101 := n3_; clear n0_ n1_ n2_ n3_; clear hb hbox hg; have hcz42_0 : w41.cell? ⟨gb101, 0, none⟩ = some (.int .i64 a0_0) := (blk_cell BK101.out 0).trans rfl; have hcz42_1 : w41.cell? ⟨gb101, 1, none⟩ = some (.int .i64 a0_1) := (blk_cell BK101.out 1).trans rfl; have hcz42_2 : w41.cell? ⟨gb101, 2, none⟩ = some (.int .i64 a0_2) := (blk_cell BK101.out 2).trans rfl; have hcz42_3 : w41.cell? ⟨gb101, 3, none⟩ = some (.int .i64 a0_3) := (blk_cell BK101.out 3).trans rfl; have hcz42_4 : w41.cell? ⟨gb101, 4, none⟩ = some (.int .i64 a0_4) := (blk_cell BK101.out 4).trans rfl; have hcz42_5 : w41.cell? ⟨gb101, 5, none⟩ = some (.int .i64 a0_5) := (blk_cell BK101.out 5).trans rfl; have hcz42_6 : w41.cell? ⟨gb101, 6, none⟩ = some (.int .i64 a0_6) := (blk_cell BK101.out 6).trans rfl; have hfz42_0 := blk_frozen BK101.out 0; have hfz42_1 := blk_frozen BK101.out 1; have hfz42_2 := blk_frozen BK101.out 2; have hfz42_3 := blk_frozen BK101.out 3; have hfz42_4 := blk_frozen BK101.out 4; have hfz42_5 := blk_frozen BK101.out 5; have hfz42_6 := blk_frozen BK101.out 6) | ((with_reducible refine gate_callee (f := 39) rfl ?_); refine goesL_ (some 7) rfl rfl Try.func39 (by kernel_rfl) rfl #[.int .i64 a0_3, .int .i64 0, .int .i64 201] rfl (by (try simp only [List.map_toArray, List.map_cons, List.map_nil]); first | done | rfl | (simp only [List.length_drop, List.length_take]; rfl)) ?_; (with_reducible refine (head_within.calls a0_3 0 201 true _ A2.out).mono ?_); rintro e w' ⟨rfl, ⟨nd, rfl⟩⟩; refine ⟨_, rfl, ?_⟩) | (go_at_call 39; (with_reducible refine (head_within.calls a0_4 0 2000 true _ A4.out).mono ?_); rintro e w' ⟨rfl, ⟨nd, rfl⟩⟩) | (go_at_call 39; (with_reducible refine (head_within.calls a0_5 1 64 true _ A6.out).mono ?_); rintro e w' ⟨rfl, ⟨nd, rfl⟩⟩) | (go_at_call 39; (with_reducible refine (head_within.calls a0_6 1 256 false _ A8.out).mono ?_); rintro e w' ⟨rfl, ⟨nd, rfl⟩⟩))
                go_ret
                exact ⟨by first | rfl | (simp [errW_none, errW_some] <;> rfl) | (simp [*, errW_none, errW_some] <;> rfl), by repeat (first | (with_reducible first | exact HB.out | apply below_alloc | apply pw_below_drewN | apply below_drew1 | refine below_set ?_ GE101.out) | exact HB.out)⟩
          · rw [if_neg c26] at H
            have c26b0 : (a0_1 == a0_5) = false := beq_eq_false_iff_ne.mpr c26
            have c26b1 : (a0_1 != a0_5) = true := bne_iff_ne.mpr c26
            by_cases c43 : t105 = true
            · subst c43
              have H1 : (some false) = some r := by rw [if_pos rfl] at H; exact H
              clear H
              have H := H1
              clear H1
              obtain rfl := Option.some.inj H
              go_enter Try.func18, Try.ntmps18
              go_wp2_with (first | ((with_reducible refine gate_dst (N := 1) rfl ?_); refine box_event ?hg (N := 1) ?hd (cs := #[.int .i64 a0_0, .int .i64 a0_1, .int .i64 a0_2, .int .i64 a0_3, .int .i64 a0_4, .int .i64 a0_5, .int .i64 a0_6]) (t := 28) ?hr ?_; (case hd => rfl); (case hg => rfl); (case hr => first | (go_simp; done) | (go_simp; rfl)); intro gb101 hg w44 hbox hb; have n0_ := Aside0.mk (below_step (by repeat (first | (with_reducible first | exact HB.out | apply below_alloc | apply pw_below_drewN | apply below_drew1) | exact HB.out)) hb); have n1_ := Aside0.mk (hbox); have n2_ := Aside0.mk ((by rw [hg]; exact (below_size (by repeat (first | (with_reducible first | exact HB.out | apply below_alloc | apply pw_below_drewN | apply below_drew1) | exact HB.out))) : w.heap.size ≤ gb101)); have n3_ := Aside0.mk ((by rw [hg]; exact (below_size (by repeat (first | (with_reducible first | exact HB.out | apply below_alloc | apply pw_below_drewN | apply below_drew1) | exact HB.out))) : w.heap.size ≤ gb101)); clear HB; have HB := n0_; have BK101 := n1_; have GW101 := n2_; have GE101 := n3_; clear n0_ n1_ n2_ n3_; clear hb hbox hg; have hcz45_0 : w44.cell? ⟨gb101, 0, none⟩ = some (.int .i64 a0_0) := (blk_cell BK101.out 0).trans rfl; have hcz45_1 : w44.cell? ⟨gb101, 1, none⟩ = some (.int .i64 a0_1) := (blk_cell BK101.out 1).trans rfl; have hcz45_2 : w44.cell? ⟨gb101, 2, none⟩ = some (.int .i64 a0_2) := (blk_cell BK101.out 2).trans rfl; have hcz45_3 : w44.cell? ⟨gb101, 3, none⟩ = some (.int .i64 a0_3) := (blk_cell BK101.out 3).trans rfl; have hcz45_4 : w44.cell? ⟨gb101, 4, none⟩ = some (.int .i64 a0_4) := (blk_cell BK101.out 4).trans rfl; have hcz45_5 : w44.cell? ⟨gb101, 5, none⟩ = some (.int .i64 a0_5) := (blk_cell BK101.out 5).trans rfl; have hcz45_6 : w44.cell? ⟨gb101, 6, none⟩ = some (.int .i64 a0_6) := (blk_cell BK101.out 6).trans rfl; have hfz45_0 := blk_frozen BK101.out 0; have hfz45_1 := blk_frozen BK101.out 1; have hfz45_2 := blk_frozen BK101.out 2; have hfz45_3 := blk_frozen BK101.out 3; have hfz45_4 := blk_frozen BK101.out 4; have hfz45_5 := blk_frozen BK101.out 5; have hfz45_6 := blk_frozen BK101.out 6) | ((with_reducible refine gate_callee (f := 39) rfl ?_); refine goesL_ (some 7) rfl rfl Try.func39 (by kernel_rfl) rfl #[.int .i64 a0_3, .int .i64 0, .int .i64 201] rfl (by (try simp only [List.map_toArray, List.map_cons, List.map_nil]); first | done | rfl | (simp only [List.length_drop, List.length_take]; rfl)) ?_; (with_reducible refine (head_within.calls a0_3 0 201 true _ A2.out).mono ?_); rintro e w' ⟨rfl, ⟨nd, rfl⟩⟩; refine ⟨_, rfl, ?_⟩) | (go_at_call 39; (with_reducible refine (head_within.calls a0_4 0 2000 true _ A4.out).mono ?_); rintro e w' ⟨rfl, ⟨nd, rfl⟩⟩) | (go_at_call 39; (with_reducible refine (head_within.calls a0_5 1 64 true _ A6.out).mono ?_); rintro e w' ⟨rfl, ⟨nd, rfl⟩⟩) | (go_at_call 39; (with_reducible refine (head_within.calls a0_6 1 256 true _ A8.out).mono ?_); rintro e w' ⟨rfl, ⟨nd, rfl⟩⟩))
              go_ret
              exact ⟨by first | rfl | (simp [errW_none, errW_some] <;> rfl) | (simp [*, errW_none, errW_some] <;> rfl), by repeat (first | (with_reducible first | exact HB.out | apply below_alloc | apply pw_below_drewN | apply below_drew1 | refine below_set ?_ GE101.out) | exact HB.out)⟩
            · replace c43 := Bool.eq_false_iff.mpr c43
              subst c43
              have H1 : (some false) = some r := by rw [if_neg (show ¬ (false = true) by decide)] at H; exact H
              clear H
              have H := H1
              clear H1
              obtain rfl := Option.some.inj H
              go_enter Try.func18, Try.ntmps18
              go_wp2_with (first | ((with_reducible refine gate_dst (N := 1) rfl ?_); refine box_event ?hg (N := 1) ?hd (cs := #[.int .i64 a0_0, .int .i64 a0_1, .int .i64 a0_2, .int .i64 a0_3, .int .i64 a0_4, .int .i64 a0_5, .int .i64 a0_6]) (t := 28) ?hr ?_; (case hd => rfl); (case hg => rfl); (case hr => first | (go_simp; done) | (go_simp; rfl)); intro gb101 hg w46 hbox hb; have n0_ := Aside0.mk (below_step (by repeat (first | (with_reducible first | exact HB.out | apply below_alloc | apply pw_below_drewN | apply below_drew1) | exact HB.out)) hb); have n1_ := Aside0.mk (hbox); have n2_ := Aside0.mk ((by rw [hg]; exact (below_size (by repeat (first | (with_reducible first | exact HB.out | apply below_alloc | apply pw_below_drewN | apply below_drew1) | exact HB.out))) : w.heap.size ≤ gb101)); have n3_ := Aside0.mk ((by rw [hg]; exact (below_size (by repeat (first | (with_reducible first | exact HB.out | apply below_alloc | apply pw_below_drewN | apply below_drew1) | exact HB.out))) : w.heap.size ≤ gb101)); clear HB; have HB := n0_; have BK101 := n1_; have GW101 := n2_; have GE101 := n3_; clear n0_ n1_ n2_ n3_; clear hb hbox hg; have hcz47_0 : w46.cell? ⟨gb101, 0, none⟩ = some (.int .i64 a0_0) := (blk_cell BK101.out 0).trans rfl; have hcz47_1 : w46.cell? ⟨gb101, 1, none⟩ = some (.int .i64 a0_1) := (blk_cell BK101.out 1).trans rfl; have hcz47_2 : w46.cell? ⟨gb101, 2, none⟩ = some (.int .i64 a0_2) := (blk_cell BK101.out 2).trans rfl; have hcz47_3 : w46.cell? ⟨gb101, 3, none⟩ = some (.int .i64 a0_3) := (blk_cell BK101.out 3).trans rfl; have hcz47_4 : w46.cell? ⟨gb101, 4, none⟩ = some (.int .i64 a0_4) := (blk_cell BK101.out 4).trans rfl; have hcz47_5 : w46.cell? ⟨gb101, 5, none⟩ = some (.int .i64 a0_5) := (blk_cell BK101.out 5).trans rfl; have hcz47_6 : w46.cell? ⟨gb101, 6, none⟩ = some (.int .i64 a0_6) := (blk_cell BK101.out 6).trans rfl; have hfz47_0 := blk_frozen BK101.out 0; have hfz47_1 := blk_frozen BK101.out 1; have hfz47_2 := blk_frozen BK101.out 2; have hfz47_3 := blk_frozen BK101.out 3; have hfz47_4 := blk_frozen BK101.out 4; have hfz47_5 := blk_frozen BK101.out 5; have hfz47_6 := blk_frozen BK101.out 6) | ((with_reducible refine gate_callee (f := 39) rfl ?_); refine goesL_ (some 7) rfl rfl Try.func39 (by kernel_rfl) rfl #[.int .i64 a0_3, .int .i64 0, .int .i64 201] rfl (by (try simp only [List.map_toArray, List.map_cons, List.map_nil]); first | done | rfl | (simp only [List.length_drop, List.length_take]; rfl)) ?_; (with_reducible refine (head_within.calls a0_3 0 201 true _ A2.out).mono ?_); rintro e w' ⟨rfl, ⟨nd, rfl⟩⟩; refine ⟨_, rfl, ?_⟩) | (go_at_call 39; (with_reducible refine (head_within.calls a0_4 0 2000 true _ A4.out).mono ?_); rintro e w' ⟨rfl, ⟨nd, rfl⟩⟩) | (go_at_call 39; (with_reducible refine (head_within.calls a0_5 1 64 true _ A6.out).mono ?_); rintro e w' ⟨rfl, ⟨nd, rfl⟩⟩) | (go_at_call 39; (with_reducible refine (head_within.calls a0_6 1 256 false _ A8.out).mono ?_); rintro e w' ⟨rfl, ⟨nd, rfl⟩⟩))
              go_ret
              exact ⟨by first | rfl | (simp [errW_none, errW_some] <;> rfl) | (simp [*, errW_none, errW_some] <;> rfl), by repeat (first | (with_reducible first | exact HB.out | apply below_alloc | apply pw_below_drewN | apply below_drew1 | refine below_set ?_ GE101.out) | exact HB.out)⟩
      · replace c7 := Bool.eq_false_iff.mpr c7
        subst c7
        have H1 : (if a0_1 = 0 then (if a0_2 = 0 then (some false) else (some false)) else (if a0_1 = a0_5 then (if a0_2 = 0 then (some false) else (some false)) else (some false))) = some r := by rw [if_neg (show ¬ (false = true) by decide)] at H; exact H
        clear H
        have H := H1
        clear H1
        by_cases c48 : a0_1 = 0
        · rw [if_pos c48] at H
          have c48b0 : (a0_1 == 0) = true := beq_iff_eq.mpr c48
          have c48b1 : (a0_1 != 0) = false := bne_eq_false_iff_eq.mpr c48
          clear c48
          by_cases c49 : a0_2 = 0
          · rw [if_pos c49] at H
            have c49b0 : (a0_2 == 0) = true := beq_iff_eq.mpr c49
            have c49b1 : (a0_2 != 0) = false := bne_eq_false_iff_eq.mpr c49
            clear c49
            obtain rfl := Option.some.inj H
            go_enter Try.func18, Try.ntmps18
            go_wp2_with (first | ((with_reducible refine gate_dst (N := 1) rfl ?_); refine box_event ?hg (N := 1) ?hd (cs := #[.int .i64 a0_0, .int .i64 a0_1, .int .i64 a0_2, .int .i64 a0_3, .int .i64 a0_4, .int .i64 a0_5, .int .i64 a0_6]) (t := 28) ?hr ?_; (case hd => rfl); (case hg => rfl); (case hr => first | (go_simp; done) | (go_simp; rfl)); intro gb101 hg w50 hbox hb; have n0_ := Aside0.mk (below_step (by repeat (first | (with_reducible first | exact HB.out | apply below_alloc | apply pw_below_drewN | apply below_drew1) | exact HB.out)) hb); have n1_ := Aside0.mk (hbox); have n2_ := Aside0.mk ((by rw [hg]; exact (below_size (by repeat (first | (with_reducible first | exact HB.out | apply below_alloc | apply pw_below_drewN | apply below_drew1) | exact HB.out))) : w.heap.size ≤ gb101)); have n3_ := Aside0.mk ((by rw [hg]; exact (below_size (by repeat (first | (with_reducible first | exact HB.out | apply below_alloc | apply pw_below_drewN | apply below_drew1) | exact HB.out))) : w.heap.size ≤ gb101)); clear HB; have HB := n0_; have BK101 := n1_; have GW101 := n2_; have GE101 := n3_; clear n0_ n1_ n2_ n3_; clear hb hbox hg; have hcz51_0 : w50.cell? ⟨gb101, 0, none⟩ = some (.int .i64 a0_0) := (blk_cell BK101.out 0).trans rfl; have hcz51_1 : w50.cell? ⟨gb101, 1, none⟩ = some (.int .i64 a0_1) := (blk_cell BK101.out 1).trans rfl; have hcz51_2 : w50.cell? ⟨gb101, 2, none⟩ = some (.int .i64 a0_2) := (blk_cell BK101.out 2).trans rfl; have hcz51_3 : w50.cell? ⟨gb101, 3, none⟩ = some (.int .i64 a0_3) := (blk_cell BK101.out 3).trans rfl; have hcz51_4 : w50.cell? ⟨gb101, 4, none⟩ = some (.int .i64 a0_4) := (blk_cell BK101.out 4).trans rfl; have hcz51_5 : w50.cell? ⟨gb101, 5, none⟩ = some (.int .i64 a0_5) := (blk_cell BK101.out 5).trans rfl; have hcz51_6 : w50.cell? ⟨gb101, 6, none⟩ = some (.int .i64 a0_6) := (blk_cell BK101.out 6).trans rfl; have hfz51_0 := blk_frozen BK101.out 0; have hfz51_1 := blk_frozen BK101.out 1; have hfz51_2 := blk_frozen BK101.out 2; have hfz51_3 := blk_frozen BK101.out 3; have hfz51_4 := blk_frozen BK101.out 4; have hfz51_5 := blk_frozen BK101.out 5; have hfz51_6 := blk_frozen BK101.out 6) | ((with_reducible refine gate_callee (f := 39) rfl ?_); refine goesL_ (some 7) rfl rfl Try.func39 (by kernel_rfl) rfl #[.int .i64 a0_3, .int .i64 0, .int .i64 201] rfl (by (try simp only [List.map_toArray, List.map_cons, List.map_nil]); first | done | rfl | (simp only [List.length_drop, List.length_take]; rfl)) ?_; (with_reducible refine (head_within.calls a0_3 0 201 true _ A2.out).mono ?_); rintro e w' ⟨rfl, ⟨nd, rfl⟩⟩; refine ⟨_, rfl, ?_⟩) | (go_at_call 39; (with_reducible refine (head_within.calls a0_4 0 2000 true _ A4.out).mono ?_); rintro e w' ⟨rfl, ⟨nd, rfl⟩⟩) | (go_at_call 39; (with_reducible refine (head_within.calls a0_5 1 64 false _ A6.out).mono ?_); rintro e w' ⟨rfl, ⟨nd, rfl⟩⟩))
            go_ret
            exact ⟨by first | rfl | (simp [errW_none, errW_some] <;> rfl) | (simp [*, errW_none, errW_some] <;> rfl), by repeat (first | (with_reducible first | exact HB.out | apply below_alloc | apply pw_below_drewN | apply below_drew1 | refine below_set ?_ GE101.out) | exact HB.out)⟩
          · rw [if_neg c49] at H
            have c49b0 : (a0_2 == 0) = false := beq_eq_false_iff_ne.mpr c49
            have c49b1 : (a0_2 != 0) = true := bne_iff_ne.mpr c49
            obtain rfl := Option.some.inj H
            go_enter Try.func18, Try.ntmps18
            go_wp2_with (first | ((with_reducible refine gate_dst (N := 1) rfl ?_); refine box_event ?hg (N := 1) ?hd (cs := #[.int .i64 a0_0, .int .i64 a0_1, .int .i64 a0_2, .int .i64 a0_3, .int .i64 a0_4, .int .i64 a0_5, .int .i64 a0_6]) (t := 28) ?hr ?_; (case hd => rfl); (case hg => rfl); (case hr => first | (go_simp; done) | (go_simp; rfl)); intro gb101 hg w52 hbox hb; have n0_ := Aside0.mk (below_step (by repeat (first | (with_reducible first | exact HB.out | apply below_alloc | apply pw_below_drewN | apply below_drew1) | exact HB.out)) hb); have n1_ := Aside0.mk (hbox); have n2_ := Aside0.mk ((by rw [hg]; exact (below_size (by repeat (first | (with_reducible first | exact HB.out | apply below_alloc | apply pw_below_drewN | apply below_drew1) | exact HB.out))) : w.heap.size ≤ gb101)); have n3_ := Aside0.mk ((by rw [hg]; exact (below_size (by repeat (first | (with_reducible first | exact HB.out | apply below_alloc | apply pw_below_drewN | apply below_drew1) | exact HB.out))) : w.heap.size ≤ gb101)); clear HB; have HB := n0_; have BK101 := n1_; have GW101 := n2_; have GE101 := n3_; clear n0_ n1_ n2_ n3_; clear hb hbox hg; have hcz53_0 : w52.cell? ⟨gb101, 0, none⟩ = some (.int .i64 a0_0) := (blk_cell BK101.out 0).trans rfl; have hcz53_1 : w52.cell? ⟨gb101, 1, none⟩ = some (.int .i64 a0_1) := (blk_cell BK101.out 1).trans rfl; have hcz53_2 : w52.cell? ⟨gb101, 2, none⟩ = some (.int .i64 a0_2) := (blk_cell BK101.out 2).trans rfl; have hcz53_3 : w52.cell? ⟨gb101, 3, none⟩ = some (.int .i64 a0_3) := (blk_cell BK101.out 3).trans rfl; have hcz53_4 : w52.cell? ⟨gb101, 4, none⟩ = some (.int .i64 a0_4) := (blk_cell BK101.out 4).trans rfl; have hcz53_5 : w52.cell? ⟨gb101, 5, none⟩ = some (.int .i64 a0_5) := (blk_cell BK101.out 5).trans rfl; have hcz53_6 : w52.cell? ⟨gb101, 6, none⟩ = some (.int .i64 a0_6) := (blk_cell BK101.out 6).trans rfl; have hfz53_0 := blk_frozen BK101.out 0; have hfz53_1 := blk_frozen BK101.out 1; have hfz53_2 := blk_frozen BK101.out 2; have hfz53_3 := blk_frozen BK101.out 3; have hfz53_4 := blk_frozen BK101.out 4; have hfz53_5 := blk_frozen BK101.out 5; have hfz53_6 := blk_frozen BK101.out 6) | ((with_reducible refine gate_callee (f := 39) rfl ?_); refine goesL_ (some 7) rfl rfl Try.func39 (by kernel_rfl) rfl #[.int .i64 a0_3, .int .i64 0, .int .i64 201] rfl (by (try simp only [List.map_toArray, List.map_cons, List.map_nil]); first | done | rfl | (simp only [List.length_drop, List.length_take]; rfl)) ?_; (with_reducible refine (head_within.calls a0_3 0 201 true _ A2.out).mono ?_); rintro e w' ⟨rfl, ⟨nd, rfl⟩⟩; refine ⟨_, rfl, ?_⟩) | (go_at_call 39; (with_reducible refine (head_within.calls a0_4 0 2000 true _ A4.out).mono ?_); rintro e w' ⟨rfl, ⟨nd, rfl⟩⟩) | (go_at_call 39; (with_reducible refine (head_within.calls a0_5 1 64 false _ A6.out).mono ?_); rintro e w' ⟨rfl, ⟨nd, rfl⟩⟩))
            go_ret
            exact ⟨by first | rfl | (simp [errW_none, errW_some] <;> rfl) | (simp [*, errW_none, errW_some] <;> rfl), by repeat (first | (with_reducible first | exact HB.out | apply below_alloc | apply pw_below_drewN | apply below_drew1 | refine below_set ?_ GE101.out) | exact HB.out)⟩
        · rw [if_neg c48] at H
          have c48b0 : (a0_1 == 0) = false := beq_eq_false_iff_ne.mpr c48
          have c48b1 : (a0_1 != 0) = true := bne_iff_ne.mpr c48
          by_cases c54 : a0_1 = a0_5
          · rw [if_pos c54] at H
            have c54b0 : (a0_1 == a0_5) = true := beq_iff_eq.mpr c54
            have c54b1 : (a0_1 != a0_5) = false := bne_eq_false_iff_eq.mpr c54
            clear c54
            by_cases c55 : a0_2 = 0
            · rw [if_pos c55] at H
              have c55b0 : (a0_2 == 0) = true := beq_iff_eq.mpr c55
              have c55b1 : (a0_2 != 0) = false := bne_eq_false_iff_eq.mpr c55
              clear c55
              obtain rfl := Option.some.inj H
              go_enter Try.func18, Try.ntmps18
              go_wp2_with (first | ((with_reducible refine gate_dst (N := 1) rfl ?_); refine box_event ?hg (N := 1) ?hd (cs := #[.int .i64 a0_0, .int .i64 a0_1, .int .i64 a0_2, .int .i64 a0_3, .int .i64 a0_4, .int .i64 a0_5, .int .i64 a0_6]) (t := 28) ?hr ?_; (case hd => rfl); (case hg => rfl); (case hr => first | (go_simp; done) | (go_simp; rfl)); intro gb101 hg w56 hbox hb; have n0_ := Aside0.mk (below_step (by repeat (first | (with_reducible first | exact HB.out | apply below_alloc | apply pw_below_drewN | apply below_drew1) | exact HB.out)) hb); have n1_ := Aside0.mk (hbox); have n2_ := Aside0.mk ((by rw [hg]; exact (below_size (by repeat (first | (with_reducible first | exact HB.out | apply below_alloc | apply pw_below_drewN | apply below_drew1) | exact HB.out))) : w.heap.size ≤ gb101)); have n3_ := Aside0.mk ((by rw [hg]; exact (below_size (by repeat (first | (with_reducible first | exact HB.out | apply below_alloc | apply pw_below_drewN | apply below_drew1) | exact HB.out))) : w.heap.size ≤ gb101)); clear HB; have HB := n0_; have BK101 := n1_; have GW101 := n2_; have GE101 := n3_; clear n0_ n1_ n2_ n3_; clear hb hbox hg; have hcz57_0 : w56.cell? ⟨gb101, 0, none⟩ = some (.int .i64 a0_0) := (blk_cell BK101.out 0).trans rfl; have hcz57_1 : w56.cell? ⟨gb101, 1, none⟩ = some (.int .i64 a0_1) := (blk_cell BK101.out 1).trans rfl; have hcz57_2 : w56.cell? ⟨gb101, 2, none⟩ = some (.int .i64 a0_2) := (blk_cell BK101.out 2).trans rfl; have hcz57_3 : w56.cell? ⟨gb101, 3, none⟩ = some (.int .i64 a0_3) := (blk_cell BK101.out 3).trans rfl; have hcz57_4 : w56.cell? ⟨gb101, 4, none⟩ = some (.int .i64 a0_4) := (blk_cell BK101.out 4).trans rfl; have hcz57_5 : w56.cell? ⟨gb101, 5, none⟩ = some (.int .i64 a0_5) := (blk_cell BK101.out 5).trans rfl; have hcz57_6 : w56.cell? ⟨gb101, 6, none⟩ = some (.int .i64 a0_6) := (blk_cell BK101.out 6).trans rfl; have hfz57_0 := blk_frozen BK101.out 0; have hfz57_1 := blk_frozen BK101.out 1; have hfz57_2 := blk_frozen BK101.out 2; have hfz57_3 := blk_frozen BK101.out 3; have hfz57_4 := blk_frozen BK101.out 4; have hfz57_5 := blk_frozen BK101.out 5; have hfz57_6 := blk_frozen BK101.out 6) | ((with_reducible refine gate_callee (f := 39) rfl ?_); refine goesL_ (some 7) rfl rfl Try.func39 (by kernel_rfl) rfl #[.int .i64 a0_3, .int .i64 0, .int .i64 201] rfl (by (try simp only [List.map_toArray, List.map_cons, List.map_nil]); first | done | rfl | (simp only [List.length_drop, List.length_take]; rfl)) ?_; (with_reducible refine (head_within.calls a0_3 0 201 true _ A2.out).mono ?_); rintro e w' ⟨rfl, ⟨nd, rfl⟩⟩; refine ⟨_, rfl, ?_⟩) | (go_at_call 39; (with_reducible refine (head_within.calls a0_4 0 2000 true _ A4.out).mono ?_); rintro e w' ⟨rfl, ⟨nd, rfl⟩⟩) | (go_at_call 39; (with_reducible refine (head_within.calls a0_5 1 64 false _ A6.out).mono ?_); rintro e w' ⟨rfl, ⟨nd, rfl⟩⟩))
              go_ret
              exact ⟨by first | rfl | (simp [errW_none, errW_some] <;> rfl) | (simp [*, errW_none, errW_some] <;> rfl), by repeat (first | (with_reducible first | exact HB.out | apply below_alloc | apply pw_below_drewN | apply below_drew1 | refine below_set ?_ GE101.out) | exact HB.out)⟩
            · rw [if_neg c55] at H
              have c55b0 : (a0_2 == 0) = false := beq_eq_false_iff_ne.mpr c55
              have c55b1 : (a0_2 != 0) = true := bne_iff_ne.mpr c55
              obtain rfl := Option.some.inj H
              go_enter Try.func18, Try.ntmps18
              go_wp2_with (first | ((with_reducible refine gate_dst (N := 1) rfl ?_); refine box_event ?hg (N := 1) ?hd (cs := #[.int .i64 a0_0, .int .i64 a0_1, .int .i64 a0_2, .int .i64 a0_3, .int .i64 a0_4, .int .i64 a0_5, .int .i64 a0_6]) (t := 28) ?hr ?_; (case hd => rfl); (case hg => rfl); (case hr => first | (go_simp; done) | (go_simp; rfl)); intro gb101 hg w58 hbox hb; have n0_ := Aside0.mk (below_step (by repeat (first | (with_reducible first | exact HB.out | apply below_alloc | apply pw_below_drewN | apply below_drew1) | exact HB.out)) hb); have n1_ := Aside0.mk (hbox); have n2_ := Aside0.mk ((by rw [hg]; exact (below_size (by repeat (first | (with_reducible first | exact HB.out | apply below_alloc | apply pw_below_drewN | apply below_drew1) | exact HB.out))) : w.heap.size ≤ gb101)); have n3_ := Aside0.mk ((by rw [hg]; exact (below_size (by repeat (first | (with_reducible first | exact HB.out | apply below_alloc | apply pw_below_drewN | apply below_drew1) | exact HB.out))) : w.heap.size ≤ gb101)); clear HB; have HB := n0_; have BK101 := n1_; have GW101 := n2_; have GE101 := n3_; clear n0_ n1_ n2_ n3_; clear hb hbox hg; have hcz59_0 : w58.cell? ⟨gb101, 0, none⟩ = some (.int .i64 a0_0) := (blk_cell BK101.out 0).trans rfl; have hcz59_1 : w58.cell? ⟨gb101, 1, none⟩ = some (.int .i64 a0_1) := (blk_cell BK101.out 1).trans rfl; have hcz59_2 : w58.cell? ⟨gb101, 2, none⟩ = some (.int .i64 a0_2) := (blk_cell BK101.out 2).trans rfl; have hcz59_3 : w58.cell? ⟨gb101, 3, none⟩ = some (.int .i64 a0_3) := (blk_cell BK101.out 3).trans rfl; have hcz59_4 : w58.cell? ⟨gb101, 4, none⟩ = some (.int .i64 a0_4) := (blk_cell BK101.out 4).trans rfl; have hcz59_5 : w58.cell? ⟨gb101, 5, none⟩ = some (.int .i64 a0_5) := (blk_cell BK101.out 5).trans rfl; have hcz59_6 : w58.cell? ⟨gb101, 6, none⟩ = some (.int .i64 a0_6) := (blk_cell BK101.out 6).trans rfl; have hfz59_0 := blk_frozen BK101.out 0; have hfz59_1 := blk_frozen BK101.out 1; have hfz59_2 := blk_frozen BK101.out 2; have hfz59_3 := blk_frozen BK101.out 3; have hfz59_4 := blk_frozen BK101.out 4; have hfz59_5 := blk_frozen BK101.out 5; have hfz59_6 := blk_frozen BK101.out 6) | ((with_reducible refine gate_callee (f := 39) rfl ?_); refine goesL_ (some 7) rfl rfl Try.func39 (by kernel_rfl) rfl #[.int .i64 a0_3, .int .i64 0, .int .i64 201] rfl (by (try simp only [List.map_toArray, List.map_cons, List.map_nil]); first | done | rfl | (simp only [List.length_drop, List.length_take]; rfl)) ?_; (with_reducible refine (head_within.calls a0_3 0 201 true _ A2.out).mono ?_); rintro e w' ⟨rfl, ⟨nd, rfl⟩⟩; refine ⟨_, rfl, ?_⟩) | (go_at_call 39; (with_reducible refine (head_within.calls a0_4 0 2000 true _ A4.out).mono ?_); rintro e w' ⟨rfl, ⟨nd, rfl⟩⟩) | (go_at_call 39; (with_reducible refine (head_within.calls a0_5 1 64 false _ A6.out).mono ?_); rintro e w' ⟨rfl, ⟨nd, rfl⟩⟩))
              go_ret
              exact ⟨by first | rfl | (simp [errW_none, errW_some] <;> rfl) | (simp [*, errW_none, errW_some] <;> rfl), by repeat (first | (with_reducible first | exact HB.out | apply below_alloc | apply pw_below_drewN | apply below_drew1 | refine below_set ?_ GE101.out) | exact HB.out)⟩
          · rw [if_neg c54] at H
            have c54b0 : (a0_1 == a0_5) = false := beq_eq_false_iff_ne.mpr c54
            have c54b1 : (a0_1 != a0_5) = true := bne_iff_ne.mpr c54
            obtain rfl := Option.some.inj H
            go_enter Try.func18, Try.ntmps18
            go_wp2_with (first | ((with_reducible refine gate_dst (N := 1) rfl ?_); refine box_event ?hg (N := 1) ?hd (cs := #[.int .i64 a0_0, .int .i64 a0_1, .int .i64 a0_2, .int .i64 a0_3, .int .i64 a0_4, .int .i64 a0_5, .int .i64 a0_6]) (t := 28) ?hr ?_; (case hd => rfl); (case hg => rfl); (case hr => first | (go_simp; done) | (go_simp; rfl)); intro gb101 hg w60 hbox hb; have n0_ := Aside0.mk (below_step (by repeat (first | (with_reducible first | exact HB.out | apply below_alloc | apply pw_below_drewN | apply below_drew1) | exact HB.out)) hb); have n1_ := Aside0.mk (hbox); have n2_ := Aside0.mk ((by rw [hg]; exact (below_size (by repeat (first | (with_reducible first | exact HB.out | apply below_alloc | apply pw_below_drewN | apply below_drew1) | exact HB.out))) : w.heap.size ≤ gb101)); have n3_ := Aside0.mk ((by rw [hg]; exact (below_size (by repeat (first | (with_reducible first | exact HB.out | apply below_alloc | apply pw_below_drewN | apply below_drew1) | exact HB.out))) : w.heap.size ≤ gb101)); clear HB; have HB := n0_; have BK101 := n1_; have GW101 := n2_; have GE101 := n3_; clear n0_ n1_ n2_ n3_; clear hb hbox hg; have hcz61_0 : w60.cell? ⟨gb101, 0, none⟩ = some (.int .i64 a0_0) := (blk_cell BK101.out 0).trans rfl; have hcz61_1 : w60.cell? ⟨gb101, 1, none⟩ = some (.int .i64 a0_1) := (blk_cell BK101.out 1).trans rfl; have hcz61_2 : w60.cell? ⟨gb101, 2, none⟩ = some (.int .i64 a0_2) := (blk_cell BK101.out 2).trans rfl; have hcz61_3 : w60.cell? ⟨gb101, 3, none⟩ = some (.int .i64 a0_3) := (blk_cell BK101.out 3).trans rfl; have hcz61_4 : w60.cell? ⟨gb101, 4, none⟩ = some (.int .i64 a0_4) := (blk_cell BK101.out 4).trans rfl; have hcz61_5 : w60.cell? ⟨gb101, 5, none⟩ = some (.int .i64 a0_5) := (blk_cell BK101.out 5).trans rfl; have hcz61_6 : w60.cell? ⟨gb101, 6, none⟩ = some (.int .i64 a0_6) := (blk_cell BK101.out 6).trans rfl; have hfz61_0 := blk_frozen BK101.out 0; have hfz61_1 := blk_frozen BK101.out 1; have hfz61_2 := blk_frozen BK101.out 2; have hfz61_3 := blk_frozen BK101.out 3; have hfz61_4 := blk_frozen BK101.out 4; have hfz61_5 := blk_frozen BK101.out 5; have hfz61_6 := blk_frozen BK101.out 6) | ((with_reducible refine gate_callee (f := 39) rfl ?_); refine goesL_ (some 7) rfl rfl Try.func39 (by kernel_rfl) rfl #[.int .i64 a0_3, .int .i64 0, .int .i64 201] rfl (by (try simp only [List.map_toArray, List.map_cons, List.map_nil]); first | done | rfl | (simp only [List.length_drop, List.length_take]; rfl)) ?_; (with_reducible refine (head_within.calls a0_3 0 201 true _ A2.out).mono ?_); rintro e w' ⟨rfl, ⟨nd, rfl⟩⟩; refine ⟨_, rfl, ?_⟩) | (go_at_call 39; (with_reducible refine (head_within.calls a0_4 0 2000 true _ A4.out).mono ?_); rintro e w' ⟨rfl, ⟨nd, rfl⟩⟩) | (go_at_call 39; (with_reducible refine (head_within.calls a0_5 1 64 false _ A6.out).mono ?_); rintro e w' ⟨rfl, ⟨nd, rfl⟩⟩))
            go_ret
            exact ⟨by first | rfl | (simp [errW_none, errW_some] <;> rfl) | (simp [*, errW_none, errW_some] <;> rfl), by repeat (first | (with_reducible first | exact HB.out | apply below_alloc | apply pw_below_drewN | apply below_drew1 | refine below_set ?_ GE101.out) | exact HB.out)⟩
    · replace c5 := Bool.eq_false_iff.mpr c5
      subst c5
      have H1 : (if a0_1 = 0 then (if a0_2 = 0 then (some false) else (some false)) else (if a0_1 = a0_5 then (if a0_2 = 0 then (some false) else (some false)) else (some false))) = some r := by rw [if_neg (show ¬ (false = true) by decide)] at H; exact H
      clear H
      have H := H1
      clear H1
      by_cases c62 : a0_1 = 0
      · rw [if_pos c62] at H
        have c62b0 : (a0_1 == 0) = true := beq_iff_eq.mpr c62
        have c62b1 : (a0_1 != 0) = false := bne_eq_false_iff_eq.mpr c62
        clear c62
        by_cases c63 : a0_2 = 0
        · rw [if_pos c63] at H
          have c63b0 : (a0_2 == 0) = true := beq_iff_eq.mpr c63
          have c63b1 : (a0_2 != 0) = false := bne_eq_false_iff_eq.mpr c63
          clear c63
          obtain rfl := Option.some.inj H
          go_enter Try.func18, Try.ntmps18
          go_wp2_with (first | ((with_reducible refine gate_dst (N := 1) rfl ?_); refine box_event ?hg (N := 1) ?hd (cs := #[.int .i64 a0_0, .int .i64 a0_1, .int .i64 a0_2, .int .i64 a0_3, .int .i64 a0_4, .int .i64 a0_5, .int .i64 a0_6]) (t := 28) ?hr ?_; (case hd => rfl); (case hg => rfl); (case hr => first | (go_simp; done) | (go_simp; rfl)); intro gb101 hg w64 hbox hb; have n0_ := Aside0.mk (below_step (by repeat (first | (with_reducible first | exact HB.out | apply below_alloc | apply pw_below_drewN | apply below_drew1) | exact HB.out)) hb); have n1_ := Aside0.mk (hbox); have n2_ := Aside0.mk ((by rw [hg]; exact (below_size (by repeat (first | (with_reducible first | exact HB.out | apply below_alloc | apply pw_below_drewN | apply below_drew1) | exact HB.out))) : w.heap.size ≤ gb101)); have n3_ := Aside0.mk ((by rw [hg]; exact (below_size (by repeat (first | (with_reducible first | exact HB.out | apply below_alloc | apply pw_below_drewN | apply below_drew1) | exact HB.out))) : w.heap.size ≤ gb101)); clear HB; have HB := n0_; have BK101 := n1_; have GW101 := n2_; have GE101 := n3_; clear n0_ n1_ n2_ n3_; clear hb hbox hg; have hcz65_0 : w64.cell? ⟨gb101, 0, none⟩ = some (.int .i64 a0_0) := (blk_cell BK101.out 0).trans rfl; have hcz65_1 : w64.cell? ⟨gb101, 1, none⟩ = some (.int .i64 a0_1) := (blk_cell BK101.out 1).trans rfl; have hcz65_2 : w64.cell? ⟨gb101, 2, none⟩ = some (.int .i64 a0_2) := (blk_cell BK101.out 2).trans rfl; have hcz65_3 : w64.cell? ⟨gb101, 3, none⟩ = some (.int .i64 a0_3) := (blk_cell BK101.out 3).trans rfl; have hcz65_4 : w64.cell? ⟨gb101, 4, none⟩ = some (.int .i64 a0_4) := (blk_cell BK101.out 4).trans rfl; have hcz65_5 : w64.cell? ⟨gb101, 5, none⟩ = some (.int .i64 a0_5) := (blk_cell BK101.out 5).trans rfl; have hcz65_6 : w64.cell? ⟨gb101, 6, none⟩ = some (.int .i64 a0_6) := (blk_cell BK101.out 6).trans rfl; have hfz65_0 := blk_frozen BK101.out 0; have hfz65_1 := blk_frozen BK101.out 1; have hfz65_2 := blk_frozen BK101.out 2; have hfz65_3 := blk_frozen BK101.out 3; have hfz65_4 := blk_frozen BK101.out 4; have hfz65_5 := blk_frozen BK101.out 5; have hfz65_6 := blk_frozen BK101.out 6) | ((with_reducible refine gate_callee (f := 39) rfl ?_); refine goesL_ (some 7) rfl rfl Try.func39 (by kernel_rfl) rfl #[.int .i64 a0_3, .int .i64 0, .int .i64 201] rfl (by (try simp only [List.map_toArray, List.map_cons, List.map_nil]); first | done | rfl | (simp only [List.length_drop, List.length_take]; rfl)) ?_; (with_reducible refine (head_within.calls a0_3 0 201 true _ A2.out).mono ?_); rintro e w' ⟨rfl, ⟨nd, rfl⟩⟩; refine ⟨_, rfl, ?_⟩) | (go_at_call 39; (with_reducible refine (head_within.calls a0_4 0 2000 false _ A4.out).mono ?_); rintro e w' ⟨rfl, ⟨nd, rfl⟩⟩))
          go_ret
          exact ⟨by first | rfl | (simp [errW_none, errW_some] <;> rfl) | (simp [*, errW_none, errW_some] <;> rfl), by repeat (first | (with_reducible first | exact HB.out | apply below_alloc | apply pw_below_drewN | apply below_drew1 | refine below_set ?_ GE101.out) | exact HB.out)⟩
        · rw [if_neg c63] at H
          have c63b0 : (a0_2 == 0) = false := beq_eq_false_iff_ne.mpr c63
          have c63b1 : (a0_2 != 0) = true := bne_iff_ne.mpr c63
          obtain rfl := Option.some.inj H
          go_enter Try.func18, Try.ntmps18
          go_wp2_with (first | ((with_reducible refine gate_dst (N := 1) rfl ?_); refine box_event ?hg (N := 1) ?hd (cs := #[.int .i64 a0_0, .int .i64 a0_1, .int .i64 a0_2, .int .i64 a0_3, .int .i64 a0_4, .int .i64 a0_5, .int .i64 a0_6]) (t := 28) ?hr ?_; (case hd => rfl); (case hg => rfl); (case hr => first | (go_simp; done) | (go_simp; rfl)); intro gb101 hg w66 hbox hb; have n0_ := Aside0.mk (below_step (by repeat (first | (with_reducible first | exact HB.out | apply below_alloc | apply pw_below_drewN | apply below_drew1) | exact HB.out)) hb); have n1_ := Aside0.mk (hbox); have n2_ := Aside0.mk ((by rw [hg]; exact (below_size (by repeat (first | (with_reducible first | exact HB.out | apply below_alloc | apply pw_below_drewN | apply below_drew1) | exact HB.out))) : w.heap.size ≤ gb101)); have n3_ := Aside0.mk ((by rw [hg]; exact (below_size (by repeat (first | (with_reducible first | exact HB.out | apply below_alloc | apply pw_below_drewN | apply below_drew1) | exact HB.out))) : w.heap.size ≤ gb101)); clear HB; have HB := n0_; have BK101 := n1_; have GW101 := n2_; have GE101 := n3_; clear n0_ n1_ n2_ n3_; clear hb hbox hg; have hcz67_0 : w66.cell? ⟨gb101, 0, none⟩ = some (.int .i64 a0_0) := (blk_cell BK101.out 0).trans rfl; have hcz67_1 : w66.cell? ⟨gb101, 1, none⟩ = some (.int .i64 a0_1) := (blk_cell BK101.out 1).trans rfl; have hcz67_2 : w66.cell? ⟨gb101, 2, none⟩ = some (.int .i64 a0_2) := (blk_cell BK101.out 2).trans rfl; have hcz67_3 : w66.cell? ⟨gb101, 3, none⟩ = some (.int .i64 a0_3) := (blk_cell BK101.out 3).trans rfl; have hcz67_4 : w66.cell? ⟨gb101, 4, none⟩ = some (.int .i64 a0_4) := (blk_cell BK101.out 4).trans rfl; have hcz67_5 : w66.cell? ⟨gb101, 5, none⟩ = some (.int .i64 a0_5) := (blk_cell BK101.out 5).trans rfl; have hcz67_6 : w66.cell? ⟨gb101, 6, none⟩ = some (.int .i64 a0_6) := (blk_cell BK101.out 6).trans rfl; have hfz67_0 := blk_frozen BK101.out 0; have hfz67_1 := blk_frozen BK101.out 1; have hfz67_2 := blk_frozen BK101.out 2; have hfz67_3 := blk_frozen BK101.out 3; have hfz67_4 := blk_frozen BK101.out 4; have hfz67_5 := blk_frozen BK101.out 5; have hfz67_6 := blk_frozen BK101.out 6) | ((with_reducible refine gate_callee (f := 39) rfl ?_); refine goesL_ (some 7) rfl rfl Try.func39 (by kernel_rfl) rfl #[.int .i64 a0_3, .int .i64 0, .int .i64 201] rfl (by (try simp only [List.map_toArray, List.map_cons, List.map_nil]); first | done | rfl | (simp only [List.length_drop, List.length_take]; rfl)) ?_; (with_reducible refine (head_within.calls a0_3 0 201 true _ A2.out).mono ?_); rintro e w' ⟨rfl, ⟨nd, rfl⟩⟩; refine ⟨_, rfl, ?_⟩) | (go_at_call 39; (with_reducible refine (head_within.calls a0_4 0 2000 false _ A4.out).mono ?_); rintro e w' ⟨rfl, ⟨nd, rfl⟩⟩))
          go_ret
          exact ⟨by first | rfl | (simp [errW_none, errW_some] <;> rfl) | (simp [*, errW_none, errW_some] <;> rfl), by repeat (first | (with_reducible first | exact HB.out | apply below_alloc | apply pw_below_drewN | apply below_drew1 | refine below_set ?_ GE101.out) | exact HB.out)⟩
      · rw [if_neg c62] at H
        have c62b0 : (a0_1 == 0) = false := beq_eq_false_iff_ne.mpr c62
        have c62b1 : (a0_1 != 0) = true := bne_iff_ne.mpr c62
        by_cases c68 : a0_1 = a0_5
        · rw [if_pos c68] at H
          have c68b0 : (a0_1 == a0_5) = true := beq_iff_eq.mpr c68
          have c68b1 : (a0_1 != a0_5) = false := bne_eq_false_iff_eq.mpr c68
          clear c68
          by_cases c69 : a0_2 = 0
          · rw [if_pos c69] at H
            have c69b0 : (a0_2 == 0) = true := beq_iff_eq.mpr c69
            have c69b1 : (a0_2 != 0) = false := bne_eq_false_iff_eq.mpr c69
            clear c69
            obtain rfl := Option.some.inj H
            go_enter Try.func18, Try.ntmps18
            go_wp2_with (first | ((with_reducible refine gate_dst (N := 1) rfl ?_); refine box_event ?hg (N := 1) ?hd (cs := #[.int .i64 a0_0, .int .i64 a0_1, .int .i64 a0_2, .int .i64 a0_3, .int .i64 a0_4, .int .i64 a0_5, .int .i64 a0_6]) (t := 28) ?hr ?_; (case hd => rfl); (case hg => rfl); (case hr => first | (go_simp; done) | (go_simp; rfl)); intro gb101 hg w70 hbox hb; have n0_ := Aside0.mk (below_step (by repeat (first | (with_reducible first | exact HB.out | apply below_alloc | apply pw_below_drewN | apply below_drew1) | exact HB.out)) hb); have n1_ := Aside0.mk (hbox); have n2_ := Aside0.mk ((by rw [hg]; exact (below_size (by repeat (first | (with_reducible first | exact HB.out | apply below_alloc | apply pw_below_drewN | apply below_drew1) | exact HB.out))) : w.heap.size ≤ gb101)); have n3_ := Aside0.mk ((by rw [hg]; exact (below_size (by repeat (first | (with_reducible first | exact HB.out | apply below_alloc | apply pw_below_drewN | apply below_drew1) | exact HB.out))) : w.heap.size ≤ gb101)); clear HB; have HB := n0_; have BK101 := n1_; have GW101 := n2_; have GE101 := n3_; clear n0_ n1_ n2_ n3_; clear hb hbox hg; have hcz71_0 : w70.cell? ⟨gb101, 0, none⟩ = some (.int .i64 a0_0) := (blk_cell BK101.out 0).trans rfl; have hcz71_1 : w70.cell? ⟨gb101, 1, none⟩ = some (.int .i64 a0_1) := (blk_cell BK101.out 1).trans rfl; have hcz71_2 : w70.cell? ⟨gb101, 2, none⟩ = some (.int .i64 a0_2) := (blk_cell BK101.out 2).trans rfl; have hcz71_3 : w70.cell? ⟨gb101, 3, none⟩ = some (.int .i64 a0_3) := (blk_cell BK101.out 3).trans rfl; have hcz71_4 : w70.cell? ⟨gb101, 4, none⟩ = some (.int .i64 a0_4) := (blk_cell BK101.out 4).trans rfl; have hcz71_5 : w70.cell? ⟨gb101, 5, none⟩ = some (.int .i64 a0_5) := (blk_cell BK101.out 5).trans rfl; have hcz71_6 : w70.cell? ⟨gb101, 6, none⟩ = some (.int .i64 a0_6) := (blk_cell BK101.out 6).trans rfl; have hfz71_0 := blk_frozen BK101.out 0; have hfz71_1 := blk_frozen BK101.out 1; have hfz71_2 := blk_frozen BK101.out 2; have hfz71_3 := blk_frozen BK101.out 3; have hfz71_4 := blk_frozen BK101.out 4; have hfz71_5 := blk_frozen BK101.out 5; have hfz71_6 := blk_frozen BK101.out 6) | ((with_reducible refine gate_callee (f := 39) rfl ?_); refine goesL_ (some 7) rfl rfl Try.func39 (by kernel_rfl) rfl #[.int .i64 a0_3, .int .i64 0, .int .i64 201] rfl (by (try simp only [List.map_toArray, List.map_cons, List.map_nil]); first | done | rfl | (simp only [List.length_drop, List.length_take]; rfl)) ?_; (with_reducible refine (head_within.calls a0_3 0 201 true _ A2.out).mono ?_); rintro e w' ⟨rfl, ⟨nd, rfl⟩⟩; refine ⟨_, rfl, ?_⟩) | (go_at_call 39; (with_reducible refine (head_within.calls a0_4 0 2000 false _ A4.out).mono ?_); rintro e w' ⟨rfl, ⟨nd, rfl⟩⟩))
            go_ret
            exact ⟨by first | rfl | (simp [errW_none, errW_some] <;> rfl) | (simp [*, errW_none, errW_some] <;> rfl), by repeat (first | (with_reducible first | exact HB.out | apply below_alloc | apply pw_below_drewN | apply below_drew1 | refine below_set ?_ GE101.out) | exact HB.out)⟩
          · rw [if_neg c69] at H
            have c69b0 : (a0_2 == 0) = false := beq_eq_false_iff_ne.mpr c69
            have c69b1 : (a0_2 != 0) = true := bne_iff_ne.mpr c69
            obtain rfl := Option.some.inj H
            go_enter Try.func18, Try.ntmps18
            go_wp2_with (first | ((with_reducible refine gate_dst (N := 1) rfl ?_); refine box_event ?hg (N := 1) ?hd (cs := #[.int .i64 a0_0, .int .i64 a0_1, .int .i64 a0_2, .int .i64 a0_3, .int .i64 a0_4, .int .i64 a0_5, .int .i64 a0_6]) (t := 28) ?hr ?_; (case hd => rfl); (case hg => rfl); (case hr => first | (go_simp; done) | (go_simp; rfl)); intro gb101 hg w72 hbox hb; have n0_ := Aside0.mk (below_step (by repeat (first | (with_reducible first | exact HB.out | apply below_alloc | apply pw_below_drewN | apply below_drew1) | exact HB.out)) hb); have n1_ := Aside0.mk (hbox); have n2_ := Aside0.mk ((by rw [hg]; exact (below_size (by repeat (first | (with_reducible first | exact HB.out | apply below_alloc | apply pw_below_drewN | apply below_drew1) | exact HB.out))) : w.heap.size ≤ gb101)); have n3_ := Aside0.mk ((by rw [hg]; exact (below_size (by repeat (first | (with_reducible first | exact HB.out | apply below_alloc | apply pw_below_drewN | apply below_drew1) | exact HB.out))) : w.heap.size ≤ gb101)); clear HB; have HB := n0_; have BK101 := n1_; have GW101 := n2_; have GE101 := n3_; clear n0_ n1_ n2_ n3_; clear hb hbox hg; have hcz73_0 : w72.cell? ⟨gb101, 0, none⟩ = some (.int .i64 a0_0) := (blk_cell BK101.out 0).trans rfl; have hcz73_1 : w72.cell? ⟨gb101, 1, none⟩ = some (.int .i64 a0_1) := (blk_cell BK101.out 1).trans rfl; have hcz73_2 : w72.cell? ⟨gb101, 2, none⟩ = some (.int .i64 a0_2) := (blk_cell BK101.out 2).trans rfl; have hcz73_3 : w72.cell? ⟨gb101, 3, none⟩ = some (.int .i64 a0_3) := (blk_cell BK101.out 3).trans rfl; have hcz73_4 : w72.cell? ⟨gb101, 4, none⟩ = some (.int .i64 a0_4) := (blk_cell BK101.out 4).trans rfl; have hcz73_5 : w72.cell? ⟨gb101, 5, none⟩ = some (.int .i64 a0_5) := (blk_cell BK101.out 5).trans rfl; have hcz73_6 : w72.cell? ⟨gb101, 6, none⟩ = some (.int .i64 a0_6) := (blk_cell BK101.out 6).trans rfl; have hfz73_0 := blk_frozen BK101.out 0; have hfz73_1 := blk_frozen BK101.out 1; have hfz73_2 := blk_frozen BK101.out 2; have hfz73_3 := blk_frozen BK101.out 3; have hfz73_4 := blk_frozen BK101.out 4; have hfz73_5 := blk_frozen BK101.out 5; have hfz73_6 := blk_frozen BK101.out 6) | ((with_reducible refine gate_callee (f := 39) rfl ?_); refine goesL_ (some 7) rfl rfl Try.func39 (by kernel_rfl) rfl #[.int .i64 a0_3, .int .i64 0, .int .i64 201] rfl (by (try simp only [List.map_toArray, List.map_cons, List.map_nil]); first | done | rfl | (simp only [List.length_drop, List.length_take]; rfl)) ?_; (with_reducible refine (head_within.calls a0_3 0 201 true _ A2.out).mono ?_); rintro e w' ⟨rfl, ⟨nd, rfl⟩⟩; refine ⟨_, rfl, ?_⟩) | (go_at_call 39; (with_reducible refine (head_within.calls a0_4 0 2000 false _ A4.out).mono ?_); rintro e w' ⟨rfl, ⟨nd, rfl⟩⟩))
            go_ret
            exact ⟨by first | rfl | (simp [errW_none, errW_some] <;> rfl) | (simp [*, errW_none, errW_some] <;> rfl), by repeat (first | (with_reducible first | exact HB.out | apply below_alloc | apply pw_below_drewN | apply below_drew1 | refine below_set ?_ GE101.out) | exact HB.out)⟩
        · rw [if_neg c68] at H
          have c68b0 : (a0_1 == a0_5) = false := beq_eq_false_iff_ne.mpr c68
          have c68b1 : (a0_1 != a0_5) = true := bne_iff_ne.mpr c68
          obtain rfl := Option.some.inj H
          go_enter Try.func18, Try.ntmps18
          go_wp2_with (first | ((with_reducible refine gate_dst (N := 1) rfl ?_); refine box_event ?hg (N := 1) ?hd (cs := #[.int .i64 a0_0, .int .i64 a0_1, .int .i64 a0_2, .int .i64 a0_3, .int .i64 a0_4, .int .i64 a0_5, .int .i64 a0_6]) (t := 28) ?hr ?_; (case hd => rfl); (case hg => rfl); (case hr => first | (go_simp; done) | (go_simp; rfl)); intro gb101 hg w74 hbox hb; have n0_ := Aside0.mk (below_step (by repeat (first | (with_reducible first | exact HB.out | apply below_alloc | apply pw_below_drewN | apply below_drew1) | exact HB.out)) hb); have n1_ := Aside0.mk (hbox); have n2_ := Aside0.mk ((by rw [hg]; exact (below_size (by repeat (first | (with_reducible first | exact HB.out | apply below_alloc | apply pw_below_drewN | apply below_drew1) | exact HB.out))) : w.heap.size ≤ gb101)); have n3_ := Aside0.mk ((by rw [hg]; exact (below_size (by repeat (first | (with_reducible first | exact HB.out | apply below_alloc | apply pw_below_drewN | apply below_drew1) | exact HB.out))) : w.heap.size ≤ gb101)); clear HB; have HB := n0_; have BK101 := n1_; have GW101 := n2_; have GE101 := n3_; clear n0_ n1_ n2_ n3_; clear hb hbox hg; have hcz75_0 : w74.cell? ⟨gb101, 0, none⟩ = some (.int .i64 a0_0) := (blk_cell BK101.out 0).trans rfl; have hcz75_1 : w74.cell? ⟨gb101, 1, none⟩ = some (.int .i64 a0_1) := (blk_cell BK101.out 1).trans rfl; have hcz75_2 : w74.cell? ⟨gb101, 2, none⟩ = some (.int .i64 a0_2) := (blk_cell BK101.out 2).trans rfl; have hcz75_3 : w74.cell? ⟨gb101, 3, none⟩ = some (.int .i64 a0_3) := (blk_cell BK101.out 3).trans rfl; have hcz75_4 : w74.cell? ⟨gb101, 4, none⟩ = some (.int .i64 a0_4) := (blk_cell BK101.out 4).trans rfl; have hcz75_5 : w74.cell? ⟨gb101, 5, none⟩ = some (.int .i64 a0_5) := (blk_cell BK101.out 5).trans rfl; have hcz75_6 : w74.cell? ⟨gb101, 6, none⟩ = some (.int .i64 a0_6) := (blk_cell BK101.out 6).trans rfl; have hfz75_0 := blk_frozen BK101.out 0; have hfz75_1 := blk_frozen BK101.out 1; have hfz75_2 := blk_frozen BK101.out 2; have hfz75_3 := blk_frozen BK101.out 3; have hfz75_4 := blk_frozen BK101.out 4; have hfz75_5 := blk_frozen BK101.out 5; have hfz75_6 := blk_frozen BK101.out 6) | ((with_reducible refine gate_callee (f := 39) rfl ?_); refine goesL_ (some 7) rfl rfl Try.func39 (by kernel_rfl) rfl #[.int .i64 a0_3, .int .i64 0, .int .i64 201] rfl (by (try simp only [List.map_toArray, List.map_cons, List.map_nil]); first | done | rfl | (simp only [List.length_drop, List.length_take]; rfl)) ?_; (with_reducible refine (head_within.calls a0_3 0 201 true _ A2.out).mono ?_); rintro e w' ⟨rfl, ⟨nd, rfl⟩⟩; refine ⟨_, rfl, ?_⟩) | (go_at_call 39; (with_reducible refine (head_within.calls a0_4 0 2000 false _ A4.out).mono ?_); rintro e w' ⟨rfl, ⟨nd, rfl⟩⟩))
          go_ret
          exact ⟨by first | rfl | (simp [errW_none, errW_some] <;> rfl) | (simp [*, errW_none, errW_some] <;> rfl), by repeat (first | (with_reducible first | exact HB.out | apply below_alloc | apply pw_below_drewN | apply below_drew1 | refine below_set ?_ GE101.out) | exact HB.out)⟩
  · replace c3 := Bool.eq_false_iff.mpr c3
    subst c3
    have H1 : (if a0_1 = 0 then (if a0_2 = 0 then (some false) else (some false)) else (if a0_1 = a0_5 then (if a0_2 = 0 then (some false) else (some false)) else (some false))) = some r := by rw [if_neg (show ¬ (false = true) by decide)] at H; exact H
    clear H
    have H := H1
    clear H1
    by_cases c76 : a0_1 = 0
    · rw [if_pos c76] at H
      have c76b0 : (a0_1 == 0) = true := beq_iff_eq.mpr c76
      have c76b1 : (a0_1 != 0) = false := bne_eq_false_iff_eq.mpr c76
      clear c76
      by_cases c77 : a0_2 = 0
      · rw [if_pos c77] at H
        have c77b0 : (a0_2 == 0) = true := beq_iff_eq.mpr c77
        have c77b1 : (a0_2 != 0) = false := bne_eq_false_iff_eq.mpr c77
        clear c77
        obtain rfl := Option.some.inj H
        go_enter Try.func18, Try.ntmps18
        go_wp2_with (first | ((with_reducible refine gate_dst (N := 1) rfl ?_); refine box_event ?hg (N := 1) ?hd (cs := #[.int .i64 a0_0, .int .i64 a0_1, .int .i64 a0_2, .int .i64 a0_3, .int .i64 a0_4, .int .i64 a0_5, .int .i64 a0_6]) (t := 28) ?hr ?_; (case hd => rfl); (case hg => rfl); (case hr => first | (go_simp; done) | (go_simp; rfl)); intro gb101 hg w78 hbox hb; have n0_ := Aside0.mk (below_step (by repeat (first | (with_reducible first | exact HB.out | apply below_alloc | apply pw_below_drewN | apply below_drew1) | exact HB.out)) hb); have n1_ := Aside0.mk (hbox); have n2_ := Aside0.mk ((by rw [hg]; exact (below_size (by repeat (first | (with_reducible first | exact HB.out | apply below_alloc | apply pw_below_drewN | apply below_drew1) | exact HB.out))) : w.heap.size ≤ gb101)); have n3_ := Aside0.mk ((by rw [hg]; exact (below_size (by repeat (first | (with_reducible first | exact HB.out | apply below_alloc | apply pw_below_drewN | apply below_drew1) | exact HB.out))) : w.heap.size ≤ gb101)); clear HB; have HB := n0_; have BK101 := n1_; have GW101 := n2_; have GE101 := n3_; clear n0_ n1_ n2_ n3_; clear hb hbox hg; have hcz79_0 : w78.cell? ⟨gb101, 0, none⟩ = some (.int .i64 a0_0) := (blk_cell BK101.out 0).trans rfl; have hcz79_1 : w78.cell? ⟨gb101, 1, none⟩ = some (.int .i64 a0_1) := (blk_cell BK101.out 1).trans rfl; have hcz79_2 : w78.cell? ⟨gb101, 2, none⟩ = some (.int .i64 a0_2) := (blk_cell BK101.out 2).trans rfl; have hcz79_3 : w78.cell? ⟨gb101, 3, none⟩ = some (.int .i64 a0_3) := (blk_cell BK101.out 3).trans rfl; have hcz79_4 : w78.cell? ⟨gb101, 4, none⟩ = some (.int .i64 a0_4) := (blk_cell BK101.out 4).trans rfl; have hcz79_5 : w78.cell? ⟨gb101, 5, none⟩ = some (.int .i64 a0_5) := (blk_cell BK101.out 5).trans rfl; have hcz79_6 : w78.cell? ⟨gb101, 6, none⟩ = some (.int .i64 a0_6) := (blk_cell BK101.out 6).trans rfl; have hfz79_0 := blk_frozen BK101.out 0; have hfz79_1 := blk_frozen BK101.out 1; have hfz79_2 := blk_frozen BK101.out 2; have hfz79_3 := blk_frozen BK101.out 3; have hfz79_4 := blk_frozen BK101.out 4; have hfz79_5 := blk_frozen BK101.out 5; have hfz79_6 := blk_frozen BK101.out 6) | ((with_reducible refine gate_callee (f := 39) rfl ?_); refine goesL_ (some 7) rfl rfl Try.func39 (by kernel_rfl) rfl #[.int .i64 a0_3, .int .i64 0, .int .i64 201] rfl (by (try simp only [List.map_toArray, List.map_cons, List.map_nil]); first | done | rfl | (simp only [List.length_drop, List.length_take]; rfl)) ?_; (with_reducible refine (head_within.calls a0_3 0 201 false _ A2.out).mono ?_); rintro e w' ⟨rfl, ⟨nd, rfl⟩⟩; refine ⟨_, rfl, ?_⟩))
        go_ret
        exact ⟨by first | rfl | (simp [errW_none, errW_some] <;> rfl) | (simp [*, errW_none, errW_some] <;> rfl), by repeat (first | (with_reducible first | exact HB.out | apply below_alloc | apply pw_below_drewN | apply below_drew1 | refine below_set ?_ GE101.out) | exact HB.out)⟩
      · rw [if_neg c77] at H
        have c77b0 : (a0_2 == 0) = false := beq_eq_false_iff_ne.mpr c77
        have c77b1 : (a0_2 != 0) = true := bne_iff_ne.mpr c77
        obtain rfl := Option.some.inj H
        go_enter Try.func18, Try.ntmps18
        go_wp2_with (first | ((with_reducible refine gate_dst (N := 1) rfl ?_); refine box_event ?hg (N := 1) ?hd (cs := #[.int .i64 a0_0, .int .i64 a0_1, .int .i64 a0_2, .int .i64 a0_3, .int .i64 a0_4, .int .i64 a0_5, .int .i64 a0_6]) (t := 28) ?hr ?_; (case hd => rfl); (case hg => rfl); (case hr => first | (go_simp; done) | (go_simp; rfl)); intro gb101 hg w80 hbox hb; have n0_ := Aside0.mk (below_step (by repeat (first | (with_reducible first | exact HB.out | apply below_alloc | apply pw_below_drewN | apply below_drew1) | exact HB.out)) hb); have n1_ := Aside0.mk (hbox); have n2_ := Aside0.mk ((by rw [hg]; exact (below_size (by repeat (first | (with_reducible first | exact HB.out | apply below_alloc | apply pw_below_drewN | apply below_drew1) | exact HB.out))) : w.heap.size ≤ gb101)); have n3_ := Aside0.mk ((by rw [hg]; exact (below_size (by repeat (first | (with_reducible first | exact HB.out | apply below_alloc | apply pw_below_drewN | apply below_drew1) | exact HB.out))) : w.heap.size ≤ gb101)); clear HB; have HB := n0_; have BK101 := n1_; have GW101 := n2_; have GE101 := n3_; clear n0_ n1_ n2_ n3_; clear hb hbox hg; have hcz81_0 : w80.cell? ⟨gb101, 0, none⟩ = some (.int .i64 a0_0) := (blk_cell BK101.out 0).trans rfl; have hcz81_1 : w80.cell? ⟨gb101, 1, none⟩ = some (.int .i64 a0_1) := (blk_cell BK101.out 1).trans rfl; have hcz81_2 : w80.cell? ⟨gb101, 2, none⟩ = some (.int .i64 a0_2) := (blk_cell BK101.out 2).trans rfl; have hcz81_3 : w80.cell? ⟨gb101, 3, none⟩ = some (.int .i64 a0_3) := (blk_cell BK101.out 3).trans rfl; have hcz81_4 : w80.cell? ⟨gb101, 4, none⟩ = some (.int .i64 a0_4) := (blk_cell BK101.out 4).trans rfl; have hcz81_5 : w80.cell? ⟨gb101, 5, none⟩ = some (.int .i64 a0_5) := (blk_cell BK101.out 5).trans rfl; have hcz81_6 : w80.cell? ⟨gb101, 6, none⟩ = some (.int .i64 a0_6) := (blk_cell BK101.out 6).trans rfl; have hfz81_0 := blk_frozen BK101.out 0; have hfz81_1 := blk_frozen BK101.out 1; have hfz81_2 := blk_frozen BK101.out 2; have hfz81_3 := blk_frozen BK101.out 3; have hfz81_4 := blk_frozen BK101.out 4; have hfz81_5 := blk_frozen BK101.out 5; have hfz81_6 := blk_frozen BK101.out 6) | ((with_reducible refine gate_callee (f := 39) rfl ?_); refine goesL_ (some 7) rfl rfl Try.func39 (by kernel_rfl) rfl #[.int .i64 a0_3, .int .i64 0, .int .i64 201] rfl (by (try simp only [List.map_toArray, List.map_cons, List.map_nil]); first | done | rfl | (simp only [List.length_drop, List.length_take]; rfl)) ?_; (with_reducible refine (head_within.calls a0_3 0 201 false _ A2.out).mono ?_); rintro e w' ⟨rfl, ⟨nd, rfl⟩⟩; refine ⟨_, rfl, ?_⟩))
        go_ret
        exact ⟨by first | rfl | (simp [errW_none, errW_some] <;> rfl) | (simp [*, errW_none, errW_some] <;> rfl), by repeat (first | (with_reducible first | exact HB.out | apply below_alloc | apply pw_below_drewN | apply below_drew1 | refine below_set ?_ GE101.out) | exact HB.out)⟩
    · rw [if_neg c76] at H
      have c76b0 : (a0_1 == 0) = false := beq_eq_false_iff_ne.mpr c76
      have c76b1 : (a0_1 != 0) = true := bne_iff_ne.mpr c76
      by_cases c82 : a0_1 = a0_5
      · rw [if_pos c82] at H
        have c82b0 : (a0_1 == a0_5) = true := beq_iff_eq.mpr c82
        have c82b1 : (a0_1 != a0_5) = false := bne_eq_false_iff_eq.mpr c82
        clear c82
        by_cases c83 : a0_2 = 0
        · rw [if_pos c83] at H
          have c83b0 : (a0_2 == 0) = true := beq_iff_eq.mpr c83
          have c83b1 : (a0_2 != 0) = false := bne_eq_false_iff_eq.mpr c83
          clear c83
          obtain rfl := Option.some.inj H
          go_enter Try.func18, Try.ntmps18
          go_wp2_with (first | ((with_reducible refine gate_dst (N := 1) rfl ?_); refine box_event ?hg (N := 1) ?hd (cs := #[.int .i64 a0_0, .int .i64 a0_1, .int .i64 a0_2, .int .i64 a0_3, .int .i64 a0_4, .int .i64 a0_5, .int .i64 a0_6]) (t := 28) ?hr ?_; (case hd => rfl); (case hg => rfl); (case hr => first | (go_simp; done) | (go_simp; rfl)); intro gb101 hg w84 hbox hb; have n0_ := Aside0.mk (below_step (by repeat (first | (with_reducible first | exact HB.out | apply below_alloc | apply pw_below_drewN | apply below_drew1) | exact HB.out)) hb); have n1_ := Aside0.mk (hbox); have n2_ := Aside0.mk ((by rw [hg]; exact (below_size (by repeat (first | (with_reducible first | exact HB.out | apply below_alloc | apply pw_below_drewN | apply below_drew1) | exact HB.out))) : w.heap.size ≤ gb101)); have n3_ := Aside0.mk ((by rw [hg]; exact (below_size (by repeat (first | (with_reducible first | exact HB.out | apply below_alloc | apply pw_below_drewN | apply below_drew1) | exact HB.out))) : w.heap.size ≤ gb101)); clear HB; have HB := n0_; have BK101 := n1_; have GW101 := n2_; have GE101 := n3_; clear n0_ n1_ n2_ n3_; clear hb hbox hg; have hcz85_0 : w84.cell? ⟨gb101, 0, none⟩ = some (.int .i64 a0_0) := (blk_cell BK101.out 0).trans rfl; have hcz85_1 : w84.cell? ⟨gb101, 1, none⟩ = some (.int .i64 a0_1) := (blk_cell BK101.out 1).trans rfl; have hcz85_2 : w84.cell? ⟨gb101, 2, none⟩ = some (.int .i64 a0_2) := (blk_cell BK101.out 2).trans rfl; have hcz85_3 : w84.cell? ⟨gb101, 3, none⟩ = some (.int .i64 a0_3) := (blk_cell BK101.out 3).trans rfl; have hcz85_4 : w84.cell? ⟨gb101, 4, none⟩ = some (.int .i64 a0_4) := (blk_cell BK101.out 4).trans rfl; have hcz85_5 : w84.cell? ⟨gb101, 5, none⟩ = some (.int .i64 a0_5) := (blk_cell BK101.out 5).trans rfl; have hcz85_6 : w84.cell? ⟨gb101, 6, none⟩ = some (.int .i64 a0_6) := (blk_cell BK101.out 6).trans rfl; have hfz85_0 := blk_frozen BK101.out 0; have hfz85_1 := blk_frozen BK101.out 1; have hfz85_2 := blk_frozen BK101.out 2; have hfz85_3 := blk_frozen BK101.out 3; have hfz85_4 := blk_frozen BK101.out 4; have hfz85_5 := blk_frozen BK101.out 5; have hfz85_6 := blk_frozen BK101.out 6) | ((with_reducible refine gate_callee (f := 39) rfl ?_); refine goesL_ (some 7) rfl rfl Try.func39 (by kernel_rfl) rfl #[.int .i64 a0_3, .int .i64 0, .int .i64 201] rfl (by (try simp only [List.map_toArray, List.map_cons, List.map_nil]); first | done | rfl | (simp only [List.length_drop, List.length_take]; rfl)) ?_; (with_reducible refine (head_within.calls a0_3 0 201 false _ A2.out).mono ?_); rintro e w' ⟨rfl, ⟨nd, rfl⟩⟩; refine ⟨_, rfl, ?_⟩))
          go_ret
          exact ⟨by first | rfl | (simp [errW_none, errW_some] <;> rfl) | (simp [*, errW_none, errW_some] <;> rfl), by repeat (first | (with_reducible first | exact HB.out | apply below_alloc | apply pw_below_drewN | apply below_drew1 | refine below_set ?_ GE101.out) | exact HB.out)⟩
        · rw [if_neg c83] at H
          have c83b0 : (a0_2 == 0) = false := beq_eq_false_iff_ne.mpr c83
          have c83b1 : (a0_2 != 0) = true := bne_iff_ne.mpr c83
          obtain rfl := Option.some.inj H
          go_enter Try.func18, Try.ntmps18
          go_wp2_with (first | ((with_reducible refine gate_dst (N := 1) rfl ?_); refine box_event ?hg (N := 1) ?hd (cs := #[.int .i64 a0_0, .int .i64 a0_1, .int .i64 a0_2, .int .i64 a0_3, .int .i64 a0_4, .int .i64 a0_5, .int .i64 a0_6]) (t := 28) ?hr ?_; (case hd => rfl); (case hg => rfl); (case hr => first | (go_simp; done) | (go_simp; rfl)); intro gb101 hg w86 hbox hb; have n0_ := Aside0.mk (below_step (by repeat (first | (with_reducible first | exact HB.out | apply below_alloc | apply pw_below_drewN | apply below_drew1) | exact HB.out)) hb); have n1_ := Aside0.mk (hbox); have n2_ := Aside0.mk ((by rw [hg]; exact (below_size (by repeat (first | (with_reducible first | exact HB.out | apply below_alloc | apply pw_below_drewN | apply below_drew1) | exact HB.out))) : w.heap.size ≤ gb101)); have n3_ := Aside0.mk ((by rw [hg]; exact (below_size (by repeat (first | (with_reducible first | exact HB.out | apply below_alloc | apply pw_below_drewN | apply below_drew1) | exact HB.out))) : w.heap.size ≤ gb101)); clear HB; have HB := n0_; have BK101 := n1_; have GW101 := n2_; have GE101 := n3_; clear n0_ n1_ n2_ n3_; clear hb hbox hg; have hcz87_0 : w86.cell? ⟨gb101, 0, none⟩ = some (.int .i64 a0_0) := (blk_cell BK101.out 0).trans rfl; have hcz87_1 : w86.cell? ⟨gb101, 1, none⟩ = some (.int .i64 a0_1) := (blk_cell BK101.out 1).trans rfl; have hcz87_2 : w86.cell? ⟨gb101, 2, none⟩ = some (.int .i64 a0_2) := (blk_cell BK101.out 2).trans rfl; have hcz87_3 : w86.cell? ⟨gb101, 3, none⟩ = some (.int .i64 a0_3) := (blk_cell BK101.out 3).trans rfl; have hcz87_4 : w86.cell? ⟨gb101, 4, none⟩ = some (.int .i64 a0_4) := (blk_cell BK101.out 4).trans rfl; have hcz87_5 : w86.cell? ⟨gb101, 5, none⟩ = some (.int .i64 a0_5) := (blk_cell BK101.out 5).trans rfl; have hcz87_6 : w86.cell? ⟨gb101, 6, none⟩ = some (.int .i64 a0_6) := (blk_cell BK101.out 6).trans rfl; have hfz87_0 := blk_frozen BK101.out 0; have hfz87_1 := blk_frozen BK101.out 1; have hfz87_2 := blk_frozen BK101.out 2; have hfz87_3 := blk_frozen BK101.out 3; have hfz87_4 := blk_frozen BK101.out 4; have hfz87_5 := blk_frozen BK101.out 5; have hfz87_6 := blk_frozen BK101.out 6) | ((with_reducible refine gate_callee (f := 39) rfl ?_); refine goesL_ (some 7) rfl rfl Try.func39 (by kernel_rfl) rfl #[.int .i64 a0_3, .int .i64 0, .int .i64 201] rfl (by (try simp only [List.map_toArray, List.map_cons, List.map_nil]); first | done | rfl | (simp only [List.length_drop, List.length_take]; rfl)) ?_; (with_reducible refine (head_within.calls a0_3 0 201 false _ A2.out).mono ?_); rintro e w' ⟨rfl, ⟨nd, rfl⟩⟩; refine ⟨_, rfl, ?_⟩))
          go_ret
          exact ⟨by first | rfl | (simp [errW_none, errW_some] <;> rfl) | (simp [*, errW_none, errW_some] <;> rfl), by repeat (first | (with_reducible first | exact HB.out | apply below_alloc | apply pw_below_drewN | apply below_drew1 | refine below_set ?_ GE101.out) | exact HB.out)⟩
      · rw [if_neg c82] at H
        have c82b0 : (a0_1 == a0_5) = false := beq_eq_false_iff_ne.mpr c82
        have c82b1 : (a0_1 != a0_5) = true := bne_iff_ne.mpr c82
        obtain rfl := Option.some.inj H
        go_enter Try.func18, Try.ntmps18
        go_wp2_with (first | ((with_reducible refine gate_dst (N := 1) rfl ?_); refine box_event ?hg (N := 1) ?hd (cs := #[.int .i64 a0_0, .int .i64 a0_1, .int .i64 a0_2, .int .i64 a0_3, .int .i64 a0_4, .int .i64 a0_5, .int .i64 a0_6]) (t := 28) ?hr ?_; (case hd => rfl); (case hg => rfl); (case hr => first | (go_simp; done) | (go_simp; rfl)); intro gb101 hg w88 hbox hb; have n0_ := Aside0.mk (below_step (by repeat (first | (with_reducible first | exact HB.out | apply below_alloc | apply pw_below_drewN | apply below_drew1) | exact HB.out)) hb); have n1_ := Aside0.mk (hbox); have n2_ := Aside0.mk ((by rw [hg]; exact (below_size (by repeat (first | (with_reducible first | exact HB.out | apply below_alloc | apply pw_below_drewN | apply below_drew1) | exact HB.out))) : w.heap.size ≤ gb101)); have n3_ := Aside0.mk ((by rw [hg]; exact (below_size (by repeat (first | (with_reducible first | exact HB.out | apply below_alloc | apply pw_below_drewN | apply below_drew1) | exact HB.out))) : w.heap.size ≤ gb101)); clear HB; have HB := n0_; have BK101 := n1_; have GW101 := n2_; have GE101 := n3_; clear n0_ n1_ n2_ n3_; clear hb hbox hg; have hcz89_0 : w88.cell? ⟨gb101, 0, none⟩ = some (.int .i64 a0_0) := (blk_cell BK101.out 0).trans rfl; have hcz89_1 : w88.cell? ⟨gb101, 1, none⟩ = some (.int .i64 a0_1) := (blk_cell BK101.out 1).trans rfl; have hcz89_2 : w88.cell? ⟨gb101, 2, none⟩ = some (.int .i64 a0_2) := (blk_cell BK101.out 2).trans rfl; have hcz89_3 : w88.cell? ⟨gb101, 3, none⟩ = some (.int .i64 a0_3) := (blk_cell BK101.out 3).trans rfl; have hcz89_4 : w88.cell? ⟨gb101, 4, none⟩ = some (.int .i64 a0_4) := (blk_cell BK101.out 4).trans rfl; have hcz89_5 : w88.cell? ⟨gb101, 5, none⟩ = some (.int .i64 a0_5) := (blk_cell BK101.out 5).trans rfl; have hcz89_6 : w88.cell? ⟨gb101, 6, none⟩ = some (.int .i64 a0_6) := (blk_cell BK101.out 6).trans rfl; have hfz89_0 := blk_frozen BK101.out 0; have hfz89_1 := blk_frozen BK101.out 1; have hfz89_2 := blk_frozen BK101.out 2; have hfz89_3 := blk_frozen BK101.out 3; have hfz89_4 := blk_frozen BK101.out 4; have hfz89_5 := blk_frozen BK101.out 5; have hfz89_6 := blk_frozen BK101.out 6) | ((with_reducible refine gate_callee (f := 39) rfl ?_); refine goesL_ (some 7) rfl rfl Try.func39 (by kernel_rfl) rfl #[.int .i64 a0_3, .int .i64 0, .int .i64 201] rfl (by (try simp only [List.map_toArray, List.map_cons, List.map_nil]); first | done | rfl | (simp only [List.length_drop, List.length_take]; rfl)) ?_; (with_reducible refine (head_within.calls a0_3 0 201 false _ A2.out).mono ?_); rintro e w' ⟨rfl, ⟨nd, rfl⟩⟩; refine ⟨_, rfl, ?_⟩))
        go_ret
        exact ⟨by first | rfl | (simp [errW_none, errW_some] <;> rfl) | (simp [*, errW_none, errW_some] <;> rfl), by repeat (first | (with_reducible first | exact HB.out | apply below_alloc | apply pw_below_drewN | apply below_drew1 | refine below_set ?_ GE101.out) | exact HB.out)⟩

end Go.Proofs.Ytpgjcnjojfehjaa.PRight
/- Heads: which are right, how many bytes follow: contracts, the document's too; no condition. -/
namespace Go.Proofs.Ytpgjcnjojfehjaa.Oct
open Go.RowKit Go.Proofs.YtpgjcnjojfehjaaW.PrintWords Go.Proofs.YtpgjcnjojfehjaaW.PrintLast Go.Proofs.YtpgjcnjojfehjaaW.PrintMore

/-- Which heads are right. -/
def rightS (v u s l t ty c : Int) : Bool := decide ((1 ≤ v ∧ v ≤ 4) ∧ (0 ≤ l ∧ l ≤ 201) ∧ (0 ≤ t ∧ t ≤ 2000) ∧ (1 ≤ ty ∧ ty ≤ 64) ∧ (1 ≤ c ∧ c ≤ 256) ∧ (u = 0 ∨ u = ty) ∧ (s = 0 ∨ s = ty))
theorem within_f (a b c : Int) : PRight.head_within.f a b c = some (decide (b ≤ a ∧ a ≤ c)) := by
  unfold PRight.head_within.f
  by_cases h : a ≥ b
  · rw [if_pos h]; congr 1; simp; omega
  · rw [if_neg h]; congr 1; simp; omega
theorem right_f (v u s l t ty c : Int) : PRight.head_Right.f v u s l t ty c = some (rightS v u s l t ty c) := by
  unfold PRight.head_Right.f rightS
  simp only [within_f, Option.bind_some, decide_eq_true_eq]
  repeat' split
  all_goals (congr 1; first | (simp only [decide_eq_decide]; omega) | (symm; simp only [decide_eq_false_iff_not]; omega))
theorem right_calls (v u s l t ty c : Int) (w : World) :
    Calls Try.prog 18 #[.agg #[.int .i64 v, .int .i64 u, .int .i64 s, .int .i64 l, .int .i64 t, .int .i64 ty, .int .i64 c]] w fun e w' => e = .returned (.bool (rightS v u s l t ty c)) ∧ Below w.heap.size w w' :=
  PRight.head_Right.calls v u s l t ty c _ w (right_f v u s l t ty c)

def sizeF (v u s l t ty c size : Int) : Int := match rightS v u s l t ty c with
  | true => if size = 4 ∨ size = 8 then t * (size + 1) + ty * 6 + c + l * (size + 4) + s + u else 0
  | false => 0
set_option maxHeartbeats 1000000 in
theorem size_calls (v u s l t ty c size : Int) (w : World) :
    Calls Try.prog 17 #[.agg #[.int .i64 v, .int .i64 u, .int .i64 s, .int .i64 l, .int .i64 t, .int .i64 ty, .int .i64 c], .int .i64 size] w fun e w' => e = .returned (.int .i64 (sizeF v u s l t ty c size)) ∧ Below w.heap.size w w' := by
  cases hr : rightS v u s l t ty c with
  | false =>
    have hs : sizeF v u s l t ty c size = 0 := by unfold sizeF; rw [hr]
    rw [hs]
    have HR := Aside0.mk hr
    clear hr hs
    go_enter Try.func17, Try.ntmps17
    go_wp2_with fail
    refine (right_calls v u s l t ty c _).mono ?_
    rintro e w1 ⟨rfl, hb⟩
    rw [HR.out]
    have HB := Aside0.mk hb
    clear hb
    go_wp2
    go_ret
    exact ⟨rfl, below_then (below_alloc (Below.refl _ _) _) (by simp) HB.out⟩
  | true =>
    have hR := of_decide_eq_true hr
    by_cases h48 : size = 4 ∨ size = 8
    · have hs : sizeF v u s l t ty c size = t * (size + 1) + ty * 6 + c + l * (size + 4) + s + u := by unfold sizeF; rw [hr]; exact if_pos h48
      have HR := Aside0.mk hr
      have HS := Aside0.mk hs
      have HX := Aside0.mk hR
      clear hr hs hR
      rcases h48 with rfl | rfl
      all_goals
        go_enter Try.func17, Try.ntmps17
        go_wp2_with fail
        refine (right_calls v u s l t ty c _).mono ?_
        rintro e w1 ⟨rfl, hb⟩
        rw [HR.out]
        have hbp : w1.heap[w.heap.size]? = some (.cells #[.int .i64 v, .int .i64 u, .int .i64 s, .int .i64 l, .int .i64 t, .int .i64 ty, .int .i64 c] 28 (0, 0)) := (hb.block _ (by simp)).trans (heap_alloc_new w _)
        have hc0 : w1.cell? ⟨w.heap.size, 0, none⟩ = some (.int .i64 v) := (blk_cell hbp 0).trans rfl
        have hc1 : w1.cell? ⟨w.heap.size, 1, none⟩ = some (.int .i64 u) := (blk_cell hbp 1).trans rfl
        have hc2 : w1.cell? ⟨w.heap.size, 2, none⟩ = some (.int .i64 s) := (blk_cell hbp 2).trans rfl
        have hc3 : w1.cell? ⟨w.heap.size, 3, none⟩ = some (.int .i64 l) := (blk_cell hbp 3).trans rfl
        have hc4 : w1.cell? ⟨w.heap.size, 4, none⟩ = some (.int .i64 t) := (blk_cell hbp 4).trans rfl
        have hc5 : w1.cell? ⟨w.heap.size, 5, none⟩ = some (.int .i64 ty) := (blk_cell hbp 5).trans rfl
        have hc6 : w1.cell? ⟨w.heap.size, 6, none⟩ = some (.int .i64 c) := (blk_cell hbp 6).trans rfl
        have HB := Aside0.mk hb
        clear hb hbp
        go_wp2
        go_ret
        refine ⟨?_, below_then (below_alloc (Below.refl _ _) _) (by simp) HB.out⟩
        have h := HX.out
        rw [HS.out]
        show Ending.returned (Value.int .i64 _) = Ending.returned (Value.int .i64 _)
        congr 2
        simp only [wrap64] at *
        omega
    · have hs : sizeF v u s l t ty c size = 0 := by unfold sizeF; rw [hr]; exact if_neg h48
      rw [hs]
      have HR := Aside0.mk hr
      have h4 : (size != 4) = true := bne_iff_ne.2 (fun e => h48 (.inl e))
      have h8 : (size != 8) = true := bne_iff_ne.2 (fun e => h48 (.inr e))
      clear hr hs hR h48
      go_enter Try.func17, Try.ntmps17
      go_wp2_with fail
      refine (right_calls v u s l t ty c _).mono ?_
      rintro e w1 ⟨rfl, hb⟩
      rw [HR.out]
      have HB := Aside0.mk hb
      clear hb
      go_wp2
      go_ret
      exact ⟨rfl, below_then (below_alloc (Below.refl _ _) _) (by simp) HB.out⟩

end Go.Proofs.Ytpgjcnjojfehjaa.Oct
/-
  DERIVED: THE SHELF's CONTRACTS AT THIS DUMP, IN PLAIN WORDS (tools/lay-plain.mjs out of 'TryShelf.lean', which tools/lay-shelf.mjs wrote): THE SAME DECLARATIONS UNDER THE SAME NAMES: 'import', 'namespace', 'open', 'def', 'theorem' AND NOTHING ELSE: no command of the shelf's: FOR A HAND-IN. Each laying: the table of numbers ('.._ren') and one theorem, a field a fact of the dump's own or the kernel's comparison; each contract: ONE APPLICATION.
-/
namespace Go.Proofs
open Go.Shelf
def Try.lays217_ren : Go.Shelf.Ren := ⟨fun | 217 => 57 | 266 => 62 | n => n, fun | 9 => 9 | 5 => 5 | 3 => 3 | n => n, fun | n => n⟩
theorem Try.lays217 : Go.Proofs.Lays.n217 Try.prog Try.lays217_ren := {
  mixed := by kernel_rfl
  f217 := Try.func57.trans (congrArg some (by kernel_rfl))
  f266 := Try.func62.trans (congrArg some (by kernel_rfl))
  t3 := Try.underlying3
  a3 := Try.isAgg3
  z3 := Try.sizeOf3
  v3 := Try.zeroValue3
  t5 := Try.underlying5
  a5 := Try.isAgg5
  z5 := Try.sizeOf5
  v5 := Try.zeroValue5
  t9 := Try.underlying9
  a9 := Try.isAgg9
  z9 := Try.sizeOf9
  v9 := Try.zeroValue9 }
open Go.RowKit Go.Lib in
/-- internal/stringslite.IndexByte (what strings.IndexByte calls): IT RETURNS 'Lib.indexByte s c'; the world is as it was. (LAID: no walk: one application.) -/
theorem Try.stringslite_IndexByte (s : ByteArray) (c : Int) (w : World) :
    Calls Try.prog 57 #[.string s, .int .u8 c] w fun e w' => e = .returned (.int .i64 (Lib.indexByte s.data.toList c.toNat.toUInt8)) ∧ w' = w := Any.stringslite_IndexByte Try.lays217 s c w
def Try.lays224_ren : Go.Shelf.Ren := ⟨fun | 224 => 59 | n => n, fun | 3 => 3 | n => n, fun | n => n⟩
theorem Try.lays224 : Go.Proofs.Lays.n224 Try.prog Try.lays224_ren := {
  mixed := by kernel_rfl
  f224 := Try.func59.trans (congrArg some (by kernel_rfl))
  t3 := Try.underlying3
  a3 := Try.isAgg3
  z3 := Try.sizeOf3
  v3 := Try.zeroValue3 }
open Go.RowKit Go.Lib in
/-- internal/bytealg.Cutover: "Cutover reports the number of failures of IndexByte we should tolerate before switching over to Index. n is the number of bytes processed so far.": on amd64: (n + 16) / 8. (LAID: no walk: one application.) -/
theorem Try.bytealg_Cutover (n : Int) (h0 : 0 ≤ n) (h1 : n < 4611686018427387904) (w : World) :
    Calls Try.prog 59 #[.int .i64 n] w fun e w' => e = .returned (.int .i64 ((n + 16) / 8)) ∧ w' = w := Any.bytealg_Cutover Try.lays224 n h0 h1 w
def Try.lays314_ren : Go.Shelf.Ren := ⟨fun | 314 => 63 | n => n, fun | 9 => 9 | 51 => 92 | 3 => 3 | 4 => 4 | 5 => 5 | 46 => 84 | n => n, fun | n => n⟩
theorem Try.lays314 : Go.Proofs.Lays.n314 Try.prog Try.lays314_ren := {
  mixed := by kernel_rfl
  f314 := Try.func63.trans (congrArg some (by kernel_rfl))
  t3 := Try.underlying3
  a3 := Try.isAgg3
  z3 := Try.sizeOf3
  v3 := Try.zeroValue3
  t4 := Try.underlying4
  a4 := Try.isAgg4
  z4 := Try.sizeOf4
  v4 := Try.zeroValue4
  t5 := Try.underlying5
  a5 := Try.isAgg5
  z5 := Try.sizeOf5
  v5 := Try.zeroValue5
  t9 := Try.underlying9
  a9 := Try.isAgg9
  z9 := Try.sizeOf9
  v9 := Try.zeroValue9
  t46 := Try.underlying84
  a46 := Try.isAgg84
  z46 := Try.sizeOf84
  v46 := Try.zeroValue84
  t51 := Try.underlying92
  a51 := Try.isAgg92
  z51 := Try.sizeOf92
  v51 := Try.zeroValue92 }
open Go.RowKit Go.Lib in
/-- hashStr: "returns the hash and the appropriate multiplicative factor for use in Rabin-Karp algorithm": THE HASH OF ALL OF sep, AND 16777619 ^ len(sep), both in uint32. (LAID: no walk: one application.) -/
theorem Try.bytealg_hashStr (sep : ByteArray) (hs : sep.size < 4294967281) (w : World) :
    Calls Try.prog 63 #[.string sep] w fun e w' => e = .returned (.tuple #[.int .u32 (RK.H sep.data.toList % 4294967296), .int .u32 (16777619 ^ sep.size % 4294967296)]) ∧ w' = w := Any.bytealg_hashStr Try.lays314 sep hs w
def Try.lays267_ren : Go.Shelf.Ren := ⟨fun | 267 => 60 | 314 => 63 | n => n, fun | 9 => 9 | 3 => 3 | 146 => 102 | 51 => 92 | 4 => 4 | 5 => 5 | 46 => 84 | n => n, fun | n => n⟩
theorem Try.lays267 : Go.Proofs.Lays.n267 Try.prog Try.lays267_ren := {
  mixed := by kernel_rfl
  f267 := Try.func60.trans (congrArg some (by kernel_rfl))
  f314 := Try.func63.trans (congrArg some (by kernel_rfl))
  t3 := Try.underlying3
  a3 := Try.isAgg3
  z3 := Try.sizeOf3
  v3 := Try.zeroValue3
  t4 := Try.underlying4
  a4 := Try.isAgg4
  z4 := Try.sizeOf4
  v4 := Try.zeroValue4
  t5 := Try.underlying5
  a5 := Try.isAgg5
  z5 := Try.sizeOf5
  v5 := Try.zeroValue5
  t9 := Try.underlying9
  a9 := Try.isAgg9
  z9 := Try.sizeOf9
  v9 := Try.zeroValue9
  t46 := Try.underlying84
  a46 := Try.isAgg84
  z46 := Try.sizeOf84
  v46 := Try.zeroValue84
  t51 := Try.underlying92
  a51 := Try.isAgg92
  z51 := Try.sizeOf92
  v51 := Try.zeroValue92
  t146 := Try.underlying102
  a146 := Try.isAgg102
  z146 := Try.sizeOf102
  v146 := Try.zeroValue102 }
open Go.RowKit Go.Lib in
theorem Try.bytealg_IndexRabinKarp (s sep : ByteArray) (h1 : 1 ≤ sep.size) (h2 : sep.size ≤ s.size) (hs : s.size < 4294967281) (w : World) :
    Calls Try.prog 60 #[.string s, .string sep] w fun e w' => e = .returned (.int .i64 (Lib.index s.data.toList sep.data.toList)) ∧ w' = w := Any.bytealg_IndexRabinKarp Try.lays267 s sep h1 h2 hs w
def Try.lays219_ren : Go.Shelf.Ren := ⟨fun | 219 => 55 | 217 => 57 | 225 => 58 | 224 => 59 | 267 => 60 | 266 => 62 | 314 => 63 | n => n, fun | 9 => 9 | 3 => 3 | 4 => 4 | 5 => 5 | 46 => 84 | 146 => 102 | 51 => 92 | n => n, fun | 1 => 0 | n => n⟩
theorem Try.lays219 : Go.Proofs.Lays.n219 Try.prog Try.lays219_ren := {
  mixed := by kernel_rfl
  f217 := Try.func57.trans (congrArg some (by kernel_rfl))
  f219 := Try.func55.trans (congrArg some (by kernel_rfl))
  f224 := Try.func59.trans (congrArg some (by kernel_rfl))
  f225 := Try.func58.trans (congrArg some (by kernel_rfl))
  f266 := Try.func62.trans (congrArg some (by kernel_rfl))
  f267 := Try.func60.trans (congrArg some (by kernel_rfl))
  f314 := Try.func63.trans (congrArg some (by kernel_rfl))
  t3 := Try.underlying3
  a3 := Try.isAgg3
  z3 := Try.sizeOf3
  v3 := Try.zeroValue3
  t4 := Try.underlying4
  a4 := Try.isAgg4
  z4 := Try.sizeOf4
  v4 := Try.zeroValue4
  t5 := Try.underlying5
  a5 := Try.isAgg5
  z5 := Try.sizeOf5
  v5 := Try.zeroValue5
  t9 := Try.underlying9
  a9 := Try.isAgg9
  z9 := Try.sizeOf9
  v9 := Try.zeroValue9
  t46 := Try.underlying84
  a46 := Try.isAgg84
  z46 := Try.sizeOf84
  v46 := Try.zeroValue84
  t51 := Try.underlying92
  a51 := Try.isAgg92
  z51 := Try.sizeOf92
  v51 := Try.zeroValue92
  t146 := Try.underlying102
  a146 := Try.isAgg102
  z146 := Try.sizeOf102
  v146 := Try.zeroValue102
  g1 := by kernel_rfl }
open Go.RowKit Go.Lib in
/-- internal/stringslite.Index (what strings.Index calls) AT A substr OF ONE BYTE c: IT RETURNS 'Lib.indexByte s c'; the world is as it was. (LAID: no walk: one application.) -/
theorem Try.stringslite_Index_one (s : ByteArray) (c : UInt8) (w : World) :
    Calls Try.prog 55 #[.string s, .string ⟨#[c]⟩] w fun e w' => e = .returned (.int .i64 (Lib.indexByte s.data.toList c)) ∧ w' = w := Any.stringslite_Index_one Try.lays219 s c w
open Go.RowKit Go.Lib in
/-- internal/stringslite.Index (what strings.Index calls) AT A substr OF WHATEVER LENGTH: IT RETURNS 'Lib.index s substr'; the world is as it was. 'm': what internal/bytealg.MaxLen holds: whatever. (LAID: no walk: one application.) -/
theorem Try.stringslite_Index (s sub : ByteArray) (m : Int) (w : World) (hs : s.size < 4294967281) (hm : w.cell? ⟨0, 0, none⟩ = some (.int .i64 m)) :
    Calls Try.prog 55 #[.string s, .string sub] w fun e w' => e = .returned (.int .i64 (Lib.index s.data.toList sub.data.toList)) ∧ w' = w := Any.stringslite_Index Try.lays219 s sub m w hs hm
def Try.lays220_ren : Go.Shelf.Ren := ⟨fun | 220 => 50 | 219 => 55 | 217 => 57 | 225 => 58 | 224 => 59 | 267 => 60 | 266 => 62 | 314 => 63 | n => n, fun | 9 => 9 | 4 => 4 | 3 => 3 | 5 => 5 | 46 => 84 | 146 => 102 | 51 => 92 | n => n, fun | 1 => 0 | n => n⟩
theorem Try.lays220 : Go.Proofs.Lays.n220 Try.prog Try.lays220_ren := {
  mixed := by kernel_rfl
  f217 := Try.func57.trans (congrArg some (by kernel_rfl))
  f219 := Try.func55.trans (congrArg some (by kernel_rfl))
  f220 := Try.func50.trans (congrArg some (by kernel_rfl))
  f224 := Try.func59.trans (congrArg some (by kernel_rfl))
  f225 := Try.func58.trans (congrArg some (by kernel_rfl))
  f266 := Try.func62.trans (congrArg some (by kernel_rfl))
  f267 := Try.func60.trans (congrArg some (by kernel_rfl))
  f314 := Try.func63.trans (congrArg some (by kernel_rfl))
  t3 := Try.underlying3
  a3 := Try.isAgg3
  z3 := Try.sizeOf3
  v3 := Try.zeroValue3
  t4 := Try.underlying4
  a4 := Try.isAgg4
  z4 := Try.sizeOf4
  v4 := Try.zeroValue4
  t5 := Try.underlying5
  a5 := Try.isAgg5
  z5 := Try.sizeOf5
  v5 := Try.zeroValue5
  t9 := Try.underlying9
  a9 := Try.isAgg9
  z9 := Try.sizeOf9
  v9 := Try.zeroValue9
  t46 := Try.underlying84
  a46 := Try.isAgg84
  z46 := Try.sizeOf84
  v46 := Try.zeroValue84
  t51 := Try.underlying92
  a51 := Try.isAgg92
  z51 := Try.sizeOf92
  v51 := Try.zeroValue92
  t146 := Try.underlying102
  a146 := Try.isAgg102
  z146 := Try.sizeOf102
  v146 := Try.zeroValue102
  g1 := by kernel_rfl }
open Go.RowKit Go.Lib in
/-- internal/stringslite.Cut (what strings.Cut calls): IT RETURNS 'Lib.cut s sep'; the world is as it was but for the count of draws. (LAID: no walk: one application.) -/
theorem Try.stringslite_Cut (s sep : ByteArray) (m : Int) (w : World) (hs : s.size < 4294967281) (hm : w.cell? ⟨0, 0, none⟩ = some (.int .i64 m)) :
    Calls Try.prog 50 #[.string s, .string sep] w fun e w' => e = .returned (.tuple #[.string ⟨(Lib.cut s.data.toList sep.data.toList).1.toArray⟩, .string ⟨(Lib.cut s.data.toList sep.data.toList).2.1.toArray⟩, .bool (Lib.cut s.data.toList sep.data.toList).2.2]) ∧ ∃ n, w' = w.drewN n := Any.stringslite_Cut Try.lays220 s sep m w hs hm
def Try.lays145_ren : Go.Shelf.Ren := ⟨fun | 145 => 46 | 220 => 50 | 219 => 55 | 217 => 57 | 225 => 58 | 224 => 59 | 267 => 60 | 266 => 62 | 314 => 63 | n => n, fun | 9 => 9 | 4 => 4 | 59 => 85 | 3 => 3 | 5 => 5 | 46 => 84 | 146 => 102 | 51 => 92 | n => n, fun | 1 => 0 | n => n⟩
theorem Try.lays145 : Go.Proofs.Lays.n145 Try.prog Try.lays145_ren := {
  mixed := by kernel_rfl
  f145 := Try.func46.trans (congrArg some (by kernel_rfl))
  f217 := Try.func57.trans (congrArg some (by kernel_rfl))
  f219 := Try.func55.trans (congrArg some (by kernel_rfl))
  f220 := Try.func50.trans (congrArg some (by kernel_rfl))
  f224 := Try.func59.trans (congrArg some (by kernel_rfl))
  f225 := Try.func58.trans (congrArg some (by kernel_rfl))
  f266 := Try.func62.trans (congrArg some (by kernel_rfl))
  f267 := Try.func60.trans (congrArg some (by kernel_rfl))
  f314 := Try.func63.trans (congrArg some (by kernel_rfl))
  t3 := Try.underlying3
  a3 := Try.isAgg3
  z3 := Try.sizeOf3
  v3 := Try.zeroValue3
  t4 := Try.underlying4
  a4 := Try.isAgg4
  z4 := Try.sizeOf4
  v4 := Try.zeroValue4
  t5 := Try.underlying5
  a5 := Try.isAgg5
  z5 := Try.sizeOf5
  v5 := Try.zeroValue5
  t9 := Try.underlying9
  a9 := Try.isAgg9
  z9 := Try.sizeOf9
  v9 := Try.zeroValue9
  t46 := Try.underlying84
  a46 := Try.isAgg84
  z46 := Try.sizeOf84
  v46 := Try.zeroValue84
  t51 := Try.underlying92
  a51 := Try.isAgg92
  z51 := Try.sizeOf92
  v51 := Try.zeroValue92
  t59 := Try.underlying85
  a59 := Try.isAgg85
  z59 := Try.sizeOf85
  v59 := Try.zeroValue85
  t146 := Try.underlying102
  a146 := Try.isAgg102
  z146 := Try.sizeOf102
  v146 := Try.zeroValue102
  g1 := by kernel_rfl }
open Go.RowKit Go.Lib in
/-- strings.Cut: "Cut slices s around the first instance of sep, returning the text before and after sep. The found result reports whether sep appears in s. If sep does not appear in s, cut returns s, "", false.": IT RETURNS 'Lib.cut s sep'; the world is as it was but for the count of draws. (LAID: no walk: one application.) -/
theorem Try.strings_Cut (s sep : ByteArray) (m : Int) (w : World) (hs : s.size < 4294967281) (hm : w.cell? ⟨0, 0, none⟩ = some (.int .i64 m)) :
    Calls Try.prog 46 #[.string s, .string sep] w fun e w' => e = .returned (.tuple #[.string ⟨(Lib.cut s.data.toList sep.data.toList).1.toArray⟩, .string ⟨(Lib.cut s.data.toList sep.data.toList).2.1.toArray⟩, .bool (Lib.cut s.data.toList sep.data.toList).2.2]) ∧ ∃ n, w' = w.drewN n := Any.strings_Cut Try.lays145 s sep m w hs hm
def Try.laysM219_ren : Go.Shelf.Ren := ⟨fun | 219 => 55 | 217 => 57 | 225 => 58 | 224 => 59 | 267 => 60 | 266 => 62 | 314 => 63 | n => n, fun | 9 => 9 | 3 => 3 | 4 => 4 | 5 => 5 | 46 => 84 | 146 => 102 | 51 => 92 | n => n, fun | 1 => 0 | n => n⟩
theorem Try.laysM219 : Go.Proofs.LaysM.n219 Try.prog Try.laysM219_ren := {
  mixed := by kernel_rfl
  f217 := Try.func57.trans (congrArg some (by kernel_rfl))
  f219 := Try.func55.trans (congrArg some (by kernel_rfl))
  f224 := Try.func59.trans (congrArg some (by kernel_rfl))
  f225 := Try.func58.trans (congrArg some (by kernel_rfl))
  f266 := Try.func62.trans (congrArg some (by kernel_rfl))
  f267 := Try.func60.trans (congrArg some (by kernel_rfl))
  f314 := Try.func63.trans (congrArg some (by kernel_rfl))
  t3 := Try.underlying3
  a3 := Try.isAgg3
  z3 := Try.sizeOf3
  v3 := Try.zeroValue3
  t4 := Try.underlying4
  a4 := Try.isAgg4
  z4 := Try.sizeOf4
  v4 := Try.zeroValue4
  t5 := Try.underlying5
  a5 := Try.isAgg5
  z5 := Try.sizeOf5
  v5 := Try.zeroValue5
  t9 := Try.underlying9
  a9 := Try.isAgg9
  z9 := Try.sizeOf9
  v9 := Try.zeroValue9
  t46 := Try.underlying84
  a46 := Try.isAgg84
  z46 := Try.sizeOf84
  v46 := Try.zeroValue84
  t51 := Try.underlying92
  a51 := Try.isAgg92
  z51 := Try.sizeOf92
  v51 := Try.zeroValue92
  t146 := Try.underlying102
  a146 := Try.isAgg102
  z146 := Try.sizeOf102
  v146 := Try.zeroValue102
  g1 := by kernel_rfl
  i3 := by kernel_rfl
  i4 := by kernel_rfl
  i5 := by kernel_rfl
  i9 := by kernel_rfl
  i46 := by kernel_rfl
  i51 := by kernel_rfl
  i146 := by kernel_rfl
  m1 := by kernel_rfl
  s1_3 := fun w h => Go.Proofs.cell_of_shapedOpen_int (zero := #[.int .i64 0]) (t := 3) h (of_decide_eq_true (by kernel_rfl)) (by kernel_rfl) rfl (by kernel_rfl) (by kernel_rfl) Try.underlying3 }
open Go.RowKit Go.Lib in
theorem Try.stringslite_Index_shaped (s sub : ByteArray) (w : World) (h : w.ShapedOpen Try.prog) (hs : s.size < 4294967281) :
    Calls Try.prog 55 #[.string s, .string sub] w fun e w' => e = .returned (.int .i64 (Lib.index s.data.toList sub.data.toList)) ∧ w' = w := Any.stringslite_Index_shaped Try.laysM219 s sub w h hs
def Try.laysM220_ren : Go.Shelf.Ren := ⟨fun | 220 => 50 | 219 => 55 | 217 => 57 | 225 => 58 | 224 => 59 | 267 => 60 | 266 => 62 | 314 => 63 | n => n, fun | 9 => 9 | 4 => 4 | 3 => 3 | 5 => 5 | 46 => 84 | 146 => 102 | 51 => 92 | n => n, fun | 1 => 0 | n => n⟩
theorem Try.laysM220 : Go.Proofs.LaysM.n220 Try.prog Try.laysM220_ren := {
  mixed := by kernel_rfl
  f217 := Try.func57.trans (congrArg some (by kernel_rfl))
  f219 := Try.func55.trans (congrArg some (by kernel_rfl))
  f220 := Try.func50.trans (congrArg some (by kernel_rfl))
  f224 := Try.func59.trans (congrArg some (by kernel_rfl))
  f225 := Try.func58.trans (congrArg some (by kernel_rfl))
  f266 := Try.func62.trans (congrArg some (by kernel_rfl))
  f267 := Try.func60.trans (congrArg some (by kernel_rfl))
  f314 := Try.func63.trans (congrArg some (by kernel_rfl))
  t3 := Try.underlying3
  a3 := Try.isAgg3
  z3 := Try.sizeOf3
  v3 := Try.zeroValue3
  t4 := Try.underlying4
  a4 := Try.isAgg4
  z4 := Try.sizeOf4
  v4 := Try.zeroValue4
  t5 := Try.underlying5
  a5 := Try.isAgg5
  z5 := Try.sizeOf5
  v5 := Try.zeroValue5
  t9 := Try.underlying9
  a9 := Try.isAgg9
  z9 := Try.sizeOf9
  v9 := Try.zeroValue9
  t46 := Try.underlying84
  a46 := Try.isAgg84
  z46 := Try.sizeOf84
  v46 := Try.zeroValue84
  t51 := Try.underlying92
  a51 := Try.isAgg92
  z51 := Try.sizeOf92
  v51 := Try.zeroValue92
  t146 := Try.underlying102
  a146 := Try.isAgg102
  z146 := Try.sizeOf102
  v146 := Try.zeroValue102
  g1 := by kernel_rfl
  i3 := by kernel_rfl
  i4 := by kernel_rfl
  i5 := by kernel_rfl
  i9 := by kernel_rfl
  i46 := by kernel_rfl
  i51 := by kernel_rfl
  i146 := by kernel_rfl
  m1 := by kernel_rfl
  s1_3 := fun w h => Go.Proofs.cell_of_shapedOpen_int (zero := #[.int .i64 0]) (t := 3) h (of_decide_eq_true (by kernel_rfl)) (by kernel_rfl) rfl (by kernel_rfl) (by kernel_rfl) Try.underlying3 }
open Go.RowKit Go.Lib in
theorem Try.stringslite_Cut_shaped (s sep : ByteArray) (w : World) (h : w.ShapedOpen Try.prog) (hs : s.size < 4294967281) :
    Calls Try.prog 50 #[.string s, .string sep] w fun e w' => e = .returned (.tuple #[.string ⟨(Lib.cut s.data.toList sep.data.toList).1.toArray⟩, .string ⟨(Lib.cut s.data.toList sep.data.toList).2.1.toArray⟩, .bool (Lib.cut s.data.toList sep.data.toList).2.2]) ∧ ∃ n, w' = w.drewN n := Any.stringslite_Cut_shaped Try.laysM220 s sep w h hs
def Try.laysM145_ren : Go.Shelf.Ren := ⟨fun | 145 => 46 | 220 => 50 | 219 => 55 | 217 => 57 | 225 => 58 | 224 => 59 | 267 => 60 | 266 => 62 | 314 => 63 | n => n, fun | 9 => 9 | 4 => 4 | 59 => 85 | 3 => 3 | 5 => 5 | 46 => 84 | 146 => 102 | 51 => 92 | n => n, fun | 1 => 0 | n => n⟩
theorem Try.laysM145 : Go.Proofs.LaysM.n145 Try.prog Try.laysM145_ren := {
  mixed := by kernel_rfl
  f145 := Try.func46.trans (congrArg some (by kernel_rfl))
  f217 := Try.func57.trans (congrArg some (by kernel_rfl))
  f219 := Try.func55.trans (congrArg some (by kernel_rfl))
  f220 := Try.func50.trans (congrArg some (by kernel_rfl))
  f224 := Try.func59.trans (congrArg some (by kernel_rfl))
  f225 := Try.func58.trans (congrArg some (by kernel_rfl))
  f266 := Try.func62.trans (congrArg some (by kernel_rfl))
  f267 := Try.func60.trans (congrArg some (by kernel_rfl))
  f314 := Try.func63.trans (congrArg some (by kernel_rfl))
  t3 := Try.underlying3
  a3 := Try.isAgg3
  z3 := Try.sizeOf3
  v3 := Try.zeroValue3
  t4 := Try.underlying4
  a4 := Try.isAgg4
  z4 := Try.sizeOf4
  v4 := Try.zeroValue4
  t5 := Try.underlying5
  a5 := Try.isAgg5
  z5 := Try.sizeOf5
  v5 := Try.zeroValue5
  t9 := Try.underlying9
  a9 := Try.isAgg9
  z9 := Try.sizeOf9
  v9 := Try.zeroValue9
  t46 := Try.underlying84
  a46 := Try.isAgg84
  z46 := Try.sizeOf84
  v46 := Try.zeroValue84
  t51 := Try.underlying92
  a51 := Try.isAgg92
  z51 := Try.sizeOf92
  v51 := Try.zeroValue92
  t59 := Try.underlying85
  a59 := Try.isAgg85
  z59 := Try.sizeOf85
  v59 := Try.zeroValue85
  t146 := Try.underlying102
  a146 := Try.isAgg102
  z146 := Try.sizeOf102
  v146 := Try.zeroValue102
  g1 := by kernel_rfl
  i3 := by kernel_rfl
  i4 := by kernel_rfl
  i5 := by kernel_rfl
  i9 := by kernel_rfl
  i46 := by kernel_rfl
  i51 := by kernel_rfl
  i59 := by kernel_rfl
  i146 := by kernel_rfl
  m1 := by kernel_rfl
  s1_3 := fun w h => Go.Proofs.cell_of_shapedOpen_int (zero := #[.int .i64 0]) (t := 3) h (of_decide_eq_true (by kernel_rfl)) (by kernel_rfl) rfl (by kernel_rfl) (by kernel_rfl) Try.underlying3 }
open Go.RowKit Go.Lib in
theorem Try.strings_Cut_shaped (s sep : ByteArray) (w : World) (h : w.ShapedOpen Try.prog) (hs : s.size < 4294967281) :
    Calls Try.prog 46 #[.string s, .string sep] w fun e w' => e = .returned (.tuple #[.string ⟨(Lib.cut s.data.toList sep.data.toList).1.toArray⟩, .string ⟨(Lib.cut s.data.toList sep.data.toList).2.1.toArray⟩, .bool (Lib.cut s.data.toList sep.data.toList).2.2]) ∧ ∃ n, w' = w.drewN n := Any.strings_Cut_shaped Try.laysM145 s sep w h hs
def Try.lays315_ren : Go.Shelf.Ren := ⟨fun | 315 => 61 | n => n, fun | 9 => 9 | 40 => 95 | 4 => 4 | 3 => 3 | 0 => 0 | 21 => 21 | n => n, fun | n => n⟩
theorem Try.lays315 : Go.Proofs.Lays.n315 Try.prog Try.lays315_ren := {
  mixed := by kernel_rfl
  f315 := Try.func61.trans (congrArg some (by kernel_rfl))
  t0 := Try.underlying0
  a0 := Try.isAgg0
  z0 := Try.sizeOf0
  v0 := Try.zeroValue0
  t3 := Try.underlying3
  a3 := Try.isAgg3
  z3 := Try.sizeOf3
  v3 := Try.zeroValue3
  t4 := Try.underlying4
  a4 := Try.isAgg4
  z4 := Try.sizeOf4
  v4 := Try.zeroValue4
  t9 := Try.underlying9
  a9 := Try.isAgg9
  z9 := Try.sizeOf9
  v9 := Try.zeroValue9
  t21 := Try.underlying21
  a21 := Try.isAgg21
  z21 := Try.sizeOf21
  v21 := Try.zeroValue21
  t40 := Try.underlying95
  a40 := Try.isAgg95
  z40 := Try.sizeOf95
  v40 := Try.zeroValue95 }
open Go.RowKit Go.Lib in
theorem Try.strings_indexFunc (g : Nat) (lb : Array Value) (eg : ∀ args w, (callFunc g args).run Try.prog w = .ok (.enter g args) w) (p : Nat → Bool) (truth : Bool) (s : ByteArray) (w : World) (hp : PredAt Try.prog g lb encR p w) :
    Calls Try.prog 61 #[.string s, .func (.func g) #[] lb, .bool truth] w fun e w' => e = .returned (.int .i64 (Lib.idxFunc p truth s)) ∧ Below w.heap.size w w' := Any.strings_indexFunc Try.lays315 g lb eg p truth s w hp
def Try.laysGw15_ren : Go.Shelf.Ren := ⟨fun | 15 => 56 | 20 => 61 | n => n, fun | 9 => 9 | 23 => 95 | 3 => 3 | 4 => 4 | 0 => 0 | 21 => 21 | n => n, fun | n => n⟩
theorem Try.laysGw15 : Go.Proofs.LaysGw.n15 Try.prog Try.laysGw15_ren := {
  mixed := by kernel_rfl
  f15 := Try.func56.trans (congrArg some (by kernel_rfl))
  f20 := Try.func61.trans (congrArg some (by kernel_rfl))
  t0 := Try.underlying0
  a0 := Try.isAgg0
  z0 := Try.sizeOf0
  v0 := Try.zeroValue0
  i0 := by kernel_rfl
  t3 := Try.underlying3
  a3 := Try.isAgg3
  z3 := Try.sizeOf3
  v3 := Try.zeroValue3
  i3 := by kernel_rfl
  t4 := Try.underlying4
  a4 := Try.isAgg4
  z4 := Try.sizeOf4
  v4 := Try.zeroValue4
  i4 := by kernel_rfl
  t9 := Try.underlying9
  a9 := Try.isAgg9
  z9 := Try.sizeOf9
  v9 := Try.zeroValue9
  i9 := by kernel_rfl
  t21 := Try.underlying21
  a21 := Try.isAgg21
  z21 := Try.sizeOf21
  v21 := Try.zeroValue21
  i21 := by kernel_rfl
  t23 := Try.underlying95
  a23 := Try.isAgg95
  z23 := Try.sizeOf95
  v23 := Try.zeroValue95
  i23 := by kernel_rfl }
open Go.RowKit Go.Lib in
theorem Try.strings_IndexFunc (g : Nat) (lb : Array Value) (eg : ∀ args w, (callFunc g args).run Try.prog w = .ok (.enter g args) w) (p : Nat → Bool) (s : ByteArray) (w : World) (hp : PredAt Try.prog g lb encR p w) :
    Calls Try.prog 56 #[.string s, .func (.func g) #[] lb] w fun e w' => e = .returned (.int .i64 (Lib.idxFunc p true s)) ∧ Below w.heap.size w w' := Any.strings_IndexFunc Try.laysGw15 g lb eg p s w hp
def Try.laysGw17_ren : Go.Shelf.Ren := ⟨fun | 17 => 53 | 15 => 56 | 20 => 61 | n => n, fun | 9 => 9 | 23 => 95 | 4 => 4 | 3 => 3 | 0 => 0 | 21 => 21 | n => n, fun | n => n⟩
theorem Try.laysGw17 : Go.Proofs.LaysGw.n17 Try.prog Try.laysGw17_ren := {
  mixed := by kernel_rfl
  f15 := Try.func56.trans (congrArg some (by kernel_rfl))
  f17 := Try.func53.trans (congrArg some (by kernel_rfl))
  f20 := Try.func61.trans (congrArg some (by kernel_rfl))
  t0 := Try.underlying0
  a0 := Try.isAgg0
  z0 := Try.sizeOf0
  v0 := Try.zeroValue0
  i0 := by kernel_rfl
  t3 := Try.underlying3
  a3 := Try.isAgg3
  z3 := Try.sizeOf3
  v3 := Try.zeroValue3
  i3 := by kernel_rfl
  t4 := Try.underlying4
  a4 := Try.isAgg4
  z4 := Try.sizeOf4
  v4 := Try.zeroValue4
  i4 := by kernel_rfl
  t9 := Try.underlying9
  a9 := Try.isAgg9
  z9 := Try.sizeOf9
  v9 := Try.zeroValue9
  i9 := by kernel_rfl
  t21 := Try.underlying21
  a21 := Try.isAgg21
  z21 := Try.sizeOf21
  v21 := Try.zeroValue21
  i21 := by kernel_rfl
  t23 := Try.underlying95
  a23 := Try.isAgg95
  z23 := Try.sizeOf95
  v23 := Try.zeroValue95
  i23 := by kernel_rfl }
open Go.RowKit Go.Lib in
theorem Try.strings_ContainsFunc (g : Nat) (lb : Array Value) (eg : ∀ args w, (callFunc g args).run Try.prog w = .ok (.enter g args) w) (p : Nat → Bool) (s : ByteArray) (w : World) (hp : PredAt Try.prog g lb encR p w) :
    Calls Try.prog 53 #[.string s, .func (.func g) #[] lb] w fun e w' => e = .returned (.bool (decide (0 ≤ Lib.idxFunc p true s))) ∧ Below w.heap.size w w' := Any.strings_ContainsFunc Try.laysGw17 g lb eg p s w hp
end Go.Proofs
-- Written by a program of this session (wip/print/setup.py turns the kit's print tool)
namespace Go.Proofs.Ytpgjcnjojfehjaa.Pgood
open Go.RowKit Go.Proofs.YtpgjcnjojfehjaaW.PrintWords Go.Proofs.YtpgjcnjojfehjaaW.PrintLast Go.Proofs.YtpgjcnjojfehjaaW.PrintMore
attribute [local go_sem] max2_int min2_int max_two min_two max_three min_three max_four min_four   -- for this text's walks alone
set_option linter.unusedVariables false
set_option linter.unusedSimpArgs false



def errW : Option Int → Value
  | none => .nilIface
  | some c => .iface 0 (.int .i64 c)
theorem errW_none : errW none = .nilIface := rfl
theorem errW_some (c : Int) : errW (some c) = .iface 0 (.int .i64 c) := rfl

-- the values' own types

end Go.Proofs.Ytpgjcnjojfehjaa.Pgood
-- Written by a program of this session (wip/print/setup.py turns the kit's print tool)
namespace Go.Proofs.Ytpgjcnjojfehjaa.Pgood
open Go.RowKit Go.Proofs.YtpgjcnjojfehjaaW.PrintWords Go.Proofs.YtpgjcnjojfehjaaW.PrintLast Go.Proofs.YtpgjcnjojfehjaaW.PrintMore
attribute [local go_sem] max2_int min2_int max_two min_two max_three min_three max_four min_four   -- for this text's walks alone
set_option linter.unusedVariables false
set_option linter.unusedSimpArgs false

/-! ### abbr_good: function 52 -/
def abbr_good.f (a0 : Int) : Option (Bool) := if a0 ≥ 97 then (if a0 ≤ 122 then (some true) else (if a0 ≥ 65 then (if a0 ≤ 90 then (some true) else (if a0 ≥ 48 then (if a0 ≤ 57 then (some true) else (if a0 = 43 then (some true) else (some (a0 == 45)))) else (if a0 = 43 then (some true) else (some (a0 == 45))))) else (if a0 ≥ 48 then (if a0 ≤ 57 then (some true) else (if a0 = 43 then (some true) else (some (a0 == 45)))) else (if a0 = 43 then (some true) else (some (a0 == 45)))))) else (if a0 ≥ 65 then (if a0 ≤ 90 then (some true) else (if a0 ≥ 48 then (if a0 ≤ 57 then (some true) else (if a0 = 43 then (some true) else (some (a0 == 45)))) else (if a0 = 43 then (some true) else (some (a0 == 45))))) else (if a0 ≥ 48 then (if a0 ≤ 57 then (some true) else (if a0 = 43 then (some true) else (some (a0 == 45)))) else (if a0 = 43 then (some true) else (some (a0 == 45)))))
set_option maxHeartbeats 8000000 in
set_option maxRecDepth 100000 in
theorem abbr_good.calls (a0 : Int) (r : Bool) (w : World) (h : abbr_good.f a0 = some r) :
    Calls Try.prog 52 #[.int .i32 a0] w fun e w' => e = .returned (.bool r) ∧ Drawn0 w w' := by
  have H : (if a0 ≥ 97 then (if a0 ≤ 122 then (some true) else (if a0 ≥ 65 then (if a0 ≤ 90 then (some true) else (if a0 ≥ 48 then (if a0 ≤ 57 then (some true) else (if a0 = 43 then (some true) else (some (a0 == 45)))) else (if a0 = 43 then (some true) else (some (a0 == 45))))) else (if a0 ≥ 48 then (if a0 ≤ 57 then (some true) else (if a0 = 43 then (some true) else (some (a0 == 45)))) else (if a0 = 43 then (some true) else (some (a0 == 45)))))) else (if a0 ≥ 65 then (if a0 ≤ 90 then (some true) else (if a0 ≥ 48 then (if a0 ≤ 57 then (some true) else (if a0 = 43 then (some true) else (some (a0 == 45)))) else (if a0 = 43 then (some true) else (some (a0 == 45))))) else (if a0 ≥ 48 then (if a0 ≤ 57 then (some true) else (if a0 = 43 then (some true) else (some (a0 == 45)))) else (if a0 = 43 then (some true) else (some (a0 == 45)))))) = some r := h
  clear h
  by_cases c2 : a0 ≥ 97
  · rw [if_pos c2] at H
    have c2b0 : decide (97 ≤ a0) = true := decide_eq_true c2
    clear c2
    by_cases c3 : a0 ≤ 122
    · rw [if_pos c3] at H
      have c3b0 : decide (a0 ≤ 122) = true := decide_eq_true c3
      clear c3
      obtain rfl := Option.some.inj H
      go_enter Try.func52, Try.ntmps52
      go_wp2
      go_ret
      exact ⟨by first | rfl | (simp; done) | (simp [*]; done), by repeat (first | exact Drawn0.refl _ | apply Drawn0.step)⟩
    · rw [if_neg c3] at H
      have c3b0 : decide (a0 ≤ 122) = false := decide_eq_false c3
      clear c3
      by_cases c4 : a0 ≥ 65
      · rw [if_pos c4] at H
        have c4b0 : decide (65 ≤ a0) = true := decide_eq_true c4
        clear c4
        by_cases c5 : a0 ≤ 90
        · rw [if_pos c5] at H
          have c5b0 : decide (a0 ≤ 90) = true := decide_eq_true c5
          clear c5
          obtain rfl := Option.some.inj H
          go_enter Try.func52, Try.ntmps52
          go_wp2
          go_ret
          exact ⟨by first | rfl | (simp; done) | (simp [*]; done), by repeat (first | exact Drawn0.refl _ | apply Drawn0.step)⟩
        · rw [if_neg c5] at H
          have c5b0 : decide (a0 ≤ 90) = false := decide_eq_false c5
          clear c5
          by_cases c6 : a0 ≥ 48
          · rw [if_pos c6] at H
            have c6b0 : decide (48 ≤ a0) = true := decide_eq_true c6
            clear c6
            by_cases c7 : a0 ≤ 57
            · rw [if_pos c7] at H
              have c7b0 : decide (a0 ≤ 57) = true := decide_eq_true c7
              clear c7
              obtain rfl := Option.some.inj H
              go_enter Try.func52, Try.ntmps52
              go_wp2
              go_ret
              exact ⟨by first | rfl | (simp; done) | (simp [*]; done), by repeat (first | exact Drawn0.refl _ | apply Drawn0.step)⟩
            · rw [if_neg c7] at H
              have c7b0 : decide (a0 ≤ 57) = false := decide_eq_false c7
              clear c7
              by_cases c8 : a0 = 43
              · rw [if_pos c8] at H
                have c8b0 : (a0 == 43) = true := beq_iff_eq.mpr c8
                have c8b1 : (a0 != 43) = false := bne_eq_false_iff_eq.mpr c8
                clear c8
                obtain rfl := Option.some.inj H
                go_enter Try.func52, Try.ntmps52
                go_wp2
                go_ret
                exact ⟨by first | rfl | (simp; done) | (simp [*]; done), by repeat (first | exact Drawn0.refl _ | apply Drawn0.step)⟩
              · rw [if_neg c8] at H
                have c8b0 : (a0 == 43) = false := beq_eq_false_iff_ne.mpr c8
                have c8b1 : (a0 != 43) = true := bne_iff_ne.mpr c8
                obtain rfl := Option.some.inj H
                go_enter Try.func52, Try.ntmps52
                go_wp2
                go_ret
                exact ⟨by first | rfl | (simp; done) | (simp [*]; done), by repeat (first | exact Drawn0.refl _ | apply Drawn0.step)⟩
          · rw [if_neg c6] at H
            have c6b0 : decide (48 ≤ a0) = false := decide_eq_false c6
            clear c6
            by_cases c9 : a0 = 43
            · rw [if_pos c9] at H
              have c9b0 : (a0 == 43) = true := beq_iff_eq.mpr c9
              have c9b1 : (a0 != 43) = false := bne_eq_false_iff_eq.mpr c9
              clear c9
              obtain rfl := Option.some.inj H
              go_enter Try.func52, Try.ntmps52
              go_wp2
              go_ret
              exact ⟨by first | rfl | (simp; done) | (simp [*]; done), by repeat (first | exact Drawn0.refl _ | apply Drawn0.step)⟩
            · rw [if_neg c9] at H
              have c9b0 : (a0 == 43) = false := beq_eq_false_iff_ne.mpr c9
              have c9b1 : (a0 != 43) = true := bne_iff_ne.mpr c9
              obtain rfl := Option.some.inj H
              go_enter Try.func52, Try.ntmps52
              go_wp2
              go_ret
              exact ⟨by first | rfl | (simp; done) | (simp [*]; done), by repeat (first | exact Drawn0.refl _ | apply Drawn0.step)⟩
      · rw [if_neg c4] at H
        have c4b0 : decide (65 ≤ a0) = false := decide_eq_false c4
        clear c4
        by_cases c10 : a0 ≥ 48
        · rw [if_pos c10] at H
          have c10b0 : decide (48 ≤ a0) = true := decide_eq_true c10
          clear c10
          by_cases c11 : a0 ≤ 57
          · rw [if_pos c11] at H
            have c11b0 : decide (a0 ≤ 57) = true := decide_eq_true c11
            clear c11
            obtain rfl := Option.some.inj H
            go_enter Try.func52, Try.ntmps52
            go_wp2
            go_ret
            exact ⟨by first | rfl | (simp; done) | (simp [*]; done), by repeat (first | exact Drawn0.refl _ | apply Drawn0.step)⟩
          · rw [if_neg c11] at H
            have c11b0 : decide (a0 ≤ 57) = false := decide_eq_false c11
            clear c11
            by_cases c12 : a0 = 43
            · rw [if_pos c12] at H
              have c12b0 : (a0 == 43) = true := beq_iff_eq.mpr c12
              have c12b1 : (a0 != 43) = false := bne_eq_false_iff_eq.mpr c12
              clear c12
              obtain rfl := Option.some.inj H
              go_enter Try.func52, Try.ntmps52
              go_wp2
              go_ret
              exact ⟨by first | rfl | (simp; done) | (simp [*]; done), by repeat (first | exact Drawn0.refl _ | apply Drawn0.step)⟩
            · rw [if_neg c12] at H
              have c12b0 : (a0 == 43) = false := beq_eq_false_iff_ne.mpr c12
              have c12b1 : (a0 != 43) = true := bne_iff_ne.mpr c12
              obtain rfl := Option.some.inj H
              go_enter Try.func52, Try.ntmps52
              go_wp2
              go_ret
              exact ⟨by first | rfl | (simp; done) | (simp [*]; done), by repeat (first | exact Drawn0.refl _ | apply Drawn0.step)⟩
        · rw [if_neg c10] at H
          have c10b0 : decide (48 ≤ a0) = false := decide_eq_false c10
          clear c10
          by_cases c13 : a0 = 43
          · rw [if_pos c13] at H
            have c13b0 : (a0 == 43) = true := beq_iff_eq.mpr c13
            have c13b1 : (a0 != 43) = false := bne_eq_false_iff_eq.mpr c13
            clear c13
            obtain rfl := Option.some.inj H
            go_enter Try.func52, Try.ntmps52
            go_wp2
            go_ret
            exact ⟨by first | rfl | (simp; done) | (simp [*]; done), by repeat (first | exact Drawn0.refl _ | apply Drawn0.step)⟩
          · rw [if_neg c13] at H
            have c13b0 : (a0 == 43) = false := beq_eq_false_iff_ne.mpr c13
            have c13b1 : (a0 != 43) = true := bne_iff_ne.mpr c13
            obtain rfl := Option.some.inj H
            go_enter Try.func52, Try.ntmps52
            go_wp2
            go_ret
            exact ⟨by first | rfl | (simp; done) | (simp [*]; done), by repeat (first | exact Drawn0.refl _ | apply Drawn0.step)⟩
  · rw [if_neg c2] at H
    have c2b0 : decide (97 ≤ a0) = false := decide_eq_false c2
    clear c2
    by_cases c14 : a0 ≥ 65
    · rw [if_pos c14] at H
      have c14b0 : decide (65 ≤ a0) = true := decide_eq_true c14
      clear c14
      by_cases c15 : a0 ≤ 90
      · rw [if_pos c15] at H
        have c15b0 : decide (a0 ≤ 90) = true := decide_eq_true c15
        clear c15
        obtain rfl := Option.some.inj H
        go_enter Try.func52, Try.ntmps52
        go_wp2
        go_ret
        exact ⟨by first | rfl | (simp; done) | (simp [*]; done), by repeat (first | exact Drawn0.refl _ | apply Drawn0.step)⟩
      · rw [if_neg c15] at H
        have c15b0 : decide (a0 ≤ 90) = false := decide_eq_false c15
        clear c15
        by_cases c16 : a0 ≥ 48
        · rw [if_pos c16] at H
          have c16b0 : decide (48 ≤ a0) = true := decide_eq_true c16
          clear c16
          by_cases c17 : a0 ≤ 57
          · rw [if_pos c17] at H
            have c17b0 : decide (a0 ≤ 57) = true := decide_eq_true c17
            clear c17
            obtain rfl := Option.some.inj H
            go_enter Try.func52, Try.ntmps52
            go_wp2
            go_ret
            exact ⟨by first | rfl | (simp; done) | (simp [*]; done), by repeat (first | exact Drawn0.refl _ | apply Drawn0.step)⟩
          · rw [if_neg c17] at H
            have c17b0 : decide (a0 ≤ 57) = false := decide_eq_false c17
            clear c17
            by_cases c18 : a0 = 43
            · rw [if_pos c18] at H
              have c18b0 : (a0 == 43) = true := beq_iff_eq.mpr c18
              have c18b1 : (a0 != 43) = false := bne_eq_false_iff_eq.mpr c18
              clear c18
              obtain rfl := Option.some.inj H
              go_enter Try.func52, Try.ntmps52
              go_wp2
              go_ret
              exact ⟨by first | rfl | (simp; done) | (simp [*]; done), by repeat (first | exact Drawn0.refl _ | apply Drawn0.step)⟩
            · rw [if_neg c18] at H
              have c18b0 : (a0 == 43) = false := beq_eq_false_iff_ne.mpr c18
              have c18b1 : (a0 != 43) = true := bne_iff_ne.mpr c18
              obtain rfl := Option.some.inj H
              go_enter Try.func52, Try.ntmps52
              go_wp2
              go_ret
              exact ⟨by first | rfl | (simp; done) | (simp [*]; done), by repeat (first | exact Drawn0.refl _ | apply Drawn0.step)⟩
        · rw [if_neg c16] at H
          have c16b0 : decide (48 ≤ a0) = false := decide_eq_false c16
          clear c16
          by_cases c19 : a0 = 43
          · rw [if_pos c19] at H
            have c19b0 : (a0 == 43) = true := beq_iff_eq.mpr c19
            have c19b1 : (a0 != 43) = false := bne_eq_false_iff_eq.mpr c19
            clear c19
            obtain rfl := Option.some.inj H
            go_enter Try.func52, Try.ntmps52
            go_wp2
            go_ret
            exact ⟨by first | rfl | (simp; done) | (simp [*]; done), by repeat (first | exact Drawn0.refl _ | apply Drawn0.step)⟩
          · rw [if_neg c19] at H
            have c19b0 : (a0 == 43) = false := beq_eq_false_iff_ne.mpr c19
            have c19b1 : (a0 != 43) = true := bne_iff_ne.mpr c19
            obtain rfl := Option.some.inj H
            go_enter Try.func52, Try.ntmps52
            go_wp2
            go_ret
            exact ⟨by first | rfl | (simp; done) | (simp [*]; done), by repeat (first | exact Drawn0.refl _ | apply Drawn0.step)⟩
    · rw [if_neg c14] at H
      have c14b0 : decide (65 ≤ a0) = false := decide_eq_false c14
      clear c14
      by_cases c20 : a0 ≥ 48
      · rw [if_pos c20] at H
        have c20b0 : decide (48 ≤ a0) = true := decide_eq_true c20
        clear c20
        by_cases c21 : a0 ≤ 57
        · rw [if_pos c21] at H
          have c21b0 : decide (a0 ≤ 57) = true := decide_eq_true c21
          clear c21
          obtain rfl := Option.some.inj H
          go_enter Try.func52, Try.ntmps52
          go_wp2
          go_ret
          exact ⟨by first | rfl | (simp; done) | (simp [*]; done), by repeat (first | exact Drawn0.refl _ | apply Drawn0.step)⟩
        · rw [if_neg c21] at H
          have c21b0 : decide (a0 ≤ 57) = false := decide_eq_false c21
          clear c21
          by_cases c22 : a0 = 43
          · rw [if_pos c22] at H
            have c22b0 : (a0 == 43) = true := beq_iff_eq.mpr c22
            have c22b1 : (a0 != 43) = false := bne_eq_false_iff_eq.mpr c22
            clear c22
            obtain rfl := Option.some.inj H
            go_enter Try.func52, Try.ntmps52
            go_wp2
            go_ret
            exact ⟨by first | rfl | (simp; done) | (simp [*]; done), by repeat (first | exact Drawn0.refl _ | apply Drawn0.step)⟩
          · rw [if_neg c22] at H
            have c22b0 : (a0 == 43) = false := beq_eq_false_iff_ne.mpr c22
            have c22b1 : (a0 != 43) = true := bne_iff_ne.mpr c22
            obtain rfl := Option.some.inj H
            go_enter Try.func52, Try.ntmps52
            go_wp2
            go_ret
            exact ⟨by first | rfl | (simp; done) | (simp [*]; done), by repeat (first | exact Drawn0.refl _ | apply Drawn0.step)⟩
      · rw [if_neg c20] at H
        have c20b0 : decide (48 ≤ a0) = false := decide_eq_false c20
        clear c20
        by_cases c23 : a0 = 43
        · rw [if_pos c23] at H
          have c23b0 : (a0 == 43) = true := beq_iff_eq.mpr c23
          have c23b1 : (a0 != 43) = false := bne_eq_false_iff_eq.mpr c23
          clear c23
          obtain rfl := Option.some.inj H
          go_enter Try.func52, Try.ntmps52
          go_wp2
          go_ret
          exact ⟨by first | rfl | (simp; done) | (simp [*]; done), by repeat (first | exact Drawn0.refl _ | apply Drawn0.step)⟩
        · rw [if_neg c23] at H
          have c23b0 : (a0 == 43) = false := beq_eq_false_iff_ne.mpr c23
          have c23b1 : (a0 != 43) = true := bne_iff_ne.mpr c23
          obtain rfl := Option.some.inj H
          go_enter Try.func52, Try.ntmps52
          go_wp2
          go_ret
          exact ⟨by first | rfl | (simp; done) | (simp [*]; done), by repeat (first | exact Drawn0.refl _ | apply Drawn0.step)⟩

/-- THE ONE PURE STATEMENT of abbr_good: yours. -/
def abbr_good.Pure : Prop := ∀ (a0 : Int), (Lit.int .i32 a0).wf = true → abbr_good.f a0 = some true
theorem abbr_good.walk (P : abbr_good.Pure) (a0 : Int) (w : World) (w0 : (Lit.int .i32 a0).wf = true) :
    Calls Try.prog 52 #[.int .i32 a0] w fun e w' => e = .returned (.bool true) ∧ Below w.heap.size w w' := by
  have h := P a0 w0
  refine (abbr_good.calls a0 true w h).mono ?_
  rintro e w' ⟨rfl, hd⟩
  exact ⟨rfl, hd.below⟩

end Go.Proofs.Ytpgjcnjojfehjaa.Pgood
/- abbr: which names are right: good, its denial, Right; condition: none. -/
namespace Go.Proofs.Ytpgjcnjojfehjaa.Ab
open Go.RowKit Go.Proofs.YtpgjcnjojfehjaaW.PrintWords Go.Proofs.YtpgjcnjojfehjaaW.PrintLast Go.Proofs.YtpgjcnjojfehjaaW.PrintMore

def goodB (c : Int) : Bool := decide ((97 ≤ c ∧ c ≤ 122) ∨ (65 ≤ c ∧ c ≤ 90) ∨ (48 ≤ c ∧ c ≤ 57) ∨ c = 43 ∨ c = 45)
set_option maxHeartbeats 2000000 in
theorem good_f (c : Int) : Pgood.abbr_good.f c = some (goodB c) := by
  unfold Pgood.abbr_good.f
  have h45 : (c == 45) = decide (c = 45) := rfl
  rw [h45]
  (repeat' split) <;> (congr 1; unfold goodB; rw [eq_comm]; first | (rw [decide_eq_true_eq]; omega) | (rw [decide_eq_decide]; omega))
theorem good_calls (c : Int) (w : World) : Calls Try.prog 52 #[.int .i32 c] w fun e w' => e = .returned (.bool (goodB c)) ∧ Drawn0 w w' :=
  Pgood.abbr_good.calls c _ w (good_f c)
theorem bad_calls (c : Int) (w : World) : Calls Try.prog 51 #[.int .i32 c] w fun e w' => e = .returned (.bool (!goodB c)) ∧ ∃ q, w' = w.drewN q := by
  go_enter Try.func51, Try.ntmps51
  go_wp2_with fail
  refine (good_calls c _).mono ?_
  rintro e w' ⟨rfl, hd⟩
  obtain ⟨q, rfl⟩ := hd.out
  go_wp2
  go_ret
  exact ⟨rfl, q, rfl⟩
theorem bad_pred (w : World) : PredAt Try.prog 51 #[] encR (fun n => !goodB (n : Int)) w := fun W x _ => bad_calls (x : Int) W
theorem contains_calls (s : ByteArray) (w : World) :
    Calls Try.prog 53 #[.string s, .func (.func 51) #[] #[]] w fun e w' => e = .returned (.bool (decide (0 ≤ Lib.idxFunc (fun n => !goodB (n : Int)) true s))) ∧ Below w.heap.size w w' :=
  Try.strings_ContainsFunc 51 #[] (fun args w => enters_ Try.func51 (by kernel_rfl) (by kernel_rfl) args w) _ s w (bad_pred w)
/-- Which names are right. -/
def rightN (s : ByteArray) : Bool := decide (3 ≤ s.size ∧ s.size ≤ 16) && s.data.toList.all (fun b => goodB (b.toNat : Int))
theorem good_low {n : Nat} (h : goodB (n : Int) = true) : n < 128 := by
  have := of_decide_eq_true h
  omega
theorem decode_high {s : ByteArray} {pos : Nat} (h : 128 ≤ (s.get! pos).toNat) : 128 ≤ (Utf8.decode s pos).1 := by
  rw [Lib.decode_at]
  generalize (s.get! pos).toNat = b0 at *
  unfold Lib.decodeN
  (repeat' split) <;> (try simp only) <;> omega
theorem decode_low {s : ByteArray} {pos : Nat} (h : (s.get! pos).toNat < 128) : Utf8.decode s pos = ((s.get! pos).toNat, 1) := by
  rw [Lib.decode_at]
  unfold Lib.decodeN
  rw [if_pos h]
theorem get_at {s : ByteArray} {pos : Nat} (h : pos < s.size) : s.data.toList.drop pos = s.get! pos :: s.data.toList.drop (pos + 1) := by
  have h' : pos < s.data.toList.length := by rw [Array.length_toList]; exact h
  rw [List.drop_eq_getElem_cons h']
  congr 1
  have h2 : pos < s.data.size := h
  show _ = s.data[pos]!
  rw [getElem!_pos s.data pos h2, Array.getElem_toList]
theorem idx_from (s : ByteArray) : ∀ f pos : Nat, s.size ≤ pos + f → decide (0 ≤ Lib.idxFuncFrom (fun n => !goodB (n : Int)) true s f pos) = (s.data.toList.drop pos).any (fun b => !goodB (b.toNat : Int))
  | 0, pos, h => by
    rw [List.drop_of_length_le (by rw [Array.length_toList]; exact h)]
    rfl
  | f + 1, pos, h => by
    by_cases hp : pos < s.size
    · rw [get_at hp, List.any_cons]
      unfold Lib.idxFuncFrom
      rw [if_pos hp]
      by_cases hg : goodB ((s.get! pos).toNat : Int) = true
      · have hlow := good_low hg
        rw [decode_low hlow, hg, if_neg (by simp), idx_from s f (pos + 1) (by omega)]
        rfl
      · rw [Bool.eq_false_iff.mpr hg]
        have hb : goodB ((Utf8.decode s pos).1 : Int) = false := by
          by_cases hl : (s.get! pos).toNat < 128
          · rw [decode_low hl]; exact Bool.eq_false_iff.mpr hg
          · refine Bool.eq_false_iff.mpr fun hc => ?_
            have h1 := good_low hc
            have h2 := decode_high (s := s) (pos := pos) (by omega)
            omega
        rw [hb, if_pos (show (!false) = true from rfl)]
        simp
    · rw [List.drop_of_length_le (by rw [Array.length_toList]; have : s.data.size = s.size := rfl; omega), Lib.idxFuncFrom_end _ _ _ _ _ hp]
      rfl
theorem idx_any (s : ByteArray) : decide (0 ≤ Lib.idxFunc (fun n => !goodB (n : Int)) true s) = s.data.toList.any (fun b => !goodB (b.toNat : Int)) := by
  unfold Lib.idxFunc
  rw [idx_from s s.size 0 (by omega), List.drop_zero]
theorem rightN_eq (s : ByteArray) : rightN s = (decide (3 ≤ s.size ∧ s.size ≤ 16) && !s.data.toList.any (fun b => !goodB (b.toNat : Int))) := by
  unfold rightN
  rw [List.not_any_eq_all_not]
  simp
set_option maxHeartbeats 1000000 in
theorem right_calls (s : ByteArray) (w : World) (hs : s.size ≤ 9223372036854775807) :
    Calls Try.prog 47 #[.string s] w fun e w' => e = .returned (.bool (rightN s)) ∧ Below w.heap.size w w' := by
  have hc := contains_calls s
  rw [idx_any] at hc
  have HQ := rightN_eq s
  generalize rightN s = r at *
  generalize (s.data.toList.any (fun b => !goodB (b.toNat : Int))) = q at *
  by_cases h3 : 3 ≤ s.size
  · by_cases h16 : s.size ≤ 16
    · rw [decide_eq_true ⟨h3, h16⟩, Bool.true_and] at HQ
      subst HQ
      go_enter Try.func47, Try.ntmps47
      go_wp2_with fail
      refine (hc _).mono ?_
      rintro e w' ⟨rfl, hb⟩
      go_wp2
      go_ret
      exact ⟨rfl, hb⟩
    · rw [decide_eq_false (by omega), Bool.false_and] at HQ
      subst HQ
      clear hc
      go_enter Try.func47, Try.ntmps47
      go_wp2
      go_ret
      exact ⟨rfl, Below.refl _ _⟩
  · rw [decide_eq_false (by omega), Bool.false_and] at HQ
    subst HQ
    clear hc
    go_enter Try.func47, Try.ntmps47
    go_wp2
    go_ret
    exact ⟨rfl, Below.refl _ _⟩
end Go.Proofs.Ytpgjcnjojfehjaa.Ab
/- abbr.At: what stands at a place: the walk (strings.Cut at a byte 0, At); condition: none. -/
namespace Go.Proofs.Ytpgjcnjojfehjaa.Ab
open Go.RowKit Go.Proofs.YtpgjcnjojfehjaaW.PrintWords Go.Proofs.YtpgjcnjojfehjaaW.PrintLast Go.Proofs.YtpgjcnjojfehjaaW.PrintMore

theorem index_cases : ∀ l : List UInt8, (Lib.indexByte l 0 = -1 ∧ ∀ j : Nat, l[j]? ≠ some 0) ∨ ∃ i : Nat, Lib.indexByte l 0 = (i : Int) ∧ i < l.length ∧ l[i]? = some 0 ∧ ∀ j < i, l[j]? ≠ some 0
  | [] => .inl ⟨rfl, fun j => by simp⟩
  | b :: l => by
    by_cases hb : b = 0
    · subst hb
      exact .inr ⟨0, by simp [Lib.indexByte], by simp, by simp, fun j hj => by omega⟩
    · have hb' : (b == 0) = false := beq_eq_false_iff_ne.mpr hb
      rcases index_cases l with ⟨h, hn⟩ | ⟨i, h, hi, h0, hn⟩
      · refine .inl ⟨by simp [Lib.indexByte, hb', h], fun j => ?_⟩
        cases j with
        | zero => simpa using hb
        | succ j => simpa using hn j
      · refine .inr ⟨i + 1, ?_, by rw [List.length_cons]; omega, by simpa using h0, fun j hj => ?_⟩
        · have : ¬ ((i : Int) == -1) = true := by rw [beq_iff_eq]; omega
          simp only [Lib.indexByte, hb', h]
          rw [if_neg Bool.false_ne_true, if_neg this]
          simp
        · cases j with
          | zero => simpa using hb
          | succ j => simpa using hn j (by omega)
set_option maxHeartbeats 1000000 in
theorem lcut_hit (s : ByteArray) (i : Nat) (h : Lib.indexByte s.data.toList 0 = (i : Int)) (hi : i < s.size) (hs : s.size ≤ 9223372036854775807) (w : World) :
    Calls Try.prog 50 #[.string s, .string ⟨#[0]⟩] w fun e w' => e = .returned (.tuple #[.string (s.extract 0 i), .string (s.extract (i + 1) s.size), .bool true]) ∧ ∃ n, w' = w.drewN n := by
  have HI := Try.stringslite_Index_one s 0 w
  rw [h] at HI
  have c1 : (0 : Int) ≤ (i : Int) := by omega
  have c2 : (i : Int) ≤ (s.size : Int) := by omega
  have c3 : (0 : Int) ≤ (i : Int) + 1 := by omega
  have c4 : (i : Int) + 1 ≤ (s.size : Int) := by omega
  clear h
  go_enter Try.func50, Try.ntmps50
  go_wp2_with fail
  refine HI.mono ?_
  rintro e w' ⟨rfl, rfl⟩
  go_wp2
  go_quiet (fail)
  go_wp2
  go_ret3
  exact ⟨rfl, nq, rfl⟩
theorem lcut_miss (s : ByteArray) (h : Lib.indexByte s.data.toList 0 = -1) (w : World) :
    Calls Try.prog 50 #[.string s, .string ⟨#[0]⟩] w fun e w' => e = .returned (.tuple #[.string s, .string ⟨#[]⟩, .bool false]) ∧ ∃ n, w' = w.drewN n := by
  have HI := Try.stringslite_Index_one s 0 w
  rw [h] at HI
  clear h
  go_enter Try.func50, Try.ntmps50
  go_wp2_with fail
  refine HI.mono ?_
  rintro e w' ⟨rfl, rfl⟩
  go_wp2
  go_ret3
  exact ⟨rfl, 0, rfl⟩
theorem cut_of {s t u : ByteArray} {b : Bool} {w : World} (h : Calls Try.prog 50 #[.string s, .string ⟨#[0]⟩] w fun e w' => e = .returned (.tuple #[.string t, .string u, .bool b]) ∧ ∃ n, w' = w.drewN n) :
    Calls Try.prog 46 #[.string s, .string ⟨#[0]⟩] w fun e w' => e = .returned (.tuple #[.string t, .string u, .bool b]) ∧ ∃ n, w' = w.drewN n := by
  go_enter Try.func46, Try.ntmps46
  go_wp2_with fail
  refine h.mono ?_
  rintro e w' ⟨rfl, n, rfl⟩
  go_wp2
  go_ret3
  exact ⟨rfl, n, rfl⟩
def atT (t : ByteArray) : Int → ByteArray × Bool
  | .ofNat i => match rightN (t.extract 0 i) with
    | true => (t.extract 0 i, true)
    | false => (⟨#[]⟩, false)
  | .negSucc _ => (⟨#[]⟩, false)
/-- What stands at a place. -/
def atN (pool : ByteArray) (at_ : Int) : ByteArray × Bool := match decide (0 ≤ at_ ∧ at_ < pool.size) with
  | true => atT (pool.extract at_.toNat pool.size) (Lib.indexByte (pool.extract at_.toNat pool.size).data.toList 0)
  | false => (⟨#[]⟩, false)
set_option maxHeartbeats 2000000 in
theorem at_calls (pool : ByteArray) (at_ : Int) (r1 : ByteArray) (r2 : Bool) (w : World) (hs : pool.size ≤ 9223372036854775807) (h : atN pool at_ = (r1, r2)) :
    Calls Try.prog 30 #[.string pool, .int .i64 at_] w fun e w' => e = .returned (.tuple #[.string r1, .bool r2]) ∧ Below w.heap.size w w' := by
  unfold atN at h
  by_cases h0 : 0 ≤ at_
  · by_cases h1 : at_ < pool.size
    · rw [decide_eq_true ⟨h0, h1⟩] at h
      have h1' : at_ ≤ pool.size := by omega
      generalize ht : pool.extract at_.toNat pool.size = t at *
      have hts : t.size ≤ 9223372036854775807 := by rw [← ht, ByteArray.size_extract]; omega
      rcases index_cases t.data.toList with ⟨hi, _⟩ | ⟨i, hi, hil, _, _⟩
      · rw [hi] at h
        injection h with e1 e2
        subst e1 e2
        have HC := fun W => cut_of (lcut_miss t hi W)
        go_enter Try.func30, Try.ntmps30
        go_wp2_with fail
        refine (HC _).mono ?_
        rintro e w' ⟨rfl, n, rfl⟩
        go_wp2
        go_ret2
        exact ⟨rfl, pw_below_drewN (Below.refl _ _) n⟩
      · rw [hi] at h
        have hil' : i < t.size := by rw [Array.length_toList] at hil; exact hil
        have HC := fun W => cut_of (lcut_hit t i hi hil' hts W)
        have HRT := fun W => right_calls (t.extract 0 i) W (by rw [ByteArray.size_extract]; omega)
        have h' : (match rightN (t.extract 0 i) with | true => (t.extract 0 i, true) | false => ((⟨#[]⟩ : ByteArray), false)) = (r1, r2) := h
        clear h hi
        cases hq : rightN (t.extract 0 i) with
        | true =>
          rw [hq] at h' HRT
          injection h' with e1 e2
          subst e1 e2
          clear hq
          go_enter Try.func30, Try.ntmps30
          go_wp2_with fail
          refine (HC _).mono ?_
          rintro e w' ⟨rfl, n, rfl⟩
          go_wp2_with fail
          refine (HRT _).mono ?_
          rintro e w2 ⟨rfl, hb⟩
          go_wp2
          go_ret2
          exact ⟨rfl, (pw_below_drewN (Below.refl _ _) n).trans hb⟩
        | false =>
          rw [hq] at h' HRT
          injection h' with e1 e2
          subst e1 e2
          clear hq
          go_enter Try.func30, Try.ntmps30
          go_wp2_with fail
          refine (HC _).mono ?_
          rintro e w' ⟨rfl, n, rfl⟩
          go_wp2_with fail
          refine (HRT _).mono ?_
          rintro e w2 ⟨rfl, hb⟩
          go_wp2
          go_ret2
          exact ⟨rfl, (pw_below_drewN (Below.refl _ _) n).trans hb⟩
    · rw [decide_eq_false (by omega)] at h
      injection h with e1 e2
      subst e1 e2
      have h1' : at_ ≥ pool.size := by omega
      go_enter Try.func30, Try.ntmps30
      go_wp2
      go_ret2
      exact ⟨rfl, Below.refl _ _⟩
  · rw [decide_eq_false (by omega)] at h
    injection h with e1 e2
    subst e1 e2
    have h0' : at_ < 0 := by omega
    go_enter Try.func30, Try.ntmps30
    go_wp2
    go_ret2
    exact ⟨rfl, Below.refl _ _⟩
end Go.Proofs.Ytpgjcnjojfehjaa.Ab
/- abbr.Pool: names in a pool: the walk (a map, strings that grow); condition: at most 1000 names. -/
namespace Go.Proofs.Ytpgjcnjojfehjaa.Ab
open Go.RowKit Go.Proofs.YtpgjcnjojfehjaaW.PrintWords Go.Proofs.YtpgjcnjojfehjaaW.PrintLast Go.Proofs.YtpgjcnjojfehjaaW.PrintMore

def look : List (ByteArray × Int) → ByteArray → Option Int
  | [], _ => none
  | (s, k) :: r, t => if s = t then some k else look r t
/-- Names in a pool: the pool, which names it has and where, and where each begins; none: a name is wrong. -/
def poolS : List ByteArray → ByteArray → List (ByteArray × Int) → List Int → Option (ByteArray × List Int)
  | [], p, _, at_ => some (p, at_)
  | s :: r, p, had, at_ => match rightN s with
    | false => none
    | true => match look had s with
      | some k => poolS r p had (at_ ++ [k])
      | none => poolS r (p ++ (s ++ ⟨#[0]⟩)) ((s, p.size) :: had) (at_ ++ [(p.size : Int)])
def poolE : Option (ByteArray × List Int) → ByteArray × List Int × Bool
  | none => (⟨#[]⟩, [], false)
  | some (p, at_) => match decide (p.size > 256) with
    | true => (⟨#[]⟩, [], false)
    | false => (p, at_, true)
def poolT (l : List ByteArray) : ByteArray × List Int × Bool := poolE (poolS l ⟨#[]⟩ [] [])
/-- What the map holds. -/
def MapIs (D : DataW Unit) (had : List (ByteArray × Int)) : Prop := ∀ s : ByteArray, Maps.has D (.string s.data.toList) = (look had s).isSome ∧ ∀ k, look had s = some k → ∀ z, D.atKey (.string s.data.toList) z = .lit (.int .i64 k)
theorem law9 : Go.Maps.Keyed Try.prog 9 := Go.Maps.string_keyed Try.underlying9
theorem zero3 (w : World) : (zeroValue 3).run Try.prog w = .ok (.int .i64 0) w := by kernel_rfl
theorem info3 : (Try.prog.info? 3).map (fun i => (i.zero, i.size, i.bytes)) = some (some (.int .i64 0), 1, 8) := by kernel_rfl
theorem right_size {s : ByteArray} (h : rightN s = true) : 3 ≤ s.size ∧ s.size ≤ 16 := by
  unfold rightN at h
  rw [Bool.and_eq_true, decide_eq_true_eq] at h
  exact h.1
theorem mapIs_nil : MapIs (.map []) [] := fun s => ⟨rfl, fun k h => by cases h⟩
theorem key_ne {s t : ByteArray} (h : s ≠ t) : Lit.string s.data.toList ≠ Lit.string t.data.toList := fun e => h (by
  injection e with e
  cases s; cases t
  simp only at e
  congr
  exact Array.toList_inj.mp e)
theorem keyLit {l : List UInt8} : WideAt.IsKeyLit (.string l) := by first | trivial | exact ⟨_, rfl⟩ | simp [WideAt.IsKeyLit]
theorem mapIs_put {D : DataW Unit} {had : List (ByteArray × Int)} (h : MapIs D had) (hm : Maps.IsMap D) (t : ByteArray) (n : Int) : MapIs (D.put (.string t.data.toList) (.lit (.int .i64 n))) ((t, n) :: had) := fun s => by
  by_cases hs : t = s
  · subst hs
    have hl : look ((t, n) :: had) t = some n := if_pos rfl
    rw [hl]
    refine ⟨Maps.has_put_same hm keyLit _, fun k hk z => ?_⟩
    injection hk with hk
    subst hk
    exact Maps.atKey_put_same hm keyLit _ z
  · have hl : look ((t, n) :: had) s = look had s := if_neg hs
    rw [hl]
    have hne := key_ne (fun e => hs e.symm)
    refine ⟨(Maps.has_put_other hne _).trans (h s).1, fun k hk z => ?_⟩
    exact (Maps.atKey_put_other hne _ z).trans ((h s).2 k hk z)
set_option maxHeartbeats 4000000 in
set_option maxRecDepth 100000 in
theorem pool_walk (A : Option Addr) (c : Nat) (l : List ByteArray) (w : World) (hr : Kd.C Kd.string w A l.length l) (hl : l.length ≤ 1000) (hs : ∀ s ∈ l, s.size ≤ 9223372036854775807) :
    Calls Try.prog 40 #[.slice A l.length c] w fun e w' => ∃ v1, e = .returned (.tuple #[.string (poolT l).1, v1, .bool (poolT l).2.2]) ∧ Kd.R (Kd.int .i64) 3 w' w.heap.size (fun _ => True) v1 (poolT l).2.1 ∧ Below w.heap.size w w' := by
  have HR := Aside0.mk hr
  have HS := Aside0.mk hs
  have hmm := @run_makeMap Try.prog
  obtain ⟨res, hres⟩ : ∃ res, poolS l ⟨#[]⟩ [] [] = res := ⟨_, rfl⟩
  have hT : poolT l = poolE res := congrArg poolE hres
  rw [hT]
  have HRES := Aside0.mk hres
  clear hr hs hT hres
  go_enter Try.func40, Try.ntmps40
  go_wp2
  go_loopw [2, 3, 13] (fun p q i wr => ∃ (k : Nat) (ps : ByteArray) (D : DataW Unit) (had : List (ByteArray × Int)) (ats : List Int), k ≤ l.length ∧ p = .string ps ∧ i = .int .i64 k ∧ Aside0 (ps.size ≤ 17 * k) ∧ Aside0 (ats.length = k) ∧ Aside0 (poolS (l.drop k) ps had ats = res) ∧ Aside0 (wr.ownsMap Try.prog 9 (plainElem Try.prog 3) w.heap.size k D) ∧ Aside0 (MapIs D had) ∧ Aside0 (Kd.R (Kd.int .i64) 3 wr w.heap.size (fun b => b ≠ w.heap.size) q ats) ∧ Aside0 (Below w.heap.size w wr)) (fun _ _ i _ => l.length - (intOf i).toNat)
  case atStart => exact ⟨0, ⟨#[]⟩, .map [], [], [], by omega, rfl, rfl, ⟨by decide⟩, ⟨rfl⟩, ⟨by simpa using HRES.out⟩, ⟨World.ownsMap_made w Try.prog 9 _⟩, ⟨mapIs_nil⟩, ⟨Kd.R_nil _ _ _ _ _⟩, ⟨below_alloc (Below.refl _ _) _⟩⟩
  case round =>
    obtain ⟨k, ps, D, had, ats, hk, rfl, rfl, HZ, HL, HSP, HMP, HIS, HO, HBr⟩ := hrel
    by_cases hlt : k < l.length
    · obtain ⟨ad, rfl, hcell⟩ := Kd.at_string (Kd.C_below HR.out HBr.out) (k : Int) (by omega) (by omega)
      have hx : rdOf ByteArray.empty l (k : Int) = l[k] := by unfold rdOf; simp [List.getD, hlt]
      rw [hx, Int.toNat_natCast] at hcell
      have HD : Aside0 (l.drop k = l[k] :: l.drop (k + 1)) := ⟨List.drop_eq_getElem_cons hlt⟩
      have HZS := HS.out l[k] (List.getElem_mem hlt)
      generalize l[k] = s at *
      clear hx
      go_wp2_with fail
      refine (right_calls s _ HZS).mono ?_
      rintro e w1 ⟨rfl, hb1⟩
      have HB1 := Aside0.mk (below_then HBr.out HBr.out.size hb1)
      have HM1 := Aside0.mk (HMP.out.kept (grown_of_below hb1 none) (by simp))
      have HO1 := Aside0.mk (Kd.R_below HO.out hb1)
      clear hb1 HBr HMP HO
      cases hq : rightN s with
      | false =>
        have HN : Aside0 (res = none) := ⟨by rw [← HSP.out, HD.out]; unfold poolS; rw [hq]⟩
        clear hq
        have HN' := HN.out
        subst HN'
        go_wp2
        go_ret3
        exact ⟨_, rfl, Kd.R_nil _ _ _ _ _, HB1.out⟩
      | true =>
        have HZ16 := (right_size hq).2
        have hkey := WideMaps.keyOf_string_mk (P := Try.prog) Try.underlying9 (s := s) (by unfold maxLen; omega)
        cases hlk : look had s with
        | some kk =>
          have hhit : Maps.has D (.string s.data.toList) = true := by rw [(HIS.out s).1, hlk]; rfl
          have hat0 := (HIS.out s).2 kk hlk (.lit (.int .i64 0))
          have HN : Aside0 (poolS (l.drop (k + 1)) ps had (ats ++ [kk]) = res) := ⟨by rw [← HSP.out, HD.out]; conv => { rhs; unfold poolS }; rw [hq, hlk]⟩
          clear hq hlk
          go_wp2_with (first
            | (at_lookup; refine wpList_lookup_own_ok_int _ rfl _ _ 93 rfl 9 3 .i64 law9 Try.underlying93 Try.underlying3 (zero3 _) w.heap.size k D rfl HM1.out _ _ rfl hkey ?_; intro cc hat hwc; rw [hhit]; obtain rfl : kk = cc := by (rw [hat0] at hat; injection hat with hat; injection hat))
            | ((with_reducible refine gate_builtin (b := .append) (xs := #[.tmp 37, .tmp 39]) rfl ?_); at_builtin; refine Kd.R_append (Kd.int .i64) (w0 := w) w.heap.size rfl (.tmp 37) (.tmp 39) 51 3 (.int .i64 0) 8 rfl Try.underlying51 info3 rfl (by decide) (by omega) u3 ats kk [.int .i64 kk] (fun b => b ≠ w.heap.size) (fun _ => False) rfl rfl ?aP (fun _ hk => hk.elim) ?aF ?aO ?aB ?aS ?aL ?_; (case aP => exact rfl); (case aB => exact HB1.out); (case aF => exact (fun b hb => by have := HM1.out.lt; omega)); (case aO => exact HO1.out); (case aS => exact below_size HB1.out); (case aL => have := HL.out; omega); intro v4 w4 ho hb hg hat4))
          have HN1 : Aside0 (some w.heap.size ≠ u3.ownBlock) := ⟨fun e => HO1.out.1 _ e.symm rfl⟩
          have HM4 := Aside0.mk ((HM1.out.kept hg HN1.out).mono (Nat.le_succ k))
          have HO4 := Aside0.mk ho
          have HB4 := Aside0.mk hb
          have HL4 : Aside0 ((ats ++ [kk]).length = k + 1) := ⟨by have := HL.out; simp; omega⟩
          clear ho hb hg hat4
          go_wp2
          exact ⟨⟨k + 1, ps, D, had, ats ++ [kk], by omega, rfl, by go_num, ⟨by have := HZ.out; omega⟩, HL4, HN, HM4, HIS, HO4, HB4⟩, by simp [intOf]; omega⟩
        | none =>
          have HPS : Aside0 (ps.size ≤ 17000) := ⟨by have := HZ.out; omega⟩
          have HWF : Aside0 ((Lit.int .i64 (ps.size : Int)).wf = true) := ⟨by have := HPS.out; simp [Lit.wf, IntKind.min, IntKind.max, IntKind.signed, IntKind.bits]; omega⟩
          have hz1 : s.size + 1 ≤ 9223372036854775807 := by omega
          have hz2 : ps.size + (s ++ ⟨#[0]⟩ : ByteArray).size ≤ 9223372036854775807 := by rw [ByteArray.size_append]; have := HPS.out; have : (⟨#[0]⟩ : ByteArray).size = 1 := rfl; omega
          have hmiss : Maps.has D (.string s.data.toList) = false := by rw [(HIS.out s).1, hlk]; rfl
          have HN : Aside0 (poolS (l.drop (k + 1)) (ps ++ (s ++ ⟨#[0]⟩)) ((s, ps.size) :: had) (ats ++ [(ps.size : Int)]) = res) := ⟨by rw [← HSP.out, HD.out]; conv => { rhs; unfold poolS }; rw [hq, hlk]⟩
          clear hq hlk
          go_wp2_with (first
            | (at_lookup; refine wpList_lookup_own_ok_int _ rfl _ _ 93 rfl 9 3 .i64 law9 Try.underlying93 Try.underlying3 (zero3 _) w.heap.size k D rfl HM1.out _ _ rfl hkey ?_; intro cc hat hwc; rw [hmiss])
            | (at_mapUpdate; refine wpList_mapUpdate_own _ rfl _ _ _ 93 rfl 9 3 law9 Try.underlying93 _ w.heap.size k D rfl HM1.out (by unfold maxLen; omega) _ _ (.string s.data.toList) rfl rfl hkey (.lit (.int .i64 ps.size)) [] (plainElem_int Try.underlying3 HWF.out) ?_; intro w3 hm3 hg3; have HM3 := Aside0.mk hm3; have HB3 : Aside0 (Below w.heap.size w w3) := ⟨pw_below_grown HB1.out _ HB1.out.size hg3 (fun b e => by injection e with e; omega)⟩; have HO3 := Aside0.mk (Kd.R_grown HO1.out hg3 (fun b hb e => hb (by injection e))); clear hm3 hg3)
            | ((with_reducible refine gate_builtin (b := .append) (xs := #[.tmp 37, .tmp 39]) rfl ?_); at_builtin; refine Kd.R_append (Kd.int .i64) (w0 := w) w.heap.size rfl (.tmp 37) (.tmp 39) 51 3 (.int .i64 0) 8 rfl Try.underlying51 info3 rfl (by decide) (by omega) u3 ats (ps.size : Int) [.int .i64 (ps.size : Int)] (fun b => b ≠ w.heap.size) (fun _ => False) rfl rfl ?aP (fun _ hk => hk.elim) ?aF ?aO ?aB ?aS ?aL ?_; (case aP => exact rfl); (case aB => exact HB3.out); (case aF => exact (fun b hb => by have := HM3.out.lt; omega)); (case aO => exact HO3.out); (case aS => exact below_size HB3.out); (case aL => have := HL.out; omega); intro v4 w4 ho hb hg hat4))
          have HN3 : Aside0 (some w.heap.size ≠ u3.ownBlock) := ⟨fun e => HO3.out.1 _ e.symm rfl⟩
          have HM4 := Aside0.mk (HM3.out.kept hg HN3.out)
          have HO4 := Aside0.mk ho
          have HB4 := Aside0.mk hb
          have HL4 : Aside0 ((ats ++ [(ps.size : Int)]).length = k + 1) := ⟨by have := HL.out; simp; omega⟩
          clear ho hb hg hat4
          go_wp2
          exact ⟨⟨k + 1, _, _, _, _, by omega, rfl, by go_num, ⟨by rw [ByteArray.size_append, ByteArray.size_append]; have := HZ.out; have : (⟨#[0]⟩ : ByteArray).size = 1 := rfl; omega⟩, HL4, HN, HM4, ⟨mapIs_put HIS.out (HM1.out.isMap) s ps.size⟩, HO4, HB4⟩, by simp [intOf]; omega⟩
    · have hke : k = l.length := by omega
      have HN : Aside0 (res = some (ps, ats)) := ⟨by rw [← HSP.out, List.drop_of_length_le (by omega)]; rfl⟩
      clear HSP HRES
      have HN' := HN.out
      subst HN'
      clear HN
      by_cases h256 : ps.size > 256
      · have hE : poolE (some (ps, ats)) = (⟨#[]⟩, [], false) := by simp only [poolE, decide_eq_true h256]
        go_wp2
        go_ret3
        rw [hE]
        exact ⟨_, rfl, Kd.R_nil _ _ _ _ _, HBr.out⟩
      · have hE : poolE (some (ps, ats)) = (ps, ats, true) := by simp only [poolE, decide_eq_false h256]
        go_wp2
        go_ret3
        rw [hE]
        exact ⟨_, rfl, Kd.R_mono HO.out (fun _ _ => trivial), HBr.out⟩
/-- Pool, in one word. -/
def poolF (l : List ByteArray) : Option (ByteArray × List Int × Bool) := match decide (l.length ≤ 1000) && l.all (fun s => decide (s.size ≤ 9223372036854775807)) with
  | true => some (poolT l)
  | false => none
theorem pool_calls (A0 : Option Addr) (c0 : Nat) (l0 : List ByteArray) (r1 : ByteArray) (r2 : List Int) (r3 : Bool) (w : World) (hr0 : Kd.C Kd.string w A0 l0.length l0) (h : poolF l0 = some (r1, r2, r3)) :
    Calls Try.prog 40 #[.slice A0 l0.length c0] w fun e w' => ∃ v1_ : Value, e = .returned (.tuple #[.string r1, v1_, .bool r3]) ∧ Kd.R (Kd.int .i64) 3 w' w.heap.size (fun _ => True) v1_ r2 ∧ Below w.heap.size w w' := by
  unfold poolF at h
  cases hg : (decide (l0.length ≤ 1000) && l0.all (fun s => decide (s.size ≤ 9223372036854775807))) with
  | false => rw [hg] at h; cases h
  | true =>
    rw [hg] at h
    injection h with h
    rw [Bool.and_eq_true, decide_eq_true_eq] at hg
    have h2 := pool_walk A0 c0 l0 w hr0 hg.1 (fun s hs => of_decide_eq_true (List.all_eq_true.1 hg.2 s hs))
    rw [h] at h2
    exact h2
/-- At, in one word. -/
def atF (pool : ByteArray) (at_ : Int) : Option (ByteArray × Bool) := match decide (pool.size ≤ 9223372036854775807) with
  | true => some (atN pool at_)
  | false => none
theorem at_is (a0 : ByteArray) (a1 : Int) (r1 : ByteArray) (r2 : Bool) (w : World) (h : atF a0 a1 = some (r1, r2)) :
    Calls Try.prog 30 #[.string a0, .int .i64 a1] w fun e w' => e = .returned (.tuple #[.string r1, .bool r2]) ∧ Below w.heap.size w w' := by
  unfold atF at h
  by_cases hs : a0.size ≤ 9223372036854775807
  · rw [decide_eq_true hs] at h
    injection h with h
    exact at_calls a0 a1 r1 r2 w hs h
  · rw [decide_eq_false hs] at h
    cases h
/-- Right, in one word. -/
def rightF (s : ByteArray) : Option Bool := match decide (s.size ≤ 9223372036854775807) with
  | true => some (rightN s)
  | false => none
theorem right_is (a0 : ByteArray) (r : Bool) (w : World) (h : rightF a0 = some r) :
    Calls Try.prog 47 #[.string a0] w fun e w' => e = .returned (.bool r) ∧ Below w.heap.size w w' := by
  unfold rightF at h
  by_cases hs : a0.size ≤ 9223372036854775807
  · rw [decide_eq_true hs] at h
    injection h with h
    subst h
    exact right_calls a0 w hs
  · rw [decide_eq_false hs] at h
    cases h
end Go.Proofs.Ytpgjcnjojfehjaa.Ab
/- abbr: plain laws on what stands at a place; no condition. -/
namespace Go.Proofs.Ytpgjcnjojfehjaa.Ab
open Go.RowKit Go.Proofs.YtpgjcnjojfehjaaW.PrintWords Go.Proofs.YtpgjcnjojfehjaaW.PrintLast Go.Proofs.YtpgjcnjojfehjaaW.PrintMore

theorem ext_get (s : ByteArray) (a k : Nat) : (s.extract a s.size).data.toList[k]? = s.data[a + k]? := by
  rw [ByteArray.data_extract, Array.getElem?_toList, Array.getElem?_extract]
  split
  · rfl
  · rename_i h
    rw [Array.getElem?_eq_none]
    have : s.data.size = s.size := rfl
    omega
theorem get_lt {s : ByteArray} {k : Nat} {x : UInt8} (h : s.data[k]? = some x) : k < s.size := by
  by_cases hk : k < s.data.size
  · exact hk
  · rw [Array.getElem?_eq_none (by omega)] at h; cases h
def atR (s : ByteArray) : ByteArray × Bool := match rightN s with
  | true => (s, true)
  | false => (⟨#[]⟩, false)
theorem at_hit {pool : ByteArray} {a i : Nat} (h0 : pool.data[a + i]? = some 0) (hn : ∀ j < i, pool.data[a + j]? ≠ some 0) : atN pool (a : Int) = atR (pool.extract a (a + i)) := by
  have hlt := get_lt h0
  unfold atN
  rw [decide_eq_true (by omega)]
  simp only [Int.toNat_natCast]
  rcases index_cases (pool.extract a pool.size).data.toList with ⟨_, h2⟩ | ⟨i', h1, _, h3, h4⟩
  · exact absurd (by rw [ext_get]; exact h0) (h2 i)
  · rw [ext_get] at h3
    have hi : i' = i := by
      rcases Nat.lt_trichotomy i' i with hl | hl | hl
      · exact absurd h3 (hn i' hl)
      · exact hl
      · exact absurd (by rw [ext_get]; exact h0) (h4 i hl)
    subst hi
    rw [h1]
    show atR ((pool.extract a pool.size).extract 0 i') = _
    rw [ByteArray.extract_extract, Nat.add_zero, Nat.min_eq_left (by omega)]
theorem at_miss {pool : ByteArray} {a : Nat} (hn : ∀ j, pool.data[a + j]? ≠ some 0) : atN pool (a : Int) = (⟨#[]⟩, false) := by
  unfold atN
  split
  · simp only [Int.toNat_natCast]
    rcases index_cases (pool.extract a pool.size).data.toList with ⟨h1, _⟩ | ⟨i', h1, _, h3, h4⟩
    · rw [h1]; rfl
    · rw [ext_get] at h3
      exact absurd h3 (hn i')
  · rfl
theorem at_out {pool : ByteArray} {x : Int} (h : ¬ (0 ≤ x ∧ x < pool.size)) : atN pool x = (⟨#[]⟩, false) := by
  unfold atN
  rw [decide_eq_false h]
/-- The first byte 0, if there is one. -/
theorem first0 (pool : ByteArray) (a : Nat) : (∀ j, pool.data[a + j]? ≠ some 0) ∨ ∃ i, pool.data[a + i]? = some 0 ∧ ∀ j < i, pool.data[a + j]? ≠ some 0 := by
  rcases index_cases (pool.extract a pool.size).data.toList with ⟨_, h2⟩ | ⟨i', _, _, h3, h4⟩
  · exact .inl fun j => by rw [← ext_get]; exact h2 j
  · exact .inr ⟨i', by rw [← ext_get]; exact h3, fun j hj => by rw [← ext_get]; exact h4 j hj⟩
theorem at_cases (pool : ByteArray) (x : Int) : atN pool x = (⟨#[]⟩, false) ∨ ∃ a i : Nat, x = a ∧ a + i < pool.size ∧ atN pool x = (pool.extract a (a + i), true) ∧ rightN (pool.extract a (a + i)) = true ∧ pool.data[a + i]? = some 0 := by
  by_cases h : 0 ≤ x ∧ x < pool.size
  · obtain ⟨a, rfl⟩ : ∃ a : Nat, x = a := ⟨x.toNat, by omega⟩
    rcases first0 pool a with hm | ⟨i, h0, hn⟩
    · exact .inl (at_miss hm)
    · rw [at_hit h0 hn]
      unfold atR
      cases hr : rightN (pool.extract a (a + i)) with
      | true => exact .inr ⟨a, i, rfl, get_lt h0, rfl, hr, h0⟩
      | false => exact .inl rfl
  · exact .inl (at_out h)
theorem atF_some {pool : ByteArray} {x : Int} (h : pool.size ≤ 9223372036854775807) : atF pool x = some (atN pool x) := by
  unfold atF; rw [decide_eq_true h]
theorem rightF_some {s : ByteArray} (h : s.size ≤ 9223372036854775807) : rightF s = some (rightN s) := by
  unfold rightF; rw [decide_eq_true h]
theorem w64 {x : Int} (h : -9223372036854775808 ≤ x ∧ x ≤ 9223372036854775807) : wrap64 x = x := by
  unfold wrap64; omega
theorem bt_get {s : ByteArray} {k : Nat} {x : UInt8} (h : s.data[k]? = some x) : bt s (k : Int) = x.toNat := by
  have hlt := get_lt h
  unfold bt
  rw [dif_pos (by simpa using hlt)]
  have h2 : s.data[k]? = some (s.data[k]'hlt) := Array.getElem?_eq_getElem hlt
  rw [h2] at h
  injection h with h
  rw [← h]
  rfl
theorem nil_list : (⟨#[]⟩ : ByteArray).toList = [] := by decide +kernel
end Go.Proofs.Ytpgjcnjojfehjaa.Ab
/- abbr: plain laws on pools; no condition. -/
namespace Go.Proofs.Ytpgjcnjojfehjaa.Ab
open Go.RowKit Go.Proofs.YtpgjcnjojfehjaaW.PrintWords Go.Proofs.YtpgjcnjojfehjaaW.PrintLast Go.Proofs.YtpgjcnjojfehjaaW.PrintMore

theorem bytes_eq {s t : ByteArray} (h : s.data.toList = t.data.toList) : s = t := by
  cases s; cases t
  congr
  exact Array.toList_inj.mp h
/-- The state of a pool: its bytes, which names it has and where, where each name begins. -/
structure St where
  p : ByteArray
  had : List (ByteArray × Int)
  ats : List Int
def St0 : St := ⟨⟨#[]⟩, [], []⟩
def step (st : St) (s : ByteArray) : St := match look st.had s with
  | some k => ⟨st.p, st.had, st.ats ++ [k]⟩
  | none => ⟨st.p ++ (s ++ ⟨#[0]⟩), (s, st.p.size) :: st.had, st.ats ++ [(st.p.size : Int)]⟩
def steps (st : St) (l : List ByteArray) : St := l.foldl step st
theorem poolS_right : ∀ (l : List ByteArray) (st : St), (∀ s ∈ l, rightN s = true) → poolS l st.p st.had st.ats = some ((steps st l).p, (steps st l).ats)
  | [], st, _ => rfl
  | s :: r, st, h => by
    have hs := h s (by simp)
    have hr := poolS_right r (step st s) (fun t ht => h t (by simp [ht]))
    unfold poolS
    rw [hs]
    show _ = some ((steps (step st s) r).p, (steps (step st s) r).ats)
    rw [← hr]
    unfold step
    cases look st.had s <;> rfl
theorem poolS_wrong : ∀ (l : List ByteArray) (p : ByteArray) (had : List (ByteArray × Int)) (ats : List Int), (∃ s ∈ l, rightN s = false) → poolS l p had ats = none
  | [], _, _, _, ⟨_, h, _⟩ => by cases h
  | s :: r, p, had, ats, h => by
    unfold poolS
    cases hs : rightN s with
    | false => rfl
    | true =>
      have hr : ∃ t ∈ r, rightN t = false := by
        obtain ⟨t, ht, hf⟩ := h
        rcases List.mem_cons.1 ht with rfl | ht
        · rw [hs] at hf; cases hf
        · exact ⟨t, ht, hf⟩
      cases hl : look had s with
      | some k => exact poolS_wrong r _ _ _ hr
      | none => exact poolS_wrong r _ _ _ hr
/-- A name stands at a place of a pool. -/
def Place (p s : ByteArray) (k : Int) : Prop := ∃ pre post : List UInt8, p.data.toList = pre ++ (s.data.toList ++ 0 :: post) ∧ (pre.length : Int) = k ∧ rightN s = true
theorem place_more {p s q : ByteArray} {k : Int} (h : Place p s k) : Place (p ++ q) s k := by
  obtain ⟨pre, post, h1, h2, h3⟩ := h
  refine ⟨pre, post ++ q.data.toList, ?_, h2, h3⟩
  rw [ByteArray.data_append, Array.toList_append, h1]
  simp
theorem place_new {p s : ByteArray} (h : rightN s = true) : Place (p ++ (s ++ ⟨#[0]⟩)) s p.size := by
  refine ⟨p.data.toList, [], ?_, by rw [Array.length_toList]; rfl, h⟩
  rw [ByteArray.data_append, Array.toList_append, ByteArray.data_append, Array.toList_append]
theorem right_no0 {s : ByteArray} (h : rightN s = true) : ∀ j : Nat, s.data[j]? ≠ some 0 := fun j hj => by
  unfold rightN at h
  rw [Bool.and_eq_true, List.all_eq_true] at h
  have hm : (0 : UInt8) ∈ s.data.toList := by
    rw [Array.mem_toList_iff]
    exact Array.mem_of_getElem? hj
  have := h.2 0 hm
  revert this
  decide
theorem place_at {p s : ByteArray} {k : Int} (h : Place p s k) : atN p k = (s, true) := by
  obtain ⟨pre, post, h1, rfl, h3⟩ := h
  have hg : ∀ j, p.data[j]? = (pre ++ (s.data.toList ++ 0 :: post))[j]? := fun j => by rw [← h1, Array.getElem?_toList]
  have hsz : s.data.toList.length = s.size := by rw [Array.length_toList]; rfl
  have h0 : p.data[pre.length + s.size]? = some 0 := by
    rw [hg, List.getElem?_append_right (by omega), List.getElem?_append_right (by omega)]
    have : pre.length + s.size - pre.length - s.data.toList.length = 0 := by omega
    rw [this]
    rfl
  have hn : ∀ j < s.size, p.data[pre.length + j]? ≠ some 0 := fun j hj => by
    rw [hg, List.getElem?_append_right (by omega), List.getElem?_append_left (by omega)]
    have : pre.length + j - pre.length = j := by omega
    rw [this, Array.getElem?_toList]
    exact right_no0 h3 j
  rw [at_hit h0 hn]
  have he : p.extract pre.length (pre.length + s.size) = s := bytes_eq (by
    rw [ByteArray.data_extract, Array.toList_extract, h1]
    simp only [List.extract]
    rw [List.drop_left' rfl, List.take_left' (by omega)])
  rw [he]
  unfold atR
  rw [h3]
theorem look_cons_same (s : ByteArray) (k : Int) (had : List (ByteArray × Int)) : look ((s, k) :: had) s = some k := if_pos rfl
theorem look_cons_ne {s t : ByteArray} (k : Int) (had : List (ByteArray × Int)) (h : s ≠ t) : look ((s, k) :: had) t = look had t := if_neg h
/-- What holds of a state behind names that are all right. -/
structure Inv (st : St) (done : List ByteArray) : Prop where
  len : st.ats.length = done.length
  at_ : ∀ (i : Nat) (s : ByteArray), done[i]? = some s → ∃ k, look st.had s = some k ∧ st.ats[i]? = some k
  place : ∀ s k, look st.had s = some k → Place st.p s k
  only : ∀ s k, look st.had s = some k → s ∈ done
  room : st.p.size ≤ 17 * done.length
theorem inv0 : Inv St0 [] := ⟨rfl, fun i s h => by simp at h, (fun s k h => by cases h), (fun s k h => by cases h), by decide⟩
theorem Inv.mem {st : St} {done : List ByteArray} (h : Inv st done) {s : ByteArray} (hs : s ∈ done) : ∃ k, look st.had s = some k := by
  obtain ⟨i, hi, rfl⟩ := List.mem_iff_getElem.1 hs
  obtain ⟨k, h1, _⟩ := h.at_ i _ (List.getElem?_eq_getElem hi)
  exact ⟨k, h1⟩
theorem inv_step {st : St} {done : List ByteArray} (h : Inv st done) {s : ByteArray} (hs : rightN s = true) : Inv (step st s) (done ++ [s]) := by
  unfold step
  cases hl : look st.had s with
  | some k =>
    refine ⟨by simp [h.len], fun i t ht => ?_, h.place, fun t k' ht => by simp [h.only t k' ht], by rw [List.length_append]; have := h.room; simp only; omega⟩
    by_cases hi : i < done.length
    · rw [List.getElem?_append_left hi] at ht
      obtain ⟨k', h1, h2⟩ := h.at_ i t ht
      exact ⟨k', h1, by simp only; rw [List.getElem?_append_left (by rw [h.len]; exact hi)]; exact h2⟩
    · rw [List.getElem?_append_right (by omega)] at ht
      have hz : i - done.length = 0 := by
        rcases Nat.eq_zero_or_pos (i - done.length) with h0 | h0
        · exact h0
        · rw [List.getElem?_eq_none (by simp; omega)] at ht; cases ht
      rw [hz] at ht
      injection ht with ht
      subst ht
      refine ⟨k, hl, ?_⟩
      simp only
      rw [List.getElem?_append_right (by rw [h.len]; omega), h.len, hz]
      rfl
  | none =>
    have hnew : ∀ t, t ∈ done → s ≠ t := fun t ht e => by
      subst e
      obtain ⟨k, hk⟩ := h.mem ht
      rw [hl] at hk; cases hk
    refine ⟨by simp [h.len], fun i t ht => ?_, fun t k ht => ?_, fun t k ht => ?_, ?_⟩
    · by_cases hi : i < done.length
      · rw [List.getElem?_append_left hi] at ht
        obtain ⟨k', h1, h2⟩ := h.at_ i t ht
        refine ⟨k', ?_, by simp only; rw [List.getElem?_append_left (by rw [h.len]; exact hi)]; exact h2⟩
        simp only
        rw [look_cons_ne _ _ (hnew t (List.mem_of_getElem? ht))]
        exact h1
      · rw [List.getElem?_append_right (by omega)] at ht
        have hz : i - done.length = 0 := by
          rcases Nat.eq_zero_or_pos (i - done.length) with h0 | h0
          · exact h0
          · rw [List.getElem?_eq_none (by simp; omega)] at ht; cases ht
        rw [hz] at ht
        injection ht with ht
        subst ht
        refine ⟨_, look_cons_same _ _ _, ?_⟩
        simp only
        rw [List.getElem?_append_right (by rw [h.len]; omega), h.len, hz]
        rfl
    · simp only at ht ⊢
      by_cases hst : s = t
      · subst hst
        rw [look_cons_same] at ht
        injection ht with ht
        subst ht
        exact place_new hs
      · rw [look_cons_ne _ _ hst] at ht
        exact place_more (h.place t k ht)
    · simp only at ht
      by_cases hst : s = t
      · simp [hst]
      · rw [look_cons_ne _ _ hst] at ht
        simp [h.only t k ht]
    · simp only
      rw [ByteArray.size_append, ByteArray.size_append, List.length_append]
      have h1 := h.room
      have h2 := (right_size hs).2
      have h3 : (⟨#[0]⟩ : ByteArray).size = 1 := rfl
      simp only [List.length_singleton]
      omega
theorem inv_steps : ∀ (l : List ByteArray) (st : St) (done : List ByteArray), Inv st done → (∀ s ∈ l, rightN s = true) → Inv (steps st l) (done ++ l)
  | [], st, done, h, _ => by simpa [steps] using h
  | s :: r, st, done, h, hr => by
    have h1 := inv_steps r (step st s) (done ++ [s]) (inv_step h (hr s (by simp))) (fun t ht => hr t (by simp [ht]))
    rw [List.append_assoc] at h1
    exact h1
/-- Names that are had lay nothing. -/
theorem steps_had : ∀ (l : List ByteArray) (st : St), (∀ s ∈ l, ∃ k, look st.had s = some k) → (steps st l).p = st.p ∧ (steps st l).had = st.had
  | [], st, _ => ⟨rfl, rfl⟩
  | s :: r, st, h => by
    obtain ⟨k, hk⟩ := h s (by simp)
    have hst : step st s = ⟨st.p, st.had, st.ats ++ [k]⟩ := by unfold step; rw [hk]
    have h1 := steps_had r (step st s) (fun t ht => by rw [hst]; exact h t (by simp [ht]))
    rw [hst] at h1
    show (steps (step st s) r).p = _ ∧ (steps (step st s) r).had = _
    rw [hst]
    exact h1
theorem steps_app (st : St) (l r : List ByteArray) : steps st (l ++ r) = steps (steps st l) r := List.foldl_append
/-- Like places, like names. -/
theorem Inv.same {st : St} {done : List ByteArray} (h : Inv st done) {s t : ByteArray} {k : Int} (h1 : look st.had s = some k) (h2 : look st.had t = some k) : s = t := by
  have e1 := place_at (h.place s k h1)
  have e2 := place_at (h.place t k h2)
  rw [e1] at e2
  injection e2
theorem poolF_some {l : List ByteArray} (h : l.length ≤ 1000) (hs : ∀ s ∈ l, s.size ≤ 9223372036854775807) : poolF l = some (poolT l) := by
  unfold poolF
  rw [decide_eq_true h, List.all_eq_true.2 (fun s hh => decide_eq_true (hs s hh))]
  rfl
theorem poolT_wrong {l : List ByteArray} (h : ∃ s ∈ l, rightN s = false) : poolT l = (⟨#[]⟩, [], false) := by
  unfold poolT; rw [poolS_wrong l _ _ _ h]; rfl
theorem poolT_right {l : List ByteArray} (h : ∀ s ∈ l, rightN s = true) : poolT l = poolE (some ((steps St0 l).p, (steps St0 l).ats)) := by
  unfold poolT; exact congrArg poolE (poolS_right l St0 h)
theorem right_or (l : List ByteArray) : (∀ s ∈ l, rightN s = true) ∨ ∃ s ∈ l, rightN s = false := by
  by_cases h : ∃ s ∈ l, rightN s = false
  · exact .inr h
  · refine .inl fun s hs => ?_
    cases hr : rightN s with
    | true => rfl
    | false => exact absurd ⟨s, hs, hr⟩ h
theorem str_beq {s t : ByteArray} : (s.toList == t.toList) = decide (s = t) := by
  by_cases h : s = t
  · subst h; simp
  · rw [decide_eq_false h]
    refine beq_eq_false_iff_ne.mpr fun e => h ?_
    rw [ByteArray.toList_eq, ByteArray.toList_eq] at e
    exact bytes_eq e
end Go.Proofs.Ytpgjcnjojfehjaa.Ab
-- Written by a program of this session (wip/print/setup.py turns the kit's print tool)
namespace Go.Proofs.Ytpgjcnjojfehjaa.Kx
open Go.RowKit Go.Proofs.YtpgjcnjojfehjaaW.PrintWords Go.Proofs.YtpgjcnjojfehjaaW.PrintLast Go.Proofs.YtpgjcnjojfehjaaW.PrintMore
attribute [local go_sem] max2_int min2_int max_two min_two max_three min_three max_four min_four   -- for this text's walks alone
set_option linter.unusedVariables false
set_option linter.unusedSimpArgs false



def errW : Option Int → Value
  | none => .nilIface
  | some c => .iface 0 (.int .i64 c)
theorem errW_none : errW none = .nilIface := rfl
theorem errW_some (c : Int) : errW (some c) = .iface 0 (.int .i64 c) := rfl

theorem info9 : (Try.prog.info? 9).map (fun i => (i.zero, i.size, i.bytes)) = some (some (.string ⟨#[]⟩), 1, 16) := by kernel_rfl
-- the values' own types
/-! #### struct type 46 -/
structure S46 where
  f0 : Int
  f1 : Bool
  f2 : ByteArray
def z46 : S46 := ⟨(0 : Int), false, (⟨#[]⟩ : ByteArray)⟩
def k46 : Kd S46 := Kd.iso (Kd.pair (Kd.int .i64) (Kd.pair Kd.bool Kd.string)) (fun x : S46 => (x.f0, x.f1, x.f2))
theorem k46_open {w : World} {x : S46} {cs : List Value} (h : k46.K w x cs) : cs = [.int .i64 x.f0, .bool x.f1, .string x.f2] := by
  obtain ⟨_, _, rfl, rfl, ⟨_, _, rfl, rfl, rfl⟩⟩ := h
  exact rfl
theorem k46_openM {w : World} {base : Nat} {ok : Nat → Prop} {x : S46} {cs : List Value} (h : k46.M w base ok x cs) : cs = [.int .i64 x.f0, .bool x.f1, .string x.f2] := by
  obtain ⟨_, _, rfl, rfl, ⟨_, _, rfl, rfl, rfl⟩⟩ := h
  exact rfl
theorem k46_mk (w : World) (x : S46)  : k46.K w x [.int .i64 x.f0, .bool x.f1, .string x.f2] := ⟨[.int .i64 x.f0], [.bool x.f1, .string x.f2], rfl, rfl, ⟨[.bool x.f1], [.string x.f2], rfl, rfl, rfl⟩⟩
theorem k46_mkM (w : World) (base : Nat) (ok : Nat → Prop) (x : S46)  : k46.M w base ok x [.int .i64 x.f0, .bool x.f1, .string x.f2] := ⟨[.int .i64 x.f0], [.bool x.f1, .string x.f2], rfl, rfl, ⟨[.bool x.f1], [.string x.f2], rfl, rfl, rfl⟩⟩
def rd_T46 (xs : List S46) (i : Int) : S46 := xs.getD i.toNat z46
theorem at_T46 {w : World} {A : Option Addr} {n : Nat} {xs : List S46} (h : Kd.C k46 w A n xs) (i : Int) (h0 : 0 ≤ i) (h1 : i < n) : ∃ ad , A = some ad ∧ w.cell? (ad.add (i.toNat * 3)) = some (.int .i64 (rd_T46 xs i).f0) ∧ w.cell? ⟨(ad.add (i.toNat * 3)).block, (ad.add (i.toNat * 3)).off + 1, none⟩ = some (.bool (rd_T46 xs i).f1) ∧ w.cell? ⟨(ad.add (i.toNat * 3)).block, (ad.add (i.toNat * 3)).off + 2, none⟩ = some (.string (rd_T46 xs i).f2) := by
  obtain ⟨ad, c, e, _, hK, hc0⟩ := Kd.C_get h z46 i h0 h1
  have hc : ∀ j u, c[j]? = some u → w.cell? (ad.add (i.toNat * 3 + j)) = some u := hc0
  obtain rfl := k46_open hK
  exact ⟨ad, e, hc 0 _ rfl, by rw [← add_field _ _ 1 (by omega)]; exact hc 1 _ rfl, by rw [← add_field _ _ 2 (by omega)]; exact hc 2 _ rfl⟩

/-! #### struct type 48 -/
structure S48 where
  f0 : Int
  f1 : Int
def z48 : S48 := ⟨(0 : Int), (0 : Int)⟩
def k48 : Kd S48 := Kd.iso (Kd.pair (Kd.int .i64) (Kd.int .i64)) (fun x : S48 => (x.f0, x.f1))
theorem k48_open {w : World} {x : S48} {cs : List Value} (h : k48.K w x cs) : cs = [.int .i64 x.f0, .int .i64 x.f1] := by
  obtain ⟨_, _, rfl, rfl, rfl⟩ := h
  exact rfl
theorem k48_openM {w : World} {base : Nat} {ok : Nat → Prop} {x : S48} {cs : List Value} (h : k48.M w base ok x cs) : cs = [.int .i64 x.f0, .int .i64 x.f1] := by
  obtain ⟨_, _, rfl, rfl, rfl⟩ := h
  exact rfl
theorem k48_mk (w : World) (x : S48)  : k48.K w x [.int .i64 x.f0, .int .i64 x.f1] := ⟨[.int .i64 x.f0], [.int .i64 x.f1], rfl, rfl, rfl⟩
theorem k48_mkM (w : World) (base : Nat) (ok : Nat → Prop) (x : S48)  : k48.M w base ok x [.int .i64 x.f0, .int .i64 x.f1] := ⟨[.int .i64 x.f0], [.int .i64 x.f1], rfl, rfl, rfl⟩
def rd_T48 (xs : List S48) (i : Int) : S48 := xs.getD i.toNat z48
theorem at_T48 {w : World} {A : Option Addr} {n : Nat} {xs : List S48} (h : Kd.C k48 w A n xs) (i : Int) (h0 : 0 ≤ i) (h1 : i < n) : ∃ ad , A = some ad ∧ w.cell? (ad.add (i.toNat * 2)) = some (.int .i64 (rd_T48 xs i).f0) ∧ w.cell? ⟨(ad.add (i.toNat * 2)).block, (ad.add (i.toNat * 2)).off + 1, none⟩ = some (.int .i64 (rd_T48 xs i).f1) := by
  obtain ⟨ad, c, e, _, hK, hc0⟩ := Kd.C_get h z48 i h0 h1
  have hc : ∀ j u, c[j]? = some u → w.cell? (ad.add (i.toNat * 2 + j)) = some u := hc0
  obtain rfl := k48_open hK
  exact ⟨ad, e, hc 0 _ rfl, by rw [← add_field _ _ 1 (by omega)]; exact hc 1 _ rfl⟩

/-! #### struct type 50 -/
structure S50 where
  f0 : Int
  f1 : Int
def z50 : S50 := ⟨(0 : Int), (0 : Int)⟩
def k50 : Kd S50 := Kd.iso (Kd.pair (Kd.int .i64) (Kd.int .i64)) (fun x : S50 => (x.f0, x.f1))
theorem k50_open {w : World} {x : S50} {cs : List Value} (h : k50.K w x cs) : cs = [.int .i64 x.f0, .int .i64 x.f1] := by
  obtain ⟨_, _, rfl, rfl, rfl⟩ := h
  exact rfl
theorem k50_openM {w : World} {base : Nat} {ok : Nat → Prop} {x : S50} {cs : List Value} (h : k50.M w base ok x cs) : cs = [.int .i64 x.f0, .int .i64 x.f1] := by
  obtain ⟨_, _, rfl, rfl, rfl⟩ := h
  exact rfl
theorem k50_mk (w : World) (x : S50)  : k50.K w x [.int .i64 x.f0, .int .i64 x.f1] := ⟨[.int .i64 x.f0], [.int .i64 x.f1], rfl, rfl, rfl⟩
theorem k50_mkM (w : World) (base : Nat) (ok : Nat → Prop) (x : S50)  : k50.M w base ok x [.int .i64 x.f0, .int .i64 x.f1] := ⟨[.int .i64 x.f0], [.int .i64 x.f1], rfl, rfl, rfl⟩
def rd_T50 (xs : List S50) (i : Int) : S50 := xs.getD i.toNat z50
theorem at_T50 {w : World} {A : Option Addr} {n : Nat} {xs : List S50} (h : Kd.C k50 w A n xs) (i : Int) (h0 : 0 ≤ i) (h1 : i < n) : ∃ ad , A = some ad ∧ w.cell? (ad.add (i.toNat * 2)) = some (.int .i64 (rd_T50 xs i).f0) ∧ w.cell? ⟨(ad.add (i.toNat * 2)).block, (ad.add (i.toNat * 2)).off + 1, none⟩ = some (.int .i64 (rd_T50 xs i).f1) := by
  obtain ⟨ad, c, e, _, hK, hc0⟩ := Kd.C_get h z50 i h0 h1
  have hc : ∀ j u, c[j]? = some u → w.cell? (ad.add (i.toNat * 2 + j)) = some u := hc0
  obtain rfl := k50_open hK
  exact ⟨ad, e, hc 0 _ rfl, by rw [← add_field _ _ 1 (by omega)]; exact hc 1 _ rfl⟩

end Go.Proofs.Ytpgjcnjojfehjaa.Kx
