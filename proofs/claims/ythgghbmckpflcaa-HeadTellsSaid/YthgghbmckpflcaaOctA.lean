/- slices.Clone at bytes: it hands back the same bytes in a row of its own; the reader's state, and what keeps it. -/
import Derived.Test.YthgghbmckpflcaaProg
import Derived.Test.YthgghbmckpflcaaWMore
import Derived.Test.YthgghbmckpflcaaWGuard
import Derived.Test.YthgghbmckpflcaaWKept
import Derived.WalkSpells
import Derived.RegionTactic
import Derived.BigRegion
import Derived.Outline
namespace Go.Proofs.Ythgghbmckpflcaa.Oct
open Go.RowKit Go.Proofs.YthgghbmckpflcaaW.PrintWords Go.Proofs.YthgghbmckpflcaaW.PrintLast Go.Proofs.YthgghbmckpflcaaW.PrintMore
theorem info5 : (Try.prog.info? 5).map (fun i => (i.zero, i.size, i.bytes)) = some (some (.int .u8 0), 1, 1) := by kernel_rfl

theorem C_none {α : Type} {d : Kd α} {w : World} {n : Nat} {l : List α} (h : d.C w none n l) : n = 0 ∧ l = [] := by
  have h1 := h.1
  have h3 := h.2.2
  by_cases hn : 0 < n
  · obtain ⟨ad, he, _⟩ := h3 hn
    cases he
  · have : n = 0 := by omega
    subst this
    exact ⟨rfl, List.length_eq_zero_iff.1 h1⟩

/-- What is read stays so, where the block that it lies in stays so. -/
theorem C_same {α : Type} {v : α → Value} {h1 : ∀ x, (v x).oneCell' = true} {w w1 : World} {A : Option Addr} {n : Nat} {l : List α} (h : Kd.C (Kd.scalar v h1) w A n l) (hk : ∀ ad, A = some ad → w1.heap[ad.block]? = w.heap[ad.block]?) : Kd.C (Kd.scalar v h1) w1 A n l :=
  ⟨h.1, h.2.1, fun hn => by
    obtain ⟨ad, e, hc⟩ := h.2.2 hn
    refine ⟨ad, e, fun j p hj => ?_⟩
    obtain ⟨c, hs, hr, hcell⟩ := hc j p hj
    refine ⟨c, hs, hr, fun i u hu => ?_⟩
    have hb := hcell i u hu
    have hk' := hk ad e
    have hz : ∀ m, (ad.add m).block = ad.block := fun m => by unfold Addr.add; split <;> rfl
    unfold World.cell? at hb ⊢
    rw [hz] at hb ⊢
    rw [hk']
    exact hb⟩

/-- 'xs[m:]', and where it lies. -/
theorem drop_run {P : Program} {k : IntKind} (t e : TypeId) {i : TypeInfo} (ht : P.underlying t = some (.slice e)) (hi : P.info? e = some i) (hsz : i.size = 1) (A : Option Addr) (c : Nat) (xs : List Int) (m : Int) (h0 : 0 ≤ m) (hm : m ≤ xs.length) (hc : xs.length ≤ c) :
    ∃ A' : Option Addr, (∀ W : World, (Instr.slice t (.slice A xs.length c) (some (.int .i64 m)) none none).run P W = .ok (.slice A' (xs.drop m.toNat).length (c - m.toNat)) W) ∧
      (∀ w : World, Kd.C (Kd.int k) w A xs.length xs → Kd.C (Kd.int k) w A' (xs.drop m.toNat).length (xs.drop m.toNat)) ∧ (xs.drop m.toNat).length ≤ c - m.toNat ∧ (∀ ad', A' = some ad' → ∃ ad, A = some ad ∧ ad'.block = ad.block) := by
  have hl : (xs.drop m.toNat).length = xs.length - m.toNat := List.length_drop
  have hz : ∀ (ad : Addr) (j : Nat), (ad.add j).block = ad.block := fun ad j => by unfold Addr.add; split <;> rfl
  refine ⟨if c = m.toNat then A else A.map (·.add (m.toNat * (Kd.int k).sz)), fun W => ?_, fun w h => Kd.C_drop h (by omega) hc, by omega, ?_⟩
  · have hel : P.elem t = e := by simp [Program.elem, ht]
    have hu : P.underlying t = some (.slice (P.elem t)) := by rw [hel]; exact ht
    rw [run_slice_l W t A xs.length c hu .i64 m h0 (by omega), hel, hl]
    simp [sizeOf, typeInfo, hi, hsz, sliced, Result.andThen, Kd.int, Kd.scalar]
  · intro ad' he
    split at he
    · exact ⟨ad', he, rfl⟩
    · cases A with
      | none => cases he
      | some ad =>
        refine ⟨ad, rfl, ?_⟩
        injection he with he
        rw [← he]; exact hz _ _

set_option maxHeartbeats 1000000 in
theorem clone_calls (A : Option Addr) (c : Nat) (l : List Int) (w : World) (hr : Kd.C (Kd.int .u8) w A l.length l) (hl : l.length ≤ 140737488355328) :
    Calls Try.prog 29 #[.slice A l.length c] w fun e w' => ∃ v, e = .returned v ∧ Kd.R (Kd.int .u8) 5 w' w.heap.size (fun _ => True) v l ∧ Below w.heap.size w w' := by
  cases A with
  | none =>
    obtain ⟨h0, rfl⟩ := C_none hr
    clear hr hl
    have he : ∀ W : World, (binOp .eql 24 (.slice none 0 c) (.slice none 0 0)).run Try.prog W = .ok (.bool true) W := fun W => Lib.run_eql_slice_nil (P := Try.prog) W 24 5 none 0 c 0 0 Try.underlying24
    show Calls Try.prog 29 #[.slice none 0 c] w _
    go_enter Try.func29, Try.ntmps29
    go_wp2
    go_ret
    exact ⟨_, rfl, Kd.R_nil _ _ _ _ _, Below.refl _ _⟩
  | some ad =>
    have he : ∀ W : World, (binOp .eql 24 (.slice (some ad) l.length c) (.slice none 0 0)).run Try.prog W = .ok (.bool false) W := fun W => Lib.run_eql_slice_nil (P := Try.prog) W 24 5 (some ad) l.length c 0 0 Try.underlying24
    have HR0 := Aside0.mk hr
    have HL := Aside0.mk hl
    have HB := Aside0.mk (Below.refl w.heap.size w)
    clear hr hl
    go_enter Try.func29, Try.ntmps29
    go_wp2_with (first
      | ((with_reducible refine gate_dst (N := 5) rfl ?_); refine Kd.R_lit (Kd.int .u8) _ 5 ?hg (N := 5) ?hd (xs := ([] : List Int)) (inner := []) (ok := fun _ => True) (okp := fun _ => True) ?hr ?hp (fun _ hk => hk) trivial (Below.refl _ _) (Nat.le_refl _) (by simp) ?_; (case hd => rfl); (case hg => rfl); (case hr => first | (go_simp; done) | (go_simp; rfl)); (case hp => exact (Reps.none _ _)); intro v1 w1 ho hb hg_ hnew_; clear hg_ hnew_; have HO := Aside0.mk ho; have HB1 := Aside0.mk hb; clear ho hb)
      | ((with_reducible refine gate_builtin (b := .append) (xs := #[.tmp 5, .tmp 6]) rfl ?_); at_builtin; refine Kd.R_append_rows (Kd.int .u8) (w0 := w) w.heap.size rfl (.tmp 5) (.tmp 6) 24 5 (.int .u8 0) 1 rfl Try.underlying24 info5 rfl (by decide) (by omega) v1 [] l _ _ _ (fun _ => True) (fun _ => False) rfl rfl HO.out ?aR (fun _ _ h => h) (fun _ h => h.elim) (fun _ _ => trivial) HB1.out (below_size HB1.out) ?aL ?_; (case aR => exact Kd.C_below HR0.out HB1.out); (case aL => have := HL.out; simp; omega); intro v2 w2 ho2 hb2 hg2 hat2; have HO2 := Aside0.mk ho2; have HB2 := Aside0.mk hb2; clear ho2 hb2 hg2 hat2))
    go_ret
    exact ⟨_, rfl, HO2.out, HB2.out⟩
end Go.Proofs.Ythgghbmckpflcaa.Oct
