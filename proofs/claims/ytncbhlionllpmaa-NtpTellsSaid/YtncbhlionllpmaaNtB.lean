/- sha.Hex: digits of twenty bytes: the walk; no condition. -/
import Derived.Test.YtncbhlionllpmaaNtR
import Derived.Deep.RegionLaw
import Derived.BigRegion
namespace Go.Proofs.Ytncbhlionllpmaa.Nt
open Go.RowKit Go.Proofs.YtncbhlionllpmaaW.PrintWords Go.Proofs.YtncbhlionllpmaaW.PrintLast Go.Proofs.YtncbhlionllpmaaW.PrintMore

theorem info5 : (Try.prog.info? 5).map (fun i => (i.zero, i.size, i.bytes)) = some (some (.int .u8 0), 1, 1) := by kernel_rfl
def hexD (d : Int) : Int := if d < 10 then 48 + d else 87 + d
def hexL (L : List Int) : List Int := L.flatMap (fun x => [hexD (x / 16), hexD (x % 16)])
theorem take_succ (L : List Int) {k : Nat} (h : k < L.length) : L.take (k + 1) = L.take k ++ [L.getD k 0] := by
  rw [List.take_add_one, List.getElem?_eq_getElem h]
  simp [List.getD, h]
theorem hexL_snoc (L : List Int) (x : Int) : hexL (L ++ [x]) = hexL L ++ [hexD (x / 16), hexD (x % 16)] := by
  unfold hexL
  rw [List.flatMap_append]
  rfl
theorem hexL_length (L : List Int) : (hexL L).length = 2 * L.length := by
  induction L with
  | nil => rfl
  | cons x L ih =>
    have e : hexL (x :: L) = hexD (x / 16) :: hexD (x % 16) :: hexL L := rfl
    rw [e, List.length_cons, List.length_cons, List.length_cons, ih]
    omega
def DIG : ByteArray := ⟨#[48, 49, 50, 51, 52, 53, 54, 55, 56, 57, 97, 98, 99, 100, 101, 102]⟩
theorem dig_at {q : Int} (h0 : 0 ≤ q) (h1 : q < 16) (h : q.toNat < DIG.size) : ((DIG[q.toNat]).toNat : Int) = hexD q := by
  obtain ⟨n, rfl⟩ := Int.eq_ofNat_of_zero_le h0
  have hn : n = 0 ∨ n = 1 ∨ n = 2 ∨ n = 3 ∨ n = 4 ∨ n = 5 ∨ n = 6 ∨ n = 7 ∨ n = 8 ∨ n = 9 ∨ n = 10 ∨ n = 11 ∨ n = 12 ∨ n = 13 ∨ n = 14 ∨ n = 15 := by omega
  rcases hn with rfl | rfl | rfl | rfl | rfl | rfl | rfl | rfl | rfl | rfl | rfl | rfl | rfl | rfl | rfl | rfl <;> rfl
theorem pair_C {W : World} {q m : Int} {x y : Value} (hx : x = .int .u8 (hexD q)) (hy : y = .int .u8 (hexD m)) (t : TypeId) :
    Kd.C (Kd.int .u8) (W.alloc (.cells #[x, y] t (0, 0))) (some ⟨W.heap.size, 0, none⟩) 2 [hexD q, hexD m] := by
  subst hx hy
  refine Kd.C_of_reads (enc := Value.int .u8) (d := (0 : Int)) (h1 := fun _ => rfl) ⟨rfl, by decide, fun _ => ⟨_, rfl, fun j hj => ?_⟩⟩
  rw [add_plain, blk_cell (blk_new W _) j]
  have : j = 0 ∨ j = 1 := by omega
  rcases this with rfl | rfl <;> rfl
set_option maxHeartbeats 4000000 in
set_option maxRecDepth 100000 in
theorem hex_calls (L : List Int) (w : World) (hl : L.length = 20) (hb : ∀ i < 20, 0 ≤ L.getD i 0 ∧ L.getD i 0 < 256) :
    Calls Try.prog 20 #[.agg (arrC .u8 L)] w fun e w' => e = .returned (.string (strOfNums (hexL L))) ∧ Below w.heap.size w w' := by
  have hCs : (arrC .u8 L).size = 20 := by rw [arrC_size, hl]
  have HBD := Aside0.mk hb
  clear hb
  go_enter Try.func20, Try.ntmps20
  go_wp2_with (first
    | ((with_reducible refine gate_dst (N := 1) rfl ?_); refine box_event ?hg (N := 1) ?hd (cs := arrC .u8 L) (t := 39) ?hr ?_; (case hd => rfl); (case hg => rfl); (case hr => first | (go_simp; done) | (go_simp; rfl)); intro g hgW w1 hbox hb1; have HB := Aside0.mk hb1; have BK := Aside0.mk hbox; clear hb1 hbox hgW)
    | ((with_reducible refine gate_dst (N := 6) rfl ?_); refine load_event ?hg (N := 6) ?hd rfl rfl BK.out (by rfl) ?hi ?_; (case hd => rfl); (case hg => rfl); (case hi => rw [hCs]; rfl)))
  go_loopw [3, 7] (fun v i wr => ∃ k : Nat, k ≤ 20 ∧ i = .int .i64 (k : Int) ∧ Aside0 (Kd.R (Kd.int .u8) 5 wr w.heap.size (fun _ => True) v (hexL (L.take k))) ∧ Aside0 (Below w.heap.size w wr)) (fun _ i _ => 20 - (intOf i).toNat)
  case atStart => exact ⟨0, by omega, rfl, ⟨Kd.R_nil _ _ _ _ _⟩, HB⟩
  case round =>
    obtain ⟨k, hk, rfl, HO, HB2⟩ := hrel
    clear HB BK
    by_cases hlt : k < 20
    · have hx : (arrC .u8 L)[k]? = some (.int .u8 (L.getD k 0)) := arrC_at (by omega)
      have hix := run_index_arr (P := Try.prog) (t := 39) Try.runUnderlying39 Try.sizeOf5 Try.isAgg5 hlt hx
      have hx8 := HBD.out k hlt
      have HN : Aside0 (hexL (L.take (k + 1)) = hexL (L.take k) ++ [hexD (L.getD k 0 / 16), hexD (L.getD k 0 % 16)]) := ⟨by rw [take_succ L (by omega), hexL_snoc]⟩
      have HLN : Aside0 ((hexL (L.take k)).length ≤ 40) := ⟨by rw [hexL_length, List.length_take]; omega⟩
      generalize L.getD k 0 = x at *
      generalize hexL (L.take k) = pre at *
      clear HBD
      go_wp2
      obtain ⟨q, hq⟩ : ∃ q, x / 16 = q := ⟨_, rfl⟩
      obtain ⟨m, hm⟩ : ∃ m, x % 16 = m := ⟨_, rfl⟩
      have hm2 : bits .and .u8 x 15 = m := by rw [u8_and15 _ hx8.1 hx8.2, hm]
      have hq0 : 0 ≤ q := by omega
      have hq1 : q < 16 := by omega
      have hm0 : 0 ≤ m := by omega
      have hm1 : m < 16 := by omega
      rw [hq, hm] at HN
      clear hm hx8
      go_region_law (refine Kd.R_append_rows_step (Kd.int .u8) (w0 := w) w.heap.size (by simp [Region.wanted]) (.tmp 10) (.tmp 17) 36 5 (.int .u8 0) 1 rfl Try.underlying36 info5 rfl (by decide) (by omega) u3 pre [hexD q, hexD m] (some ⟨wr.heap.size, 0, none⟩) 2 2 (fun _ => True) (fun _ => False) (by simp [Act.eval]) (by simp [Act.eval]) ?aO ?aR (fun _ _ h => h) (fun _ h => h.elim) (fun _ _ => trivial) ?aB ?aS ?aL ?_; (case aO => (with_reducible repeat (first | apply Kd.R_alloc | apply Kd.R_drewN | apply Kd.R_drew)); exact HO.out); (case aR => exact pair_C (congrArg (Value.int .u8) (dig_at hq0 hq1 (by show _ < 16; omega))) (congrArg (Value.int .u8) (dig_at hm0 hm1 (by show _ < 16; omega))) _); (case aB => exact below_alloc (below_drew HB2.out) _); (case aS => exact below_size (below_alloc (below_drew HB2.out) _)); (case aL => have := HLN.out; omega); intro v2 w2 ho hb hg hat; have HO2 := Aside0.mk ho; have HB3 := Aside0.mk hb; clear ho hb hg hat)
      all_goals
        go_wp2
        exact ⟨⟨k + 1, by omega, by go_num, ⟨by rw [HN.out]; exact HO2.out⟩, HB3⟩, by simp [intOf]; omega⟩
    · obtain rfl : k = 20 := by omega
      rw [List.take_of_length_le (by omega)] at HO
      have hcv := own_string (P := Try.prog) Try.underlying36 Try.underlying5 Try.underlying9 (Kd.own_of_R HO.out)
      go_wp2
      go_ret
      exact ⟨rfl, HB2.out⟩
end Go.Proofs.Ytncbhlionllpmaa.Nt
