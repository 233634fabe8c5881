/- The small case of chapter 15 comes out right; no condition. -/
import Derived.Test.YthgghbmckpflcaaHeadC
import Derived.ArgAppend
namespace Go.Proofs.Ythgghbmckpflcaa.Oct
open Go.RowKit Go.Proofs.YthgghbmckpflcaaW.PrintWords Go.Proofs.YthgghbmckpflcaaW.PrintLast Go.Proofs.YthgghbmckpflcaaW.PrintMore

/-- One byte behind a slice of the call's own: the new slice has it, and the old one reads as it did. -/
theorem app_two (ty : TypeId) (W : World) (base : Nat) (A : Option Addr) (c : Nat) (l : List Int) (x : Int) (hb : base ≤ W.heap.size) (h0 : 0 < l.length) (hl : l.length ≤ 1000) (hR : Kd.R (Kd.int .u8) 5 W base (fun _ => True) (.slice A l.length c) l) :
    ∃ A1 c1 w1, (Builtin.append_ #[24, 24] ty #[.slice A l.length c, .slice (some ⟨W.heap.size, 0, none⟩) 1 1]).run Try.prog (W.alloc (.cells #[.int .u8 x] 5)) = .ok (.slice A1 (l.length + 1) c1) w1 ∧ Kd.C (Kd.int .u8) w1 A1 (l ++ [x]).length (l ++ [x]) ∧ Kd.C (Kd.int .u8) w1 A l.length l ∧ Below base W w1 := by
  obtain ⟨i5, hi5, hz5, hsz5, hby5⟩ := info_parts info5
  have hown := Kd.own_of_R hR
  rcases hown.2 with ⟨hv, hn⟩ | ⟨g, cap, cur, hv, hbg, hg, hnc, hcm, hcs, htake⟩
  · omega
  · injection hv with hA _ hc
    subst hA hc
    have hgl := blk_lt hg
    have hbx : (W.alloc (.cells #[.int .u8 x] 5)).heap[W.heap.size]? = some (.cells #[.int .u8 x] 5 (0, 0)) := heap_alloc_new W _
    have hg' : (W.alloc (.cells #[.int .u8 x] 5)).heap[g]? = some (.cells cur 5 (0, 0)) := (Below.heap_alloc W _ g hgl).trans hg
    have hnews : ∀ j u, [Value.int .u8 x][j]? = some u → (W.alloc (.cells #[.int .u8 x] 5)).cell? ((⟨W.heap.size, 0, none⟩ : Addr).add j) = some u := World.news_of_block hbx
    have hlen : (encs (Value.int .u8) (l ++ [x])).length = l.length + 1 := by simp [encs]
    by_cases hr : l.length + 1 ≤ c
    · have hrun := run_append_room (P := Try.prog) _ 24 ty 5 i5 Try.underlying24 hi5 g l.length c cur hg' ⟨W.heap.size, 0, none⟩ 1 1 [.int .u8 x] (by rw [hsz5]; rfl) hnews (by simp [Value.oneCell']) hr (by rw [hsz5, hcs]; simp; omega)
      rw [hsz5, Nat.mul_one] at hrun
      rw [Nat.mul_one] at htake
      have hh := setRow_heap _ g cur (cur.toList.take l.length ++ [Value.int .u8 x] ++ cur.toList.drop (l.length + [Value.int .u8 x].length)).toArray _ _ hg'
      have hszn : (cur.toList.take l.length ++ [Value.int .u8 x] ++ cur.toList.drop (l.length + [Value.int .u8 x].length)).toArray.size = c * 1 := by
        simp [hcs]; omega
      refine ⟨_, _, _, hrun, ?_, ?_, ?_⟩
      · have hR1 := Kd.R_of_own (enc := Value.int .u8) (h1 := fun _ => rfl) (base := base) (ok := fun _ => True) (v := .slice (some ⟨g, 0, none⟩) (l ++ [x]).length c) (xs := l ++ [x]) ⟨by simp [encs], .inr ⟨g, c, _, rfl, hbg, hh, by simpa using hr, hcm, hszn, by
          rw [htake]; exact (List.take_left' (by simp [encs])).trans (by simp [encs])⟩⟩ (fun _ _ => trivial)
        exact (Kd.R_reads' hR1).2.2
      · have hR1 := Kd.R_of_own (enc := Value.int .u8) (h1 := fun _ => rfl) (base := base) (ok := fun _ => True) (v := .slice (some ⟨g, 0, none⟩) l.length c) (xs := l) ⟨by simp [encs], .inr ⟨g, c, _, rfl, hbg, hh, hnc, hcm, hszn, by
          rw [htake]; simp [encs]⟩⟩ (fun _ _ => trivial)
        exact (Kd.R_reads' hR1).2.2
      · exact ((Below.refl _ _).alloc hb _).trans ⟨rfl, rfl, rfl, by simp, fun k hk => setRow_other _ _ _ _ (by omega)⟩
    · have holds : ∀ j u, (encs (Value.int .u8) l)[j]? = some u → (W.alloc (.cells #[.int .u8 x] 5)).cell? ((⟨g, 0, none⟩ : Addr).add j) = some u := fun j u hu => by
        have h1 := hown.cells (g := g) rfl j u hu
        exact pw_cell_below (below_alloc (Below.refl _ _) _) h1
      obtain ⟨v', w', hrun, hown', hgr⟩ := run_append_arg_grows (P := Try.prog) _ 24 ty 5 i5 (.int .u8 0) 1 1 Try.underlying24 hi5 hz5 hsz5 hby5 rfl (by omega) ⟨g, 0, none⟩ l.length c (encs (Value.int .u8) l) (by simp [encs]) holds ⟨W.heap.size, 0, none⟩ 1 1 [.int .u8 x] rfl hnews (by omega) (by simp [maxLen]; omega) (by omega)
      obtain ⟨g', cap', rfl, _, _⟩ := hown'.form (by omega)
      refine ⟨_, _, _, hrun, ?_, ?_, ?_⟩
      · have hR1 := Kd.R_of_own (enc := Value.int .u8) (h1 := fun _ => rfl) (ok := fun _ => True) (v := .slice (some ⟨g', 0, none⟩) (l ++ [x]).length cap') (xs := l ++ [x]) (by simpa [encs] using hown') (fun _ _ => trivial)
        exact (Kd.R_reads' hR1).2.2
      · exact Kd.C_below (Kd.R_reads' hR).2.2 ((below_alloc (Below.refl _ _) _).grown hgr (by simp) (fun k e => by cases e))
      · exact ((Below.refl _ _).alloc hb _).grown hgr (by simp; omega) (fun k e => by cases e)
def smA : List Int := [84, 90, 105, 102, 50, 0, 0, 0, 0, 0, 0, 0, 0, 0, 0, 0, 0, 0, 0, 0, 0, 0, 0, 0, 0, 0, 0, 1, 0, 0, 0, 0, 0, 0, 0, 3, 0, 0, 0, 1, 0, 0, 0, 4]
def smG : List Int := [84, 90, 105, 102, 0, 0, 0, 0, 0, 0, 0, 0, 0, 0, 0, 0, 0, 0, 0, 0, 0, 0, 0, 0, 0, 0, 0, 0, 0, 0, 0, 0, 0, 0, 0, 0, 0, 0, 0, 1, 0, 0, 0, 4]
theorem enc44 (v u s l t ty c : Int) (r : List Int) (hl : r.length = 44) (w : World) (h : encF v u s l t ty c = (r, true)) :
    Calls Try.prog 9 #[.agg #[.int .i64 v, .int .i64 u, .int .i64 s, .int .i64 l, .int .i64 t, .int .i64 ty, .int .i64 c]] w fun e w' => ∃ g c1, e = .returned (.tuple #[.slice (some ⟨g, 0, none⟩) 44 c1, .bool true]) ∧ 44 ≤ c1 ∧ Kd.R (Kd.int .u8) 5 w' w.heap.size (fun _ => True) (.slice (some ⟨g, 0, none⟩) 44 c1) r ∧ Kd.C (Kd.int .u8) w' (some ⟨g, 0, none⟩) 44 r ∧ Below w.heap.size w w' :=
  (encode_calls v u s l t ty c r true w h).mono fun e w' ⟨v0, he, hR, hb⟩ => by
    obtain ⟨A1, c1, rfl, hc, hr⟩ := Kd.R_reads hR
    rcases (Kd.own_of_R hR).2 with ⟨hv, hn⟩ | ⟨g, cap, cur, hv, _⟩
    · omega
    · injection hv with hA _ _
      subst hA
      rw [hl] at he hR hr hc
      exact ⟨g, c1, he, hc, hR, hr, hb⟩
theorem read_at {W : World} {g n : Nat} {l : List Int} (h : Kd.C (Kd.int .u8) W (some ⟨g, 0, none⟩) n l) (k : Nat) {x : Int} (hk : l[k]? = some x) (hn : 0 < n) : W.cell? ⟨g, k, none⟩ = some (.int .u8 x) := by
  obtain ⟨ad, he, hc⟩ := h.2.2 hn
  injection he with he
  subst he
  obtain ⟨c, hs, hr, hcell⟩ := hc k x hk
  have h1 := hcell 0 (.int .u8 x) (by rw [show c = [Value.int .u8 x] from hr]; rfl)
  have h2 : W.cell? (if k = 0 then ⟨g, 0, none⟩ else ⟨g, k, none⟩) = some (.int .u8 x) := by simpa [Kd.int, Kd.scalar, Addr.add] using h1
  split at h2
  · rename_i h3; subst h3; exact h2
  · exact h2
theorem cells7 {W : World} {h T : Nat} {a0 a1 a2 a3 a4 a5 a6 : Value} (hb : W.heap[h]? = some (.cells #[a0, a1, a2, a3, a4, a5, a6] T (0, 0))) :
    W.cell? ⟨h, 0, none⟩ = some a0 ∧ W.cell? ⟨h, 1, none⟩ = some a1 ∧ W.cell? ⟨h, 2, none⟩ = some a2 ∧ W.cell? ⟨h, 3, none⟩ = some a3 ∧ W.cell? ⟨h, 4, none⟩ = some a4 ∧ W.cell? ⟨h, 5, none⟩ = some a5 ∧ W.cell? ⟨h, 6, none⟩ = some a6 :=
  ⟨(blk_cell hb 0).trans rfl, (blk_cell hb 1).trans rfl, (blk_cell hb 2).trans rfl, (blk_cell hb 3).trans rfl, (blk_cell hb 4).trans rfl, (blk_cell hb 5).trans rfl, (blk_cell hb 6).trans rfl⟩
theorem blk_keep {W W1 : World} {h : Nat} {o : Obj} (hh : W.heap[h]? = some o) (hb : Below W.heap.size W W1) : W1.heap[h]? = some o := (hb.block _ (blk_lt hh)).trans hh
theorem blk_keep2 {W W1 : World} {h : Nat} {o q : Obj} (hh : W.heap[h]? = some o) (hb : Below (W.alloc q).heap.size (W.alloc q) W1) : W1.heap[h]? = some o := blk_keep (blk_keep hh (below_alloc (Below.refl _ _) q)) hb
def hdB (v u s l t ty c : Int) : Obj := .cells #[.int .i64 v, .int .i64 u, .int .i64 s, .int .i64 l, .int .i64 t, .int .i64 ty, .int .i64 c] 23 (0, 0)
/-- 'append' whose run is told. -/
theorem app_step {W w' : World} {ops : Array Oper} {rest : List Oper} {o : Oper} {a : Act} {Q : Exit → Act → World → Prop} (hgd : o.guard = none) (s x : Operand) (t : TypeId) (ho : o.op = .call { callee := .builtin .append, args := #[s, x], argTypes := #[t, t] }) {v u v' : Value} (hs : a.eval s = v) (hx : a.eval x = u)
    (hr : (Builtin.append_ #[t, t] o.type #[v, u]).run Try.prog W = .ok v' w') (h : wpList Try.prog ops Q rest (a.put o.dst v') w') : wpList Try.prog ops Q (o :: rest) a W :=
  Kd.event_run hgd (by simp only [execOp, ho, resolve, invoke, builtin, Sem.run_bind, Sem.run_pure, Result.andThen_ok, List.map_toArray, List.map_cons, List.map_nil, hs, hx, hr]) h
set_option maxHeartbeats 4000000 in
set_option maxRecDepth 100000 in
theorem small_calls (r : Bool) (w : World) (h : (some true : Option Bool) = some r) :
    Calls Try.prog 8 #[] w fun e w' => e = .returned (.bool r) ∧ Below w.heap.size w w' := by
  injection h with h
  subst h
  go_enter Try.func8, Try.ntmps8
  go_wp2_with fail
  refine (enc44 2 0 1 0 3 1 4 smA rfl _ (by decide +kernel)).mono ?_
  rintro e w1 ⟨g1, c1, rfl, hc1, hR1, hr1, hb1⟩
  obtain ⟨i5, hi5, _, hsz5, _⟩ := info_parts info5
  obtain ⟨hcut43, hT43, hL43⟩ := print_take_of (P := Try.prog) (Value.int .u8) 0 24 5 .i64 Try.underlying24 hi5 hsz5 (some ⟨g1, 0, none⟩) c1 smA 43 (by decide) (by decide) hc1
  obtain ⟨hcut6, hT6, hL6⟩ := print_take_of (P := Try.prog) (Value.int .u8) 0 24 5 .i64 Try.underlying24 hi5 hsz5 (some ⟨g1, 0, none⟩) c1 smA 6 (by decide) (by decide) hc1
  have HT43 := Aside0.mk hT43
  have HT6 := Aside0.mk hT6
  clear hcut43 hcut6 hT43 hT6 hL43 hL6 hi5 hsz5
  obtain ⟨A2, c2, w2, happ, hC2, hC1, hB2⟩ := app_two 24 w1 _ (some ⟨g1, 0, none⟩) c1 smA 9 (hb1.size) (by decide) (by decide) hR1
  have happ' : (Builtin.append_ #[24, 24] 24 #[.slice (some ⟨g1, 0, none⟩) 44 c1, .slice (some ⟨w1.heap.size, 0, none⟩) 1 1]).run Try.prog (w1.alloc (.cells #[.int .u8 9] 5)) = .ok (.slice A2 45 c2) w2 := happ
  have HC2 : Aside0 (Kd.C (Kd.int .u8) w2 A2 45 (smA ++ [9])) := ⟨hC2⟩
  have HC1 : Aside0 (Kd.C (Kd.int .u8) w2 (some ⟨g1, 0, none⟩) 44 smA) := ⟨hC1⟩
  have HB2 : Aside0 (Below w.heap.size w w2) := ⟨below_then (below_alloc (Below.refl _ _) _) (by simp) (hb1.trans hB2)⟩
  have HH2 : Aside0 (w2.heap[w.heap.size]? = some (hdB 2 0 1 0 3 1 4)) := ⟨((hb1.trans hB2).block _ (by simp)).trans (heap_alloc_new w _)⟩
  clear hC2 hC1 hB2 hb1 hr1 hR1 happ
  go_wp2_with (first | ((with_reducible refine gate_builtin (b := .append) (xs := #[.tmp 19, .tmp 20]) rfl ?_); at_builtin; refine app_step rfl (.tmp 19) (.tmp 20) 24 rfl rfl rfl happ' ?_))
  refine (decode_is A2 c2 (smA ++ [9]) 2 0 1 0 3 1 4 true w2 HC2.out (by kernel_rfl)).mono ?_
  rintro e w3 ⟨rfl, hb3⟩
  have HC3 := Aside0.mk (Kd.C_below HC1.out hb3)
  have HB3 := Aside0.mk (below_then HB2.out HB2.out.size hb3)
  have HH3 := Aside0.mk (blk_keep HH2.out hb3)
  clear hb3 HC1 HC2 HB2 happ' HH2
  go_wp2_with fail
  refine (encode_calls 5 0 0 0 0 1 4 [] false _ (by decide +kernel)).mono ?_
  rintro e w4 ⟨v4, rfl, _, hb4⟩
  have HB4 : Aside0 (Below w.heap.size w w4) := ⟨below_then (below_alloc HB3.out _) (by have := HB3.out.size; simp; omega) hb4⟩
  have HC4 : Aside0 (Kd.C (Kd.int .u8) w4 (some ⟨g1, 0, none⟩) 44 smA) := ⟨Kd.C_below (Kd.C_below HC3.out (below_alloc (Below.refl _ _) _)) hb4⟩
  have HH4 := Aside0.mk (blk_keep2 HH3.out hb4)
  have HK4 : Aside0 (w4.heap[w3.heap.size]? = some (hdB 2 0 1 0 3 1 4)) := ⟨(hb4.block _ (by simp)).trans (heap_alloc_new w3 _)⟩
  clear hb4 HC3 HB3 HH3
  go_wp2_with fail
  refine (decode_is (some ⟨g1, 0, none⟩) c1 (smA.take (Int.toNat 43)) 0 0 0 0 0 0 0 false w4 (Kd.C_of_reads (h1 := fun _ => rfl) (HT43.out w4 (Kd.reads_of_C HC4.out))) (by kernel_rfl)).mono ?_
  rintro e w5 ⟨rfl, hb5⟩
  have HB5 : Aside0 (Below w.heap.size w w5) := ⟨below_then HB4.out HB4.out.size hb5⟩
  have HC5 : Aside0 (Kd.C (Kd.int .u8) w5 (some ⟨g1, 0, none⟩) 44 smA) := ⟨Kd.C_below HC4.out hb5⟩
  have HH5 := Aside0.mk (blk_keep HH4.out hb5)
  have HK5 := Aside0.mk (blk_keep HK4.out hb5)
  clear hb5 HC4 HB4 HH4 HK4
  go_wp2_with fail
  refine (enc44 1 0 0 0 0 1 4 smG rfl _ (by decide +kernel)).mono ?_
  rintro e w6 ⟨g7, c7, rfl, hc7, _, hr7, hb6⟩
  have HB6 : Aside0 (Below w.heap.size w w6) := ⟨below_then (below_alloc HB5.out _) (by have := HB5.out.size; simp; omega) hb6⟩
  have HC6 : Aside0 (Kd.C (Kd.int .u8) w6 (some ⟨g1, 0, none⟩) 44 smA) := ⟨Kd.C_below (Kd.C_below HC5.out (below_alloc (Below.refl _ _) _)) hb6⟩
  have HG6 := Aside0.mk hr7
  have HH6 := Aside0.mk (blk_keep2 HH5.out hb6)
  have HK6 := Aside0.mk (blk_keep2 HK5.out hb6)
  have hstr := str_of (c := c1) (s := ⟨#[84, 90, 105, 102, 50, 0]⟩) (Kd.C_of_reads (h1 := fun _ => rfl) (HT6.out w6 (Kd.reads_of_C HC6.out)) : Kd.C (Kd.int .u8) w6 (some ⟨g1, 0, none⟩) (smA.take (Int.toNat 6)).length (smA.take (Int.toNat 6))) (by decide +kernel)
  have hstr6 : (convert 24 9 (.slice (some ⟨g1, 0, none⟩) 6 c1)).run Try.prog w6 = .ok (.string ⟨#[84, 90, 105, 102, 50, 0]⟩) w6 := hstr
  have hy27 : w6.cell? ⟨g1, 27, none⟩ = some (.int .u8 1) := read_at HC6.out 27 (by decide) (by decide)
  have hy43 : w6.cell? ⟨g1, 43, none⟩ = some (.int .u8 4) := read_at HC6.out 43 (by decide) (by decide)
  have hy4 : w6.cell? ⟨g7, 4, none⟩ = some (.int .u8 0) := read_at hr7 4 (by decide) (by decide)
  obtain ⟨a0, a1, a2, a3, a4, a5, a6⟩ := cells7 HH6.out
  obtain ⟨b0, b1, b2, b3, b4, b5, b6⟩ := cells7 HK6.out
  clear hb6 HC5 HB5 hr7 HC6 HG6 HH5 HK5 hstr HT43 HT6
  go_wp2_with fail
  refine (size_calls 2 0 1 0 3 1 4 8 w6).mono ?_
  rintro e w7 ⟨rfl, hb7⟩
  rw [show sizeF 2 0 1 0 3 1 4 8 = 38 by decide +kernel]
  have HH7 := Aside0.mk (blk_keep HH6.out hb7)
  have HB7 : Aside0 (Below w.heap.size w w7) := ⟨below_then HB6.out HB6.out.size hb7⟩
  clear a0 a1 a2 a3 a4 a5 a6 b0 b1 b2 b3 b4 b5 b6 hy27 hy43 hy4 hstr6 HK6 hb7 HH6 HB6
  obtain ⟨a0, a1, a2, a3, a4, a5, a6⟩ := cells7 HH7.out
  go_wp2_with fail
  refine (size_calls 2 0 1 0 3 1 4 4 w7).mono ?_
  rintro e w8 ⟨rfl, hb8⟩
  rw [show sizeF 2 0 1 0 3 1 4 4 = 26 by decide +kernel]
  have HH8 := Aside0.mk (blk_keep HH7.out hb8)
  have HB8 : Aside0 (Below w.heap.size w w8) := ⟨below_then HB7.out HB7.out.size hb8⟩
  clear a0 a1 a2 a3 a4 a5 a6 hb8 HH7 HB7
  obtain ⟨a0, a1, a2, a3, a4, a5, a6⟩ := cells7 HH8.out
  go_wp2_with fail
  refine (size_calls 2 0 1 0 3 1 4 5 w8).mono ?_
  rintro e w9 ⟨rfl, hb9⟩
  rw [show sizeF 2 0 1 0 3 1 4 5 = 0 by decide +kernel]
  have HH9 := Aside0.mk (blk_keep HH8.out hb9)
  have HB9 : Aside0 (Below w.heap.size w w9) := ⟨below_then HB8.out HB8.out.size hb9⟩
  clear a0 a1 a2 a3 a4 a5 a6 hb9 HH8 HB8
  obtain ⟨a0, a1, a2, a3, a4, a5, a6⟩ := cells7 HH9.out
  go_wp2_with fail
  refine (right_calls 2 0 1 0 3 1 4 w9).mono ?_
  rintro e w10 ⟨rfl, hb10⟩
  rw [show rightS 2 0 1 0 3 1 4 = true by decide +kernel]
  have HB10 : Aside0 (Below w.heap.size w w10) := ⟨below_then HB9.out HB9.out.size hb10⟩
  clear hb10
  go_wp2_with fail
  refine (right_calls 0 0 0 0 0 0 0 w10).mono ?_
  rintro e w11 ⟨rfl, hb11⟩
  rw [show rightS 0 0 0 0 0 0 0 = false by decide +kernel]
  have HB11 : Aside0 (Below w.heap.size w w11) := ⟨below_then HB10.out HB10.out.size hb11⟩
  clear hb11
  go_wp2
  go_ret
  exact ⟨rfl, HB11.out⟩
end Go.Proofs.Ythgghbmckpflcaa.Oct
