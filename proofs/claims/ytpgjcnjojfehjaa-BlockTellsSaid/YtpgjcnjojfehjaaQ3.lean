/- Texts of chapter 16 laid together, without what none of them names (wip/block/prune.py; those whose names begin with W are the kit's printed words, cut): BkF, BkT, BkM, BkD, BkH, BkI, BkJ, BkW, BkX, BkG, BkK, PBlBackx0, PBlBackx1, PBlBackx2, PBlBackx3, PBlBackx4, PBlBackx5, BkY. -/
import Derived.Test.YtpgjcnjojfehjaaQ2
import Derived.Deep.DeepCutAuto
import Derived.Test.YtpgjcnjojfehjaaQ1
import Derived.Outline
import Derived.Deep.RegionHeld3
import Derived.RegionTactic
import Derived.Deep.CutBlock
import Derived.BigRegion
import Derived.Test.YtpgjcnjojfehjaaProg
import Derived.Below
import Derived.Deep.Draws
import Derived.Deep.AppendLies
import Derived.Maps.AppendAt
import Derived.OwnWalk
import Derived.Laws.BytesArg
import Derived.Laws.MakeOwn
import Derived.Laws.OwnMore
import Derived.Deep.OwnRows
import Derived.Tactics
import Derived.Lib.ConvBytes
import Derived.Laws.Slices
import Derived.WalkKit
import Derived.KernelRfl
import Derived.RowKit3
import Derived.Deep.LoopGhost
import Derived.Deep.QuietTactic
import Derived.BigQuiet
import Derived.WideLaws
import Derived.Laws.Rows
import Derived.Lib.AppendStr
import Derived.ArgAppend
import Derived.Laws.IdiomCopy
import Derived.OrdersHeld
import Derived.Laws.BitsLemmas
import Derived.RowKit
namespace Go.Proofs.Ytpgjcnjojfehjaa.Bk
open Go.RowKit Go.Proofs.YtpgjcnjojfehjaaW.PrintWords Go.Proofs.YtpgjcnjojfehjaaW.PrintLast Go.Proofs.YtpgjcnjojfehjaaW.PrintMore Ab Kx Oct AbT
structure Fr (w W : World) (z g : Nat) (cs : Array Value) (va : Value) (ats : List Int) : Prop where
 zone : W.heap[z]? = some (.cells cs 26 (0, 0))
 ne : z ≠ g
 row : Kd.R (Kd.int .i64) 3 W w.heap.size (fun _ => True) va ats
 below : Below w.heap.size w W
theorem Fr.step {w W W1 : World} {z g : Nat} {cs : Array Value} {va : Value} {ats : List Int} (h : Fr w W z g cs va ats) (hb : Below W.heap.size W W1) : Fr w W1 z g cs va ats :=
 ⟨blk_below h.zone hb, h.ne, Kd.R_below h.row hb, below_step h.below hb⟩
theorem Keep.row {B b g : Nat} {W W1 : World} {va : Value} {ats : List Int} (h : Keep B g W W1) {cs : Array Value} (hg : W.heap[g]? = some (.cells cs 58 (0, 0))) (hr : Kd.R (Kd.int .i64) 3 W b (fun _ => True) va ats) : Kd.R (Kd.int .i64) 3 W1 b (fun _ => True) va ats := by
 refine Kd.R_mono (Kd.R_step (Kd.R_bound hr) fun k hk hlt => ?_) (fun _ _ => trivial)
 obtain ⟨_, _, _, q, hq, cells, hc⟩ := hk
 have hq3 : q = 3 := by simpa [Kd.int, Kd.scalar] using hq
 subst hq3
 rw [hc]
 refine h.far (fun e => ?_) (by decide) hc
 subst e
 rw [hg] at hc
 injection hc with hc
 injection hc with _ hc
 revert hc
 decide
theorem Fr.keep {w W W1 : World} {z g : Nat} {cs : Array Value} {va : Value} {ats : List Int} {l : List Int} {bad : Bool} (h : Fr w W z g cs va ats) (hw : Wr w.heap.size W g l bad) (hk : Keep w.heap.size g W W1) : Fr w W1 z g cs va ats := by
 obtain ⟨v, hb, _, _⟩ := hw
 exact ⟨hk.far h.ne (by decide) h.zone, h.ne, hk.row hb h.row, h.below.trans hk.1⟩
theorem put_is {B : Nat} {W : World} {g : Nat} {l : List Int} {bad : Bool} (n size : Int) (h : Wr B W g l bad) (hl : l.length ≤ 1000000) (hBW : B ≤ W.heap.size) :
  Calls Try.prog 23 #[.pointer (some ⟨g, 0, none⟩), .int .i64 n, .int .i64 size] W fun e w' => e = .returned (.tuple #[]) ∧ Wr B w' g (l ++ lay [(n, size)]) (bad || !fit [(n, size)]) ∧ Keep B g W w' := by
 rw [lay_one, fit_one]
 exact put_walk B W g l bad n size h hl _ _ rfl (put_length n size) hBW
theorem Wr.start {B : Nat} {W : World} {g : Nat} (hb : W.heap[g]? = some (.cells #[.slice none 0 0, .bool false] 58 (0, 0))) (hB : B ≤ g) : Wr B W g [] false := ⟨_, hb, hB, Kd.R_nil _ _ _ _ _⟩
theorem rd48 {tr : List S48} {i : Nat} (h : i < tr.length) : rd_T48 tr (i : Int) = tr[i] := by
 unfold rd_T48
 rw [Int.toNat_natCast]
 simp [List.getD, h]
theorem numsT_take {tr : List S48} {size : Int} {i : Nat} (h : i < tr.length) : numsT (tr.take (i + 1)) size = numsT (tr.take i) size ++ [(tr[i].f0, size)] := by
 rw [List.take_succ_eq_append_getElem h]
 unfold numsT
 rw [List.map_append]
 rfl
theorem rd50 {lp : List S50} {i : Nat} (h : i < lp.length) : rd_T50 lp (i : Int) = lp[i] := by
 unfold rd_T50
 rw [Int.toNat_natCast]
 simp [List.getD, h]
theorem rd_at {l : List Int} {i : Nat} (h : i < l.length) : rd l (i : Int) = l[i] := by
 unfold rd
 rw [Int.toNat_natCast]
 simp [List.getD, h]
theorem numsK_take {tr : List S48} {i : Nat} (h : i < tr.length) : numsK (tr.take (i + 1)) = numsK (tr.take i) ++ [(tr[i].f1, 1)] := by
 rw [List.take_succ_eq_append_getElem h]
 unfold numsK
 rw [List.map_append]
 rfl
theorem numsL_take {lp : List S50} {size : Int} {i : Nat} (h : i < lp.length) : numsL (lp.take (i + 1)) size = numsL (lp.take i) size ++ [(lp[i].f0, size)] ++ [(lp[i].f1, 4)] := by
 rw [List.take_succ_eq_append_getElem h]
 unfold numsL
 rw [List.flatMap_append, List.append_assoc]
 rfl
theorem zip_take {α β : Type} : ∀ (x : List α) (y : List β) (i : Nat) (h : i < x.length) (h2 : i < y.length), (x.take (i + 1)).zip y = (x.take i).zip y ++ [(x[i], y[i])]
 | a :: x, b :: y, 0, _, _ => by simp
 | a :: x, b :: y, i + 1, h, h2 => by
  have ih := zip_take x y i (by simpa using h) (by simpa using h2)
  simp only [List.take_succ_cons, List.zip_cons_cons, List.cons_append, List.getElem_cons_succ]
  rw [ih]
theorem numsY_take {ty : List S46} {ats : List Int} {i : Nat} (ha : ats.length = ty.length) (h : i < ty.length) : numsY (ty.take (i + 1)) ats = numsY (ty.take i) ats ++ [(ty[i].f0, 4)] ++ [(mk ty[i].f1, 1)] ++ [(ats[i]'(by rw [ha]; exact h), 1)] := by
 unfold numsY
 rw [zip_take ty ats i h (by rw [ha]; exact h), List.flatMap_append, List.append_assoc, List.append_assoc]
 rfl
theorem numsT_take_len (tr : List S48) (size : Int) (k : Nat) : (numsT (tr.take k) size).length ≤ tr.length := by unfold numsT; rw [List.length_map]; exact List.length_take_le' _ _
theorem numsK_take_len (tr : List S48) (k : Nat) : (numsK (tr.take k)).length ≤ tr.length := by unfold numsK; rw [List.length_map]; exact List.length_take_le' _ _
theorem numsT_len (tr : List S48) (size : Int) : (numsT tr size).length ≤ tr.length := by unfold numsT; rw [List.length_map]; exact Nat.le_refl _
theorem numsK_len (tr : List S48) : (numsK tr).length ≤ tr.length := by unfold numsK; rw [List.length_map]; exact Nat.le_refl _
theorem numsL_len : ∀ (lp : List S50) (size : Int), (numsL lp size).length = 2 * lp.length
 | [], _ => rfl
 | c :: lp, size => by
  have h := numsL_len lp size
  show ([(c.f0, size), (c.f1, 4)] ++ numsL lp size).length = _
  simp only [List.length_append, h, List.length_cons, List.length_nil]
  omega
theorem numsL_take_len (lp : List S50) (size : Int) (k : Nat) : (numsL (lp.take k) size).length ≤ 2 * lp.length := by
 rw [numsL_len, List.length_take]; omega
theorem numsY_len : ∀ (ty : List S46) (ats : List Int), (numsY ty ats).length ≤ 3 * ty.length
 | [], _ => Nat.zero_le _
 | t :: ty, [] => Nat.zero_le _
 | t :: ty, a :: ats => by
  have h := numsY_len ty ats
  show ([(t.f0, 4), (mk t.f1, 1), (a, 1)] ++ numsY ty ats).length ≤ _
  simp only [List.length_append, List.length_cons, List.length_nil]
  omega
theorem numsY_take_len (ats : List Int) (ty : List S46) (k : Nat) : (numsY (ty.take k) ats).length ≤ 3 * ty.length := by
 have h := numsY_len (ty.take k) ats
 have h2 : (ty.take k).length ≤ ty.length := List.length_take_le' _ _
 omega
theorem lay_grow {L : List Int} {ns : List (Int × Int)} {c : Nat} (h : (L ++ lay ns).length ≤ c) (p : Int × Int) : (L ++ lay (ns ++ [p])).length ≤ c + 8 := by
 have h2 := lay_length [p]
 rw [lay_app, ← List.append_assoc, List.length_append]
 simp only [List.length_singleton] at h2
 omega
theorem Wr.step {B : Nat} {W : World} {g : Nat} {L : List Int} {ns : List (Int × Int)} {n size : Int} {b : Bool} (h : Wr B W g (L ++ lay ns ++ lay [(n, size)]) ((b || !fit ns) || !fit [(n, size)])) : Wr B W g (L ++ lay (ns ++ [(n, size)])) (b || !fit (ns ++ [(n, size)])) := by
 rw [lay_app, fit_app, ← List.append_assoc, Bool.not_and, ← Bool.or_assoc]
 exact h
theorem Wr.zero {B : Nat} {W : World} {g : Nat} {L : List Int} {b : Bool} (h : Wr B W g L b) : Wr B W g (L ++ lay []) (b || !fit []) := by
 have e : lay [] = [] := rfl
 have e2 : fit [] = true := rfl
 rw [e, e2, List.append_nil, Bool.not_true, Bool.or_false]
 exact h
theorem mark_calls (b : Bool) (W : World) : Calls Try.prog 24 #[.bool b] W fun e w' => e = .returned (.int .i64 (mk b)) ∧ W = w' := by
 cases b
 ·go_enter Try.func24, Try.ntmps24
  go_wp2
  go_ret
  exact ⟨rfl, rfl⟩
 ·go_enter Try.func24, Try.ntmps24
  go_wp2
  go_ret
  exact ⟨rfl, rfl⟩
theorem Wr.app_row {B : Nat} {W : World} {v : Value} {l : List Int} (h : W.ownsRow B 5 1 v l.length (nums .u8 l)) : Kd.R (Kd.int .u8) 5 W B (fun _ => True) v l :=
 Kd.R_of_own (enc := Value.int .u8) (h1 := fun _ => rfl) h (fun _ _ => trivial)
theorem app_block' {B : Nat} {W W1 : World} {v : Value} {l : List Int} {g : Nat} {cs : Array Value} {T : Nat} (hT : 5 ≠ T) (hb : W.heap[g]? = some (.cells cs T (0, 0))) (hR : Kd.R (Kd.int .u8) 5 W B (fun _ => True) v l) (hg : W.grownBy W1 v.ownBlock) : W1.heap[g]? = some (.cells cs T (0, 0)) :=
 (hg.block g (blk_lt hb) (Kd.R_ne hR hb hT)).trans hb
theorem Wr.put0 {B : Nat} {W : World} {g : Nat} {v v1 : Value} {l : List Int} {b : Bool} (hb : W.heap[g]? = some (.cells #[v, .bool b] 58 (0, 0))) (hB : B ≤ g) (hR : Kd.R (Kd.int .u8) 5 W B (fun _ => True) v1 l) : Wr B (W.setCell ⟨g, 0, none⟩ v1) g l b :=
 ⟨v1, blk_set hb 0 v1, hB, Kd.R_mono (Kd.R_far (Kd.R_types hR hb (by decide)) (fun k hk => hk.2) _) (fun _ _ => trivial)⟩
theorem enc_list {L1 L2 L3 L4 P : List Int} {T K Y Z : List (Int × Int)} (h1 : ([] : List Int) = L1) (h2 : L1 ++ lay T = L2) (h3 : L2 ++ lay K = L3) (h4 : L3 ++ lay Y ++ P = L4) : L4 ++ lay Z = lay (T ++ K ++ Y) ++ P ++ lay Z := by
 subst h1 h2 h3 h4
 rw [lay_app, lay_app, List.nil_append]
theorem enc_bad {b1 b2 b3 b4 : Bool} {T K Y Z : List (Int × Int)} (h1 : false = b1) (h2 : (b1 || !fit T) = b2) (h3 : (b2 || !fit K) = b3) (h4 : (b3 || !fit Y) = b4) : (b4 || !fit Z) = !(fit (T ++ K ++ Y) && fit Z) := by
 subst h1 h2 h3 h4
 rw [fit_app, fit_app]
 cases fit T <;> cases fit K <;> cases fit Y <;> cases fit Z <;> rfl
theorem zone_cells {W : World} {z : Nat} {a b c d e : Value} (h : W.heap[z]? = some (.cells #[a, b, c, d, e] 26 (0, 0))) :
  W.cell? ⟨z, 0, none⟩ = some a ∧ W.cell? ⟨z, 1, none⟩ = some b ∧ W.cell? ⟨z, 2, none⟩ = some c ∧ W.cell? ⟨z, 3, none⟩ = some d ∧ W.cell? ⟨z, 4, none⟩ = some e :=
 ⟨(blk_cell h 0).trans rfl, (blk_cell h 1).trans rfl, (blk_cell h 2).trans rfl, (blk_cell h 3).trans rfl, (blk_cell h 4).trans rfl⟩
set_option maxHeartbeats 4000000 in
set_option maxRecDepth 100000 in
theorem encode_4 (A0 : Option Addr) (c0 : Nat) (ty : List S46) (A1 : Option Addr) (c1 : Nat) (tr : List S48) (A2 : Option Addr) (c2 : Nat) (lp : List S50) (foot : ByteArray) (ver : Int) (w : World)
  (hr0 : Kd.C k46 w A0 ty.length ty) (hc0 : ty.length ≤ c0) (hr1 : Kd.C k48 w A1 tr.length tr) (hc1 : tr.length ≤ c1) (hr2 : Kd.C k50 w A2 lp.length lp) (hc2 : lp.length ≤ c2)
  (ho : okZ ty tr lp = true) (hcn : (countN ty tr lp ver).2.2.2.2.2.2.2 = true) :
  Calls Try.prog 12 #[.agg #[.slice A0 ty.length c0, .slice A1 tr.length c1, .slice A2 lp.length c2, .string foot, .int .i64 ver], .int .i64 4] w fun e w' => ∃ v0_ : Value, e = .returned (.tuple #[v0_, .bool (encN ty tr lp ver 4).2]) ∧ Kd.R (Kd.int .u8) 5 w' w.heap.size (fun _ => True) v0_ (encN ty tr lp ver 4).1 ∧ Below w.heap.size w w' := by
 obtain ⟨z1, z2, z3, z4⟩ := okZ_out ho
 obtain ⟨n1, n2, n3, n4, n5, n6, n7, n8, hn⟩ : ∃ n1 n2 n3 n4 n5 n6 n7 n8, countN ty tr lp ver = (n1, n2, n3, n4, n5, n6, n7, n8) := ⟨_, _, _, _, _, _, _, _, rfl⟩
 have h8 : n8 = true := by rw [hn] at hcn; exact hcn
 subst h8
 have HCT := Aside0.mk (fun W h0 h1 h2 => count_is A0 c0 ty A1 c1 tr A2 c2 lp foot ver n1 n2 n3 n4 n5 n6 n7 true W h0 hc0 h1 hc1 h2 hc2 (show countF ty tr lp foot ver = _ by unfold countF; rw [ho]; exact congrArg some hn))
 have HPL := Aside0.mk (fun W h0 h1 h2 => pool_is A0 c0 ty A1 c1 tr A2 c2 lp foot ver W h0 hc0 h1 hc1 h2 hc2 ho)
 have HR0 := Aside0.mk hr0
 have HR1 := Aside0.mk hr1
 have HR2 := Aside0.mk hr2
 have HAT : Aside0 ((poolT (namesL ty)).2.1.length = ty.length) := ⟨by
  have h1 : (poolT (namesL ty)).2.2 = true := by
   unfold countN at hcn
   cases hp : (poolT (namesL ty)).2.2 with
   | true => rfl
   | false => rw [hp] at hcn; cases hcn
  rw [pool_ats h1]; unfold namesL; rw [List.length_map]⟩
 obtain ⟨P, hP⟩ : ∃ P, (poolT (namesL ty)).1 = P := ⟨_, rfl⟩
 have hPs : P.size ≤ 256 := by rw [← hP]; exact pool_size _
 obtain ⟨ats, hats⟩ : ∃ a, (poolT (namesL ty)).2.1 = a := ⟨_, rfl⟩
 obtain ⟨pok, hpok⟩ : ∃ a, (poolT (namesL ty)).2.2 = a := ⟨_, rfl⟩
 have HN : Aside0 (encN ty tr lp ver 4 = match fit (numsT tr 4 ++ numsK tr ++ numsY ty ats) && fit (numsL lp 4) with | true => (lay (numsT tr 4 ++ numsK tr ++ numsY ty ats) ++ bytesOf P ++ lay (numsL lp 4), true) | false => ([], false)) := ⟨by
  unfold encN encG bodyN numsA
  rw [hcn, show decide ((4 : Int) = 4 ∨ (4 : Int) = 8) = true from rfl, hP, hats]
  rfl⟩
 rw [hP, hats, hpok] at HPL
 rw [hats] at HAT
 obtain ⟨R, hR⟩ : ∃ R, encN ty tr lp ver 4 = R := ⟨_, rfl⟩
 rw [hR] at HN ⊢
 have HB := Aside0.mk (Below.refl w.heap.size w)
 clear hr0 hr1 hr2 hn hcn hP hats hpok hR ho z4
 have hms : 8 ≤ 1000000 := by decide
 go_enter Try.func12, Try.ntmps12
 go_wp2_with (first
  | ((with_reducible refine gate_dst (N := 2) rfl ?_); refine box_event ?hg (N := 2) ?hd (cs := #[.slice A0 ty.length c0, .slice A1 tr.length c1, .slice A2 lp.length c2, .string foot, .int .i64 ver]) (t := 26) ?hr ?_; (case hd => rfl); (case hg => rfl); (case hr => first | (go_simp; done) | (go_simp; rfl)); intro z hgW w1 hbox hb1; have HZ := Aside0.mk hbox; have HB1 := Aside0.mk hb1; have HGZ : Aside0 (w.heap.size ≤ z) := ⟨by omega⟩; have hz0 : w1.cell? ⟨z, 0, none⟩ = some (.slice A0 ty.length c0) := (blk_cell hbox 0).trans rfl; have hz1 : w1.cell? ⟨z, 1, none⟩ = some (.slice A1 tr.length c1) := (blk_cell hbox 1).trans rfl; have hz2 : w1.cell? ⟨z, 2, none⟩ = some (.slice A2 lp.length c2) := (blk_cell hbox 2).trans rfl; have hz3 : w1.cell? ⟨z, 3, none⟩ = some (.string foot) := (blk_cell hbox 3).trans rfl; have hz4 : w1.cell? ⟨z, 4, none⟩ = some (.int .i64 ver) := (blk_cell hbox 4).trans rfl; clear hb1 hbox hgW))
 refine (HCT.out _ (Kd.C_below HR0.out HB1.out) (Kd.C_below HR1.out HB1.out) (Kd.C_below HR2.out HB1.out)).mono ?_
 rintro e w2 ⟨rfl, hb2⟩
 clear hz0 hz1 hz2 hz3 hz4
 have HZ2 := Aside0.mk (blk_below HZ.out hb2)
 have HB2 := Aside0.mk (below_step HB1.out hb2)
 have hy0 := fun o => pw_cell_below (below_alloc (Below.refl _ _) o) (zone_cells HZ2.out).1
 have hy1 := fun o => pw_cell_below (below_alloc (Below.refl _ _) o) (zone_cells HZ2.out).2.1
 have hy2 := fun o => pw_cell_below (below_alloc (Below.refl _ _) o) (zone_cells HZ2.out).2.2.1
 have hy3 := fun o => pw_cell_below (below_alloc (Below.refl _ _) o) (zone_cells HZ2.out).2.2.2.1
 have hy4 := fun o => pw_cell_below (below_alloc (Below.refl _ _) o) (zone_cells HZ2.out).2.2.2.2
 clear HZ HB1 hb2 HCT HB
 go_wp2_with fail
 refine (HPL.out _ (Kd.C_below HR0.out (below_alloc HB2.out _)) (Kd.C_below HR1.out (below_alloc HB2.out _)) (Kd.C_below HR2.out (below_alloc HB2.out _))).mono ?_
 rintro e w3 ⟨va, rfl, hva, hb3⟩
 obtain ⟨Aa, ca, rfl, hca, hra⟩ := Kd.R_reads hva
 clear hca hra
 have HZ3 := Aside0.mk (blk_below (blk_below HZ2.out (below_alloc (Below.refl _ _) _)) hb3)
 have HB3 := Aside0.mk (below_step (below_alloc HB2.out _) hb3)
 have HVA := Aside0.mk (Kd.R_lower hva (below_size (below_alloc HB2.out _)))
 clear hy0 hy1 hy2 hy3 hy4 HZ2 HB2 hb3 hva HPL
 go_wp2_with (first
  | ((with_reducible refine gate_dst (N := 11) rfl ?_); refine box_event ?hg (N := 11) ?hd (cs := #[.slice none 0 0, .bool false]) (t := 58) ?hr ?_; (case hd => rfl); (case hg => rfl); (case hr => first | (go_simp; done) | (go_simp; rfl)); intro g hgW w4 hbox hb4; have HWR := Aside0.mk (Wr.start hbox (by rw [hgW]; exact below_size HB3.out)); have HFR := Aside0.mk (Fr.mk (g := g) (blk_below HZ3.out hb4) (by have := blk_lt HZ3.out; omega) (Kd.R_below HVA.out hb4) (below_step HB3.out hb4)); clear hb4 hbox hgW HZ3 HB3 HVA; obtain ⟨hz0, hz1, hz2, hz3, hz4⟩ := zone_cells HFR.out.zone))
 clear hz0 hz1 hz2 hz3 hz4
 have HF0 := HFR
 have HW0 := HWR
 clear HFR HWR
 obtain ⟨L1, hL1⟩ : ∃ x, (([] : List Int)) = x := ⟨_, rfl⟩
 obtain ⟨b1, hb1⟩ : ∃ x, (false) = x := ⟨_, rfl⟩
 have HL1 := Aside0.mk hL1
 have HQ1 := Aside0.mk hb1
 have HM1 : Aside0 (L1.length ≤ 0) := ⟨by rw [← hL1]; exact Nat.le_refl _⟩
 rw [hL1, hb1] at HW0
 have HWS := Aside0.mk (Wr.zero (HW0.out) : Wr w.heap.size _ g (L1 ++ lay (numsT (tr.take 0) 4)) (b1 || !fit (numsT (tr.take 0) 4)))
 clear hL1 hb1 HW0
 go_loopw [44] (fun i wr => ∃ k : Nat, k ≤ tr.length ∧ i = .int .i64 (k : Int) ∧ Aside0 (Fr w wr z g #[.slice A0 ty.length c0, .slice A1 tr.length c1, .slice A2 lp.length c2, .string foot, .int .i64 ver] (.slice Aa ats.length ca) ats) ∧ Aside0 (Wr w.heap.size wr g (L1 ++ lay (numsT (tr.take k) 4)) (b1 || !fit (numsT (tr.take k) 4)))) (fun i _ => tr.length - (intOf i).toNat)
 case atStart => exact ⟨0, Nat.zero_le _, rfl, HF0, HWS⟩
 case round =>
  obtain ⟨k, hk, rfl, HF, HW⟩ := hrel
  clear HF0 HWS
  by_cases hlt : k < tr.length
  ·obtain ⟨ad, hAd, hx0, hx1⟩ := at_T48 (Kd.C_below HR1.out HF.out.below) (k : Int) (by omega) (by omega)
   rw [rd48 hlt, Int.toNat_natCast] at hx0 hx1
   cases hAd
   have HN1 := Aside0.mk (numsT_take (size := 4) hlt)
   have HLN : Aside0 ((L1 ++ lay (numsT (tr.take k) 4)).length ≤ 900000) := ⟨by rw [List.length_append]; have h1 := lay_length (numsT (tr.take k) 4); have h2 := numsT_take_len tr 4 k; have h3 := HM1.out; omega⟩
   have HGW := Aside0.mk HW.out.size
   generalize tr[k] = t at *
   generalize numsT (tr.take k) 4 = ns at *
   go_wp2_with (first
    | ((with_reducible refine gate_dst (N := 13) rfl ?_); refine box_event ?hg (N := 13) ?hd (cs := #[.int .i64 0, .int .i64 0]) (t := 48) ?hr ?_; (case hd => rfl); (case hg => rfl); (case hr => first | (go_simp; done) | (go_simp; rfl)); intro b hbW w5 hbox hb5; have HB5 := Aside0.mk hb5; have HBX := Aside0.mk hbox; have HBE : Aside0 (wr.heap.size ≤ b) := ⟨by omega⟩; have HBG : Aside0 (b ≠ g) := ⟨by have := HGW.out; omega⟩; have hy0 : w5.cell? ⟨b, 0, none⟩ = some (.int .i64 0) := (blk_cell hbox 0).trans rfl; have hf0 := blk_frozen hbox 0; have hy1 : w5.cell? ⟨b, 1, none⟩ = some (.int .i64 0) := (blk_cell hbox 1).trans rfl; have hf1 := blk_frozen hbox 1; clear hb5 hbox hbW))
   have HBX0 : Aside0 (((w5.setCell ⟨b, 0, none⟩ (.int .i64 t.f0)).setCell ⟨b, 1, none⟩ (.int .i64 t.f1)).heap[b]? = some (.cells #[.int .i64 t.f0, .int .i64 t.f1] 48 (0, 0))) := ⟨(blk_set (blk_set HBX.out 0 (.int .i64 t.f0)) 1 (.int .i64 t.f1))⟩
   have HF1 := Aside0.mk (HF.out.step (Below.setCell (p := ⟨b, 1, none⟩) (Below.setCell (p := ⟨b, 0, none⟩) HB5.out HBE.out (.int .i64 t.f0)) HBE.out (.int .i64 t.f1)))
   have HW1 := Aside0.mk (HW.out.below (Below.setCell (p := ⟨b, 1, none⟩) (Below.setCell (p := ⟨b, 0, none⟩) HB5.out HBE.out (.int .i64 t.f0)) HBE.out (.int .i64 t.f1)))
   clear HF HW HB5 HBX hy0 hy1 hf0 hf1 hx0 hx1
   generalize ((w5.setCell ⟨b, 0, none⟩ (.int .i64 t.f0)).setCell ⟨b, 1, none⟩ (.int .i64 t.f1)) = W0 at *
   refine (put_is (W := W0) t.f0 4 HW1.out (by have := HLN.out; omega) (below_size HF1.out.below)).mono ?_
   rintro e W1 ⟨rfl, hw, hkp⟩
   have HF2 := Aside0.mk (HF1.out.keep HW1.out hkp)
   have HW2 := Aside0.mk hw.step
   have HBX1 := Aside0.mk (hkp.far HBG.out (by decide) HBX0.out)
   replace HLN := Aside0.mk (lay_grow HLN.out (t.f0, 4))
   clear hw hkp HF1 HW1 HBX0 
   go_wp2
   exact ⟨⟨k + 1, by omega, by go_num, HF2, ⟨by rw [HN1.out]; exact HW2.out⟩⟩, by simp [intOf]; omega⟩
  ·obtain rfl : k = tr.length := by omega
   rw [List.take_length] at HW
   have HF0 := HF
   have HW0 := HW
   clear HF HW
   obtain ⟨hz0, hz1, hz2, hz3, hz4⟩ := zone_cells HF0.out.zone
   go_wp2
   clear hz0 hz1 hz2 hz3 hz4
   obtain ⟨L2, hL2⟩ : ∃ x, (L1 ++ lay (numsT tr 4)) = x := ⟨_, rfl⟩
   obtain ⟨b2, hb2⟩ : ∃ x, (b1 || !fit (numsT tr 4)) = x := ⟨_, rfl⟩
   have HL2 := Aside0.mk hL2
   have HQ2 := Aside0.mk hb2
   have HM2 : Aside0 (L2.length ≤ 20000) := ⟨by rw [← hL2]; have h1 := lay_length (numsT tr 4); have h2 := numsT_len tr 4; have h3 := HM1.out; rw [List.length_append]; omega⟩
   rw [hL2, hb2] at HW0
   have HWS := Aside0.mk (Wr.zero (HW0.out) : Wr w.heap.size _ g (L2 ++ lay (numsK (tr.take 0))) (b2 || !fit (numsK (tr.take 0))))
   clear hL2 hb2 HW0
   go_loopw [56] (fun i wr => ∃ k : Nat, k ≤ tr.length ∧ i = .int .i64 (k : Int) ∧ Aside0 (Fr w wr z g #[.slice A0 ty.length c0, .slice A1 tr.length c1, .slice A2 lp.length c2, .string foot, .int .i64 ver] (.slice Aa ats.length ca) ats) ∧ Aside0 (Wr w.heap.size wr g (L2 ++ lay (numsK (tr.take k))) (b2 || !fit (numsK (tr.take k))))) (fun i _ => tr.length - (intOf i).toNat)
   case atStart => exact ⟨0, Nat.zero_le _, rfl, HF0, HWS⟩
   case round =>
    obtain ⟨k, hk, rfl, HF, HW⟩ := hrel
    clear HF0 HWS
    by_cases hlt : k < tr.length
    ·obtain ⟨ad, hAd, hx0, hx1⟩ := at_T48 (Kd.C_below HR1.out HF.out.below) (k : Int) (by omega) (by omega)
     rw [rd48 hlt, Int.toNat_natCast] at hx0 hx1
     cases hAd
     have HN1 := Aside0.mk (numsK_take hlt)
     have HLN : Aside0 ((L2 ++ lay (numsK (tr.take k))).length ≤ 900000) := ⟨by rw [List.length_append]; have h1 := lay_length (numsK (tr.take k)); have h2 := numsK_take_len tr k; have h3 := HM2.out; omega⟩
     have HGW := Aside0.mk HW.out.size
     generalize tr[k] = t at *
     generalize numsK (tr.take k) = ns at *
     go_wp2_with (first
      | ((with_reducible refine gate_dst (N := 15) rfl ?_); refine box_event ?hg (N := 15) ?hd (cs := #[.int .i64 0, .int .i64 0]) (t := 48) ?hr ?_; (case hd => rfl); (case hg => rfl); (case hr => first | (go_simp; done) | (go_simp; rfl)); intro b hbW w5 hbox hb5; have HB5 := Aside0.mk hb5; have HBX := Aside0.mk hbox; have HBE : Aside0 (wr.heap.size ≤ b) := ⟨by omega⟩; have HBG : Aside0 (b ≠ g) := ⟨by have := HGW.out; omega⟩; have hy0 : w5.cell? ⟨b, 0, none⟩ = some (.int .i64 0) := (blk_cell hbox 0).trans rfl; have hf0 := blk_frozen hbox 0; have hy1 : w5.cell? ⟨b, 1, none⟩ = some (.int .i64 0) := (blk_cell hbox 1).trans rfl; have hf1 := blk_frozen hbox 1; clear hb5 hbox hbW))
     have HBX0 : Aside0 (((w5.setCell ⟨b, 0, none⟩ (.int .i64 t.f0)).setCell ⟨b, 1, none⟩ (.int .i64 t.f1)).heap[b]? = some (.cells #[.int .i64 t.f0, .int .i64 t.f1] 48 (0, 0))) := ⟨(blk_set (blk_set HBX.out 0 (.int .i64 t.f0)) 1 (.int .i64 t.f1))⟩
     have HF1 := Aside0.mk (HF.out.step (Below.setCell (p := ⟨b, 1, none⟩) (Below.setCell (p := ⟨b, 0, none⟩) HB5.out HBE.out (.int .i64 t.f0)) HBE.out (.int .i64 t.f1)))
     have HW1 := Aside0.mk (HW.out.below (Below.setCell (p := ⟨b, 1, none⟩) (Below.setCell (p := ⟨b, 0, none⟩) HB5.out HBE.out (.int .i64 t.f0)) HBE.out (.int .i64 t.f1)))
     clear HF HW HB5 HBX hy0 hy1 hf0 hf1 hx0 hx1
     generalize ((w5.setCell ⟨b, 0, none⟩ (.int .i64 t.f0)).setCell ⟨b, 1, none⟩ (.int .i64 t.f1)) = W0 at *
     refine (put_is (W := W0) t.f1 1 HW1.out (by have := HLN.out; omega) (below_size HF1.out.below)).mono ?_
     rintro e W1 ⟨rfl, hw, hkp⟩
     have HF2 := Aside0.mk (HF1.out.keep HW1.out hkp)
     have HW2 := Aside0.mk hw.step
     have HBX1 := Aside0.mk (hkp.far HBG.out (by decide) HBX0.out)
     replace HLN := Aside0.mk (lay_grow HLN.out (t.f1, 1))
     clear hw hkp HF1 HW1 HBX0 
     go_wp2
     exact ⟨⟨k + 1, by omega, by go_num, HF2, ⟨by rw [HN1.out]; exact HW2.out⟩⟩, by simp [intOf]; omega⟩
    ·obtain rfl : k = tr.length := by omega
     rw [List.take_length] at HW
     have HF0 := HF
     have HW0 := HW
     clear HF HW
     obtain ⟨hz0, hz1, hz2, hz3, hz4⟩ := zone_cells HF0.out.zone
     go_wp2
     clear hz0 hz1 hz2 hz3 hz4
     obtain ⟨L3, hL3⟩ : ∃ x, (L2 ++ lay (numsK tr)) = x := ⟨_, rfl⟩
     obtain ⟨b3, hb3⟩ : ∃ x, (b2 || !fit (numsK tr)) = x := ⟨_, rfl⟩
     have HL3 := Aside0.mk hL3
     have HQ3 := Aside0.mk hb3
     have HM3 : Aside0 (L3.length ≤ 50000) := ⟨by rw [← hL3]; have h1 := lay_length (numsK tr); have h2 := numsK_len tr; have h3 := HM2.out; rw [List.length_append]; omega⟩
     rw [hL3, hb3] at HW0
     have HWS := Aside0.mk (Wr.zero (HW0.out) : Wr w.heap.size _ g (L3 ++ lay (numsY (ty.take 0) ats)) (b3 || !fit (numsY (ty.take 0) ats)))
     clear hL3 hb3 HW0
     go_loopw [67] (fun i wr => ∃ k : Nat, k ≤ ty.length ∧ i = .int .i64 (k : Int) ∧ Aside0 (Fr w wr z g #[.slice A0 ty.length c0, .slice A1 tr.length c1, .slice A2 lp.length c2, .string foot, .int .i64 ver] (.slice Aa ats.length ca) ats) ∧ Aside0 (Wr w.heap.size wr g (L3 ++ lay (numsY (ty.take k) ats)) (b3 || !fit (numsY (ty.take k) ats)))) (fun i _ => ty.length - (intOf i).toNat)
     case atStart => exact ⟨0, Nat.zero_le _, rfl, HF0, HWS⟩
     case round =>
      obtain ⟨k, hk, rfl, HF, HW⟩ := hrel
      clear HF0 HWS
      by_cases hlt : k < ty.length
      ·obtain ⟨ad, hAd, hx0, hx1, hx2⟩ := at_T46 (Kd.C_below HR0.out HF.out.below) (k : Int) (by omega) (by omega)
       rw [rd46 hlt, Int.toNat_natCast] at hx0 hx1 hx2
       cases hAd
       have HN1 := Aside0.mk (numsY_take HAT.out hlt)
       have HLN : Aside0 ((L3 ++ lay (numsY (ty.take k) ats)).length ≤ 900000) := ⟨by rw [List.length_append]; have h1 := lay_length (numsY (ty.take k) ats); have h2 := numsY_take_len ats ty k; have h3 := HM3.out; omega⟩
       have HGW := Aside0.mk HW.out.size
       generalize ty[k] = t at *
       generalize numsY (ty.take k) ats = ns at *
       go_wp2_with (first
        | ((with_reducible refine gate_dst (N := 17) rfl ?_); refine box_event ?hg (N := 17) ?hd (cs := #[.int .i64 0, .bool false, .string (⟨#[]⟩ : ByteArray)]) (t := 46) ?hr ?_; (case hd => rfl); (case hg => rfl); (case hr => first | (go_simp; done) | (go_simp; rfl)); intro b hbW w5 hbox hb5; have HB5 := Aside0.mk hb5; have HBX := Aside0.mk hbox; have HBE : Aside0 (wr.heap.size ≤ b) := ⟨by omega⟩; have HBG : Aside0 (b ≠ g) := ⟨by have := HGW.out; omega⟩; have hy0 : w5.cell? ⟨b, 0, none⟩ = some (.int .i64 0) := (blk_cell hbox 0).trans rfl; have hf0 := blk_frozen hbox 0; have hy1 : w5.cell? ⟨b, 1, none⟩ = some (.bool false) := (blk_cell hbox 1).trans rfl; have hf1 := blk_frozen hbox 1; have hy2 : w5.cell? ⟨b, 2, none⟩ = some (.string (⟨#[]⟩ : ByteArray)) := (blk_cell hbox 2).trans rfl; have hf2 := blk_frozen hbox 2; clear hb5 hbox hbW))
       have HBX0 : Aside0 ((((w5.setCell ⟨b, 0, none⟩ (.int .i64 t.f0)).setCell ⟨b, 1, none⟩ (.bool t.f1)).setCell ⟨b, 2, none⟩ (.string t.f2)).heap[b]? = some (.cells #[.int .i64 t.f0, .bool t.f1, .string t.f2] 46 (0, 0))) := ⟨(blk_set (blk_set (blk_set HBX.out 0 (.int .i64 t.f0)) 1 (.bool t.f1)) 2 (.string t.f2))⟩
       have HF1 := Aside0.mk (HF.out.step (Below.setCell (p := ⟨b, 2, none⟩) (Below.setCell (p := ⟨b, 1, none⟩) (Below.setCell (p := ⟨b, 0, none⟩) HB5.out HBE.out (.int .i64 t.f0)) HBE.out (.bool t.f1)) HBE.out (.string t.f2)))
       have HW1 := Aside0.mk (HW.out.below (Below.setCell (p := ⟨b, 2, none⟩) (Below.setCell (p := ⟨b, 1, none⟩) (Below.setCell (p := ⟨b, 0, none⟩) HB5.out HBE.out (.int .i64 t.f0)) HBE.out (.bool t.f1)) HBE.out (.string t.f2)))
       clear HF HW HB5 HBX hy0 hy1 hy2 hf0 hf1 hf2 hx0 hx1 hx2
       generalize (((w5.setCell ⟨b, 0, none⟩ (.int .i64 t.f0)).setCell ⟨b, 1, none⟩ (.bool t.f1)).setCell ⟨b, 2, none⟩ (.string t.f2)) = W0 at *
       refine (put_is (W := W0) t.f0 4 HW1.out (by have := HLN.out; omega) (below_size HF1.out.below)).mono ?_
       rintro e W1 ⟨rfl, hw, hkp⟩
       have HF2 := Aside0.mk (HF1.out.keep HW1.out hkp)
       have HW2 := Aside0.mk hw.step
       have HBX1 := Aside0.mk (hkp.far HBG.out (by decide) HBX0.out)
       replace HLN := Aside0.mk (lay_grow HLN.out (t.f0, 4))
       clear hw hkp HF1 HW1 HBX0 
       have hy0 : W1.cell? ⟨b, 0, none⟩ = some (.int .i64 t.f0) := (blk_cell HBX1.out 0).trans rfl
       have hy1 : W1.cell? ⟨b, 1, none⟩ = some (.bool t.f1) := (blk_cell HBX1.out 1).trans rfl
       have hy2 : W1.cell? ⟨b, 2, none⟩ = some (.string t.f2) := (blk_cell HBX1.out 2).trans rfl
       go_wp2_with fail
       refine (mark_calls t.f1 _).mono ?_
       rintro e Wm ⟨rfl, rfl⟩
       go_wp2_with fail
       refine (put_is (W := W1) (mk t.f1) 1 HW2.out (by have := HLN.out; omega) (below_size HF2.out.below)).mono ?_
       rintro e W2 ⟨rfl, hw, hkp⟩
       have HF3 := Aside0.mk (HF2.out.keep HW2.out hkp)
       have HW3 := Aside0.mk hw.step
       have HBX2 := Aside0.mk (hkp.far HBG.out (by decide) HBX1.out)
       replace HLN := Aside0.mk (lay_grow HLN.out ((mk t.f1), 1))
       clear hw hkp HF2 HW2 HBX1 hy0 hy1 hy2
       have hy0 : W2.cell? ⟨b, 0, none⟩ = some (.int .i64 t.f0) := (blk_cell HBX2.out 0).trans rfl
       have hy1 : W2.cell? ⟨b, 1, none⟩ = some (.bool t.f1) := (blk_cell HBX2.out 1).trans rfl
       have hy2 : W2.cell? ⟨b, 2, none⟩ = some (.string t.f2) := (blk_cell HBX2.out 2).trans rfl
       obtain ⟨aa, hAa, hat⟩ := Kd.at_int (Kd.R_reads' HF3.out.row).2.2 (k : Int) (by omega) (by have := HAT.out; omega)
       rw [rd_at (by rw [HAT.out]; exact hlt), Int.toNat_natCast] at hat
       cases hAa
       have hka : k < ats.length := by rw [HAT.out]; exact hlt
       go_wp2_with fail
       refine (put_is (W := W2) (ats[k]'(by rw [HAT.out]; exact hlt)) 1 HW3.out (by have := HLN.out; omega) (below_size HF3.out.below)).mono ?_
       rintro e W3 ⟨rfl, hw, hkp⟩
       have HF4 := Aside0.mk (HF3.out.keep HW3.out hkp)
       have HW4 := Aside0.mk hw.step
       have HBX3 := Aside0.mk (hkp.far HBG.out (by decide) HBX2.out)
       replace HLN := Aside0.mk (lay_grow HLN.out ((ats[k]'(by rw [HAT.out]; exact hlt)), 1))
       clear hw hkp HF3 HW3 HBX2 hy0 hy1 hy2 hat hka
       go_wp2
       exact ⟨⟨k + 1, by omega, by go_num, HF4, ⟨by rw [HN1.out]; exact HW4.out⟩⟩, by simp [intOf]; omega⟩
      ·obtain rfl : k = ty.length := by omega
       rw [List.take_length] at HW
       have HF0 := HF
       have HW0 := HW
       clear HF HW
       have HW9 := HW0
       have HF9 := HF0
       clear HW0 HF0
       obtain ⟨v0, hvb, hvg, hvR⟩ := HW9.out
       obtain ⟨LM, hLM⟩ : ∃ x, L3 ++ lay (numsY ty ats) = x := ⟨_, rfl⟩
       obtain ⟨LP, hLP⟩ : ∃ x, LM ++ bytesOf P = x := ⟨_, rfl⟩
       have HLE : Aside0 (L3 ++ lay (numsY ty ats) ++ bytesOf P = LP) := ⟨by rw [hLM, hLP]⟩
       rw [hLM] at hvR
       have HLPE := Aside0.mk hLP
       have HLB : Aside0 (LP.length ≤ 60000) := ⟨by rw [← hLP, ← hLM, List.length_append, List.length_append, bytesOf_length]; have h1 := lay_length (numsY ty ats); have h2 := numsY_len ty ats; have h3 := HM3.out; omega⟩
       have HLL : Aside0 (LM.length + P.size ≤ 140737488355328) := ⟨by have h := HLB.out; rw [← hLP, List.length_append, bytesOf_length] at h; omega⟩
       have HVB := Aside0.mk hvb
       have HVR := Aside0.mk hvR
       have HVG := Aside0.mk hvg
       have hk0 : wr.cell? ⟨g, 0, none⟩ = some v0 := (blk_cell hvb 0).trans rfl
       have HZG := Aside0.mk HF9.out.ne
       clear hvb hvg hvR hLM hLP
       go_wp2_with (first
        | ((with_reducible refine gate_builtin (b := .append) (xs := #[.tmp 86, .tmp 87]) rfl ?_); at_builtin; refine print_append_str (w0 := wr) w.heap.size rfl (.tmp 86) (.tmp 87) 29 9 5 rfl Try.underlying29 Try.underlying9 info5 v0 LM P rfl rfl ?aO ?aB ?aS ?aL ?_; (case aO => exact Kd.own_of_R HVR.out); (case aB => exact Below.refl _ _); (case aS => exact below_size HF9.out.below); (case aL => exact HLL.out); intro v1 w6 hown hb6 hg6; rw [HLPE.out] at hown; have hR6 := Wr.app_row hown; obtain ⟨A6, c6, rfl⟩ := Kd.R_slice hR6; have hb61 := app_block' (by decide) HVB.out HVR.out hg6; have HK6 := Aside0.mk ((grown_keep (g := g) HVR.out hg6 hb6).trans (Keep.set HVG.out 0 (.slice A6 LP.length c6))); have hk6 : w6.cell? ⟨g, 0, none⟩ = some v0 := (blk_cell hb61 0).trans rfl; have hk6f := blk_frozen hb61 0; have HW0 := Aside0.mk (Wr.put0 hb61 HVG.out hR6); have HF0 := Aside0.mk (HF9.out.keep HW9.out HK6.out); have hz2 : (w6.setCell ⟨g, 0, none⟩ (.slice A6 LP.length c6)).cell? ⟨z, 2, none⟩ = some (.slice A2 lp.length c2) := (zone_cells HF0.out.zone).2.2.1; clear hown hb6 hg6 hR6 hb61 HK6 HVB HVR HVG))
       generalize (w6.setCell ⟨g, 0, none⟩ (.slice A6 LP.length c6)) = w7 at *
       clear hk0 hk6 hk6f hz2 HF9 HW9
       obtain ⟨L4, hL4⟩ : ∃ x, (LP) = x := ⟨_, rfl⟩
       obtain ⟨b4, hb4⟩ : ∃ x, (b3 || !fit (numsY ty ats)) = x := ⟨_, rfl⟩
       have HL4 := Aside0.mk hL4
       have HQ4 := Aside0.mk hb4
       have HM4 : Aside0 (L4.length ≤ 60000) := ⟨by rw [← hL4]; exact HLB.out⟩
       rw [hL4, hb4] at HW0
       have HWS := Aside0.mk (Wr.zero (HW0.out) : Wr w.heap.size _ g (L4 ++ lay (numsL (lp.take 0) 4)) (b4 || !fit (numsL (lp.take 0) 4)))
       clear hL4 hb4 HW0
       go_loopw [93] (fun i wr => ∃ k : Nat, k ≤ lp.length ∧ i = .int .i64 (k : Int) ∧ Aside0 (Fr w wr z g #[.slice A0 ty.length c0, .slice A1 tr.length c1, .slice A2 lp.length c2, .string foot, .int .i64 ver] (.slice Aa ats.length ca) ats) ∧ Aside0 (Wr w.heap.size wr g (L4 ++ lay (numsL (lp.take k) 4)) (b4 || !fit (numsL (lp.take k) 4)))) (fun i _ => lp.length - (intOf i).toNat)
       case atStart => exact ⟨0, Nat.zero_le _, rfl, HF0, HWS⟩
       case round =>
        obtain ⟨k, hk, rfl, HF, HW⟩ := hrel
        clear HF0 HWS
        by_cases hlt : k < lp.length
        ·obtain ⟨ad, hAd, hx0, hx1⟩ := at_T50 (Kd.C_below HR2.out HF.out.below) (k : Int) (by omega) (by omega)
         rw [rd50 hlt, Int.toNat_natCast] at hx0 hx1
         cases hAd
         have HN1 := Aside0.mk (numsL_take (size := 4) hlt)
         have HLN : Aside0 ((L4 ++ lay (numsL (lp.take k) 4)).length ≤ 900000) := ⟨by rw [List.length_append]; have h1 := lay_length (numsL (lp.take k) 4); have h2 := numsL_take_len lp 4 k; have h3 := HM4.out; omega⟩
         have HGW := Aside0.mk HW.out.size
         generalize lp[k] = t at *
         generalize numsL (lp.take k) 4 = ns at *
         go_wp2_with (first
          | ((with_reducible refine gate_dst (N := 19) rfl ?_); refine box_event ?hg (N := 19) ?hd (cs := #[.int .i64 0, .int .i64 0]) (t := 50) ?hr ?_; (case hd => rfl); (case hg => rfl); (case hr => first | (go_simp; done) | (go_simp; rfl)); intro b hbW w5 hbox hb5; have HB5 := Aside0.mk hb5; have HBX := Aside0.mk hbox; have HBE : Aside0 (wr.heap.size ≤ b) := ⟨by omega⟩; have HBG : Aside0 (b ≠ g) := ⟨by have := HGW.out; omega⟩; have hy0 : w5.cell? ⟨b, 0, none⟩ = some (.int .i64 0) := (blk_cell hbox 0).trans rfl; have hf0 := blk_frozen hbox 0; have hy1 : w5.cell? ⟨b, 1, none⟩ = some (.int .i64 0) := (blk_cell hbox 1).trans rfl; have hf1 := blk_frozen hbox 1; clear hb5 hbox hbW))
         have HBX0 : Aside0 (((w5.setCell ⟨b, 0, none⟩ (.int .i64 t.f0)).setCell ⟨b, 1, none⟩ (.int .i64 t.f1)).heap[b]? = some (.cells #[.int .i64 t.f0, .int .i64 t.f1] 50 (0, 0))) := ⟨(blk_set (blk_set HBX.out 0 (.int .i64 t.f0)) 1 (.int .i64 t.f1))⟩
         have HF1 := Aside0.mk (HF.out.step (Below.setCell (p := ⟨b, 1, none⟩) (Below.setCell (p := ⟨b, 0, none⟩) HB5.out HBE.out (.int .i64 t.f0)) HBE.out (.int .i64 t.f1)))
         have HW1 := Aside0.mk (HW.out.below (Below.setCell (p := ⟨b, 1, none⟩) (Below.setCell (p := ⟨b, 0, none⟩) HB5.out HBE.out (.int .i64 t.f0)) HBE.out (.int .i64 t.f1)))
         clear HF HW HB5 HBX hy0 hy1 hf0 hf1 hx0 hx1
         generalize ((w5.setCell ⟨b, 0, none⟩ (.int .i64 t.f0)).setCell ⟨b, 1, none⟩ (.int .i64 t.f1)) = W0 at *
         refine (put_is (W := W0) t.f0 4 HW1.out (by have := HLN.out; omega) (below_size HF1.out.below)).mono ?_
         rintro e W1 ⟨rfl, hw, hkp⟩
         have HF2 := Aside0.mk (HF1.out.keep HW1.out hkp)
         have HW2 := Aside0.mk hw.step
         have HBX1 := Aside0.mk (hkp.far HBG.out (by decide) HBX0.out)
         replace HLN := Aside0.mk (lay_grow HLN.out (t.f0, 4))
         clear hw hkp HF1 HW1 HBX0 
         have hy0 : W1.cell? ⟨b, 0, none⟩ = some (.int .i64 t.f0) := (blk_cell HBX1.out 0).trans rfl
         have hy1 : W1.cell? ⟨b, 1, none⟩ = some (.int .i64 t.f1) := (blk_cell HBX1.out 1).trans rfl
         go_wp2_with fail
         refine (put_is (W := W1) t.f1 4 HW2.out (by have := HLN.out; omega) (below_size HF2.out.below)).mono ?_
         rintro e W2 ⟨rfl, hw, hkp⟩
         have HF3 := Aside0.mk (HF2.out.keep HW2.out hkp)
         have HW3 := Aside0.mk hw.step
         have HBX2 := Aside0.mk (hkp.far HBG.out (by decide) HBX1.out)
         replace HLN := Aside0.mk (lay_grow HLN.out (t.f1, 4))
         clear hw hkp HF2 HW2 HBX1 hy0 hy1
         go_wp2
         exact ⟨⟨k + 1, by omega, by go_num, HF3, ⟨by rw [HN1.out]; exact HW3.out⟩⟩, by simp [intOf]; omega⟩
        ·obtain rfl : k = lp.length := by omega
         rw [List.take_length] at HW
         have HF0 := HF
         have HW0 := HW
         clear HF HW
         have HLF := Aside0.mk (enc_list HL1.out HL2.out HL3.out (HLE.out.trans HL4.out) : L4 ++ lay (numsL lp 4) = _)
         have HBF := Aside0.mk (enc_bad HQ1.out HQ2.out HQ3.out HQ4.out : (b4 || !fit (numsL lp 4)) = _)
         rw [HLF.out, HBF.out] at HW0
         obtain ⟨q, hq⟩ : ∃ q, (fit (numsT tr 4 ++ numsK tr ++ numsY ty ats) && fit (numsL lp 4)) = q := ⟨_, rfl⟩
         rw [hq] at HW0 HN
         obtain ⟨X, hX⟩ : ∃ X, lay (numsT tr 4 ++ numsK tr ++ numsY ty ats) ++ bytesOf P ++ lay (numsL lp 4) = X := ⟨_, rfl⟩
         rw [hX] at HW0 HN
         obtain ⟨v, hvb, hvg, hvR⟩ := HW0.out
         obtain ⟨A9, c9, rfl, hc9, hr9⟩ := Kd.R_reads hvR
         have HVR := Aside0.mk hvR
         have hk0 : wr.cell? ⟨g, 0, none⟩ = some _ := (blk_cell hvb 0).trans rfl
         have hk1 : wr.cell? ⟨g, 1, none⟩ = some _ := (blk_cell hvb 1).trans rfl
         clear hvb hvg hvR hr9 hc9 hq hX HL1 HL2 HL3 HL4 HQ1 HQ2 HQ3 HQ4 HM1 HM2 HM3 HM4 HLF HBF HAT
         cases q with
         | true =>
          have HN' := HN.out
          subst HN'
          go_wp2
          go_ret2
          exact ⟨_, rfl, HVR.out, HF0.out.below⟩
         | false =>
          have HN' := HN.out
          subst HN'
          go_wp2
          go_ret2
          exact ⟨_, rfl, Kd.R_nil _ _ _ _ _, HF0.out.below⟩
set_option maxHeartbeats 4000000 in
set_option maxRecDepth 100000 in
theorem encode_8 (A0 : Option Addr) (c0 : Nat) (ty : List S46) (A1 : Option Addr) (c1 : Nat) (tr : List S48) (A2 : Option Addr) (c2 : Nat) (lp : List S50) (foot : ByteArray) (ver : Int) (w : World)
  (hr0 : Kd.C k46 w A0 ty.length ty) (hc0 : ty.length ≤ c0) (hr1 : Kd.C k48 w A1 tr.length tr) (hc1 : tr.length ≤ c1) (hr2 : Kd.C k50 w A2 lp.length lp) (hc2 : lp.length ≤ c2)
  (ho : okZ ty tr lp = true) (hcn : (countN ty tr lp ver).2.2.2.2.2.2.2 = true) :
  Calls Try.prog 12 #[.agg #[.slice A0 ty.length c0, .slice A1 tr.length c1, .slice A2 lp.length c2, .string foot, .int .i64 ver], .int .i64 8] w fun e w' => ∃ v0_ : Value, e = .returned (.tuple #[v0_, .bool (encN ty tr lp ver 8).2]) ∧ Kd.R (Kd.int .u8) 5 w' w.heap.size (fun _ => True) v0_ (encN ty tr lp ver 8).1 ∧ Below w.heap.size w w' := by
 obtain ⟨z1, z2, z3, z4⟩ := okZ_out ho
 obtain ⟨n1, n2, n3, n4, n5, n6, n7, n8, hn⟩ : ∃ n1 n2 n3 n4 n5 n6 n7 n8, countN ty tr lp ver = (n1, n2, n3, n4, n5, n6, n7, n8) := ⟨_, _, _, _, _, _, _, _, rfl⟩
 have h8 : n8 = true := by rw [hn] at hcn; exact hcn
 subst h8
 have HCT := Aside0.mk (fun W h0 h1 h2 => count_is A0 c0 ty A1 c1 tr A2 c2 lp foot ver n1 n2 n3 n4 n5 n6 n7 true W h0 hc0 h1 hc1 h2 hc2 (show countF ty tr lp foot ver = _ by unfold countF; rw [ho]; exact congrArg some hn))
 have HPL := Aside0.mk (fun W h0 h1 h2 => pool_is A0 c0 ty A1 c1 tr A2 c2 lp foot ver W h0 hc0 h1 hc1 h2 hc2 ho)
 have HR0 := Aside0.mk hr0
 have HR1 := Aside0.mk hr1
 have HR2 := Aside0.mk hr2
 have HAT : Aside0 ((poolT (namesL ty)).2.1.length = ty.length) := ⟨by
  have h1 : (poolT (namesL ty)).2.2 = true := by
   unfold countN at hcn
   cases hp : (poolT (namesL ty)).2.2 with
   | true => rfl
   | false => rw [hp] at hcn; cases hcn
  rw [pool_ats h1]; unfold namesL; rw [List.length_map]⟩
 obtain ⟨P, hP⟩ : ∃ P, (poolT (namesL ty)).1 = P := ⟨_, rfl⟩
 have hPs : P.size ≤ 256 := by rw [← hP]; exact pool_size _
 obtain ⟨ats, hats⟩ : ∃ a, (poolT (namesL ty)).2.1 = a := ⟨_, rfl⟩
 obtain ⟨pok, hpok⟩ : ∃ a, (poolT (namesL ty)).2.2 = a := ⟨_, rfl⟩
 have HN : Aside0 (encN ty tr lp ver 8 = match fit (numsT tr 8 ++ numsK tr ++ numsY ty ats) && fit (numsL lp 8) with | true => (lay (numsT tr 8 ++ numsK tr ++ numsY ty ats) ++ bytesOf P ++ lay (numsL lp 8), true) | false => ([], false)) := ⟨by
  unfold encN encG bodyN numsA
  rw [hcn, show decide ((8 : Int) = 4 ∨ (8 : Int) = 8) = true from rfl, hP, hats]
  rfl⟩
 rw [hP, hats, hpok] at HPL
 rw [hats] at HAT
 obtain ⟨R, hR⟩ : ∃ R, encN ty tr lp ver 8 = R := ⟨_, rfl⟩
 rw [hR] at HN ⊢
 have HB := Aside0.mk (Below.refl w.heap.size w)
 clear hr0 hr1 hr2 hn hcn hP hats hpok hR ho z4
 have hms : 8 ≤ 1000000 := by decide
 go_enter Try.func12, Try.ntmps12
 go_wp2_with (first
  | ((with_reducible refine gate_dst (N := 2) rfl ?_); refine box_event ?hg (N := 2) ?hd (cs := #[.slice A0 ty.length c0, .slice A1 tr.length c1, .slice A2 lp.length c2, .string foot, .int .i64 ver]) (t := 26) ?hr ?_; (case hd => rfl); (case hg => rfl); (case hr => first | (go_simp; done) | (go_simp; rfl)); intro z hgW w1 hbox hb1; have HZ := Aside0.mk hbox; have HB1 := Aside0.mk hb1; have HGZ : Aside0 (w.heap.size ≤ z) := ⟨by omega⟩; have hz0 : w1.cell? ⟨z, 0, none⟩ = some (.slice A0 ty.length c0) := (blk_cell hbox 0).trans rfl; have hz1 : w1.cell? ⟨z, 1, none⟩ = some (.slice A1 tr.length c1) := (blk_cell hbox 1).trans rfl; have hz2 : w1.cell? ⟨z, 2, none⟩ = some (.slice A2 lp.length c2) := (blk_cell hbox 2).trans rfl; have hz3 : w1.cell? ⟨z, 3, none⟩ = some (.string foot) := (blk_cell hbox 3).trans rfl; have hz4 : w1.cell? ⟨z, 4, none⟩ = some (.int .i64 ver) := (blk_cell hbox 4).trans rfl; clear hb1 hbox hgW))
 refine (HCT.out _ (Kd.C_below HR0.out HB1.out) (Kd.C_below HR1.out HB1.out) (Kd.C_below HR2.out HB1.out)).mono ?_
 rintro e w2 ⟨rfl, hb2⟩
 clear hz0 hz1 hz2 hz3 hz4
 have HZ2 := Aside0.mk (blk_below HZ.out hb2)
 have HB2 := Aside0.mk (below_step HB1.out hb2)
 have hy0 := fun o => pw_cell_below (below_alloc (Below.refl _ _) o) (zone_cells HZ2.out).1
 have hy1 := fun o => pw_cell_below (below_alloc (Below.refl _ _) o) (zone_cells HZ2.out).2.1
 have hy2 := fun o => pw_cell_below (below_alloc (Below.refl _ _) o) (zone_cells HZ2.out).2.2.1
 have hy3 := fun o => pw_cell_below (below_alloc (Below.refl _ _) o) (zone_cells HZ2.out).2.2.2.1
 have hy4 := fun o => pw_cell_below (below_alloc (Below.refl _ _) o) (zone_cells HZ2.out).2.2.2.2
 clear HZ HB1 hb2 HCT HB
 go_wp2_with fail
 refine (HPL.out _ (Kd.C_below HR0.out (below_alloc HB2.out _)) (Kd.C_below HR1.out (below_alloc HB2.out _)) (Kd.C_below HR2.out (below_alloc HB2.out _))).mono ?_
 rintro e w3 ⟨va, rfl, hva, hb3⟩
 obtain ⟨Aa, ca, rfl, hca, hra⟩ := Kd.R_reads hva
 clear hca hra
 have HZ3 := Aside0.mk (blk_below (blk_below HZ2.out (below_alloc (Below.refl _ _) _)) hb3)
 have HB3 := Aside0.mk (below_step (below_alloc HB2.out _) hb3)
 have HVA := Aside0.mk (Kd.R_lower hva (below_size (below_alloc HB2.out _)))
 clear hy0 hy1 hy2 hy3 hy4 HZ2 HB2 hb3 hva HPL
 go_wp2_with (first
  | ((with_reducible refine gate_dst (N := 11) rfl ?_); refine box_event ?hg (N := 11) ?hd (cs := #[.slice none 0 0, .bool false]) (t := 58) ?hr ?_; (case hd => rfl); (case hg => rfl); (case hr => first | (go_simp; done) | (go_simp; rfl)); intro g hgW w4 hbox hb4; have HWR := Aside0.mk (Wr.start hbox (by rw [hgW]; exact below_size HB3.out)); have HFR := Aside0.mk (Fr.mk (g := g) (blk_below HZ3.out hb4) (by have := blk_lt HZ3.out; omega) (Kd.R_below HVA.out hb4) (below_step HB3.out hb4)); clear hb4 hbox hgW HZ3 HB3 HVA; obtain ⟨hz0, hz1, hz2, hz3, hz4⟩ := zone_cells HFR.out.zone))
 clear hz0 hz1 hz2 hz3 hz4
 have HF0 := HFR
 have HW0 := HWR
 clear HFR HWR
 obtain ⟨L1, hL1⟩ : ∃ x, (([] : List Int)) = x := ⟨_, rfl⟩
 obtain ⟨b1, hb1⟩ : ∃ x, (false) = x := ⟨_, rfl⟩
 have HL1 := Aside0.mk hL1
 have HQ1 := Aside0.mk hb1
 have HM1 : Aside0 (L1.length ≤ 0) := ⟨by rw [← hL1]; exact Nat.le_refl _⟩
 rw [hL1, hb1] at HW0
 have HWS := Aside0.mk (Wr.zero (HW0.out) : Wr w.heap.size _ g (L1 ++ lay (numsT (tr.take 0) 8)) (b1 || !fit (numsT (tr.take 0) 8)))
 clear hL1 hb1 HW0
 go_loopw [44] (fun i wr => ∃ k : Nat, k ≤ tr.length ∧ i = .int .i64 (k : Int) ∧ Aside0 (Fr w wr z g #[.slice A0 ty.length c0, .slice A1 tr.length c1, .slice A2 lp.length c2, .string foot, .int .i64 ver] (.slice Aa ats.length ca) ats) ∧ Aside0 (Wr w.heap.size wr g (L1 ++ lay (numsT (tr.take k) 8)) (b1 || !fit (numsT (tr.take k) 8)))) (fun i _ => tr.length - (intOf i).toNat)
 case atStart => exact ⟨0, Nat.zero_le _, rfl, HF0, HWS⟩
 case round =>
  obtain ⟨k, hk, rfl, HF, HW⟩ := hrel
  clear HF0 HWS
  by_cases hlt : k < tr.length
  ·obtain ⟨ad, hAd, hx0, hx1⟩ := at_T48 (Kd.C_below HR1.out HF.out.below) (k : Int) (by omega) (by omega)
   rw [rd48 hlt, Int.toNat_natCast] at hx0 hx1
   cases hAd
   have HN1 := Aside0.mk (numsT_take (size := 8) hlt)
   have HLN : Aside0 ((L1 ++ lay (numsT (tr.take k) 8)).length ≤ 900000) := ⟨by rw [List.length_append]; have h1 := lay_length (numsT (tr.take k) 8); have h2 := numsT_take_len tr 8 k; have h3 := HM1.out; omega⟩
   have HGW := Aside0.mk HW.out.size
   generalize tr[k] = t at *
   generalize numsT (tr.take k) 8 = ns at *
   go_wp2_with (first
    | ((with_reducible refine gate_dst (N := 13) rfl ?_); refine box_event ?hg (N := 13) ?hd (cs := #[.int .i64 0, .int .i64 0]) (t := 48) ?hr ?_; (case hd => rfl); (case hg => rfl); (case hr => first | (go_simp; done) | (go_simp; rfl)); intro b hbW w5 hbox hb5; have HB5 := Aside0.mk hb5; have HBX := Aside0.mk hbox; have HBE : Aside0 (wr.heap.size ≤ b) := ⟨by omega⟩; have HBG : Aside0 (b ≠ g) := ⟨by have := HGW.out; omega⟩; have hy0 : w5.cell? ⟨b, 0, none⟩ = some (.int .i64 0) := (blk_cell hbox 0).trans rfl; have hf0 := blk_frozen hbox 0; have hy1 : w5.cell? ⟨b, 1, none⟩ = some (.int .i64 0) := (blk_cell hbox 1).trans rfl; have hf1 := blk_frozen hbox 1; clear hb5 hbox hbW))
   have HBX0 : Aside0 (((w5.setCell ⟨b, 0, none⟩ (.int .i64 t.f0)).setCell ⟨b, 1, none⟩ (.int .i64 t.f1)).heap[b]? = some (.cells #[.int .i64 t.f0, .int .i64 t.f1] 48 (0, 0))) := ⟨(blk_set (blk_set HBX.out 0 (.int .i64 t.f0)) 1 (.int .i64 t.f1))⟩
   have HF1 := Aside0.mk (HF.out.step (Below.setCell (p := ⟨b, 1, none⟩) (Below.setCell (p := ⟨b, 0, none⟩) HB5.out HBE.out (.int .i64 t.f0)) HBE.out (.int .i64 t.f1)))
   have HW1 := Aside0.mk (HW.out.below (Below.setCell (p := ⟨b, 1, none⟩) (Below.setCell (p := ⟨b, 0, none⟩) HB5.out HBE.out (.int .i64 t.f0)) HBE.out (.int .i64 t.f1)))
   clear HF HW HB5 HBX hy0 hy1 hf0 hf1 hx0 hx1
   generalize ((w5.setCell ⟨b, 0, none⟩ (.int .i64 t.f0)).setCell ⟨b, 1, none⟩ (.int .i64 t.f1)) = W0 at *
   refine (put_is (W := W0) t.f0 8 HW1.out (by have := HLN.out; omega) (below_size HF1.out.below)).mono ?_
   rintro e W1 ⟨rfl, hw, hkp⟩
   have HF2 := Aside0.mk (HF1.out.keep HW1.out hkp)
   have HW2 := Aside0.mk hw.step
   have HBX1 := Aside0.mk (hkp.far HBG.out (by decide) HBX0.out)
   replace HLN := Aside0.mk (lay_grow HLN.out (t.f0, 8))
   clear hw hkp HF1 HW1 HBX0 
   go_wp2
   exact ⟨⟨k + 1, by omega, by go_num, HF2, ⟨by rw [HN1.out]; exact HW2.out⟩⟩, by simp [intOf]; omega⟩
  ·obtain rfl : k = tr.length := by omega
   rw [List.take_length] at HW
   have HF0 := HF
   have HW0 := HW
   clear HF HW
   obtain ⟨hz0, hz1, hz2, hz3, hz4⟩ := zone_cells HF0.out.zone
   go_wp2
   clear hz0 hz1 hz2 hz3 hz4
   obtain ⟨L2, hL2⟩ : ∃ x, (L1 ++ lay (numsT tr 8)) = x := ⟨_, rfl⟩
   obtain ⟨b2, hb2⟩ : ∃ x, (b1 || !fit (numsT tr 8)) = x := ⟨_, rfl⟩
   have HL2 := Aside0.mk hL2
   have HQ2 := Aside0.mk hb2
   have HM2 : Aside0 (L2.length ≤ 20000) := ⟨by rw [← hL2]; have h1 := lay_length (numsT tr 8); have h2 := numsT_len tr 8; have h3 := HM1.out; rw [List.length_append]; omega⟩
   rw [hL2, hb2] at HW0
   have HWS := Aside0.mk (Wr.zero (HW0.out) : Wr w.heap.size _ g (L2 ++ lay (numsK (tr.take 0))) (b2 || !fit (numsK (tr.take 0))))
   clear hL2 hb2 HW0
   go_loopw [56] (fun i wr => ∃ k : Nat, k ≤ tr.length ∧ i = .int .i64 (k : Int) ∧ Aside0 (Fr w wr z g #[.slice A0 ty.length c0, .slice A1 tr.length c1, .slice A2 lp.length c2, .string foot, .int .i64 ver] (.slice Aa ats.length ca) ats) ∧ Aside0 (Wr w.heap.size wr g (L2 ++ lay (numsK (tr.take k))) (b2 || !fit (numsK (tr.take k))))) (fun i _ => tr.length - (intOf i).toNat)
   case atStart => exact ⟨0, Nat.zero_le _, rfl, HF0, HWS⟩
   case round =>
    obtain ⟨k, hk, rfl, HF, HW⟩ := hrel
    clear HF0 HWS
    by_cases hlt : k < tr.length
    ·obtain ⟨ad, hAd, hx0, hx1⟩ := at_T48 (Kd.C_below HR1.out HF.out.below) (k : Int) (by omega) (by omega)
     rw [rd48 hlt, Int.toNat_natCast] at hx0 hx1
     cases hAd
     have HN1 := Aside0.mk (numsK_take hlt)
     have HLN : Aside0 ((L2 ++ lay (numsK (tr.take k))).length ≤ 900000) := ⟨by rw [List.length_append]; have h1 := lay_length (numsK (tr.take k)); have h2 := numsK_take_len tr k; have h3 := HM2.out; omega⟩
     have HGW := Aside0.mk HW.out.size
     generalize tr[k] = t at *
     generalize numsK (tr.take k) = ns at *
     go_wp2_with (first
      | ((with_reducible refine gate_dst (N := 15) rfl ?_); refine box_event ?hg (N := 15) ?hd (cs := #[.int .i64 0, .int .i64 0]) (t := 48) ?hr ?_; (case hd => rfl); (case hg => rfl); (case hr => first | (go_simp; done) | (go_simp; rfl)); intro b hbW w5 hbox hb5; have HB5 := Aside0.mk hb5; have HBX := Aside0.mk hbox; have HBE : Aside0 (wr.heap.size ≤ b) := ⟨by omega⟩; have HBG : Aside0 (b ≠ g) := ⟨by have := HGW.out; omega⟩; have hy0 : w5.cell? ⟨b, 0, none⟩ = some (.int .i64 0) := (blk_cell hbox 0).trans rfl; have hf0 := blk_frozen hbox 0; have hy1 : w5.cell? ⟨b, 1, none⟩ = some (.int .i64 0) := (blk_cell hbox 1).trans rfl; have hf1 := blk_frozen hbox 1; clear hb5 hbox hbW))
     have HBX0 : Aside0 (((w5.setCell ⟨b, 0, none⟩ (.int .i64 t.f0)).setCell ⟨b, 1, none⟩ (.int .i64 t.f1)).heap[b]? = some (.cells #[.int .i64 t.f0, .int .i64 t.f1] 48 (0, 0))) := ⟨(blk_set (blk_set HBX.out 0 (.int .i64 t.f0)) 1 (.int .i64 t.f1))⟩
     have HF1 := Aside0.mk (HF.out.step (Below.setCell (p := ⟨b, 1, none⟩) (Below.setCell (p := ⟨b, 0, none⟩) HB5.out HBE.out (.int .i64 t.f0)) HBE.out (.int .i64 t.f1)))
     have HW1 := Aside0.mk (HW.out.below (Below.setCell (p := ⟨b, 1, none⟩) (Below.setCell (p := ⟨b, 0, none⟩) HB5.out HBE.out (.int .i64 t.f0)) HBE.out (.int .i64 t.f1)))
     clear HF HW HB5 HBX hy0 hy1 hf0 hf1 hx0 hx1
     generalize ((w5.setCell ⟨b, 0, none⟩ (.int .i64 t.f0)).setCell ⟨b, 1, none⟩ (.int .i64 t.f1)) = W0 at *
     refine (put_is (W := W0) t.f1 1 HW1.out (by have := HLN.out; omega) (below_size HF1.out.below)).mono ?_
     rintro e W1 ⟨rfl, hw, hkp⟩
     have HF2 := Aside0.mk (HF1.out.keep HW1.out hkp)
     have HW2 := Aside0.mk hw.step
     have HBX1 := Aside0.mk (hkp.far HBG.out (by decide) HBX0.out)
     replace HLN := Aside0.mk (lay_grow HLN.out (t.f1, 1))
     clear hw hkp HF1 HW1 HBX0 
     go_wp2
     exact ⟨⟨k + 1, by omega, by go_num, HF2, ⟨by rw [HN1.out]; exact HW2.out⟩⟩, by simp [intOf]; omega⟩
    ·obtain rfl : k = tr.length := by omega
     rw [List.take_length] at HW
     have HF0 := HF
     have HW0 := HW
     clear HF HW
     obtain ⟨hz0, hz1, hz2, hz3, hz4⟩ := zone_cells HF0.out.zone
     go_wp2
     clear hz0 hz1 hz2 hz3 hz4
     obtain ⟨L3, hL3⟩ : ∃ x, (L2 ++ lay (numsK tr)) = x := ⟨_, rfl⟩
     obtain ⟨b3, hb3⟩ : ∃ x, (b2 || !fit (numsK tr)) = x := ⟨_, rfl⟩
     have HL3 := Aside0.mk hL3
     have HQ3 := Aside0.mk hb3
     have HM3 : Aside0 (L3.length ≤ 50000) := ⟨by rw [← hL3]; have h1 := lay_length (numsK tr); have h2 := numsK_len tr; have h3 := HM2.out; rw [List.length_append]; omega⟩
     rw [hL3, hb3] at HW0
     have HWS := Aside0.mk (Wr.zero (HW0.out) : Wr w.heap.size _ g (L3 ++ lay (numsY (ty.take 0) ats)) (b3 || !fit (numsY (ty.take 0) ats)))
     clear hL3 hb3 HW0
     go_loopw [67] (fun i wr => ∃ k : Nat, k ≤ ty.length ∧ i = .int .i64 (k : Int) ∧ Aside0 (Fr w wr z g #[.slice A0 ty.length c0, .slice A1 tr.length c1, .slice A2 lp.length c2, .string foot, .int .i64 ver] (.slice Aa ats.length ca) ats) ∧ Aside0 (Wr w.heap.size wr g (L3 ++ lay (numsY (ty.take k) ats)) (b3 || !fit (numsY (ty.take k) ats)))) (fun i _ => ty.length - (intOf i).toNat)
     case atStart => exact ⟨0, Nat.zero_le _, rfl, HF0, HWS⟩
     case round =>
      obtain ⟨k, hk, rfl, HF, HW⟩ := hrel
      clear HF0 HWS
      by_cases hlt : k < ty.length
      ·obtain ⟨ad, hAd, hx0, hx1, hx2⟩ := at_T46 (Kd.C_below HR0.out HF.out.below) (k : Int) (by omega) (by omega)
       rw [rd46 hlt, Int.toNat_natCast] at hx0 hx1 hx2
       cases hAd
       have HN1 := Aside0.mk (numsY_take HAT.out hlt)
       have HLN : Aside0 ((L3 ++ lay (numsY (ty.take k) ats)).length ≤ 900000) := ⟨by rw [List.length_append]; have h1 := lay_length (numsY (ty.take k) ats); have h2 := numsY_take_len ats ty k; have h3 := HM3.out; omega⟩
       have HGW := Aside0.mk HW.out.size
       generalize ty[k] = t at *
       generalize numsY (ty.take k) ats = ns at *
       go_wp2_with (first
        | ((with_reducible refine gate_dst (N := 17) rfl ?_); refine box_event ?hg (N := 17) ?hd (cs := #[.int .i64 0, .bool false, .string (⟨#[]⟩ : ByteArray)]) (t := 46) ?hr ?_; (case hd => rfl); (case hg => rfl); (case hr => first | (go_simp; done) | (go_simp; rfl)); intro b hbW w5 hbox hb5; have HB5 := Aside0.mk hb5; have HBX := Aside0.mk hbox; have HBE : Aside0 (wr.heap.size ≤ b) := ⟨by omega⟩; have HBG : Aside0 (b ≠ g) := ⟨by have := HGW.out; omega⟩; have hy0 : w5.cell? ⟨b, 0, none⟩ = some (.int .i64 0) := (blk_cell hbox 0).trans rfl; have hf0 := blk_frozen hbox 0; have hy1 : w5.cell? ⟨b, 1, none⟩ = some (.bool false) := (blk_cell hbox 1).trans rfl; have hf1 := blk_frozen hbox 1; have hy2 : w5.cell? ⟨b, 2, none⟩ = some (.string (⟨#[]⟩ : ByteArray)) := (blk_cell hbox 2).trans rfl; have hf2 := blk_frozen hbox 2; clear hb5 hbox hbW))
       have HBX0 : Aside0 ((((w5.setCell ⟨b, 0, none⟩ (.int .i64 t.f0)).setCell ⟨b, 1, none⟩ (.bool t.f1)).setCell ⟨b, 2, none⟩ (.string t.f2)).heap[b]? = some (.cells #[.int .i64 t.f0, .bool t.f1, .string t.f2] 46 (0, 0))) := ⟨(blk_set (blk_set (blk_set HBX.out 0 (.int .i64 t.f0)) 1 (.bool t.f1)) 2 (.string t.f2))⟩
       have HF1 := Aside0.mk (HF.out.step (Below.setCell (p := ⟨b, 2, none⟩) (Below.setCell (p := ⟨b, 1, none⟩) (Below.setCell (p := ⟨b, 0, none⟩) HB5.out HBE.out (.int .i64 t.f0)) HBE.out (.bool t.f1)) HBE.out (.string t.f2)))
       have HW1 := Aside0.mk (HW.out.below (Below.setCell (p := ⟨b, 2, none⟩) (Below.setCell (p := ⟨b, 1, none⟩) (Below.setCell (p := ⟨b, 0, none⟩) HB5.out HBE.out (.int .i64 t.f0)) HBE.out (.bool t.f1)) HBE.out (.string t.f2)))
       clear HF HW HB5 HBX hy0 hy1 hy2 hf0 hf1 hf2 hx0 hx1 hx2
       generalize (((w5.setCell ⟨b, 0, none⟩ (.int .i64 t.f0)).setCell ⟨b, 1, none⟩ (.bool t.f1)).setCell ⟨b, 2, none⟩ (.string t.f2)) = W0 at *
       refine (put_is (W := W0) t.f0 4 HW1.out (by have := HLN.out; omega) (below_size HF1.out.below)).mono ?_
       rintro e W1 ⟨rfl, hw, hkp⟩
       have HF2 := Aside0.mk (HF1.out.keep HW1.out hkp)
       have HW2 := Aside0.mk hw.step
       have HBX1 := Aside0.mk (hkp.far HBG.out (by decide) HBX0.out)
       replace HLN := Aside0.mk (lay_grow HLN.out (t.f0, 4))
       clear hw hkp HF1 HW1 HBX0 
       have hy0 : W1.cell? ⟨b, 0, none⟩ = some (.int .i64 t.f0) := (blk_cell HBX1.out 0).trans rfl
       have hy1 : W1.cell? ⟨b, 1, none⟩ = some (.bool t.f1) := (blk_cell HBX1.out 1).trans rfl
       have hy2 : W1.cell? ⟨b, 2, none⟩ = some (.string t.f2) := (blk_cell HBX1.out 2).trans rfl
       go_wp2_with fail
       refine (mark_calls t.f1 _).mono ?_
       rintro e Wm ⟨rfl, rfl⟩
       go_wp2_with fail
       refine (put_is (W := W1) (mk t.f1) 1 HW2.out (by have := HLN.out; omega) (below_size HF2.out.below)).mono ?_
       rintro e W2 ⟨rfl, hw, hkp⟩
       have HF3 := Aside0.mk (HF2.out.keep HW2.out hkp)
       have HW3 := Aside0.mk hw.step
       have HBX2 := Aside0.mk (hkp.far HBG.out (by decide) HBX1.out)
       replace HLN := Aside0.mk (lay_grow HLN.out ((mk t.f1), 1))
       clear hw hkp HF2 HW2 HBX1 hy0 hy1 hy2
       have hy0 : W2.cell? ⟨b, 0, none⟩ = some (.int .i64 t.f0) := (blk_cell HBX2.out 0).trans rfl
       have hy1 : W2.cell? ⟨b, 1, none⟩ = some (.bool t.f1) := (blk_cell HBX2.out 1).trans rfl
       have hy2 : W2.cell? ⟨b, 2, none⟩ = some (.string t.f2) := (blk_cell HBX2.out 2).trans rfl
       obtain ⟨aa, hAa, hat⟩ := Kd.at_int (Kd.R_reads' HF3.out.row).2.2 (k : Int) (by omega) (by have := HAT.out; omega)
       rw [rd_at (by rw [HAT.out]; exact hlt), Int.toNat_natCast] at hat
       cases hAa
       have hka : k < ats.length := by rw [HAT.out]; exact hlt
       go_wp2_with fail
       refine (put_is (W := W2) (ats[k]'(by rw [HAT.out]; exact hlt)) 1 HW3.out (by have := HLN.out; omega) (below_size HF3.out.below)).mono ?_
       rintro e W3 ⟨rfl, hw, hkp⟩
       have HF4 := Aside0.mk (HF3.out.keep HW3.out hkp)
       have HW4 := Aside0.mk hw.step
       have HBX3 := Aside0.mk (hkp.far HBG.out (by decide) HBX2.out)
       replace HLN := Aside0.mk (lay_grow HLN.out ((ats[k]'(by rw [HAT.out]; exact hlt)), 1))
       clear hw hkp HF3 HW3 HBX2 hy0 hy1 hy2 hat hka
       go_wp2
       exact ⟨⟨k + 1, by omega, by go_num, HF4, ⟨by rw [HN1.out]; exact HW4.out⟩⟩, by simp [intOf]; omega⟩
      ·obtain rfl : k = ty.length := by omega
       rw [List.take_length] at HW
       have HF0 := HF
       have HW0 := HW
       clear HF HW
       have HW9 := HW0
       have HF9 := HF0
       clear HW0 HF0
       obtain ⟨v0, hvb, hvg, hvR⟩ := HW9.out
       obtain ⟨LM, hLM⟩ : ∃ x, L3 ++ lay (numsY ty ats) = x := ⟨_, rfl⟩
       obtain ⟨LP, hLP⟩ : ∃ x, LM ++ bytesOf P = x := ⟨_, rfl⟩
       have HLE : Aside0 (L3 ++ lay (numsY ty ats) ++ bytesOf P = LP) := ⟨by rw [hLM, hLP]⟩
       rw [hLM] at hvR
       have HLPE := Aside0.mk hLP
       have HLB : Aside0 (LP.length ≤ 60000) := ⟨by rw [← hLP, ← hLM, List.length_append, List.length_append, bytesOf_length]; have h1 := lay_length (numsY ty ats); have h2 := numsY_len ty ats; have h3 := HM3.out; omega⟩
       have HLL : Aside0 (LM.length + P.size ≤ 140737488355328) := ⟨by have h := HLB.out; rw [← hLP, List.length_append, bytesOf_length] at h; omega⟩
       have HVB := Aside0.mk hvb
       have HVR := Aside0.mk hvR
       have HVG := Aside0.mk hvg
       have hk0 : wr.cell? ⟨g, 0, none⟩ = some v0 := (blk_cell hvb 0).trans rfl
       have HZG := Aside0.mk HF9.out.ne
       clear hvb hvg hvR hLM hLP
       go_wp2_with (first
        | ((with_reducible refine gate_builtin (b := .append) (xs := #[.tmp 86, .tmp 87]) rfl ?_); at_builtin; refine print_append_str (w0 := wr) w.heap.size rfl (.tmp 86) (.tmp 87) 29 9 5 rfl Try.underlying29 Try.underlying9 info5 v0 LM P rfl rfl ?aO ?aB ?aS ?aL ?_; (case aO => exact Kd.own_of_R HVR.out); (case aB => exact Below.refl _ _); (case aS => exact below_size HF9.out.below); (case aL => exact HLL.out); intro v1 w6 hown hb6 hg6; rw [HLPE.out] at hown; have hR6 := Wr.app_row hown; obtain ⟨A6, c6, rfl⟩ := Kd.R_slice hR6; have hb61 := app_block' (by decide) HVB.out HVR.out hg6; have HK6 := Aside0.mk ((grown_keep (g := g) HVR.out hg6 hb6).trans (Keep.set HVG.out 0 (.slice A6 LP.length c6))); have hk6 : w6.cell? ⟨g, 0, none⟩ = some v0 := (blk_cell hb61 0).trans rfl; have hk6f := blk_frozen hb61 0; have HW0 := Aside0.mk (Wr.put0 hb61 HVG.out hR6); have HF0 := Aside0.mk (HF9.out.keep HW9.out HK6.out); have hz2 : (w6.setCell ⟨g, 0, none⟩ (.slice A6 LP.length c6)).cell? ⟨z, 2, none⟩ = some (.slice A2 lp.length c2) := (zone_cells HF0.out.zone).2.2.1; clear hown hb6 hg6 hR6 hb61 HK6 HVB HVR HVG))
       generalize (w6.setCell ⟨g, 0, none⟩ (.slice A6 LP.length c6)) = w7 at *
       clear hk0 hk6 hk6f hz2 HF9 HW9
       obtain ⟨L4, hL4⟩ : ∃ x, (LP) = x := ⟨_, rfl⟩
       obtain ⟨b4, hb4⟩ : ∃ x, (b3 || !fit (numsY ty ats)) = x := ⟨_, rfl⟩
       have HL4 := Aside0.mk hL4
       have HQ4 := Aside0.mk hb4
       have HM4 : Aside0 (L4.length ≤ 60000) := ⟨by rw [← hL4]; exact HLB.out⟩
       rw [hL4, hb4] at HW0
       have HWS := Aside0.mk (Wr.zero (HW0.out) : Wr w.heap.size _ g (L4 ++ lay (numsL (lp.take 0) 8)) (b4 || !fit (numsL (lp.take 0) 8)))
       clear hL4 hb4 HW0
       go_loopw [93] (fun i wr => ∃ k : Nat, k ≤ lp.length ∧ i = .int .i64 (k : Int) ∧ Aside0 (Fr w wr z g #[.slice A0 ty.length c0, .slice A1 tr.length c1, .slice A2 lp.length c2, .string foot, .int .i64 ver] (.slice Aa ats.length ca) ats) ∧ Aside0 (Wr w.heap.size wr g (L4 ++ lay (numsL (lp.take k) 8)) (b4 || !fit (numsL (lp.take k) 8)))) (fun i _ => lp.length - (intOf i).toNat)
       case atStart => exact ⟨0, Nat.zero_le _, rfl, HF0, HWS⟩
       case round =>
        obtain ⟨k, hk, rfl, HF, HW⟩ := hrel
        clear HF0 HWS
        by_cases hlt : k < lp.length
        ·obtain ⟨ad, hAd, hx0, hx1⟩ := at_T50 (Kd.C_below HR2.out HF.out.below) (k : Int) (by omega) (by omega)
         rw [rd50 hlt, Int.toNat_natCast] at hx0 hx1
         cases hAd
         have HN1 := Aside0.mk (numsL_take (size := 8) hlt)
         have HLN : Aside0 ((L4 ++ lay (numsL (lp.take k) 8)).length ≤ 900000) := ⟨by rw [List.length_append]; have h1 := lay_length (numsL (lp.take k) 8); have h2 := numsL_take_len lp 8 k; have h3 := HM4.out; omega⟩
         have HGW := Aside0.mk HW.out.size
         generalize lp[k] = t at *
         generalize numsL (lp.take k) 8 = ns at *
         go_wp2_with (first
          | ((with_reducible refine gate_dst (N := 19) rfl ?_); refine box_event ?hg (N := 19) ?hd (cs := #[.int .i64 0, .int .i64 0]) (t := 50) ?hr ?_; (case hd => rfl); (case hg => rfl); (case hr => first | (go_simp; done) | (go_simp; rfl)); intro b hbW w5 hbox hb5; have HB5 := Aside0.mk hb5; have HBX := Aside0.mk hbox; have HBE : Aside0 (wr.heap.size ≤ b) := ⟨by omega⟩; have HBG : Aside0 (b ≠ g) := ⟨by have := HGW.out; omega⟩; have hy0 : w5.cell? ⟨b, 0, none⟩ = some (.int .i64 0) := (blk_cell hbox 0).trans rfl; have hf0 := blk_frozen hbox 0; have hy1 : w5.cell? ⟨b, 1, none⟩ = some (.int .i64 0) := (blk_cell hbox 1).trans rfl; have hf1 := blk_frozen hbox 1; clear hb5 hbox hbW))
         have HBX0 : Aside0 (((w5.setCell ⟨b, 0, none⟩ (.int .i64 t.f0)).setCell ⟨b, 1, none⟩ (.int .i64 t.f1)).heap[b]? = some (.cells #[.int .i64 t.f0, .int .i64 t.f1] 50 (0, 0))) := ⟨(blk_set (blk_set HBX.out 0 (.int .i64 t.f0)) 1 (.int .i64 t.f1))⟩
         have HF1 := Aside0.mk (HF.out.step (Below.setCell (p := ⟨b, 1, none⟩) (Below.setCell (p := ⟨b, 0, none⟩) HB5.out HBE.out (.int .i64 t.f0)) HBE.out (.int .i64 t.f1)))
         have HW1 := Aside0.mk (HW.out.below (Below.setCell (p := ⟨b, 1, none⟩) (Below.setCell (p := ⟨b, 0, none⟩) HB5.out HBE.out (.int .i64 t.f0)) HBE.out (.int .i64 t.f1)))
         clear HF HW HB5 HBX hy0 hy1 hf0 hf1 hx0 hx1
         generalize ((w5.setCell ⟨b, 0, none⟩ (.int .i64 t.f0)).setCell ⟨b, 1, none⟩ (.int .i64 t.f1)) = W0 at *
         refine (put_is (W := W0) t.f0 8 HW1.out (by have := HLN.out; omega) (below_size HF1.out.below)).mono ?_
         rintro e W1 ⟨rfl, hw, hkp⟩
         have HF2 := Aside0.mk (HF1.out.keep HW1.out hkp)
         have HW2 := Aside0.mk hw.step
         have HBX1 := Aside0.mk (hkp.far HBG.out (by decide) HBX0.out)
         replace HLN := Aside0.mk (lay_grow HLN.out (t.f0, 8))
         clear hw hkp HF1 HW1 HBX0 
         have hy0 : W1.cell? ⟨b, 0, none⟩ = some (.int .i64 t.f0) := (blk_cell HBX1.out 0).trans rfl
         have hy1 : W1.cell? ⟨b, 1, none⟩ = some (.int .i64 t.f1) := (blk_cell HBX1.out 1).trans rfl
         go_wp2_with fail
         refine (put_is (W := W1) t.f1 4 HW2.out (by have := HLN.out; omega) (below_size HF2.out.below)).mono ?_
         rintro e W2 ⟨rfl, hw, hkp⟩
         have HF3 := Aside0.mk (HF2.out.keep HW2.out hkp)
         have HW3 := Aside0.mk hw.step
         have HBX2 := Aside0.mk (hkp.far HBG.out (by decide) HBX1.out)
         replace HLN := Aside0.mk (lay_grow HLN.out (t.f1, 4))
         clear hw hkp HF2 HW2 HBX1 hy0 hy1
         go_wp2
         exact ⟨⟨k + 1, by omega, by go_num, HF3, ⟨by rw [HN1.out]; exact HW3.out⟩⟩, by simp [intOf]; omega⟩
        ·obtain rfl : k = lp.length := by omega
         rw [List.take_length] at HW
         have HF0 := HF
         have HW0 := HW
         clear HF HW
         have HLF := Aside0.mk (enc_list HL1.out HL2.out HL3.out (HLE.out.trans HL4.out) : L4 ++ lay (numsL lp 8) = _)
         have HBF := Aside0.mk (enc_bad HQ1.out HQ2.out HQ3.out HQ4.out : (b4 || !fit (numsL lp 8)) = _)
         rw [HLF.out, HBF.out] at HW0
         obtain ⟨q, hq⟩ : ∃ q, (fit (numsT tr 8 ++ numsK tr ++ numsY ty ats) && fit (numsL lp 8)) = q := ⟨_, rfl⟩
         rw [hq] at HW0 HN
         obtain ⟨X, hX⟩ : ∃ X, lay (numsT tr 8 ++ numsK tr ++ numsY ty ats) ++ bytesOf P ++ lay (numsL lp 8) = X := ⟨_, rfl⟩
         rw [hX] at HW0 HN
         obtain ⟨v, hvb, hvg, hvR⟩ := HW0.out
         obtain ⟨A9, c9, rfl, hc9, hr9⟩ := Kd.R_reads hvR
         have HVR := Aside0.mk hvR
         have hk0 : wr.cell? ⟨g, 0, none⟩ = some _ := (blk_cell hvb 0).trans rfl
         have hk1 : wr.cell? ⟨g, 1, none⟩ = some _ := (blk_cell hvb 1).trans rfl
         clear hvb hvg hvR hr9 hc9 hq hX HL1 HL2 HL3 HL4 HQ1 HQ2 HQ3 HQ4 HM1 HM2 HM3 HM4 HLF HBF HAT
         cases q with
         | true =>
          have HN' := HN.out
          subst HN'
          go_wp2
          go_ret2
          exact ⟨_, rfl, HVR.out, HF0.out.below⟩
         | false =>
          have HN' := HN.out
          subst HN'
          go_wp2
          go_ret2
          exact ⟨_, rfl, Kd.R_nil _ _ _ _ _, HF0.out.below⟩
end Go.Proofs.Ytpgjcnjojfehjaa.Bk
namespace Go.Proofs.Ytpgjcnjojfehjaa.Bk
open Go.RowKit Go.Proofs.YtpgjcnjojfehjaaW.PrintWords Go.Proofs.YtpgjcnjojfehjaaW.PrintLast Go.Proofs.YtpgjcnjojfehjaaW.PrintMore Oct Kx
theorem info46 : (Try.prog.info? 46).map (fun i => (i.zero, i.size, i.bytes)) = some (some (.agg #[.int .i64 0, .bool false, .string ByteArray.empty]), 3, 32) := by kernel_rfl
theorem info3 : (Try.prog.info? 3).map (fun i => (i.zero, i.size, i.bytes)) = some (some (.int .i64 0), 1, 8) := by kernel_rfl
theorem num_is {B N : Nat} {W : World} {g : Nat} {l : List Int} {bad : Bool} {size m : Int} {l2 : List Int} {b2 : Bool} (hn : numS l bad size = (m, l2, b2)) (h : Rd 82 B N W g l bad) (hl : l.length ≤ 140737488355328) :
  Calls Try.prog 27 #[.pointer (some ⟨g, 0, none⟩), .int .i64 size] W fun e w' => e = .returned (.int .i64 m) ∧ Rd 82 B N w' g l2 b2 ∧ W.grownBy w' (some g) :=
 (num_calls B N W g l bad size h hl).mono fun e w' ⟨he, hr, hg⟩ => by
  rw [hn] at he hr
  exact ⟨he, hr, hg⟩
theorem take_len (l : List Int) (b : Bool) (n : Int) : (takeS l b n).2.1.length ≤ l.length := by
 unfold takeS
 split
 ·exact Nat.zero_le _
 ·simp only [List.length_drop]; omega
theorem num_len (l : List Int) (b : Bool) (size : Int) : (numS l b size).2.1.length ≤ l.length := take_len l b _
def tyK : Nat → List Int → Bool → List S46 × List Int × Bool × List Int × Bool
 | 0, l, b => ([], [], true, l, b)
 | k + 1, l, b =>
  let s := tyK k l b
  let n1 := numS s.2.2.2.1 s.2.2.2.2 4
  let n2 := numS n1.2.1 n1.2.2 1
  let n3 := numS n2.2.1 n2.2.2 1
  (s.1 ++ [⟨n1.1, n2.1 == 1, ⟨#[]⟩⟩], s.2.1 ++ [n3.1], s.2.2.1 && decide (n2.1 < 2), n3.2.1, n3.2.2)
theorem tyK_len (l : List Int) (b : Bool) : ∀ k, (tyK k l b).1.length = k ∧ (tyK k l b).2.1.length = k ∧ (tyK k l b).2.2.2.1.length ≤ l.length
 | 0 => ⟨rfl, rfl, Nat.le_refl _⟩
 | k + 1 => by
  obtain ⟨h1, h2, h3⟩ := tyK_len l b k
  unfold tyK
  refine ⟨?_, ?_, ?_⟩
  ·simp only; rw [List.length_append, h1]; rfl
  ·simp only; rw [List.length_append, h2]; rfl
  ·simp only
   exact Nat.le_trans (num_len _ _ _) (Nat.le_trans (num_len _ _ _) (Nat.le_trans (num_len _ _ _) h3))
theorem row_grown {α : Type} {d : Kd α} {e base g : Nat} {W W1 : World} {ok : Nat → Prop} {v : Value} {xs : List α} {cs : Array Value} {T : Nat} (h : d.R e W base ok v xs) (hb : W.heap[g]? = some (.cells cs T (0, 0))) (ht : ∀ q, q ∈ e :: d.E → q ≠ T) (hg : W.grownBy W1 (some g)) : d.R e W1 base ok v xs :=
 Kd.R_mono (Kd.R_grown (Kd.R_types h hb ht) hg (fun k hk e => hk.2 (by injection e))) (fun _ hk => hk.1)
theorem Rd.block {T B N : Nat} {W : World} {g : Nat} {l : List Int} {bad : Bool} (h : Rd T B N W g l bad) : ∃ cs, W.heap[g]? = some (.cells cs T (0, 0)) := by
 obtain ⟨A, c, hb, _⟩ := h
 exact ⟨_, hb⟩
structure Tr (ok : Nat → Prop) (w W : World) (B N g : Nat) (l : List Int) (bad : Bool) (v1 v2 : Value) (ty : List S46) (ats : List Int) : Prop where
 rd : Rd 82 B N W g l bad
 types : Kd.R k46 46 W w.heap.size ok v1 ty
 places : Kd.R (Kd.int .i64) 3 W w.heap.size ok v2 ats
 grown : w.grownBy W (some g)
 old : N ≤ w.heap.size
section
variable {ok ok' : Nat → Prop} {w W W1 : World} {B N g : Nat} {l l2 : List Int} {bad b2 : Bool} {v1 v2 v1' v2' : Value} {ty ty' : List S46} {ats ats' : List Int}
theorem Tr.num (h : Tr ok w W B N g l bad v1 v2 ty ats) (hr : Rd 82 B N W1 g l2 b2) (hg : W.grownBy W1 (some g)) : Tr ok w W1 B N g l2 b2 v1 v2 ty ats := by
 obtain ⟨cs, hb⟩ := Rd.block h.rd
 exact ⟨hr, row_grown h.types hb (by intro q hq; simp [k46, Kd.iso, Kd.pair, Kd.int, Kd.bool, Kd.string, Kd.scalar] at hq; subst hq; decide) hg, row_grown h.places hb (by intro q hq; simp [Kd.int, Kd.scalar] at hq; subst hq; decide) hg, h.grown.trans hg, h.old⟩
theorem Tr.below (h : Tr ok w W B N g l bad v1 v2 ty ats) (hb : Below W.heap.size W W1) : Tr ok w W1 B N g l bad v1 v2 ty ats :=
 ⟨Rd.below h.rd hb, Kd.R_below h.types hb, Kd.R_below h.places hb, h.grown.trans (grown_of_below hb (some g)), h.old⟩
theorem Tr.below' {V : World} (h : Tr ok w V B N g l bad v1 v2 ty ats) (hb : Below V.heap.size V W1) : Tr ok w W1 B N g l bad v1 v2 ty ats := h.below hb
theorem Tr.mono (h : Tr ok w W B N g l bad v1 v2 ty ats) (ho : ∀ k, ok k → ok' k) : Tr ok' w W B N g l bad v1 v2 ty ats :=
 ⟨h.rd, Kd.R_mono h.types ho, Kd.R_mono h.places ho, h.grown, h.old⟩
theorem Tr.away (h : Tr ok w W B N g l bad v1 v2 ty ats) {b : Nat} (hb : W.heap.size ≤ b) : Tr (fun k => k ≠ b) w W B N g l bad v1 v2 ty ats :=
 ⟨h.rd, Kd.R_mono (Kd.R_bound h.types) (fun k hk => by have := hk.2.2.1; omega), Kd.R_mono (Kd.R_bound h.places) (fun k hk => by have := hk.2.2.1; omega), h.grown, h.old⟩
theorem Tr.store {b : Nat} (h : Tr (fun k => k ≠ b) w W B N g l bad v1 v2 ty ats) (hb : w.heap.size ≤ b) (j : Nat) (u : Value) : Tr (fun k => k ≠ b) w (W.setCell ⟨b, j, none⟩ u) B N g l bad v1 v2 ty ats := by
 have hN := h.old
 have hg := grown_set W ⟨b, j, none⟩ u
 refine ⟨Rd.grown h.rd hg (fun k hk => .inr (by injection hk with hk; have e2 : b = k := hk; omega)), Kd.R_far h.types (fun _ hk => hk) u, Kd.R_far h.places (fun _ hk => hk) u, ?_, hN⟩
 have hs := h.grown.size
 refine ⟨hg.os.trans h.grown.os, hg.tape.trans h.grown.tape, hg.output.trans h.grown.output, Nat.le_trans hs hg.size, fun k hk hne => (hg.block k (by omega) (fun e => ?_)).trans (h.grown.block k hk hne)⟩
 injection e with e
 have e2 : k = b := e
 omega
theorem Tr.row1 (h : Tr ok w W B N g l bad v1 v2 ty ats) (hR : Kd.R k46 46 W1 w.heap.size ok v1' ty') (hg : W.grownBy W1 v1.ownBlock) : Tr ok w W1 B N g l bad v1' v2 ty' ats := by
 have hN := h.old
 have hbk : ∀ k, v1.ownBlock = some k → w.heap.size ≤ k := Kd.R_base h.types
 refine ⟨Rd.grown h.rd hg (fun k hk => .inr (Nat.le_trans hN (hbk k hk))), hR, ?_, ?_, hN⟩
 ·refine Kd.R_mono (Kd.R_grown (row := v1.ownBlock) (Kd.R_bound h.places) hg fun k hk e => ?_) (fun _ hk => hk.1)
  obtain ⟨_, _, _, q, hq, cells, hc⟩ := hk
  have hq3 : q = 3 := by simpa [Kd.int, Kd.scalar] using hq
  subst hq3
  obtain ⟨inner, hi⟩ := Kd.R_own h.types
  obtain ⟨cells2, hc2⟩ := own_typed hi k e.symm
  rw [hc] at hc2
  injection hc2 with hc2
  injection hc2 with _ hc2
  revert hc2
  decide
 ·have hs := h.grown.size
  refine ⟨hg.os.trans h.grown.os, hg.tape.trans h.grown.tape, hg.output.trans h.grown.output, Nat.le_trans hs hg.size, fun k hk hne => (hg.block k (by omega) (fun e => ?_)).trans (h.grown.block k hk hne)⟩
  have := hbk k e.symm
  omega
theorem Tr.row2 (h : Tr ok w W B N g l bad v1 v2 ty ats) (hR : Kd.R (Kd.int .i64) 3 W1 w.heap.size ok v2' ats') (hg : W.grownBy W1 v2.ownBlock) : Tr ok w W1 B N g l bad v1 v2' ty ats' := by
 have hN := h.old
 have hbk : ∀ k, v2.ownBlock = some k → w.heap.size ≤ k := Kd.R_base h.places
 refine ⟨Rd.grown h.rd hg (fun k hk => .inr (Nat.le_trans hN (hbk k hk))), ?_, hR, ?_, hN⟩
 ·refine Kd.R_mono (Kd.R_grown (row := v2.ownBlock) (Kd.R_bound h.types) hg fun k hk e => ?_) (fun _ hk => hk.1)
  obtain ⟨_, _, _, q, hq, cells, hc⟩ := hk
  have hq3 : q = 46 := by simpa [k46, Kd.iso, Kd.pair, Kd.int, Kd.bool, Kd.string, Kd.scalar] using hq
  subst hq3
  obtain ⟨inner, hi⟩ := Kd.R_own h.places
  obtain ⟨cells2, hc2⟩ := own_typed hi k e.symm
  rw [hc] at hc2
  injection hc2 with hc2
  injection hc2 with _ hc2
  revert hc2
  decide
 ·have hs := h.grown.size
  refine ⟨hg.os.trans h.grown.os, hg.tape.trans h.grown.tape, hg.output.trans h.grown.output, Nat.le_trans hs hg.size, fun k hk hne => (hg.block k (by omega) (fun e => ?_)).trans (h.grown.block k hk hne)⟩
  have := hbk k e.symm
  omega
end
set_option maxHeartbeats 2000000 in
set_option maxRecDepth 100000 in
theorem types_walk (B N : Nat) (w : World) (g : Nat) (l : List Int) (bad : Bool) (n : Nat) (hn : n ≤ 100) (h : Rd 82 B N w g l bad) (hl : l.length ≤ 140737488355328) (tyf : List S46) (atf : List Int) (okf : Bool) (lf : List Int) (bf : Bool) (hT : tyK n l bad = (tyf, atf, okf, lf, bf)) :
  Calls Try.prog 28 #[.pointer (some ⟨g, 0, none⟩), .int .i64 n] w fun e w' => ∃ v1 v2, e = .returned (.tuple #[v1, v2, .bool okf]) ∧ Tr (fun _ => True) w w' B N g lf bf v1 v2 tyf atf := by
 have HT := Aside0.mk hT
 have HLL := Aside0.mk hl
 have H0 : Aside0 (Tr (fun _ => True) w w B N g l bad (.slice none 0 0) (.slice none 0 0) [] []) := ⟨⟨h, Kd.R_nil _ _ _ _ _, Kd.R_nil _ _ _ _ _, World.grownBy.refl _ _, h.size.2.2⟩⟩
 clear h hT hl
 go_enter Try.func28, Try.ntmps28
 go_wp2
 go_loopw [4, 5, 6, 10] (fun v1 v2 o i wr => ∃ k : Nat, k ≤ n ∧ i = .int .i64 (k : Int) ∧ o = .bool (tyK k l bad).2.2.1 ∧ Aside0 (Tr (fun _ => True) w wr B N g (tyK k l bad).2.2.2.1 (tyK k l bad).2.2.2.2 v1 v2 (tyK k l bad).1 (tyK k l bad).2.1)) (fun _ _ _ i _ => n - (intOf i).toNat)
 case atStart => exact ⟨0, Nat.zero_le _, rfl, rfl, H0⟩
 case round =>
  obtain ⟨k, hk, rfl, ho, HTR⟩ := hrel
  clear H0
  by_cases hlt : k < n
  ·have HTL := Aside0.mk (tyK_len l bad k)
   have HNX : Aside0 (tyK (k + 1) l bad = _) := ⟨rfl⟩
   have HK := Aside0.mk HNX.out
   obtain ⟨ty, ats, ok, lk, bk, hs⟩ : ∃ a b c d e, tyK k l bad = (a, b, c, d, e) := ⟨_, _, _, _, _, rfl⟩
   rw [hs] at HTR HTL
   rw [hs] at ho
   obtain ⟨n1, l1, b1, h1⟩ : ∃ a b c, numS lk bk 4 = (a, b, c) := ⟨_, _, _, rfl⟩
   obtain ⟨n2, l2, b2, h2⟩ : ∃ a b c, numS l1 b1 1 = (a, b, c) := ⟨_, _, _, rfl⟩
   obtain ⟨n3, l3, b3, h3⟩ : ∃ a b c, numS l2 b2 1 = (a, b, c) := ⟨_, _, _, rfl⟩
   have HNEW : Aside0 (tyK (k + 1) l bad = (ty ++ [⟨n1, n2 == 1, ⟨#[]⟩⟩], ats ++ [n3], ok && decide (n2 < 2), l3, b3)) := ⟨by
    unfold tyK; simp only [hs, h1, h2, h3]⟩
   have H1 := Aside0.mk h1
   have H2 := Aside0.mk h2
   have H3 := Aside0.mk h3
   have HL1 : Aside0 (lk.length ≤ 140737488355328) := ⟨Nat.le_trans HTL.out.2.2 HLL.out⟩
   have HL2 : Aside0 (l1.length ≤ 140737488355328) := ⟨by have := num_len lk bk 4; rw [h1] at this; exact Nat.le_trans this HL1.out⟩
   have HL3 : Aside0 (l2.length ≤ 140737488355328) := ⟨by have := num_len l1 b1 1; rw [h2] at this; exact Nat.le_trans this HL2.out⟩
   have ho' : u6 = .bool ok := ho
   subst ho'
   clear ho HNX HK hs h1 h2 h3
   go_wp2_with fail
   refine (num_is H1.out HTR.out.rd HL1.out).mono ?_
   rintro e w1 ⟨rfl, hr1, hg1⟩
   have HT1 := Aside0.mk (HTR.out.num hr1 hg1)
   clear hr1 hg1 HTR H1
   go_wp2_with (first
    | ((with_reducible refine gate_dst (N := 7) rfl ?_); refine box_event ?hg (N := 7) ?hd (cs := #[.int .i64 0, .bool false, .string (⟨#[]⟩ : ByteArray)]) (t := 46) ?hr ?_; (case hd => rfl); (case hg => rfl); (case hr => first | (go_simp; done) | (go_simp; rfl)); intro b hbW w5 hbox hb5; have HB5 := Aside0.mk hb5; have HBX := Aside0.mk hbox; have HBE : Aside0 (w1.heap.size ≤ b) := ⟨by omega⟩; have hy0 : w5.cell? ⟨b, 0, none⟩ = some (.int .i64 0) := (blk_cell hbox 0).trans rfl; have hf0 := blk_frozen hbox 0; have hy1 : w5.cell? ⟨b, 1, none⟩ = some (.bool false) := (blk_cell hbox 1).trans rfl; have hf1 := blk_frozen hbox 1; have hy2 : w5.cell? ⟨b, 2, none⟩ = some (.string (⟨#[]⟩ : ByteArray)) := (blk_cell hbox 2).trans rfl; have hf2 := blk_frozen hbox 2; clear hb5 hbox hbW))
   have HBX0 : Aside0 ((((w5.setCell ⟨b, 0, none⟩ (.int .i64 n1)).setCell ⟨b, 1, none⟩ (.bool false)).setCell ⟨b, 2, none⟩ (.string (⟨#[]⟩ : ByteArray))).heap[b]? = some (.cells #[.int .i64 n1, .bool false, .string (⟨#[]⟩ : ByteArray)] 46 (0, 0))) := ⟨blk_set (blk_set (blk_set HBX.out 0 (.int .i64 n1)) 1 (.bool false)) 2 (.string (⟨#[]⟩ : ByteArray))⟩
   have HBB : Aside0 (w.heap.size ≤ b ∧ b ≠ g) := ⟨by have h1 := HT1.out.grown.size; have h2 := HBE.out; have h3 := HT1.out.rd.size; omega⟩
   have HT2 := Aside0.mk ((HT1.out.away HBE.out).below' (Below.setCell (p := ⟨b, 2, none⟩) (Below.setCell (p := ⟨b, 1, none⟩) (Below.setCell (p := ⟨b, 0, none⟩) HB5.out HBE.out (.int .i64 n1)) HBE.out (.bool false)) HBE.out (.string (⟨#[]⟩ : ByteArray))))
   clear HT1 HB5 HBX HBE hy0 hy1 hy2 hf0 hf1 hf2
   generalize (((w5.setCell ⟨b, 0, none⟩ (.int .i64 n1)).setCell ⟨b, 1, none⟩ (.bool false)).setCell ⟨b, 2, none⟩ (.string (⟨#[]⟩ : ByteArray))) = w6 at *
   refine (num_is H2.out HT2.out.rd HL2.out).mono ?_
   rintro e w7 ⟨rfl, hr1, hg1⟩
   have HT3 := Aside0.mk (HT2.out.num hr1 hg1)
   have hbx := (hg1.block b (blk_lt HBX0.out) (fun e => HBB.out.2 (by injection e))).trans HBX0.out
   have HBX1 := Aside0.mk hbx
   have hy0 : w7.cell? ⟨b, 0, none⟩ = some (.int .i64 n1) := (blk_cell hbx 0).trans rfl
   have hy1 : w7.cell? ⟨b, 1, none⟩ = some (.bool false) := (blk_cell hbx 1).trans rfl
   have hy2 : w7.cell? ⟨b, 2, none⟩ = some (.string (⟨#[]⟩ : ByteArray)) := (blk_cell hbx 2).trans rfl
   have hf1 := blk_frozen hbx 1
   have HT4 := Aside0.mk (HT3.out.store HBB.out.1 1 (.bool (n2 == 1)))
   have HBS : Aside0 (w.heap.size ≤ (w7.setCell ⟨b, 1, none⟩ (.bool (n2 == 1))).heap.size) := ⟨HT4.out.grown.size⟩
   have HBX2 := Aside0.mk (blk_set HBX1.out 1 (.bool (n2 == 1)))
   go_upto_region 7 with fail
   generalize w7.setCell ⟨b, 1, none⟩ (.bool (n2 == 1)) = w7b at *
   have hq0 : w7b.cell? ⟨b, 0, none⟩ = some (.int .i64 n1) := (blk_cell HBX2.out 0).trans rfl
   have hq1 : w7b.cell? ⟨b, 1, none⟩ = some (.bool (n2 == 1)) := (blk_cell HBX2.out 1).trans rfl
   have hq2 : w7b.cell? ⟨b, 2, none⟩ = some (.string (⟨#[]⟩ : ByteArray)) := (blk_cell HBX2.out 2).trans rfl
   have HLT : Aside0 (ty.length ≤ 100 ∧ ats.length ≤ 100) := ⟨by have := HTL.out; omega⟩
   have HFR : Aside0 (∀ j, w7b.heap.size ≤ j → j ≠ b) := ⟨fun j hj => by have h1 := blk_lt HBX2.out; omega⟩
   clear hr1 hg1 HT2 HT3 H2 HBX0 hbx hy0 hy1 hy2 hf1 HBX1
   cases ok with
   | true =>
    go_wp2_with (first
     | ((with_reducible refine gate_builtin (b := .append) (xs := #[.tmp 20, .tmp 22]) rfl ?_); at_builtin; refine Kd.R_append k46 (w0 := w7b) w.heap.size rfl (.tmp 20) (.tmp 22) 22 46 (.agg #[.int .i64 0, .bool false, .string ByteArray.empty]) 32 rfl Try.underlying22 info46 rfl (by decide) (by omega) u4 ty ⟨n1, n2 == 1, ⟨#[]⟩⟩ [.int .i64 n1, .bool (n2 == 1), .string ⟨#[]⟩] (fun k => k ≠ b) (fun _ => False) rfl rfl (k46_mkM _ _ _ _) (fun _ hk => hk.elim) HFR.out HT4.out.types (Below.refl _ _) HBS.out (by have := HLT.out; omega) ?_; intro v1 w8 ho hb hg hat; have HT5 := Aside0.mk (HT4.out.row1 ho hg); clear ho hb hg hat hq0 hq1 hq2)
     | ((with_reducible refine gate_callee (f := 27) rfl ?_); fail))
    refine (num_is H3.out HT5.out.rd HL3.out).mono ?_
    rintro e w9 ⟨rfl, hr1, hg1⟩
    have HT6 := Aside0.mk ((HT5.out.num hr1 hg1).mono (ok' := fun _ => True) (fun _ _ => trivial))
    have HBS9 : Aside0 (w.heap.size ≤ w9.heap.size) := ⟨HT6.out.grown.size⟩
    clear hr1 hg1 HT4 HT5 H3 HBS HFR HBX2
    go_wp2_with (first
     | ((with_reducible refine gate_builtin (b := .append) (xs := #[.tmp 24, .tmp 27]) rfl ?_); at_builtin; refine Kd.R_append (Kd.int .i64) (w0 := w9) w.heap.size rfl (.tmp 24) (.tmp 27) 51 3 (.int .i64 0) 8 rfl Try.underlying51 info3 rfl (by decide) (by omega) u5 ats n3 [.int .i64 n3] (fun _ => True) (fun _ => False) rfl rfl rfl (fun _ hk => hk.elim) (fun _ _ => trivial) HT6.out.places (Below.refl _ _) HBS9.out (by have := HLT.out; omega) ?_; intro v2 w10 ho hb hg hat; have HT7 := Aside0.mk (HT6.out.row2 ho hg); clear ho hb hg hat))
    exact ⟨⟨k + 1, by omega, by go_num, congrArg Value.bool (by rw [HNEW.out]; rfl), ⟨by rw [HNEW.out]; exact HT7.out⟩⟩, by simp [intOf]; omega⟩
   | false =>
    go_wp2_with (first
     | ((with_reducible refine gate_builtin (b := .append) (xs := #[.tmp 20, .tmp 22]) rfl ?_); at_builtin; refine Kd.R_append k46 (w0 := w7b) w.heap.size rfl (.tmp 20) (.tmp 22) 22 46 (.agg #[.int .i64 0, .bool false, .string ByteArray.empty]) 32 rfl Try.underlying22 info46 rfl (by decide) (by omega) u4 ty ⟨n1, n2 == 1, ⟨#[]⟩⟩ [.int .i64 n1, .bool (n2 == 1), .string ⟨#[]⟩] (fun k => k ≠ b) (fun _ => False) rfl rfl (k46_mkM _ _ _ _) (fun _ hk => hk.elim) HFR.out HT4.out.types (Below.refl _ _) HBS.out (by have := HLT.out; omega) ?_; intro v1 w8 ho hb hg hat; have HT5 := Aside0.mk (HT4.out.row1 ho hg); clear ho hb hg hat hq0 hq1 hq2)
     | ((with_reducible refine gate_callee (f := 27) rfl ?_); fail))
    refine (num_is H3.out HT5.out.rd HL3.out).mono ?_
    rintro e w9 ⟨rfl, hr1, hg1⟩
    have HT6 := Aside0.mk ((HT5.out.num hr1 hg1).mono (ok' := fun _ => True) (fun _ _ => trivial))
    have HBS9 : Aside0 (w.heap.size ≤ w9.heap.size) := ⟨HT6.out.grown.size⟩
    clear hr1 hg1 HT4 HT5 H3 HBS HFR HBX2
    go_wp2_with (first
     | ((with_reducible refine gate_builtin (b := .append) (xs := #[.tmp 24, .tmp 27]) rfl ?_); at_builtin; refine Kd.R_append (Kd.int .i64) (w0 := w9) w.heap.size rfl (.tmp 24) (.tmp 27) 51 3 (.int .i64 0) 8 rfl Try.underlying51 info3 rfl (by decide) (by omega) u5 ats n3 [.int .i64 n3] (fun _ => True) (fun _ => False) rfl rfl rfl (fun _ hk => hk.elim) (fun _ _ => trivial) HT6.out.places (Below.refl _ _) HBS9.out (by have := HLT.out; omega) ?_; intro v2 w10 ho hb hg hat; have HT7 := Aside0.mk (HT6.out.row2 ho hg); clear ho hb hg hat))
    exact ⟨⟨k + 1, by omega, by go_num, congrArg Value.bool (by rw [HNEW.out]; rfl), ⟨by rw [HNEW.out]; exact HT7.out⟩⟩, by simp [intOf]; omega⟩
  ·obtain rfl : k = n := by omega
   have ho' : u6 = .bool okf := by rw [ho, HT.out]
   rw [HT.out] at HTR
   subst ho'
   go_wp2
   go_ret3
   exact ⟨_, _, rfl, HTR.out⟩
end Go.Proofs.Ytpgjcnjojfehjaa.Bk
namespace Go.Proofs.Ytpgjcnjojfehjaa.Bk
open Go.RowKit Go.Proofs.YtpgjcnjojfehjaaW.PrintWords Go.Proofs.YtpgjcnjojfehjaaW.PrintLast Go.Proofs.YtpgjcnjojfehjaaW.PrintMore Oct
theorem wrong_calls (c : Int) (w : World) :
  Calls Try.prog 48 #[.int .u8 c] w fun e w' => e = .returned (.bool (decide (c > 1))) ∧ w' = w := by
 go_enter Try.func48, Try.ntmps48
 go_wp2
 go_ret
 exact ⟨rfl, rfl⟩
def idxS : List Int → Int → Int
 | [], _ => -1
 | c :: r, k => if decide (c > 1) = true then k else idxS r (k + 1)
theorem idxS_any : ∀ (l : List Int) (k : Int), 0 ≤ k → decide (idxS l k ≥ 0) = l.any (fun c => decide (c > 1))
 | [], k, _ => rfl
 | c :: r, k, hk => by
  unfold idxS
  rw [List.any_cons]
  by_cases hc : decide (c > 1) = true
  ·rw [if_pos hc, hc]; simpa using hk
  ·rw [if_neg hc, idxS_any r (k + 1) (by omega), Bool.eq_false_iff.mpr hc, Bool.false_or]
set_option maxHeartbeats 1000000 in
theorem index_calls (A : Option Addr) (c : Nat) (l : List Int) (w : World) (hr : Kd.C (Kd.int .u8) w A l.length l) :
  Calls Try.prog 54 #[.slice A l.length c, .func (.func 48) #[] #[]] w fun e w' => e = .returned (.int .i64 (idxS l 0)) ∧ w' = w := by
 have HR := Aside0.mk hr
 have HM := Aside0.mk (Kd.C_max hr)
 clear hr
 go_enter Try.func54, Try.ntmps54
 go_wp2
 go_loop [8] (fun i => ∃ (k : Nat), k ≤ l.length ∧ i = .int .i64 k ∧ Aside0 (idxS (l.drop k) k = idxS l 0)) (fun i => l.length - (intOf i).toNat)
 case atStart => exact ⟨0, Nat.zero_le _, rfl, ⟨by simp⟩⟩
 case round =>
  obtain ⟨k, hk, rfl, HK⟩ := hrel
  have hmx : l.length ≤ 9223372036854775807 := HM.out
  by_cases hlt : k < l.length
  ·obtain ⟨ad, rfl, hcell⟩ := Kd.at_int HR.out (k : Int) (by omega) (by omega)
   have hx : rd l (k : Int) = l[k] := by unfold rd; simp [List.getD, hlt]
   rw [hx, Int.toNat_natCast] at hcell
   have HD : Aside0 (l.drop k = l[k] :: l.drop (k + 1)) := ⟨List.drop_eq_getElem_cons hlt⟩
   generalize l[k] = x at *
   clear hx
   obtain ⟨q, hq⟩ : ∃ q, decide (x > 1) = q := ⟨_, rfl⟩
   have HWC := Aside0.mk (fun W => wrong_calls x W)
   rw [hq] at HWC
   have HQ := Aside0.mk hq
   clear hq
   go_wp2_with fail
   refine (HWC.out _).mono ?_
   rintro e w1 ⟨rfl, rfl⟩
   cases q with
   | true =>
    have HE : Aside0 (idxS l 0 = (k : Int)) := ⟨by rw [← HK.out, HD.out]; unfold idxS; rw [if_pos HQ.out]⟩
    go_wp2
    go_ret
    exact ⟨by rw [HE.out]; rfl, rfl⟩
   | false =>
    have HE : Aside0 (idxS (l.drop (k + 1)) ((k : Int) + 1) = idxS l 0) := ⟨by rw [← HK.out, HD.out, idxS, if_neg (by rw [HQ.out]; decide)]⟩
    go_wp2
    go_round
    case rel => exact ⟨k + 1, by omega, by go_num, ⟨by rw [← HE.out]; congr 1⟩⟩
    case measure => simp [intOf]; omega
  ·have HE : Aside0 (idxS l 0 = -1) := ⟨by rw [← HK.out, List.drop_of_length_le (by omega)]; rfl⟩
   go_wp2
   go_ret
   exact ⟨by rw [HE.out]; rfl, rfl⟩
theorem contains_calls (A : Option Addr) (c : Nat) (l : List Int) (w : World) (hr : Kd.C (Kd.int .u8) w A l.length l) :
  Calls Try.prog 49 #[.slice A l.length c, .func (.func 48) #[] #[]] w fun e w' => e = .returned (.bool (l.any (fun c => decide (c > 1)))) ∧ w' = w := by
 have HR := Aside0.mk hr
 have HA := Aside0.mk (idxS_any l 0 (Int.le_refl 0))
 clear hr
 go_enter Try.func49, Try.ntmps49
 go_wp2_with fail
 refine (index_calls A c l w HR.out).mono ?_
 rintro e w1 ⟨rfl, rfl⟩
 go_wp2
 go_ret
 exact ⟨by rw [← HA.out]; rfl, rfl⟩
def markP : List Int → List Int → Bool
 | _, [] => true
 | [], c :: ut => if c = 1 then false else markP [] ut
 | s :: std, c :: ut => if c = 1 ∧ s ≠ 1 then false else markP std ut
def markS (std ut : List Int) : Bool := markP std ut && (!std.any (fun c => decide (c > 1)) && !ut.any (fun c => decide (c > 1)))
theorem markP_bad {std ut : List Int} {k : Nat} (hk : k < ut.length) (h1 : ut[k] = 1) (h2 : ∀ h : k < std.length, std[k] ≠ 1) : markP (std.drop k) (ut.drop k) = false := by
 rw [List.drop_eq_getElem_cons hk]
 by_cases h : k < std.length
 ·rw [List.drop_eq_getElem_cons h]
  exact if_pos ⟨h1, h2 h⟩
 ·rw [List.drop_of_length_le (by omega)]
  exact if_pos h1
theorem markP_good {std ut : List Int} {k : Nat} (hk : k < ut.length) (h1 : ut[k] = 1 → ∃ h : k < std.length, std[k] = 1) : markP (std.drop k) (ut.drop k) = markP (std.drop (k + 1)) (ut.drop (k + 1)) := by
 rw [List.drop_eq_getElem_cons hk]
 by_cases h : k < std.length
 ·rw [List.drop_eq_getElem_cons h]
  refine if_neg fun h3 => ?_
  obtain ⟨_, h4⟩ := h1 h3.1
  exact h3.2 h4
 ·rw [List.drop_of_length_le (show std.length ≤ k by omega), List.drop_of_length_le (show std.length ≤ k + 1 by omega)]
  refine if_neg fun h3 => ?_
  obtain ⟨h5, _⟩ := h1 h3
  exact h h5
set_option maxHeartbeats 2000000 in
set_option maxRecDepth 100000 in
theorem marked_calls (A0 : Option Addr) (c0 : Nat) (std : List Int) (A1 : Option Addr) (c1 : Nat) (ut : List Int) (w : World) (hr0 : Kd.C (Kd.int .u8) w A0 std.length std) (hr1 : Kd.C (Kd.int .u8) w A1 ut.length ut) :
  Calls Try.prog 31 #[.slice A0 std.length c0, .slice A1 ut.length c1] w fun e w' => e = .returned (.bool (markS std ut)) ∧ Below w.heap.size w w' := by
 have HR0 := Aside0.mk hr0
 have HR1 := Aside0.mk hr1
 have HM0 := Aside0.mk (Kd.C_max hr0)
 have HM1 := Aside0.mk (Kd.C_max hr1)
 clear hr0 hr1
 go_enter Try.func31, Try.ntmps31
 go_wp2
 go_loop [10] (fun i => ∃ (k : Nat), k ≤ ut.length ∧ i = .int .i64 k ∧ Aside0 (markP (std.drop k) (ut.drop k) = markP std ut)) (fun i => ut.length - (intOf i).toNat)
 case atStart => exact ⟨0, Nat.zero_le _, rfl, ⟨by simp⟩⟩
 case round =>
  obtain ⟨k, hk, rfl, HK⟩ := hrel
  have hmx : ut.length ≤ 9223372036854775807 := HM1.out
  have hmz : std.length ≤ 9223372036854775807 := HM0.out
  by_cases hlt : k < ut.length
  ·obtain ⟨ad, hA, hcell⟩ := Kd.at_int HR1.out (k : Int) (by omega) (by omega)
   have hx : rd ut (k : Int) = ut[k] := by unfold rd; simp [List.getD, hlt]
   rw [hx, Int.toNat_natCast] at hcell
   cases hA
   have HG := Aside0.mk (fun h => markP_good (std := std) hlt h)
   have HBD := Aside0.mk (fun h1 h2 => markP_bad (std := std) hlt h1 h2)
   generalize ut[k] = c at *
   clear hx
   by_cases h1 : c = 1
   ·have b1 : (c == 1) = true := beq_iff_eq.2 h1
    by_cases hs : k < std.length
    ·obtain ⟨ad2, hA2, hcell2⟩ := Kd.at_int HR0.out (k : Int) (by omega) (by omega)
     have hx2 : rd std (k : Int) = std[k] := by unfold rd; simp [List.getD, hs]
     rw [hx2, Int.toNat_natCast] at hcell2
     cases hA2
     have hge : decide ((k : Int) ≥ (std.length : Int)) = false := decide_eq_false (by omega)
     have hge2 : decide (std.length ≤ k) = false := decide_eq_false (by omega)
     by_cases h2 : std[k] = 1
     ·have HE := Aside0.mk ((HG.out (fun _ => ⟨hs, h2⟩)).symm.trans HK.out)
      have b2 : (std[k] != 1) = false := by rw [h2]; rfl
      generalize std[k] = s at *
      clear hx2 h1 h2
      go_wp2
      go_round
      case rel => exact ⟨k + 1, by omega, by go_num, HE⟩
      case measure => simp [intOf]; omega
     ·have HE : Aside0 (markS std ut = false) := ⟨by unfold markS; rw [← HK.out, HBD.out h1 (fun _ => h2)]; rfl⟩
      have b2 : (std[k] != 1) = true := bne_iff_ne.2 h2
      generalize std[k] = s at *
      clear hx2 h1 h2
      go_wp2
      go_ret
      exact ⟨by rw [HE.out]; rfl, Below.refl _ _⟩
    ·have hge : decide ((k : Int) ≥ (std.length : Int)) = true := decide_eq_true (by omega)
     have hge2 : decide (std.length ≤ k) = true := decide_eq_true (by omega)
     have HE : Aside0 (markS std ut = false) := ⟨by unfold markS; rw [← HK.out, HBD.out h1 (fun h => absurd h hs)]; rfl⟩
     clear h1
     go_wp2
     go_ret
     exact ⟨by rw [HE.out]; rfl, Below.refl _ _⟩
   ·have b1 : (c == 1) = false := beq_eq_false_iff_ne.2 h1
    have HE := Aside0.mk ((HG.out (fun h => absurd h h1)).symm.trans HK.out)
    clear h1
    go_wp2
    go_round
    case rel => exact ⟨k + 1, by omega, by go_num, HE⟩
    case measure => simp [intOf]; omega
  ·have HE : Aside0 (markP std ut = true) := ⟨by rw [← HK.out, List.drop_of_length_le (show ut.length ≤ k by omega)]; cases std.drop k <;> rfl⟩
   obtain ⟨p, hp⟩ : ∃ p, std.any (fun c => decide (c > 1)) = p := ⟨_, rfl⟩
   obtain ⟨q, hq⟩ : ∃ q, ut.any (fun c => decide (c > 1)) = q := ⟨_, rfl⟩
   have HC0 := Aside0.mk (fun W h => contains_calls A0 c0 std W h)
   have HC1 := Aside0.mk (fun W h => contains_calls A1 c1 ut W h)
   rw [hp] at HC0
   rw [hq] at HC1
   have HS : Aside0 (markS std ut = (!p && !q)) := ⟨by unfold markS; rw [HE.out, hp, hq]; rfl⟩
   clear hp hq
   go_wp2_with fail
   refine (HC0.out _ HR0.out).mono ?_
   rintro e w1 ⟨rfl, rfl⟩
   cases p with
   | true =>
    go_wp2
    go_ret
    exact ⟨by rw [HS.out]; rfl, Below.refl _ _⟩
   | false =>
    go_wp2_with fail
    refine (HC1.out _ HR1.out).mono ?_
    rintro e w1 ⟨rfl, rfl⟩
    go_wp2
    go_ret
    exact ⟨by rw [HS.out]; rfl, Below.refl _ _⟩
end Go.Proofs.Ytpgjcnjojfehjaa.Bk
namespace Go.Proofs.Ytpgjcnjojfehjaa.Bk
open Go.RowKit Go.Proofs.YtpgjcnjojfehjaaW.PrintWords Go.Proofs.YtpgjcnjojfehjaaW.PrintLast Go.Proofs.YtpgjcnjojfehjaaW.PrintMore Oct Kx
theorem made_R {α : Type} {d : Kd α} {e : Nat} {W : World} {base g n : Nat} {ok : Nat → Prop} {z : Value} {z0 : α} (hb : W.heap[g]? = some (.cells (madeCells z.cells (n * d.sz)) e (0, 0))) (hB : base ≤ g) (hn : n ≤ 1000000) (hz : z.cells.size = d.sz) (hs : 0 < d.sz) (hzero : d.M W base (fun k => ok k ∧ some k ≠ (Value.slice (some ⟨g, 0, none⟩) n n).ownBlock) z0 z.cells.toList) (hok : ok g) :
  d.R e W base ok (.slice (some ⟨g, 0, none⟩) n n) (List.replicate n z0) := by
 have hr := Kd.reps_made (R := d.M W base (fun k => ok k ∧ some k ≠ (Value.slice (some ⟨g, 0, none⟩) n n).ownBlock)) hz hs hzero n
 refine ⟨fun k hk => ?_, (madeCells z.cells (n * d.sz)).toList, ⟨by simp [size_madeCells], .inr ⟨g, n, _, by simp, hB, hb, by simp, by unfold maxLen; omega, by rw [size_madeCells], ?_⟩⟩, hr⟩
 ·have : g = k := by simpa [Value.ownBlock] using hk
  rw [← this]; exact hok
 ·rw [List.length_replicate, List.take_of_length_le (by simp [size_madeCells])]
theorem seg_set {l : List Value} {i j sz : Nat} {u : Value} (hj : j < sz) : ((l.set (i * sz + j) u).drop (i * sz)).take sz = ((l.drop (i * sz)).take sz).set j u := by
 refine List.ext_getElem? fun m => ?_
 rw [List.getElem?_set, List.getElem?_take, List.getElem?_drop, List.getElem?_set, List.getElem?_take, List.getElem?_drop]
 by_cases hm : m < sz
 ·rw [if_pos hm, if_pos hm]
  by_cases h2 : j = m
  ·subst h2
   rw [if_pos rfl, if_pos rfl]
   by_cases h3 : i * sz + j < l.length
   ·rw [if_pos h3, if_pos (by rw [List.length_take, List.length_drop]; omega)]
   ·rw [if_neg h3, if_neg (by rw [List.length_take, List.length_drop]; omega)]
  ·rw [if_neg (by omega), if_neg h2]
 ·rw [if_neg hm, if_neg hm, if_neg (by omega)]
theorem seg_other {l : List Value} {i j k sz : Nat} {u : Value} (hj : j < sz) (hk : k ≠ i) : ((l.set (i * sz + j) u).drop (k * sz)).take sz = (l.drop (k * sz)).take sz := by
 refine List.ext_getElem? fun m => ?_
 rw [List.getElem?_take, List.getElem?_drop, List.getElem?_set, List.getElem?_take, List.getElem?_drop]
 by_cases hm : m < sz
 ·rw [if_pos hm, if_pos hm]
  refine if_neg fun e => ?_
  rcases Nat.lt_or_gt_of_ne hk with h | h
  ·have h1 : (k + 1) * sz ≤ i * sz := Nat.mul_le_mul_right _ h
   rw [Nat.add_mul] at h1
   omega
  ·have h1 : (i + 1) * sz ≤ k * sz := Nat.mul_le_mul_right _ h
   rw [Nat.add_mul] at h1
   omega
 ·rw [if_neg hm, if_neg hm]
theorem R_setcell {α : Type} {d : Kd α} {e : Nat} {W : World} {base g n cap : Nat} {ok : Nat → Prop} {xs : List α} (hflat : ∀ w base ok w' base' ok' x cs, d.M w base ok x cs → d.M w' base' ok' x cs)
  (h : d.R e W base ok (.slice (some ⟨g, 0, none⟩) n cap) xs) (i j : Nat) (hi : i < xs.length) (hj : j < d.sz) (u : Value) (x' : α) (hx : ∀ w base ok cs, d.M w base ok xs[i] cs → d.M w base ok x' (cs.set j u)) :
  d.R e (W.setCell ⟨g, i * d.sz + j, none⟩ u) base ok (.slice (some ⟨g, 0, none⟩) n cap) (xs.set i x') := by
 obtain ⟨h0, inner, ⟨hlen, hv⟩, hrl, hr⟩ := h
 rcases hv with ⟨he, _⟩ | ⟨g', cap', cur, he, hB, hh, hnc, hcm, hcs, ht⟩
 ·cases he
 injection he with ha hn hc
 injection ha with ha
 injection ha with ha _
 subst ha hc
 refine ⟨h0, inner.set (i * d.sz + j) u, ⟨by rw [List.length_set, List.length_set, hlen], .inr ⟨g, cap, cur.setIfInBounds (i * d.sz + j) u, by rw [List.length_set, hn], hB, blk_set hh _ u, by rw [List.length_set]; exact hnc, hcm, by rw [Array.size_setIfInBounds]; exact hcs, ?_⟩⟩, by rw [List.length_set, List.length_set]; exact hrl, fun m p hm => ?_⟩
 ·rw [List.length_set, Array.toList_setIfInBounds, List.take_set, ht]
 ·rw [List.getElem?_set] at hm
  by_cases hmi : i = m
  ·subst hmi
   rw [if_pos rfl, if_pos hi] at hm
   injection hm with hm
   subst hm
   rw [seg_set hj]
   exact hflat _ _ _ _ _ _ _ _ (hx _ _ _ _ (hr i xs[i] (List.getElem?_eq_getElem hi)))
  ·rw [if_neg hmi] at hm
   rw [seg_other hj (fun e => hmi e.symm)]
   exact hflat _ _ _ _ _ _ _ _ (hr m p hm)
theorem flat48 : ∀ (w : World) (base : Nat) (ok : Nat → Prop) (w' : World) (base' : Nat) (ok' : Nat → Prop) (x : S48) (cs : List Value), k48.M w base ok x cs → k48.M w' base' ok' x cs := fun w base ok w' base' ok' x cs h => by
 rw [k48_openM h]; exact k48_mkM _ _ _ _
theorem flat46 : ∀ (w : World) (base : Nat) (ok : Nat → Prop) (w' : World) (base' : Nat) (ok' : Nat → Prop) (x : S46) (cs : List Value), k46.M w base ok x cs → k46.M w' base' ok' x cs := fun w base ok w' base' ok' x cs h => by
 rw [k46_openM h]; exact k46_mkM _ _ _ _
section
variable {W : World} {base g n cap : Nat} {ok : Nat → Prop}
theorem tr_at {tr : List S48} (h : Kd.R k48 48 W base ok (.slice (some ⟨g, 0, none⟩) n cap) tr) (k : Nat) (hk : k < tr.length) (j : Nat) (hj : j < 2) : (∃ x, W.cell? ⟨g, k * 2 + j, none⟩ = some x ∧ x.oneCell' = true) ∧ W.frozen? ⟨g, k * 2 + j, none⟩ = false := by
 obtain ⟨h0, inner, ⟨hlen, hv⟩, hrl, hr⟩ := h
 rcases hv with ⟨he, _⟩ | ⟨g', cap', cur, he, hB, hh, hnc, hcm, hcs, ht⟩
 ·cases he
 injection he with ha hn hc
 injection ha with ha
 injection ha with ha _
 subst ha hc
 have h2 := hr k tr[k] (List.getElem?_eq_getElem hk)
 have h3 := k48_openM h2
 have hc : ∀ m, m < 2 → inner[k * 2 + m]? = ([Value.int .i64 tr[k].f0, .int .i64 tr[k].f1] : List Value)[m]? := fun m hm => by
  have h4 := congrArg (fun l => l[m]?) h3
  simp only [List.getElem?_take, List.getElem?_drop] at h4
  rw [if_pos (show m < k48.sz from hm)] at h4
  exact h4
 refine ⟨?_, blk_frozen hh _⟩
 have h5 : cur[k * 2 + j]? = inner[k * 2 + j]? := by
  rw [← ht, List.getElem?_take, if_pos (by show k * 2 + j < tr.length * 2; omega), Array.getElem?_toList]
 have h6 : j = 0 ∨ j = 1 := by omega
 rcases h6 with rfl | rfl
 ·exact ⟨.int .i64 tr[k].f0, (blk_cell hh _).trans (h5.trans (hc 0 (by decide))), rfl⟩
 ·exact ⟨.int .i64 tr[k].f1, (blk_cell hh _).trans (h5.trans (hc 1 (by decide))), rfl⟩
theorem ty_at {ty : List S46} (h : Kd.R k46 46 W base ok (.slice (some ⟨g, 0, none⟩) n cap) ty) (k : Nat) (hk : k < ty.length) : W.cell? ⟨g, k * 3 + 2, none⟩ = some (.string ty[k].f2) ∧ W.frozen? ⟨g, k * 3 + 2, none⟩ = false := by
 obtain ⟨h0, inner, ⟨hlen, hv⟩, hrl, hr⟩ := h
 rcases hv with ⟨he, _⟩ | ⟨g', cap', cur, he, hB, hh, hnc, hcm, hcs, ht⟩
 ·cases he
 injection he with ha hn hc
 injection ha with ha
 injection ha with ha _
 subst ha hc
 have h2 := hr k ty[k] (List.getElem?_eq_getElem hk)
 have h3 := k46_openM h2
 have hc : inner[k * 3 + 2]? = some (.string ty[k].f2) := by
  have h4 := congrArg (fun l => l[2]?) h3
  simp only [List.getElem?_take, List.getElem?_drop] at h4
  rw [if_pos (show 2 < k46.sz from (by decide : 2 < 3))] at h4
  exact h4
 refine ⟨?_, blk_frozen hh _⟩
 have h5 : cur[k * 3 + 2]? = inner[k * 3 + 2]? := by
  rw [← ht, List.getElem?_take, if_pos (by show k * 3 + 2 < ty.length * 3; omega), Array.getElem?_toList]
 exact (blk_cell hh _).trans (h5.trans hc)
end
end Go.Proofs.Ytpgjcnjojfehjaa.Bk
namespace Go.Proofs.Ytpgjcnjojfehjaa.Bk
open Go.RowKit Go.Proofs.YtpgjcnjojfehjaaW.PrintWords Go.Proofs.YtpgjcnjojfehjaaW.PrintLast Go.Proofs.YtpgjcnjojfehjaaW.PrintMore Oct Kx Ab
def z48 : S48 := ⟨0, 0⟩
def trA (size : Int) : Nat → List S48 → List Int → Bool → List S48 × List Int × Bool
 | 0, tr, l, b => (tr, l, b)
 | k + 1, tr, l, b =>
  let s := trA size k tr l b
  let n1 := numS s.2.1 s.2.2 size
  (s.1.set k ⟨n1.1, (s.1.getD k z48).f1⟩, n1.2.1, n1.2.2)
def trB : Nat → List S48 → List Int → Bool → List S48 × List Int × Bool
 | 0, tr, l, b => (tr, l, b)
 | k + 1, tr, l, b =>
  let s := trB k tr l b
  let n1 := numS s.2.1 s.2.2 1
  (s.1.set k ⟨(s.1.getD k z48).f0, n1.1⟩, n1.2.1, n1.2.2)
def setNm (t : S46) (s : ByteArray) : S46 := ⟨t.f0, t.f1, s⟩
def nmK (p : ByteArray) (ats : List Int) (ty : List S46) (ok : Bool) : Nat → List S46 × Bool
 | 0 => (ty, ok)
 | k + 1 =>
  let s := nmK p ats ty ok k
  let r := atN p (ats.getD k 0)
  (s.1.set k (setNm (s.1.getD k z46) r.1), s.2 && r.2)
def lpK (size : Int) : Nat → List Int → Bool → List S50 × List Int × Bool
 | 0, l, b => ([], l, b)
 | k + 1, l, b =>
  let s := lpK size k l b
  let n1 := numS s.2.1 s.2.2 size
  let n2 := numS n1.2.1 n1.2.2 4
  (s.1 ++ [⟨n1.1, n2.1⟩], n2.2.1, n2.2.2)
theorem trA_len (size : Int) (tr : List S48) (l : List Int) (b : Bool) : ∀ k, (trA size k tr l b).1.length = tr.length ∧ (trA size k tr l b).2.1.length ≤ l.length
 | 0 => ⟨rfl, Nat.le_refl _⟩
 | k + 1 => by
  obtain ⟨h1, h2⟩ := trA_len size tr l b k
  unfold trA
  exact ⟨by simp only; rw [List.length_set, h1], Nat.le_trans (num_len _ _ _) h2⟩
theorem trB_len (tr : List S48) (l : List Int) (b : Bool) : ∀ k, (trB k tr l b).1.length = tr.length ∧ (trB k tr l b).2.1.length ≤ l.length
 | 0 => ⟨rfl, Nat.le_refl _⟩
 | k + 1 => by
  obtain ⟨h1, h2⟩ := trB_len tr l b k
  unfold trB
  exact ⟨by simp only; rw [List.length_set, h1], Nat.le_trans (num_len _ _ _) h2⟩
theorem nmK_len (p : ByteArray) (ats : List Int) (ty : List S46) (ok : Bool) : ∀ k, (nmK p ats ty ok k).1.length = ty.length
 | 0 => rfl
 | k + 1 => by
  unfold nmK
  simp only
  rw [List.length_set, nmK_len p ats ty ok k]
theorem lpK_len (size : Int) (l : List Int) (b : Bool) : ∀ k, (lpK size k l b).1.length = k ∧ (lpK size k l b).2.1.length ≤ l.length
 | 0 => ⟨rfl, Nat.le_refl _⟩
 | k + 1 => by
  obtain ⟨h1, h2⟩ := lpK_len size l b k
  unfold lpK
  refine ⟨?_, Nat.le_trans (num_len _ _ _) (Nat.le_trans (num_len _ _ _) h2)⟩
  simp only
  rw [List.length_append, h1]
  rfl
def zoneC (a b c : Value) (ver : Int) : Array Value := #[a, b, c, .string ⟨#[]⟩, .int .i64 ver]
def headC (v u s l t ty c : Int) : Array Value := #[.int .i64 v, .int .i64 u, .int .i64 s, .int .i64 l, .int .i64 t, .int .i64 ty, .int .i64 c]
structure Dz (w W : World) (hb ob rg zb B N : Nat) (hc zc : Array Value) (l : List Int) (bad : Bool) : Prop where
 head : W.heap[hb]? = some (.cells hc 28 (0, 0))
 out : W.heap[ob]? = some (.cells (zoneC (.slice none 0 0) (.slice none 0 0) (.slice none 0 0) 0) 26 (0, 0))
 rd : Rd 82 B N W rg l bad
 zone : W.heap[zb]? = some (.cells zc 26 (0, 0))
 ord : w.heap.size ≤ hb ∧ w.heap.size ≤ ob ∧ hb ≠ ob ∧ hb < B ∧ ob < B ∧ N ≤ zb
 below : Below w.heap.size w W
section
variable {w W W1 : World} {hb ob rg zb B N : Nat} {hc zc : Array Value} {l l2 : List Int} {bad b2 : Bool}
theorem below_grown {w W W1 : World} (h : Below w.heap.size w W) {row : Option Nat} (hg : W.grownBy W1 row) (hr : ∀ k, row = some k → w.heap.size ≤ k) : Below w.heap.size w W1 :=
 h.grown hg h.size hr
theorem Dz.num (h : Dz w W hb ob rg zb B N hc zc l bad) (hr : Rd 82 B N W1 rg l2 b2) (hg : W.grownBy W1 (some rg)) : Dz w W1 hb ob rg zb B N hc zc l2 b2 := by
 obtain ⟨h1, h2, h3, h4, h5, h6⟩ := h.ord
 have h7 := h.rd.size
 have keep : ∀ k (o : Obj), k ≠ rg → W.heap[k]? = some o → W1.heap[k]? = some o := fun k o hk ho => (hg.block k (blk_lt ho) (fun e => hk (by injection e))).trans ho
 exact ⟨keep _ _ (by omega) h.head, keep _ _ (by omega) h.out, hr, keep _ _ (by omega) h.zone, h.ord, below_grown h.below hg (fun k e => by injection e with e; omega)⟩
theorem Dz.step (h : Dz w W hb ob rg zb B N hc zc l bad) (hb1 : Below W.heap.size W W1) : Dz w W1 hb ob rg zb B N hc zc l bad :=
 ⟨blk_below h.head hb1, blk_below h.out hb1, Rd.below h.rd hb1, blk_below h.zone hb1, h.ord, below_step h.below hb1⟩
theorem Dz.other (h : Dz w W hb ob rg zb B N hc zc l bad) {row : Option Nat} (hg : W.grownBy W1 row) (hr : ∀ k, row = some k → N ≤ k ∧ k ≠ zb) : Dz w W1 hb ob rg zb B N hc zc l bad := by
 obtain ⟨h1, h2, h3, h4, h5, h6⟩ := h.ord
 have h7 := h.rd.size
 have keep : ∀ k (o : Obj), (k < N ∨ k = zb) → W.heap[k]? = some o → W1.heap[k]? = some o := fun k o hk ho => (hg.block k (blk_lt ho) (fun e => by have := hr k e.symm; omega)).trans ho
 exact ⟨keep _ _ (by omega) h.head, keep _ _ (by omega) h.out, Rd.grown h.rd hg (fun k e => .inr (hr k e).1), keep _ _ (by omega) h.zone, h.ord, below_grown h.below hg (fun k e => by have := (hr k e).1; omega)⟩
theorem Dz.zset (h : Dz w W hb ob rg zb B N hc zc l bad) (j : Nat) (u : Value) : Dz w (W.setCell ⟨zb, j, none⟩ u) hb ob rg zb B N hc (zc.setIfInBounds j u) l bad := by
 obtain ⟨h1, h2, h3, h4, h5, h6⟩ := h.ord
 have h7 := h.rd.size
 have hg := grown_set W ⟨zb, j, none⟩ u
 have keep : ∀ k (o : Obj), k ≠ zb → W.heap[k]? = some o → (W.setCell ⟨zb, j, none⟩ u).heap[k]? = some o := fun k o hk ho => (Below.heap_setCell W ⟨zb, j, none⟩ u k hk).trans ho
 exact ⟨keep _ _ (by omega) h.head, keep _ _ (by omega) h.out, Rd.grown h.rd hg (fun k e => .inr (by injection e with e; have e2 : zb = k := e; omega)), blk_set h.zone j u, h.ord, h.below.setCell (p := ⟨zb, j, none⟩) (show w.heap.size ≤ zb by omega) u⟩
theorem Dz.sz (h : Dz w W hb ob rg zb B N hc zc l bad) : N ≤ W.heap.size := h.rd.size.2.2
end
theorem cells7 {W : World} {h T : Nat} {a0 a1 a2 a3 a4 a5 a6 : Value} (hb : W.heap[h]? = some (.cells #[a0, a1, a2, a3, a4, a5, a6] T (0, 0))) :
  W.cell? ⟨h, 0, none⟩ = some a0 ∧ W.cell? ⟨h, 1, none⟩ = some a1 ∧ W.cell? ⟨h, 2, none⟩ = some a2 ∧ W.cell? ⟨h, 3, none⟩ = some a3 ∧ W.cell? ⟨h, 4, none⟩ = some a4 ∧ W.cell? ⟨h, 5, none⟩ = some a5 ∧ W.cell? ⟨h, 6, none⟩ = some a6 :=
 ⟨(blk_cell hb 0).trans rfl, (blk_cell hb 1).trans rfl, (blk_cell hb 2).trans rfl, (blk_cell hb 3).trans rfl, (blk_cell hb 4).trans rfl, (blk_cell hb 5).trans rfl, (blk_cell hb 6).trans rfl⟩
theorem info48 : (Try.prog.info? 48).map (fun i => (i.zero, i.size, i.bytes)) = some (some (.agg #[.int .i64 0, .int .i64 0]), 2, 16) := by kernel_rfl
theorem mk48 (n : Nat) (hn : n ≤ 1000000) (W : World) : (Instr.makeSlice 23 (.int .i64 n) (.int .i64 n)).run Try.prog W = .ok (.slice (some ⟨W.heap.size, 0, none⟩) n n) (W.alloc (.cells (madeCells #[.int .i64 0, .int .i64 0] (n * 2)) 48)) := by
 obtain ⟨i0, hi, hz0, hz1, hz2⟩ := info_parts info48
 have hr := run_make (P := Try.prog) W 23 48 i0 (.agg #[.int .i64 0, .int .i64 0]) Try.underlying23 hi hz0 .i64 .i64 (n : Int) (n : Int) (by omega) (by omega) (by rw [hz2]; omega) (by omega)
 simp only [Int.toNat_natCast] at hr
 rw [hz1] at hr
 exact hr
def After5 (w : World) (hb ob rg B N : Nat) (hc : Array Value) (v : Int) (b : List Int) (tn : Nat) (v10 : Value) (wx : World) : Prop :=
 ∃ zb tb, v10 = .pointer (some ⟨zb, 0, none⟩) ∧ Dz w wx hb ob rg zb B N hc (zoneC (.slice none 0 0) (.slice (some ⟨tb, 0, none⟩) tn tn) (.slice none 0 0) v) b false ∧ Kd.R k48 48 wx N (fun _ => True) (.slice (some ⟨tb, 0, none⟩) tn tn) (List.replicate tn z48)
theorem cell_add {W : World} {b : Nat} {v : Value} : ∀ {k : Nat}, W.cell? ((⟨b, 0, none⟩ : Addr).add k) = some v → W.cell? ⟨b, k, none⟩ = some v
 | 0, h => h
 | k + 1, h => by simpa [Addr.add] using h
theorem getD_at {tr : List S48} {k : Nat} (h : k < tr.length) : tr.getD k z48 = tr[k] := by simp [List.getD, h]
theorem two_new (W : World) (o1 o2 : Obj) : ((W.alloc o1).alloc o2).drew.heap[W.heap.size]? = some o1 ∧ ((W.alloc o1).alloc o2).drew.heap[W.heap.size + 1]? = some o2 := by
 have h1 := heap_alloc_new W o1
 have h2 := heap_alloc_new (W.alloc o1) o2
 have hs : (W.alloc o1).heap.size = W.heap.size + 1 := by simp
 rw [hs] at h2
 exact ⟨(Below.heap_alloc (W.alloc o1) o2 W.heap.size (by omega)).trans h1, h2⟩
theorem After5.mk {w w4 wx : World} {hb ob rg B : Nat} {hc : Array Value} {v : Int} {b : List Int} {tn zb tb : Nat} (hn : tn ≤ 2000) (hh : w4.heap[hb]? = some (.cells hc 28 (0, 0))) (hoo : w4.heap[ob]? = some (.cells (zoneC (.slice none 0 0) (.slice none 0 0) (.slice none 0 0) 0) 26 (0, 0))) (hr : Rd 82 B w4.heap.size w4 rg b false) (hbel : Below w.heap.size w w4) (hor : w.heap.size ≤ hb ∧ w.heap.size ≤ ob ∧ hb ≠ ob ∧ hb < B ∧ ob < B)
  (hw : Below w4.heap.size w4 wx) (hz : wx.heap[zb]? = some (.cells (zoneC (.slice none 0 0) (.slice (some ⟨tb, 0, none⟩) tn tn) (.slice none 0 0) v) 26 (0, 0))) (ht : wx.heap[tb]? = some (.cells (madeCells #[.int .i64 0, .int .i64 0] (tn * 2)) 48 (0, 0))) (hzb : w4.heap.size ≤ zb) (htb : w4.heap.size ≤ tb) : After5 w hb ob rg B w4.heap.size hc v b tn (.pointer (some ⟨zb, 0, none⟩)) wx :=
 ⟨zb, tb, rfl, ⟨blk_below hh hw, blk_below hoo hw, Rd.below hr hw, hz, ⟨hor.1, hor.2.1, hor.2.2.1, hor.2.2.2.1, hor.2.2.2.2, hzb⟩, below_step hbel hw⟩, made_R (z := .agg #[.int .i64 0, .int .i64 0]) (d := k48) ht htb (by omega) rfl (by decide) (k48_mkM _ _ _ z48) trivial⟩
def After9 (w : World) (hb ob rg zb B N : Nat) (hc zc : Array Value) (l : List Int) (bad : Bool) (vt : Value) (tr : List S48) (wx : World) : Prop :=
 Dz w wx hb ob rg zb B N hc zc l bad ∧ Kd.R k48 48 wx N (fun _ => True) vt tr
theorem cell_grown {W W1 : World} {g : Nat} {a : Addr} {v : Value} (hg : W.grownBy W1 (some g)) (ha : a.block ≠ g) (h : W.cell? a = some v) : W1.cell? a = some v := by
 have hl := World.block_lt_of_cell? W a h
 exact (World.cell?_of_block (hg.block _ hl (fun e => ha (by injection e)))).trans h
theorem frozen_grown {W W1 : World} {g : Nat} {a : Addr} {v : Value} (hg : W.grownBy W1 (some g)) (ha : a.block ≠ g) (h : W.cell? a = some v) : W1.frozen? a = W.frozen? a := by
 have hl := World.block_lt_of_cell? W a h
 exact World.frozen?_of_block (hg.block _ hl (fun e => ha (by injection e)))
section
variable {w W W1 : World} {hb ob rg zb B N tb tn : Nat} {hc zc : Array Value} {l l2 : List Int} {bad b2 : Bool} {tr : List S48}
theorem tb_facts (h : After9 w hb ob rg zb B N hc zc l bad (.slice (some ⟨tb, 0, none⟩) tn tn) tr W) : zb ≠ rg ∧ tb ≠ rg ∧ tb ≠ zb ∧ N ≤ tb := by
 obtain ⟨hD, hT⟩ := h
 have h1 := hD.ord
 have h2 := hD.rd.size
 have h3 : N ≤ tb := Kd.R_base hT tb (by simp [Value.ownBlock])
 have h4 : tb ≠ zb := fun e => Kd.R_ne hT hD.zone (by decide) (by rw [e]; simp [Value.ownBlock])
 exact ⟨by omega, by omega, h4, h3⟩
theorem After9.num {vt : Value} (h : After9 w hb ob rg zb B N hc zc l bad vt tr W) (hr : Rd 82 B N W1 rg l2 b2) (hg : W.drew.grownBy W1 (some rg)) : After9 w hb ob rg zb B N hc zc l2 b2 vt tr W1 := by
 obtain ⟨hD, hT⟩ := h
 have hD1 := hD.step (below_drew (Below.refl _ _))
 obtain ⟨cs, hb⟩ := Rd.block hD1.rd
 exact ⟨hD1.num hr hg, row_grown (Kd.R_drew hT) hb (by intro q hq; simp [k48, Kd.iso, Kd.pair, Kd.int, Kd.scalar] at hq; subst hq; decide) hg⟩
theorem After9.set {n k : Nat} {j : Nat} (hj : j < 2) {u : Value} {x' : S48} (h : After9 w hb ob rg zb B N hc zc l bad (.slice (some ⟨tb, 0, none⟩) tn tn) tr W) (hk : k < tr.length) (hx : ([Value.int .i64 tr[k].f0, .int .i64 tr[k].f1] : List Value).set j u = [.int .i64 x'.f0, .int .i64 x'.f1]) (hn : n = k * 2 + j) : After9 w hb ob rg zb B N hc zc l bad (.slice (some ⟨tb, 0, none⟩) tn tn) (tr.set k x') (W.setCell ⟨tb, n, none⟩ u) := by
 obtain ⟨h1, h2, h3, h4⟩ := tb_facts h
 obtain ⟨hD, hT⟩ := h
 subst hn
 refine ⟨hD.other (grown_set W ⟨tb, k * 2 + j, none⟩ u) (fun m e => by injection e with e; have e2 : tb = m := e; omega), ?_⟩
 refine R_setcell flat48 hT k j hk hj u x' fun w base ok cs hc => ?_
 rw [k48_openM hc, hx]
 exact k48_mkM _ _ _ _
end
theorem info50 : (Try.prog.info? 50).map (fun i => (i.zero, i.size, i.bytes)) = some (some (.agg #[.int .i64 0, .int .i64 0]), 2, 16) := by kernel_rfl
theorem rd_getD (l : List Int) (i : Int) : rd l i = l.getD i.toNat 0 := rfl
theorem getD46 {ty : List S46} {k : Nat} (h : k < ty.length) : ty.getD k z46 = ty[k] := by simp [List.getD, h]
theorem take_lens {l r l2 : List Int} {b b2 : Bool} {n : Int} (h : takeS l b n = (r, l2, b2)) (hl : l.length ≤ 1000000) : r.length ≤ 1000000 ∧ l2.length ≤ 1000000 := by
 unfold takeS at h
 split at h
 ·injection h with h1 h2; injection h2 with h2 h3; subst h1 h2; exact ⟨Nat.zero_le _, Nat.zero_le _⟩
 ·injection h with h1 h2; injection h2 with h2 h3; subst h1 h2
  exact ⟨Nat.le_trans (List.length_take_le' _ _) hl, by rw [List.length_drop]; omega⟩
theorem take_R {B N : Nat} {W : World} {g : Nat} {l : List Int} {bad : Bool} {n : Int} {r l2 : List Int} {b2 : Bool} (hn : takeS l bad n = (r, l2, b2)) (h : Rd 82 B N W g l bad) (hl : l.length ≤ 140737488355328) :
  Calls Try.prog 29 #[.pointer (some ⟨g, 0, none⟩), .int .i64 n] W fun e w' => ∃ A1 c1, e = .returned (.slice A1 r.length c1) ∧ Kd.R (Kd.int .u8) 5 w' W.heap.size (fun _ => True) (.slice A1 r.length c1) r ∧ Rd 82 B N w' g l2 b2 ∧ W.grownBy w' (some g) :=
 (take_calls B N W g l bad n h hl).mono fun e w' ⟨v, he, hv, hr, hg⟩ => by
  rw [hn] at hv hr
  obtain ⟨A1, c1, rfl⟩ := Kd.R_slice hv
  exact ⟨A1, c1, he, hv, hr, hg⟩
theorem form_of {α : Type} {d : Kd α} {e base : Nat} {W : World} {ok : Nat → Prop} {v : Value} {xs : List α} (h : d.R e W base ok v xs) (hp : 0 < xs.length) : ∃ g cap, v = .slice (some ⟨g, 0, none⟩) xs.length cap ∧ base ≤ g := by
 obtain ⟨g, cap, he, hg, _⟩ := Kd.R_form h hp
 exact ⟨g, cap, he, hg⟩
theorem R_other {α β : Type} {d : Kd α} {d' : Kd β} {e e' base base' : Nat} {ok ok' : Nat → Prop} {w w1 : World} {v v' : Value} {xs : List α} {ys : List β} (h : d.R e w base ok v xs) (h' : d'.R e' w base' ok' v' ys) (ht : ∀ q, q ∈ e :: d.E → q ≠ e') (hg : w.grownBy w1 v'.ownBlock) : d.R e w1 base ok v xs := by
 refine Kd.R_mono (Kd.R_step (Kd.R_bound h) (fun k hk hlt => hg.block k hlt ?_)) (fun _ hk => hk.1)
 intro he
 obtain ⟨_, _, _, q, hq, cells, hc⟩ := hk
 obtain ⟨inner, ho⟩ := Kd.R_own h'
 obtain ⟨cells', hc'⟩ := own_typed ho k he.symm
 rw [hc] at hc'
 injection hc' with hc'
 injection hc' with _ hc'
 exact ht q hq hc'
theorem E48 {T : Nat} (h : 48 ≠ T) : ∀ q, q ∈ 48 :: k48.E → q ≠ T := by
 intro q hq; simp [k48, Kd.iso, Kd.pair, Kd.int, Kd.scalar] at hq; subst hq; exact h
theorem E50 {T : Nat} (h : 50 ≠ T) : ∀ q, q ∈ 50 :: k50.E → q ≠ T := by
 intro q hq; simp [k50, Kd.iso, Kd.pair, Kd.int, Kd.scalar] at hq; subst hq; exact h
theorem E46 {T : Nat} (h : 46 ≠ T) : ∀ q, q ∈ 46 :: k46.E → q ≠ T := by
 intro q hq; simp [k46, Kd.iso, Kd.pair, Kd.int, Kd.bool, Kd.string, Kd.scalar] at hq; subst hq; exact h
theorem E3 {T : Nat} (h : 3 ≠ T) : ∀ q, q ∈ 3 :: (Kd.int .i64).E → q ≠ T := by
 intro q hq; simp [Kd.int, Kd.scalar] at hq; subst hq; exact h
theorem E5 {T : Nat} (h : 5 ≠ T) : ∀ q, q ∈ 5 :: (Kd.int .u8).E → q ≠ T := by
 intro q hq; simp [Kd.int, Kd.scalar] at hq; subst hq; exact h
theorem row_store {α : Type} {d : Kd α} {e base g : Nat} {W : World} {ok : Nat → Prop} {v : Value} {xs : List α} {cs : Array Value} {T : Nat} (h : d.R e W base ok v xs) (hb : W.heap[g]? = some (.cells cs T (0, 0))) (ht : ∀ q, q ∈ e :: d.E → q ≠ T) (j : Nat) (u : Value) : d.R e (W.setCell ⟨g, j, none⟩ u) base ok v xs :=
 Kd.R_mono (Kd.R_far (Kd.R_types h hb ht) (fun _ hk => hk.2) u) (fun _ hk => hk.1)
structure Sz (w W : World) (hb ob rg zb B N : Nat) (hc zc : Array Value) (l : List Int) (bad : Bool) (vt : Value) (tr : List S48) (v1 : Value) (ty : List S46) (va : Value) (az : List Int) : Prop where
 dz : Dz w W hb ob rg zb B N hc zc l bad
 tr : Kd.R k48 48 W N (fun _ => True) vt tr
 ty : Kd.R k46 46 W N (fun _ => True) v1 ty
 ats : Kd.R (Kd.int .i64) 3 W N (fun _ => True) va az
section
variable {w W W1 : World} {hb ob rg zb B N : Nat} {hc zc : Array Value} {l l2 : List Int} {bad b2 : Bool} {vt v1 va : Value} {tr : List S48} {ty : List S46} {az : List Int}
theorem Sz.mk' (h : After9 w hb ob rg zb B N hc zc l bad vt tr W) (ht : Tr (fun _ => True) W W1 B N rg l2 b2 v1 va ty az) : Sz w W1 hb ob rg zb B N hc zc l2 b2 vt tr v1 ty va az := by
 obtain ⟨hD, hT⟩ := h
 obtain ⟨cs, hbk⟩ := Rd.block hD.rd
 exact ⟨hD.num ht.rd ht.grown, row_grown hT hbk (E48 (by decide)) ht.grown, Kd.R_lower ht.types hD.sz, Kd.R_lower ht.places hD.sz⟩
theorem Sz.num (h : Sz w W hb ob rg zb B N hc zc l bad vt tr v1 ty va az) (hr : Rd 82 B N W1 rg l2 b2) (hg : W.grownBy W1 (some rg)) : Sz w W1 hb ob rg zb B N hc zc l2 b2 vt tr v1 ty va az := by
 obtain ⟨cs, hbk⟩ := Rd.block h.dz.rd
 exact ⟨h.dz.num hr hg, row_grown h.tr hbk (E48 (by decide)) hg, row_grown h.ty hbk (E46 (by decide)) hg, row_grown h.ats hbk (E3 (by decide)) hg⟩
theorem Sz.step (h : Sz w W hb ob rg zb B N hc zc l bad vt tr v1 ty va az) (hb1 : Below W.heap.size W W1) : Sz w W1 hb ob rg zb B N hc zc l bad vt tr v1 ty va az :=
 ⟨h.dz.step hb1, Kd.R_below h.tr hb1, Kd.R_below h.ty hb1, Kd.R_below h.ats hb1⟩
theorem Sz.zset (h : Sz w W hb ob rg zb B N hc zc l bad vt tr v1 ty va az) (j : Nat) (u : Value) : Sz w (W.setCell ⟨zb, j, none⟩ u) hb ob rg zb B N hc (zc.setIfInBounds j u) l bad vt tr v1 ty va az :=
 ⟨h.dz.zset j u, row_store h.tr h.dz.zone (E48 (by decide)) j u, row_store h.ty h.dz.zone (E46 (by decide)) j u, row_store h.ats h.dz.zone (E3 (by decide)) j u⟩
theorem Sz.name {lb n cap : Nat} (h : Sz w W hb ob rg zb B N hc zc l bad vt tr (.slice (some ⟨lb, 0, none⟩) n cap) ty va az) (k : Nat) (hk : k < ty.length) (nm : ByteArray) : Sz w (W.setCell ⟨lb, k * 3 + 2, none⟩ (.string nm)) hb ob rg zb B N hc zc l bad vt tr (.slice (some ⟨lb, 0, none⟩) n cap) (ty.set k (setNm ty[k] nm)) va az := by
 have hlb : N ≤ lb := Kd.R_base h.ty lb (by simp [Value.ownBlock])
 have hne : lb ≠ zb := fun e => Kd.R_ne h.ty h.dz.zone (by decide) (by rw [e]; simp [Value.ownBlock])
 obtain ⟨inner, hi⟩ := Kd.R_own h.ty
 obtain ⟨cells, hcl⟩ := own_typed hi lb (by simp [Value.ownBlock])
 refine ⟨h.dz.other (grown_set W ⟨lb, k * 3 + 2, none⟩ _) (fun m e => by injection e with e; have e2 : lb = m := e; omega), row_store h.tr hcl (E48 (by decide)) _ _, ?_, row_store h.ats hcl (E3 (by decide)) _ _⟩
 refine R_setcell flat46 h.ty k 2 hk (by decide) (.string nm) (setNm ty[k] nm) fun w base ok cs hc => ?_
 rw [k46_openM hc]
 exact k46_mkM _ _ _ (setNm ty[k] nm)
end
structure Sl (ok : Nat → Prop) (w W : World) (hb ob rg zb B N : Nat) (hc zc : Array Value) (l : List Int) (bad : Bool) (vt : Value) (tr : List S48) (v1 : Value) (ty : List S46) (vl : Value) (ls : List S50) : Prop where
 dz : Dz w W hb ob rg zb B N hc zc l bad
 tr : Kd.R k48 48 W N (fun _ => True) vt tr
 ty : Kd.R k46 46 W N (fun _ => True) v1 ty
 lps : Kd.R k50 50 W N ok vl ls
section
variable {ok ok' : Nat → Prop} {w W W1 : World} {hb ob rg zb B N : Nat} {hc zc : Array Value} {l l2 : List Int} {bad b2 : Bool} {vt v1 va vl vl' : Value} {tr : List S48} {ty : List S46} {az : List Int} {ls ls' : List S50}
theorem Sl.start (h : Sz w W hb ob rg zb B N hc zc l bad vt tr v1 ty va az) : Sl ok w W hb ob rg zb B N hc zc l bad vt tr v1 ty (.slice none 0 0) [] := ⟨h.dz, h.tr, h.ty, Kd.R_nil _ _ _ _ _⟩
theorem Sl.mono (h : Sl ok w W hb ob rg zb B N hc zc l bad vt tr v1 ty vl ls) (ho : ∀ k, ok k → ok' k) : Sl ok' w W hb ob rg zb B N hc zc l bad vt tr v1 ty vl ls := ⟨h.dz, h.tr, h.ty, Kd.R_mono h.lps ho⟩
theorem Sl.num (h : Sl ok w W hb ob rg zb B N hc zc l bad vt tr v1 ty vl ls) (hr : Rd 82 B N W1 rg l2 b2) (hg : W.grownBy W1 (some rg)) : Sl ok w W1 hb ob rg zb B N hc zc l2 b2 vt tr v1 ty vl ls := by
 obtain ⟨cs, hbk⟩ := Rd.block h.dz.rd
 exact ⟨h.dz.num hr hg, row_grown h.tr hbk (E48 (by decide)) hg, row_grown h.ty hbk (E46 (by decide)) hg, row_grown h.lps hbk (E50 (by decide)) hg⟩
theorem Sl.step (h : Sl ok w W hb ob rg zb B N hc zc l bad vt tr v1 ty vl ls) (hb1 : Below W.heap.size W W1) : Sl ok w W1 hb ob rg zb B N hc zc l bad vt tr v1 ty vl ls :=
 ⟨h.dz.step hb1, Kd.R_below h.tr hb1, Kd.R_below h.ty hb1, Kd.R_below h.lps hb1⟩
theorem Sl.zset (h : Sl ok w W hb ob rg zb B N hc zc l bad vt tr v1 ty vl ls) (j : Nat) (u : Value) : Sl ok w (W.setCell ⟨zb, j, none⟩ u) hb ob rg zb B N hc (zc.setIfInBounds j u) l bad vt tr v1 ty vl ls :=
 ⟨h.dz.zset j u, row_store h.tr h.dz.zone (E48 (by decide)) j u, row_store h.ty h.dz.zone (E46 (by decide)) j u, row_store h.lps h.dz.zone (E50 (by decide)) j u⟩
theorem Sl.away (h : Sl ok w W hb ob rg zb B N hc zc l bad vt tr v1 ty vl ls) {b : Nat} (hb1 : W.heap.size ≤ b) : Sl (fun k => k ≠ b) w W hb ob rg zb B N hc zc l bad vt tr v1 ty vl ls :=
 ⟨h.dz, h.tr, h.ty, Kd.R_mono (Kd.R_bound h.lps) (fun k hk => by have := hk.2.2.1; omega)⟩
theorem Sl.store {b : Nat} {cs : Array Value} (h : Sl (fun k => k ≠ b) w W hb ob rg zb B N hc zc l bad vt tr v1 ty vl ls) (hcl : W.heap[b]? = some (.cells cs 50 (0, 0))) (hN : N ≤ b) (hne : b ≠ zb) (j : Nat) (u : Value) : Sl (fun k => k ≠ b) w (W.setCell ⟨b, j, none⟩ u) hb ob rg zb B N hc zc l bad vt tr v1 ty vl ls :=
 ⟨h.dz.other (grown_set W ⟨b, j, none⟩ u) (fun m e => by injection e with e; have e2 : b = m := e; omega), row_store h.tr hcl (E48 (by decide)) j u, row_store h.ty hcl (E46 (by decide)) j u, Kd.R_far h.lps (fun _ hk => hk) u⟩
theorem Sl.row (h : Sl ok w W hb ob rg zb B N hc zc l bad vt tr v1 ty vl ls) (hR : Kd.R k50 50 W1 N ok vl' ls') (hg : W.grownBy W1 vl.ownBlock) : Sl ok w W1 hb ob rg zb B N hc zc l bad vt tr v1 ty vl' ls' :=
 ⟨h.dz.other hg (fun k e => ⟨Kd.R_base h.lps k e, fun e2 => Kd.R_ne h.lps h.dz.zone (by decide) (by rw [← e2]; exact e.symm)⟩), R_other h.tr h.lps (E48 (by decide)) hg, R_other h.ty h.lps (E46 (by decide)) hg, hR⟩
end
def set5 (W : World) (g : Nat) (a b c d e : Value) : World := ((((W.setCell ⟨g, 0, none⟩ a).setCell ⟨g, 1, none⟩ b).setCell ⟨g, 2, none⟩ c).setCell ⟨g, 3, none⟩ d).setCell ⟨g, 4, none⟩ e
theorem set5_blk {W : World} {g T : Nat} {x0 x1 x2 x3 x4 : Value} (h : W.heap[g]? = some (.cells #[x0, x1, x2, x3, x4] T (0, 0))) (a b c d e : Value) : (set5 W g a b c d e).heap[g]? = some (.cells #[a, b, c, d, e] T (0, 0)) :=
 blk_set (blk_set (blk_set (blk_set (blk_set h 0 a) 1 b) 2 c) 3 d) 4 e
theorem set5_row {α : Type} {k : Kd α} {t base base' g : Nat} {W : World} {ok : Nat → Prop} {v : Value} {xs : List α} {cs : Array Value} {T : Nat} (h : k.R t W base ok v xs) (hb : W.heap[g]? = some (.cells cs T (0, 0))) (ht : ∀ q, q ∈ t :: k.E → q ≠ T) (hbb : base' ≤ base) (a b c d e : Value) : k.R t (set5 W g a b c d e) base' (fun _ => True) v xs :=
 Kd.R_mono (Kd.R_far (Kd.R_far (Kd.R_far (Kd.R_far (Kd.R_far (Kd.R_types (Kd.R_lower h hbb) hb ht) (fun _ hk => hk.2) a) (fun _ hk => hk.2) b) (fun _ hk => hk.2) c) (fun _ hk => hk.2) d) (fun _ hk => hk.2) e) (fun _ _ => trivial)
theorem set5_below {w W : World} {g : Nat} (h : Below w.heap.size w W) (hg : w.heap.size ≤ g) (a b c d e : Value) : Below w.heap.size w (set5 W g a b c d e) :=
 (((((h.setCell (p := ⟨g, 0, none⟩) hg a).setCell (p := ⟨g, 1, none⟩) hg b).setCell (p := ⟨g, 2, none⟩) hg c).setCell (p := ⟨g, 3, none⟩) hg d).setCell (p := ⟨g, 4, none⟩) hg e)
def decN (v u s l t ty c : Int) (b : List Int) (size : Int) : List S46 × List S48 × List S50 × ByteArray × Int × Bool :=
 match decide (sizeF v u s l t ty c size ≠ 0 ∧ (b.length : Int) = sizeF v u s l t ty c size) with
 | false => ([], [], [], ⟨#[]⟩, 0, false)
 | true =>
  let a1 := trA size t.toNat (List.replicate t.toNat z48) b false
  let a2 := trB t.toNat a1.1 a1.2.1 a1.2.2
  let y := tyK ty.toNat a2.2.1 a2.2.2
  let p := takeS y.2.2.2.1 y.2.2.2.2 c
  let nm := nmK (strOfNums p.1) y.2.1 y.1 y.2.2.1 ty.toNat
  let q := lpK size l.toNat p.2.1 p.2.2
  let st := takeS q.2.1 q.2.2 s
  let ut := takeS st.2.1 st.2.2 u
  match markS st.1 ut.1 && nm.2 with
  | true => (nm.1, a2.1, q.1, ⟨#[]⟩, v, true)
  | false => ([], [], [], ⟨#[]⟩, 0, false)
theorem dec_all {v u s c size : Int} {ln tn yn : Nat} {b : List Int} {tr1 tr2 : List S48} {la lq lf lp lt l8 l9 p std ut : List Int} {ba bq bf bp bt b8 b9 : Bool} {tyf ty1 : List S46} {atf : List Int} {okf ok1 : Bool} {P : ByteArray} {lsf : List S50}
  (hg : sizeF v u s ln tn yn c size ≠ 0 ∧ (b.length : Int) = sizeF v u s ln tn yn c size) (h1 : trA size tn (List.replicate tn z48) b false = (tr1, la, ba)) (h2 : trB tn tr1 la ba = (tr2, lq, bq)) (h3 : tyK yn lq bq = (tyf, atf, okf, lf, bf)) (h4 : takeS lf bf c = (p, lp, bp)) (h5 : strOfNums p = P) (h6 : nmK P atf tyf okf yn = (ty1, ok1)) (h7 : lpK size ln lp bp = (lsf, lt, bt)) (h8 : takeS lt bt s = (std, l8, b8)) (h9 : takeS l8 b8 u = (ut, l9, b9)) :
  decN v u s ln tn yn c b size = match markS std ut && ok1 with | true => (ty1, tr2, lsf, ⟨#[]⟩, v, true) | false => ([], [], [], ⟨#[]⟩, 0, false) := by
 unfold decN
 rw [decide_eq_true hg]
 simp only [Int.toNat_natCast, h1, h2, h3, h4, h5, h6, h7, h8, h9]
theorem le_N {s a b B N z g S : Nat} (h : s ≤ a ∧ s ≤ b ∧ a ≠ b ∧ a < B ∧ b < B ∧ N ≤ z) (h2 : B ≤ g ∧ g < N ∧ N ≤ S) : s ≤ N := by omega
end Go.Proofs.Ytpgjcnjojfehjaa.Bk
namespace Go.Proofs.Ytpgjcnjojfehjaa.Bk
open Go.RowKit Go.Proofs.YtpgjcnjojfehjaaW.PrintWords Go.Proofs.YtpgjcnjojfehjaaW.PrintLast Go.Proofs.YtpgjcnjojfehjaaW.PrintMore Oct Kx Ab
set_option maxHeartbeats 4000000 in
set_option maxRecDepth 100000 in
theorem decode_yes (v u s l t ty c : Int) (A1 : Option Addr) (c1 : Nat) (b : List Int) (size : Int) (w : World) (hr1 : Kd.C (Kd.int .u8) w A1 b.length b) (hlb : b.length ≤ 1000000) (hR : rightS v u s l t ty c = true) (hsz : sizeF v u s l t ty c size = b.length) (hb0 : 0 < b.length) :
  Calls Try.prog 14 #[.agg #[.int .i64 v, .int .i64 u, .int .i64 s, .int .i64 l, .int .i64 t, .int .i64 ty, .int .i64 c], .slice A1 b.length c1, .int .i64 size] w fun e w' => ∃ v0_ v1_ v2_ : Value, e = .returned (.tuple #[.agg #[v0_, v1_, v2_, .string (decN v u s l t ty c b size).2.2.2.1, .int .i64 (decN v u s l t ty c b size).2.2.2.2.1], .bool (decN v u s l t ty c b size).2.2.2.2.2]) ∧ Kd.R k46 46 w' w.heap.size (fun _ => True) v0_ (decN v u s l t ty c b size).1 ∧ Kd.R k48 48 w' w.heap.size (fun _ => True) v1_ (decN v u s l t ty c b size).2.1 ∧ Kd.R k50 50 w' w.heap.size (fun _ => True) v2_ (decN v u s l t ty c b size).2.2.1 ∧ Below w.heap.size w w' := by
 have hRR := of_decide_eq_true hR
 obtain ⟨tn, rfl⟩ := Int.eq_ofNat_of_zero_le hRR.2.2.1.1
 obtain ⟨ln, rfl⟩ := Int.eq_ofNat_of_zero_le hRR.2.1.1
 obtain ⟨yn, rfl⟩ := Int.eq_ofNat_of_zero_le (show 0 ≤ ty by omega)
 have HGD : Aside0 (sizeF v u s ln tn yn c size ≠ 0 ∧ (b.length : Int) = sizeF v u s ln tn yn c size) := ⟨by rw [hsz]; omega, hsz.symm⟩
 have HYN : Aside0 (1 ≤ yn ∧ yn ≤ 64) := ⟨by omega⟩
 have HLN : Aside0 (ln ≤ 201) := ⟨by omega⟩
 have HSZ := Aside0.mk (fun W => size_calls v u s ln tn yn c size W)
 rw [hsz] at HSZ
 have HR1 := Aside0.mk hr1
 have HLB := Aside0.mk hlb
 have bz : ((b.length : Int) == 0) = false := beq_eq_false_iff_ne.2 (by omega)
 have bq : ((b.length : Int) != (b.length : Int)) = false := by simp
 have hmk := mk48 tn (by omega)
 have HTN : Aside0 (tn ≤ 2000) := ⟨by omega⟩
 clear hr1 hlb hR hRR hsz
 go_enter Try.func14, Try.ntmps14
 go_wp2_with (first
  | ((with_reducible refine gate_dst (N := 3) rfl ?_); refine box_event ?hg (N := 3) ?hd (cs := #[.int .i64 v, .int .i64 u, .int .i64 s, .int .i64 ln, .int .i64 tn, .int .i64 yn, .int .i64 c]) (t := 28) ?hr ?_; (case hd => rfl); (case hg => rfl); (case hr => first | (go_simp; done) | (go_simp; rfl)); intro hb hgW w1 hbox hb1; have HH := Aside0.mk hbox; have HB1 := Aside0.mk hb1; have HO1 : Aside0 (hb = w.heap.size) := ⟨hgW⟩; clear hb1 hbox hgW)
  | ((with_reducible refine gate_dst (N := 6) rfl ?_); refine box_event ?hg (N := 6) ?hd (cs := zoneC (.slice none 0 0) (.slice none 0 0) (.slice none 0 0) 0) (t := 26) ?hr ?_; (case hd => rfl); (case hg => rfl); (case hr => first | (go_simp; done) | (go_simp; rfl)); intro ob hgW w2 hbox hb2; have HO := Aside0.mk hbox; have HH2 := Aside0.mk (blk_below HH.out hb2); have HB2 := Aside0.mk (below_step HB1.out hb2); have HO2 : Aside0 (ob = w1.heap.size) := ⟨hgW⟩; have HO3 := Aside0.mk (blk_lt HH.out); clear hb2 hbox hgW HH HB1; obtain ⟨hx0, hx1, hx2, hx3, hx4, hx5, hx6⟩ := cells7 HH2.out))
 refine (HSZ.out _).mono ?_
 rintro e w3 ⟨rfl, hb3⟩
 have HH3 := Aside0.mk (blk_below HH2.out hb3)
 have HO3b := Aside0.mk (blk_below HO.out hb3)
 have HB3 := Aside0.mk (below_step HB2.out hb3)
 clear hb3 HH2 HO HB2 hx0 hx1 hx2 hx3 hx4 hx5 hx6 HSZ
 go_wp2_with fail
 refine (open_calls A1 c1 b w3 (Kd.C_below HR1.out HB3.out) (by have := HLB.out; omega)).mono ?_
 rintro e w4 ⟨rg, rfl, hrd, hb4⟩
 have HH4 := Aside0.mk (blk_below HH3.out hb4)
 have HO4 := Aside0.mk (blk_below HO3b.out hb4)
 have HB4 := Aside0.mk (below_step HB3.out hb4)
 have HRD := Aside0.mk hrd
 have HOR : Aside0 (w.heap.size ≤ hb ∧ w.heap.size ≤ ob ∧ hb ≠ ob ∧ hb < w3.heap.size ∧ ob < w3.heap.size) := ⟨by have h1 := HO1.out; have h2 := HO2.out; have h3 := HO3.out; have h4 := blk_lt HH3.out; have h5 := blk_lt HO3b.out; omega⟩
 obtain ⟨hx0, hx1, hx2, hx3, hx4, hx5, hx6⟩ := cells7 HH4.out
 clear hb4 hrd HH3 HO3b HB3 HO1 HO2 HO3
 go_upto_region 5 with fail
 go_cut [10] (fun v10 wx => After5 w hb ob rg w3.heap.size w4.heap.size (headC v u s ln tn yn c) v b tn v10 wx)
 case first =>
  have e0 := World.new_ne w4 _ hx0
  have e4 := World.new_ne w4 _ hx4
  have y0 := fun o => pw_cell_below (below_alloc (Below.refl _ _) o) hx0
  have y4 := fun o => pw_cell_below (below_alloc (Below.refl _ _) o) hx4
  have yy0 := fun o o2 => pw_cell_below (below_alloc (Below.refl _ _) o2) (y0 o)
  have yy4 := fun o o2 => pw_cell_below (below_alloc (Below.refl _ _) o2) (y4 o)
  go_region
  all_goals
   go_wp2_with fail
   go_meet
   first
    | exact After5.mk HTN.out HH4.out HO4.out HRD.out HB4.out HOR.out (below_drew (below_alloc (below_alloc (Below.refl _ _) _) _)) (two_new _ _ _).2 (two_new _ _ _).1 (by omega) (by omega)
    | exact After5.mk HTN.out HH4.out HO4.out HRD.out HB4.out HOR.out (below_drew (below_alloc (below_alloc (Below.refl _ _) _) _)) (two_new _ _ _).1 (two_new _ _ _).2 (by omega) (by omega)
 case rest =>
  obtain ⟨zb, tb, rfl, hD, hT⟩ := hcut
  have HD := Aside0.mk hD
  have HT := Aside0.mk hT
  clear hD hT HH4 HO4 HB4 HRD HOR hx0 hx1 hx2 hx3 hx4 hx5 hx6 hmk
  obtain ⟨hz0, hz1, hz2, hz3, hz4⟩ := zone_cells HD.out.zone
  go_wp2
  clear hz0 hz1 hz2 hz3 hz4
  generalize hBB : w3.heap.size = B at *
  generalize hNN : w4.heap.size = N at *
  clear hBB hNN
  have HS0 := Aside0.mk (show After9 w hb ob rg zb B N (headC v u s ln tn yn c) (zoneC (.slice none 0 0) (.slice (some ⟨tb, 0, none⟩) tn tn) (.slice none 0 0) v) b false (.slice (some ⟨tb, 0, none⟩) tn tn) (List.replicate tn z48) _ from ⟨HD.out, HT.out⟩)
  clear HD HT
  go_loopw [44] (fun i wr => ∃ k : Nat, k ≤ tn ∧ i = .int .i64 (k : Int) ∧ Aside0 (After9 w hb ob rg zb B N (headC v u s ln tn yn c) (zoneC (.slice none 0 0) (.slice (some ⟨tb, 0, none⟩) tn tn) (.slice none 0 0) v) (trA size k (List.replicate tn z48) b false).2.1 (trA size k (List.replicate tn z48) b false).2.2 (.slice (some ⟨tb, 0, none⟩) tn tn) (trA size k (List.replicate tn z48) b false).1 wr)) (fun i _ => tn - (intOf i).toNat)
  case atStart => exact ⟨0, Nat.zero_le _, rfl, HS0⟩
  case round =>
   obtain ⟨k, hk, rfl, HA⟩ := hrel
   clear HS0
   by_cases hlt : k < tn
   ·as_aux_lemma =>
     have HTL := Aside0.mk (trA_len size (List.replicate tn z48) b false k)
     obtain ⟨tr, lk, bk, hs⟩ : ∃ a b' c', (trA size k (List.replicate tn z48) b false) = (a, b', c') := ⟨_, _, _, rfl⟩
     rw [hs] at HA HTL
     obtain ⟨n1, l1, b1, h1⟩ : ∃ a b' c', numS lk bk size = (a, b', c') := ⟨_, _, _, rfl⟩
     have HNEW : Aside0 ((trA size (k + 1) (List.replicate tn z48) b false) = (tr.set k ⟨n1, (tr.getD k z48).f1⟩, l1, b1)) := ⟨by unfold trA; simp only [hs, h1]⟩
     have H1 := Aside0.mk h1
     have HLE : Aside0 (lk.length ≤ 140737488355328 ∧ tr.length = tn) := ⟨by have h2 := HTL.out; have h3 := HLB.out; have h4 := List.length_replicate (n := tn) (a := z48); exact ⟨Nat.le_trans h2.2 (by omega), h2.1.trans h4⟩⟩
     clear hs h1 HTL
     go_upto_block 1 with fail
     go_cut [] (fun wx => After9 w hb ob rg zb B N (headC v u s ln tn yn c) (zoneC (.slice none 0 0) (.slice (some ⟨tb, 0, none⟩) tn tn) (.slice none 0 0) v) l1 b1 (.slice (some ⟨tb, 0, none⟩) tn tn) (tr.set k ⟨n1, (tr.getD k z48).f1⟩) wx)
     case first =>
      go_wp2
      have hz1 : wr.cell? ⟨zb, 1, none⟩ = some (.slice (some ⟨tb, 0, none⟩) tn tn) := (zone_cells HA.out.1.zone).2.1
      obtain ⟨⟨x, hx, hx1⟩, hf⟩ := tr_at HA.out.2 k (by have := HLE.out.2; omega) 0 (by decide)
      have hy : wr.cell? ⟨tb, k * 2, none⟩ = some x := hx
      have hfy : wr.frozen? ⟨tb, k * 2, none⟩ = false := hf
      have HTB := Aside0.mk (tb_facts HA.out)
      clear hx hf hx1
      go_region_law (go_simp; go_at_call 27; refine (num_is H1.out (Rd.below HA.out.1.rd (below_drew (Below.refl _ _))) HLE.out.1).mono ?_; rintro e w1 ⟨rfl, hr1, hg1⟩; have HA1 := Aside0.mk (After9.num HA.out hr1 hg1); have hz1' := cell_grown hg1 (show zb ≠ rg from HTB.out.1) hz1; have hy' := cell_grown hg1 (show tb ≠ rg from HTB.out.2.1) hy; have hfy' := (frozen_grown hg1 (show tb ≠ rg from HTB.out.2.1) hy).trans hfy)
      all_goals
       go_wp2_with fail
       go_meet
       as_aux_lemma => exact After9.set (j := 0) (by decide) HA1.out (by rw [HLE.out.2]; exact hlt) (by rw [getD_at (by rw [HLE.out.2]; exact hlt)]; rfl) rfl
     case rest =>
      have HC := Aside0.mk hcut
      have h2000 := HTN.out
      clear hcut HA
      go_wp2
      exact ⟨⟨k + 1, by omega, by go_num, ⟨by rw [HNEW.out]; exact HC.out⟩⟩, by simp [intOf]; omega⟩
   ·obtain rfl : tn = k := by omega
    obtain ⟨tr1, la, ba, ha⟩ : ∃ a b' c', trA size tn (List.replicate tn z48) b false = (a, b', c') := ⟨_, _, _, rfl⟩
    rw [ha] at HA
    have HTA := Aside0.mk ha
    have HLA : Aside0 (la.length ≤ 1000000) := ⟨by have h := (trA_len size (List.replicate tn z48) b false tn).2; rw [ha] at h; exact Nat.le_trans h HLB.out⟩
    have HT1 : Aside0 (tr1.length = tn) := ⟨by have h := (trA_len size (List.replicate tn z48) b false tn).1; rw [ha, List.length_replicate] at h; exact h⟩
    clear ha
    obtain ⟨hz0, hz1, hz2, hz3, hz4⟩ := zone_cells HA.out.1.zone
    have HS0 : Aside0 (After9 w hb ob rg zb B N (headC v u s ln tn yn c) (zoneC (.slice none 0 0) (.slice (some ⟨tb, 0, none⟩) tn tn) (.slice none 0 0) v) (trB 0 tr1 la ba).2.1 (trB 0 tr1 la ba).2.2 (.slice (some ⟨tb, 0, none⟩) tn tn) (trB 0 tr1 la ba).1 wr) := HA
    clear HA
    go_wp2
    clear hz0 hz1 hz2 hz3 hz4
    go_loopw [59] (fun i wr => ∃ k : Nat, k ≤ tn ∧ i = .int .i64 (k : Int) ∧ Aside0 (After9 w hb ob rg zb B N (headC v u s ln tn yn c) (zoneC (.slice none 0 0) (.slice (some ⟨tb, 0, none⟩) tn tn) (.slice none 0 0) v) (trB k tr1 la ba).2.1 (trB k tr1 la ba).2.2 (.slice (some ⟨tb, 0, none⟩) tn tn) (trB k tr1 la ba).1 wr)) (fun i _ => tn - (intOf i).toNat)
    case atStart => exact ⟨0, Nat.zero_le _, rfl, HS0⟩
    case round =>
     obtain ⟨k, hk, rfl, HA⟩ := hrel
     clear HS0
     by_cases hlt : k < tn
     ·as_aux_lemma =>
       have HTL := Aside0.mk (trB_len tr1 la ba k)
       obtain ⟨tr, lk, bk, hs⟩ : ∃ a b' c', (trB k tr1 la ba) = (a, b', c') := ⟨_, _, _, rfl⟩
       rw [hs] at HA HTL
       obtain ⟨n1, l1, b1, h1⟩ : ∃ a b' c', numS lk bk 1 = (a, b', c') := ⟨_, _, _, rfl⟩
       have HNEW : Aside0 ((trB (k + 1) tr1 la ba) = (tr.set k ⟨(tr.getD k z48).f0, n1⟩, l1, b1)) := ⟨by unfold trB; simp only [hs, h1]⟩
       have H1 := Aside0.mk h1
       have HLE : Aside0 (lk.length ≤ 140737488355328 ∧ tr.length = tn) := ⟨by have h2 := HTL.out; have h3 := HLB.out; have h4 := HT1.out; exact ⟨Nat.le_trans h2.2 (by have := HLA.out; omega), h2.1.trans h4⟩⟩
       clear hs h1 HTL
       go_upto_block 3 with fail
       go_cut [] (fun wx => After9 w hb ob rg zb B N (headC v u s ln tn yn c) (zoneC (.slice none 0 0) (.slice (some ⟨tb, 0, none⟩) tn tn) (.slice none 0 0) v) l1 b1 (.slice (some ⟨tb, 0, none⟩) tn tn) (tr.set k ⟨(tr.getD k z48).f0, n1⟩) wx)
       case first =>
        go_wp2
        have hz1 : wr.cell? ⟨zb, 1, none⟩ = some (.slice (some ⟨tb, 0, none⟩) tn tn) := (zone_cells HA.out.1.zone).2.1
        obtain ⟨⟨x, hx, hx1⟩, hf⟩ := tr_at HA.out.2 k (by have := HLE.out.2; omega) 1 (by decide)
        have hy : wr.cell? ⟨tb, k * 2 + 1, none⟩ = some x := hx
        have hfy : wr.frozen? ⟨tb, k * 2 + 1, none⟩ = false := hf
        have HTB := Aside0.mk (tb_facts HA.out)
        clear hx hf hx1
        go_region_law (go_simp; go_at_call 27; refine (num_is H1.out (Rd.below HA.out.1.rd (below_drew (Below.refl _ _))) HLE.out.1).mono ?_; rintro e w1 ⟨rfl, hr1, hg1⟩; have HA1 := Aside0.mk (After9.num HA.out hr1 hg1); have hz1' := cell_grown hg1 (show zb ≠ rg from HTB.out.1) hz1; have hy' := cell_grown hg1 (show tb ≠ rg from HTB.out.2.1) hy; have hfy' := (frozen_grown hg1 (show tb ≠ rg from HTB.out.2.1) hy).trans hfy)
        all_goals
         go_wp2_with fail
         go_meet
         as_aux_lemma => exact After9.set (j := 1) (by decide) HA1.out (by rw [HLE.out.2]; exact hlt) (by rw [getD_at (by rw [HLE.out.2]; exact hlt)]; rfl) rfl
       case rest =>
        have HC := Aside0.mk hcut
        have h2000 := HTN.out
        clear hcut HA
        go_wp2
        exact ⟨⟨k + 1, by omega, by go_num, ⟨by rw [HNEW.out]; exact HC.out⟩⟩, by simp [intOf]; omega⟩
     ·obtain rfl : tn = k := by omega
      obtain ⟨tr2, lq, bq2, hq⟩ : ∃ a b' c', trB tn tr1 la ba = (a, b', c') := ⟨_, _, _, rfl⟩
      rw [hq] at HA
      have HQ := Aside0.mk hq
      have HLQ : Aside0 (lq.length ≤ 1000000) := ⟨by have h := (trB_len tr1 la ba tn).2; rw [hq] at h; exact Nat.le_trans h HLA.out⟩
      clear hq
      obtain ⟨hx0, hx1, hx2, hx3, hx4, hx5, hx6⟩ := cells7 HA.out.1.head
      obtain ⟨tyf, atf, okf, lf, bf, hT⟩ : ∃ a b' c' d' e', tyK yn lq bq2 = (a, b', c', d', e') := ⟨_, _, _, _, _, rfl⟩
      have HTY := Aside0.mk hT
      have HTL : Aside0 (tyf.length = yn ∧ atf.length = yn ∧ lf.length ≤ 1000000) := ⟨by have h := tyK_len lq bq2 yn; rw [hT] at h; exact ⟨h.1, h.2.1, Nat.le_trans h.2.2 HLQ.out⟩⟩
      clear hT
      go_wp2_with fail
      refine (types_walk B N wr rg lq bq2 yn (by have := HYN.out; omega) HA.out.1.rd (by have := HLQ.out; omega) tyf atf okf lf bf HTY.out).mono ?_
      rintro e w5 ⟨v1, v2, rfl, hTr⟩
      obtain ⟨lb, cb, rfl, hlb⟩ := form_of hTr.types (by have := HTL.out.1; have := HYN.out; omega)
      obtain ⟨ab, ca, rfl, hab⟩ := form_of hTr.places (by have := HTL.out.2.1; have := HYN.out; omega)
      have HS := Aside0.mk (Sz.mk' HA.out hTr)
      rw [HTL.out.1, HTL.out.2.1] at HS ⊢
      clear hTr hlb hab HA hx0 hx1 hx2 hx3 hx4 hx5 hx6
      obtain ⟨hx0, hx1, hx2, hx3, hx4, hx5, hx6⟩ := cells7 HS.out.dz.head
      obtain ⟨p, lp, bp, hp⟩ : ∃ a b' c', takeS lf bf c = (a, b', c') := ⟨_, _, _, rfl⟩
      have HP := Aside0.mk hp
      have HLP : Aside0 (p.length ≤ 1000000 ∧ lp.length ≤ 1000000) := ⟨take_lens hp HTL.out.2.2⟩
      clear hp
      go_wp2_with fail
      refine (take_R HP.out HS.out.dz.rd (by have := HTL.out.2.2; omega)).mono ?_
      rintro e w6 ⟨Ap, cp, rfl, hRp, hrd, hg⟩
      have HS6 := Aside0.mk (HS.out.num hrd hg)
      have hcv : (convert 29 9 (.slice Ap p.length cp)).run Try.prog w6 = .ok (.string (strOfNums p)) w6 := Kd.C_string Try.underlying29 Try.underlying5 Try.underlying9 (Kd.R_reads' hRp).2.2
      have HPS : Aside0 ((strOfNums p).size ≤ 1000000) := ⟨by rw [strOfNums_size]; exact HLP.out.1⟩
      obtain ⟨P, hP⟩ : ∃ P, strOfNums p = P := ⟨_, rfl⟩
      rw [hP] at hcv HPS
      have HPP := Aside0.mk hP
      clear hP hRp hrd hg HS hx0 hx1 hx2 hx3 hx4 hx5 hx6
      go_wp2
      clear hcv
      have HS0 : Aside0 (Sz w w6 hb ob rg zb B N (headC v u s ln tn yn c) (zoneC (.slice none 0 0) (.slice (some ⟨tb, 0, none⟩) tn tn) (.slice none 0 0) v) lp bp (.slice (some ⟨tb, 0, none⟩) tn tn) tr2 (.slice (some ⟨lb, 0, none⟩) yn cb) (nmK P atf tyf okf 0).1 (.slice (some ⟨ab, 0, none⟩) yn ca) atf) := HS6
      clear HS6
      go_loopw [15, 85] (fun o i wr => ∃ k : Nat, k ≤ yn ∧ i = .int .i64 (k : Int) ∧ o = .bool (nmK P atf tyf okf k).2 ∧ Aside0 (Sz w wr hb ob rg zb B N (headC v u s ln tn yn c) (zoneC (.slice none 0 0) (.slice (some ⟨tb, 0, none⟩) tn tn) (.slice none 0 0) v) lp bp (.slice (some ⟨tb, 0, none⟩) tn tn) tr2 (.slice (some ⟨lb, 0, none⟩) yn cb) (nmK P atf tyf okf k).1 (.slice (some ⟨ab, 0, none⟩) yn ca) atf)) (fun _ i _ => yn - (intOf i).toNat)
      case atStart => exact ⟨0, Nat.zero_le _, rfl, rfl, HS0⟩
      case round =>
       obtain ⟨k, hk, rfl, ho, HS⟩ := hrel
       clear HS0
       by_cases hlt : k < yn
       ·as_aux_lemma =>
         have HNL := Aside0.mk (nmK_len P atf tyf okf k)
         obtain ⟨ty1, ok1, hs⟩ : ∃ a b', nmK P atf tyf okf k = (a, b') := ⟨_, _, rfl⟩
         rw [hs] at HS HNL
         rw [hs] at ho
         obtain ⟨nm, is, hat⟩ : ∃ a b', atN P (atf.getD k 0) = (a, b') := ⟨_, _, rfl⟩
         have HNEW : Aside0 (nmK P atf tyf okf (k + 1) = (ty1.set k (setNm (ty1.getD k z46) nm), ok1 && is)) := ⟨by unfold nmK; simp only [hs, hat]⟩
         have HAT := Aside0.mk hat
         have HLT : Aside0 (ty1.length = yn) := ⟨HNL.out.trans HTL.out.1⟩
         have ho' : u15 = .bool ok1 := ho
         subst ho'
         have h100 := HYN.out
         obtain ⟨ad, hA, hcell⟩ := Kd.at_int (Kd.R_reads' HS.out.ats).2.2 (k : Int) (by omega) (by have := HTL.out.2.1; omega)
         rw [rd_getD, Int.toNat_natCast] at hcell
         cases hA
         have hcell : wr.cell? ⟨ab, k, none⟩ = some (.int .i64 (atf.getD k 0)) := cell_add hcell
         clear hs hat ho HNL
         go_wp2_with fail
         refine (at_calls P _ nm is _ (by have := HPS.out; omega) HAT.out).mono ?_
         rintro e w1 ⟨rfl, hb1⟩
         have HS1 := Aside0.mk (HS.out.step hb1)
         obtain ⟨hq2, hf2⟩ := ty_at HS1.out.ty k (by rw [HLT.out]; exact hlt)
         have HS2 := Aside0.mk (HS1.out.name k (by rw [HLT.out]; exact hlt) nm)
         clear hb1 HS hcell
         cases ok1 with
         | true =>
          go_wp2
          exact ⟨⟨k + 1, by omega, by go_num, congrArg Value.bool (by rw [HNEW.out]; rfl), ⟨by rw [HNEW.out, getD46 (by rw [HLT.out]; exact hlt)]; exact HS2.out⟩⟩, by simp [intOf]; omega⟩
         | false =>
          go_wp2
          exact ⟨⟨k + 1, by omega, by go_num, congrArg Value.bool (by rw [HNEW.out]; rfl), ⟨by rw [HNEW.out, getD46 (by rw [HLT.out]; exact hlt)]; exact HS2.out⟩⟩, by simp [intOf]; omega⟩
       ·as_aux_lemma =>
         obtain rfl : yn = k := by omega
         obtain ⟨ty1, ok1, hnm⟩ : ∃ a b', nmK P atf tyf okf yn = (a, b') := ⟨_, _, rfl⟩
         rw [hnm] at HS
         have ho' : u15 = .bool ok1 := by rw [ho, hnm]
         subst ho'
         have HNM := Aside0.mk hnm
         clear ho hnm
         obtain ⟨hz0, hz1, hz2, hz3, hz4⟩ := zone_cells HS.out.dz.zone
         obtain ⟨hx0, hx1, hx2, hx3, hx4, hx5, hx6⟩ := cells7 HS.out.dz.head
         have hfz := blk_frozen HS.out.dz.zone 0
         have HS9 := Aside0.mk (HS.out.zset 0 (.slice (some ⟨lb, 0, none⟩) yn cb))
         have hx3b : (wr.setCell ⟨zb, 0, none⟩ (.slice (some ⟨lb, 0, none⟩) yn cb)).cell? ⟨hb, 3, none⟩ = some (.int .i64 ln) := (cells7 HS9.out.dz.head).2.2.2.1
         have HZB := Aside0.mk (show zb ≠ hb from by have := HS.out.dz.ord; have := HS.out.dz.rd.size; omega)
         go_upto_region 26 with fail
         generalize wr.setCell ⟨zb, 0, none⟩ (.slice (some ⟨lb, 0, none⟩) yn cb) = w7 at *
         have HS0 : Aside0 (Sl (fun _ => True) w w7 hb ob rg zb B N (headC v u s ln tn yn c) (zoneC (.slice (some ⟨lb, 0, none⟩) yn cb) (.slice (some ⟨tb, 0, none⟩) tn tn) (.slice none 0 0) v) (lpK size 0 lp bp).2.1 (lpK size 0 lp bp).2.2 (.slice (some ⟨tb, 0, none⟩) tn tn) tr2 (.slice (some ⟨lb, 0, none⟩) yn cb) ty1 (.slice none 0 0) (lpK size 0 lp bp).1) := ⟨Sl.start HS9.out⟩
         clear hx0 hx1 hx2 hx3 hx4 hx5 hx6 hz0 hz1 hz2 hz3 hz4 hfz HS HS9 HZB
         go_wp2
         clear hx3b
         go_loopw [110] (fun i wr => ∃ (k : Nat) (vl : Value), k ≤ ln ∧ i = .int .i64 (k : Int) ∧ Aside0 (Sl (fun _ => True) w wr hb ob rg zb B N (headC v u s ln tn yn c) (zoneC (.slice (some ⟨lb, 0, none⟩) yn cb) (.slice (some ⟨tb, 0, none⟩) tn tn) vl v) (lpK size k lp bp).2.1 (lpK size k lp bp).2.2 (.slice (some ⟨tb, 0, none⟩) tn tn) tr2 (.slice (some ⟨lb, 0, none⟩) yn cb) ty1 vl (lpK size k lp bp).1)) (fun i _ => ln - (intOf i).toNat)
         case atStart => exact ⟨0, _, Nat.zero_le _, rfl, HS0⟩
         case round =>
          obtain ⟨k, vl, hk, rfl, HS⟩ := hrel
          clear HS0
          by_cases hlt : k < ln
          ·as_aux_lemma =>
            have HLL := Aside0.mk (lpK_len size lp bp k)
            obtain ⟨ls, lk, bk, hs⟩ : ∃ a b' c', lpK size k lp bp = (a, b', c') := ⟨_, _, _, rfl⟩
            rw [hs] at HS HLL
            obtain ⟨n1, l1, b1, h1⟩ : ∃ a b' c', numS lk bk size = (a, b', c') := ⟨_, _, _, rfl⟩
            obtain ⟨n2, l2, b2, h2⟩ : ∃ a b' c', numS l1 b1 4 = (a, b', c') := ⟨_, _, _, rfl⟩
            have HNEW : Aside0 (lpK size (k + 1) lp bp = (ls ++ [⟨n1, n2⟩], l2, b2)) := ⟨by unfold lpK; simp only [hs, h1, h2]⟩
            have H1 := Aside0.mk h1
            have H2 := Aside0.mk h2
            have HL1 : Aside0 (lk.length ≤ 1000000 ∧ ls.length = k) := ⟨Nat.le_trans HLL.out.2 HLP.out.2, HLL.out.1⟩
            have HL2 : Aside0 (l1.length ≤ 1000000) := ⟨by have h := num_len lk bk size; rw [h1] at h; exact Nat.le_trans h HL1.out.1⟩
            have h201 := HLN.out
            clear hs h1 h2 HLL
            go_wp2_with fail
            refine (num_is H1.out HS.out.dz.rd (by have := HL1.out.1; omega)).mono ?_
            rintro e w1 ⟨rfl, hr1, hg1⟩
            have HS1 := Aside0.mk (HS.out.num hr1 hg1)
            clear hr1 hg1 HS H1
            go_wp2_with (first
             | ((with_reducible refine gate_dst (N := 19) rfl ?_); refine box_event ?hg (N := 19) ?hd (cs := #[.int .i64 0, .int .i64 0]) (t := 50) ?hr ?_; (case hd => rfl); (case hg => rfl); (case hr => first | (go_simp; done) | (go_simp; rfl)); intro b19 hbW w5 hbox hb5; have HB5 := Aside0.mk hb5; have HBX := Aside0.mk hbox; have HBE : Aside0 (w1.heap.size ≤ b19) := ⟨by omega⟩; have hy0 : w5.cell? ⟨b19, 0, none⟩ = some (.int .i64 0) := (blk_cell hbox 0).trans rfl; have hf0 := blk_frozen hbox 0; have hy1 : w5.cell? ⟨b19, 1, none⟩ = some (.int .i64 0) := (blk_cell hbox 1).trans rfl; have hf1 := blk_frozen hbox 1; clear hb5 hbox hbW))
            have HBX0 : Aside0 (((w5.setCell ⟨b19, 0, none⟩ (.int .i64 n1)).setCell ⟨b19, 1, none⟩ (.int .i64 0)).heap[b19]? = some (.cells #[.int .i64 n1, .int .i64 0] 50 (0, 0))) := ⟨blk_set (blk_set HBX.out 0 (.int .i64 n1)) 1 (.int .i64 0)⟩
            have HBB : Aside0 (N ≤ b19 ∧ b19 ≠ rg ∧ b19 ≠ zb) := ⟨by have h1 := HS1.out.dz.rd.size; have h2 := HBE.out; have h3 := blk_lt HS1.out.dz.zone; omega⟩
            have HS2 := Aside0.mk ((HS1.out.away HBE.out).step (Below.setCell (p := ⟨b19, 1, none⟩) (Below.setCell (p := ⟨b19, 0, none⟩) HB5.out HBE.out (.int .i64 n1)) HBE.out (.int .i64 0)))
            clear HS1 HB5 HBX HBE hy0 hy1 hf0 hf1
            generalize ((w5.setCell ⟨b19, 0, none⟩ (.int .i64 n1)).setCell ⟨b19, 1, none⟩ (.int .i64 0)) = w6 at *
            refine (num_is H2.out HS2.out.dz.rd (by have := HL2.out; omega)).mono ?_
            rintro e w7 ⟨rfl, hr1, hg1⟩
            have HS3 := Aside0.mk (HS2.out.num hr1 hg1)
            have hbx := (hg1.block b19 (blk_lt HBX0.out) (fun e => HBB.out.2.1 (by injection e))).trans HBX0.out
            have HBX1 := Aside0.mk hbx
            have hy1 : w7.cell? ⟨b19, 1, none⟩ = some (.int .i64 0) := (blk_cell hbx 1).trans rfl
            have hf1 := blk_frozen hbx 1
            have HS4 := Aside0.mk (HS3.out.store HBX1.out HBB.out.1 HBB.out.2.2 1 (.int .i64 n2))
            have HBX2 := Aside0.mk (blk_set HBX1.out 1 (.int .i64 n2))
            clear hr1 hg1 HS2 HS3 H2 HBX0 hbx
            go_upto_region 30 with fail
            generalize w7.setCell ⟨b19, 1, none⟩ (.int .i64 n2) = w8 at *
            clear hy1 hf1 HBX1
            have hq0 : w8.cell? ⟨b19, 0, none⟩ = some (.int .i64 n1) := (blk_cell HBX2.out 0).trans rfl
            have hq1 : w8.cell? ⟨b19, 1, none⟩ = some (.int .i64 n2) := (blk_cell HBX2.out 1).trans rfl
            have hz2 : w8.cell? ⟨zb, 2, none⟩ = some vl := (zone_cells HS4.out.dz.zone).2.2.1
            have HFR : Aside0 (∀ j, w8.heap.size ≤ j → j ≠ b19) := ⟨fun j hj => by have h1 := blk_lt HBX2.out; omega⟩
            have HLA9 : Aside0 ((ls ++ [(⟨n1, n2⟩ : S50)]).length = k + 1) := ⟨by rw [List.length_append, HL1.out.2]; rfl⟩
            have HNS : Aside0 (N ≤ w8.heap.size) := ⟨HS4.out.dz.rd.size.2.2⟩
            go_wp2_with (first
             | ((with_reducible refine gate_builtin (b := .append) (xs := #[.tmp 120, .tmp 122]) rfl ?_); at_builtin; refine Kd.R_append k50 (w0 := w8) N rfl (.tmp 120) (.tmp 122) 24 50 (.agg #[.int .i64 0, .int .i64 0]) 16 rfl Try.underlying24 info50 rfl (by decide) (by omega) vl ls ⟨n1, n2⟩ [.int .i64 n1, .int .i64 n2] (fun k => k ≠ b19) (fun _ => False) rfl rfl (k50_mkM _ _ _ _) (fun _ hk => hk.elim) HFR.out HS4.out.lps (Below.refl _ _) HNS.out (by have := HL1.out.2; omega) ?_; intro v9 w9 ho hb9 hg9 hat9; obtain ⟨A9, c9, rfl⟩ := Kd.R_slice ho; rw [HLA9.out] at ho ⊢; have hz9 := (hg9.block zb (blk_lt HS4.out.dz.zone) (Kd.R_ne HS4.out.lps HS4.out.dz.zone (by decide))).trans HS4.out.dz.zone; have hk2 : w9.cell? ⟨zb, 2, none⟩ = some vl := (zone_cells hz9).2.2.1; have hkf := blk_frozen hz9 2; have HS5 := Aside0.mk (((HS4.out.row ho hg9).zset 2 (.slice A9 (k + 1) c9)).mono (ok' := fun _ => True) (fun _ _ => trivial)); clear ho hb9 hg9 hat9 hz9))
            exact ⟨⟨k + 1, .slice A9 (k + 1) c9, by omega, by go_num, ⟨by rw [HNEW.out]; exact HS5.out⟩⟩, by simp [intOf]; omega⟩
          ·as_aux_lemma =>
            obtain rfl : ln = k := by omega
            obtain ⟨lsf, lt, bt, hlp⟩ : ∃ a b' c', lpK size ln lp bp = (a, b', c') := ⟨_, _, _, rfl⟩
            rw [hlp] at HS
            have HLV := Aside0.mk hlp
            have HLT : Aside0 (lt.length ≤ 1000000) := ⟨by have h := (lpK_len size lp bp ln).2; rw [hlp] at h; exact Nat.le_trans h HLP.out.2⟩
            clear hlp
            obtain ⟨std, l8, b8, h8⟩ : ∃ a b' c', takeS lt bt s = (a, b', c') := ⟨_, _, _, rfl⟩
            obtain ⟨ut, l9, b9, h9⟩ : ∃ a b' c', takeS l8 b8 u = (a, b', c') := ⟨_, _, _, rfl⟩
            have H8 := Aside0.mk h8
            have H9 := Aside0.mk h9
            have HL8 : Aside0 (std.length ≤ 1000000 ∧ l8.length ≤ 1000000) := ⟨take_lens h8 HLT.out⟩
            have HDEC : Aside0 (decN v u s ln tn yn c b size = match markS std ut && ok1 with | true => (ty1, tr2, lsf, ⟨#[]⟩, v, true) | false => ([], [], [], ⟨#[]⟩, 0, false)) := ⟨dec_all HGD.out HTA.out HQ.out HTY.out HP.out HPP.out HNM.out HLV.out h8 h9⟩
            clear h8 h9
            obtain ⟨hx0, hx1, hx2, hx3, hx4, hx5, hx6⟩ := cells7 HS.out.dz.head
            go_wp2_with fail
            refine (take_R H8.out HS.out.dz.rd (by have := HLT.out; omega)).mono ?_
            rintro e w5 ⟨As, cs8, rfl, hRs, hrd, hg⟩
            have HS5 := Aside0.mk (HS.out.num hrd hg)
            have HRS := Aside0.mk (Kd.R_lower hRs (HS.out.dz.rd.size.2.2))
            clear hRs hrd hg HS hx0 hx1 hx2 hx3 hx4 hx5 hx6
            obtain ⟨hx0, hx1, hx2, hx3, hx4, hx5, hx6⟩ := cells7 HS5.out.dz.head
            go_wp2_with fail
            refine (take_R H9.out HS5.out.dz.rd (by have := HL8.out.2; omega)).mono ?_
            rintro e w6 ⟨Au, cu, rfl, hRu, hrd, hg⟩
            have HS6 := Aside0.mk (HS5.out.num hrd hg)
            obtain ⟨cs5, hb5⟩ := Rd.block HS5.out.dz.rd
            have HRS6 := Aside0.mk (row_grown HRS.out hb5 (by intro q hq; simp [Kd.int, Kd.scalar] at hq; subst hq; decide) hg)
            have HRU := Aside0.mk (Kd.R_reads' hRu).2.2
            clear hRu hrd hg HS5 HRS hb5 hx0 hx1 hx2 hx3 hx4 hx5 hx6
            obtain ⟨q, hq⟩ : ∃ q, markS std ut = q := ⟨_, rfl⟩
            have HMK := Aside0.mk (fun W h0 h1 => marked_calls As cs8 std Au cu ut W h0 h1)
            rw [hq] at HMK HDEC
            clear hq
            go_wp2_with fail
            refine (HMK.out _ (Kd.R_reads' HRS6.out).2.2 HRU.out).mono ?_
            rintro e w7 ⟨rfl, hb7⟩
            have HS7 := Aside0.mk (HS6.out.step hb7)
            obtain ⟨hz0, hz1, hz2, hz3, hz4⟩ := zone_cells HS7.out.dz.zone
            obtain ⟨ho0, ho1, ho2, ho3, ho4⟩ := zone_cells HS7.out.dz.out
            have f0 := blk_frozen HS7.out.dz.out 0
            have f1 := blk_frozen HS7.out.dz.out 1
            have f2 := blk_frozen HS7.out.dz.out 2
            have f3 := blk_frozen HS7.out.dz.out 3
            have f4 := blk_frozen HS7.out.dz.out 4
            have hne := HS7.out.dz.ord
            obtain ⟨Al, cl, rfl⟩ := Kd.R_slice HS7.out.lps
            clear hb7 HMK HS6 HRS6 HRU
            cases q with
            | true =>
             cases ok1 with
             | true =>
              have HD' : decN v u s ln tn yn c b size = (ty1, tr2, lsf, ⟨#[]⟩, v, true) := HDEC.out
              go_wp2
              as_aux_lemma => exact bodyPost_ret (results_ct rfl _ _ ob 26 #[.slice (some ⟨lb, 0, none⟩) yn cb, (.slice (some ⟨tb, 0, none⟩) tn tn), .slice Al lsf.length cl, .string ⟨#[]⟩, .int .i64 v] (0, 0) _ rfl (set5_blk HS7.out.dz.out _ _ _ _ _) Try.underlying26 rfl (by kernel_rfl)) rfl (by rw [HD']; exact ⟨_, _, _, rfl, set5_row HS7.out.ty HS7.out.dz.out (E46 (by decide)) (le_N hne HS7.out.dz.rd.size) _ _ _ _ _, set5_row HS7.out.tr HS7.out.dz.out (E48 (by decide)) (le_N hne HS7.out.dz.rd.size) _ _ _ _ _, set5_row HS7.out.lps HS7.out.dz.out (E50 (by decide)) (le_N hne HS7.out.dz.rd.size) _ _ _ _ _, set5_below HS7.out.dz.below hne.2.1 _ _ _ _ _⟩)
             | false =>
              have HD' : decN v u s ln tn yn c b size = ([], [], [], ⟨#[]⟩, 0, false) := HDEC.out
              go_wp2
              as_aux_lemma => exact bodyPost_ret (results_ct rfl _ _ ob 26 #[.slice none 0 0, .slice none 0 0, .slice none 0 0, .string ⟨#[]⟩, .int .i64 0] (0, 0) _ rfl (set5_blk HS7.out.dz.out _ _ _ _ _) Try.underlying26 rfl (by kernel_rfl)) rfl (by rw [HD']; exact ⟨_, _, _, rfl, Kd.R_nil _ _ _ _ _, Kd.R_nil _ _ _ _ _, Kd.R_nil _ _ _ _ _, set5_below HS7.out.dz.below hne.2.1 _ _ _ _ _⟩)
            | false =>
             have HD' : decN v u s ln tn yn c b size = ([], [], [], ⟨#[]⟩, 0, false) := HDEC.out
             go_wp2
             as_aux_lemma => exact bodyPost_ret (results_ct rfl _ _ ob 26 #[.slice none 0 0, .slice none 0 0, .slice none 0 0, .string ⟨#[]⟩, .int .i64 0] (0, 0) _ rfl (set5_blk HS7.out.dz.out _ _ _ _ _) Try.underlying26 rfl (by kernel_rfl)) rfl (by rw [HD']; exact ⟨_, _, _, rfl, Kd.R_nil _ _ _ _ _, Kd.R_nil _ _ _ _ _, Kd.R_nil _ _ _ _ _, set5_below HS7.out.dz.below hne.2.1 _ _ _ _ _⟩)
end Go.Proofs.Ytpgjcnjojfehjaa.Bk
namespace Go.Proofs.Ytpgjcnjojfehjaa.Bk
open Go.RowKit Go.Proofs.YtpgjcnjojfehjaaW.PrintWords Go.Proofs.YtpgjcnjojfehjaaW.PrintLast Go.Proofs.YtpgjcnjojfehjaaW.PrintMore Oct Kx Ab
set_option maxHeartbeats 4000000 in
set_option maxRecDepth 100000 in
theorem decode_no (v u s l t ty c : Int) (A1 : Option Addr) (c1 : Nat) (b : List Int) (size : Int) (w : World) (hno : ¬ (sizeF v u s l t ty c size ≠ 0 ∧ (b.length : Int) = sizeF v u s l t ty c size)) :
  Calls Try.prog 14 #[.agg #[.int .i64 v, .int .i64 u, .int .i64 s, .int .i64 l, .int .i64 t, .int .i64 ty, .int .i64 c], .slice A1 b.length c1, .int .i64 size] w fun e w' => e = .returned (.tuple #[.agg #[.slice none 0 0, .slice none 0 0, .slice none 0 0, .string ⟨#[]⟩, .int .i64 0], .bool false]) ∧ Below w.heap.size w w' := by
 have HSZ := Aside0.mk (fun W => size_calls v u s l t ty c size W)
 generalize sizeF v u s l t ty c size = n at *
 go_enter Try.func14, Try.ntmps14
 go_wp2_with (first
  | ((with_reducible refine gate_dst (N := 3) rfl ?_); refine box_event ?hg (N := 3) ?hd (cs := #[.int .i64 v, .int .i64 u, .int .i64 s, .int .i64 l, .int .i64 t, .int .i64 ty, .int .i64 c]) (t := 28) ?hr ?_; (case hd => rfl); (case hg => rfl); (case hr => first | (go_simp; done) | (go_simp; rfl)); intro hb hgW w1 hbox hb1; have HH := Aside0.mk hbox; have HB1 := Aside0.mk hb1; have HO1 : Aside0 (hb = w.heap.size) := ⟨hgW⟩; clear hb1 hbox hgW)
  | ((with_reducible refine gate_dst (N := 6) rfl ?_); refine box_event ?hg (N := 6) ?hd (cs := zoneC (.slice none 0 0) (.slice none 0 0) (.slice none 0 0) 0) (t := 26) ?hr ?_; (case hd => rfl); (case hg => rfl); (case hr => first | (go_simp; done) | (go_simp; rfl)); intro ob hgW w2 hbox hb2; have HO := Aside0.mk hbox; have HH2 := Aside0.mk (blk_below HH.out hb2); have HB2 := Aside0.mk (below_step HB1.out hb2); have HO2 : Aside0 (ob = w1.heap.size) := ⟨hgW⟩; have HO3 := Aside0.mk (blk_lt HH.out); clear hb2 hbox hgW HH HB1; obtain ⟨hx0, hx1, hx2, hx3, hx4, hx5, hx6⟩ := cells7 HH2.out))
 refine (HSZ.out _).mono ?_
 rintro e w3 ⟨rfl, hb3⟩
 have HH3 := Aside0.mk (blk_below HH2.out hb3)
 have HO3b := Aside0.mk (blk_below HO.out hb3)
 have HB3 := Aside0.mk (below_step HB2.out hb3)
 have HOB : Aside0 (w.heap.size ≤ ob) := ⟨by have h1 := HO1.out; have h2 := HO2.out; have h3 := HO3.out; omega⟩
 clear hb3 HH2 HO HB2 hx0 hx1 hx2 hx3 hx4 hx5 hx6 HSZ HO1 HO2 HO3 HH3
 obtain ⟨ho0, ho1, ho2, ho3, ho4⟩ := zone_cells HO3b.out
 have f0 := blk_frozen HO3b.out 0
 have f1 := blk_frozen HO3b.out 1
 have f2 := blk_frozen HO3b.out 2
 have f3 := blk_frozen HO3b.out 3
 have f4 := blk_frozen HO3b.out 4
 by_cases h0 : n = 0
 ·have bz : (n == 0) = true := beq_iff_eq.2 h0
  clear hno
  go_wp2
  as_aux_lemma => exact bodyPost_ret (results_ct rfl _ _ ob 26 #[.slice none 0 0, .slice none 0 0, .slice none 0 0, .string ⟨#[]⟩, .int .i64 0] (0, 0) _ rfl (set5_blk HO3b.out _ _ _ _ _) Try.underlying26 rfl (by kernel_rfl)) rfl ⟨rfl, set5_below HB3.out HOB.out _ _ _ _ _⟩
 ·have bz : (n == 0) = false := beq_eq_false_iff_ne.2 h0
  have bq : ((b.length : Int) != n) = true := bne_iff_ne.2 (fun h => hno ⟨h0, h⟩)
  clear hno
  go_wp2
  as_aux_lemma => exact bodyPost_ret (results_ct rfl _ _ ob 26 #[.slice none 0 0, .slice none 0 0, .slice none 0 0, .string ⟨#[]⟩, .int .i64 0] (0, 0) _ rfl (set5_blk HO3b.out _ _ _ _ _) Try.underlying26 rfl (by kernel_rfl)) rfl ⟨rfl, set5_below HB3.out HOB.out _ _ _ _ _⟩
def decF (v u s l t ty c : Int) (b : List Int) (size : Int) : Option (List S46 × List S48 × List S50 × ByteArray × Int × Bool) :=
 match decide (b.length ≤ 1000000) with
 | true => some (decN v u s l t ty c b size)
 | false => none
theorem decode_is (v u s l t ty c : Int) (A1 : Option Addr) (c1 : Nat) (b : List Int) (size : Int) (r1 : List S46) (r2 : List S48) (r3 : List S50) (r4 : ByteArray) (r5 : Int) (r6 : Bool) (w : World) (hr1 : Kd.C (Kd.int .u8) w A1 b.length b) (_ : b.length ≤ c1) (h : decF v u s l t ty c b size = some (r1, r2, r3, r4, r5, r6)) :
  Calls Try.prog 14 #[.agg #[.int .i64 v, .int .i64 u, .int .i64 s, .int .i64 l, .int .i64 t, .int .i64 ty, .int .i64 c], .slice A1 b.length c1, .int .i64 size] w fun e w' => ∃ v0_ v1_ v2_ : Value, e = .returned (.tuple #[.agg #[v0_, v1_, v2_, .string r4, .int .i64 r5], .bool r6]) ∧ Kd.R k46 46 w' w.heap.size (fun _ => True) v0_ r1 ∧ Kd.R k48 48 w' w.heap.size (fun _ => True) v1_ r2 ∧ Kd.R k50 50 w' w.heap.size (fun _ => True) v2_ r3 ∧ Below w.heap.size w w' := by
 have hd : decN v u s l t ty c b size = (r1, r2, r3, r4, r5, r6) ∧ b.length ≤ 1000000 := by
  unfold decF at h
  split at h
  ·rename_i hl; exact ⟨Option.some.inj h, of_decide_eq_true hl⟩
  ·exact absurd h (by simp)
 by_cases hg : sizeF v u s l t ty c size ≠ 0 ∧ (b.length : Int) = sizeF v u s l t ty c size
 ·have hR : rightS v u s l t ty c = true := by
   cases hr : rightS v u s l t ty c with
   | true => rfl
   | false => exact absurd (by unfold sizeF; rw [hr]) hg.1
  have h := decode_yes v u s l t ty c A1 c1 b size w hr1 hd.2 hR hg.2.symm (by have := hg.1; omega)
  rw [hd.1] at h
  exact h
 ·have hn : decN v u s l t ty c b size = ([], [], [], ⟨#[]⟩, 0, false) := by unfold decN; rw [decide_eq_false hg]
  rw [hn] at hd
  obtain ⟨hd, _⟩ := hd
  injection hd with h1 hd; injection hd with h2 hd; injection hd with h3 hd; injection hd with h4 hd; injection hd with h5 h6
  subst h1 h2 h3 h4 h5 h6
  exact (decode_no v u s l t ty c A1 c1 b size w hg).mono fun e w' ⟨he, hb⟩ => ⟨_, _, _, he, Kd.R_nil _ _ _ _ _, Kd.R_nil _ _ _ _ _, Kd.R_nil _ _ _ _ _, hb⟩
end Go.Proofs.Ytpgjcnjojfehjaa.Bk
namespace Go.Proofs.Ytpgjcnjojfehjaa.Bk
open Oct Kx Ab
def R64 (n : Int) : Prop := -9223372036854775808 ≤ n ∧ n ≤ 9223372036854775807
end Go.Proofs.Ytpgjcnjojfehjaa.Bk
namespace Go.Proofs.Ytpgjcnjojfehjaa.Bk
open Go.RowKit Go.Proofs.YtpgjcnjojfehjaaW.PrintWords Go.Proofs.YtpgjcnjojfehjaaW.PrintLast Go.Proofs.YtpgjcnjojfehjaaW.PrintMore Oct Kx Ab
def RZ (ty : List S46) (tr : List S48) (lp : List S50) : Prop := (∀ t ∈ ty, R64 t.f0) ∧ (∀ t ∈ tr, R64 t.f0 ∧ R64 t.f1) ∧ ∀ t ∈ lp, R64 t.f0 ∧ R64 t.f1
end Go.Proofs.Ytpgjcnjojfehjaa.Bk
namespace Go.Proofs.Ytpgjcnjojfehjaa.Bk
open Go.RowKit Go.Proofs.YtpgjcnjojfehjaaW.PrintWords Go.Proofs.YtpgjcnjojfehjaaW.PrintLast Go.Proofs.YtpgjcnjojfehjaaW.PrintMore Ab Kx Oct AbT
def encF (ty : List S46) (tr : List S48) (lp : List S50) (_foot : ByteArray) (ver size : Int) : Option (List Int × Bool) := match okZ ty tr lp with
 | true => some (encN ty tr lp ver size)
 | false => none
set_option maxHeartbeats 1000000 in
set_option maxRecDepth 100000 in
theorem encode_no (A0 : Option Addr) (c0 : Nat) (ty : List S46) (A1 : Option Addr) (c1 : Nat) (tr : List S48) (A2 : Option Addr) (c2 : Nat) (lp : List S50) (foot : ByteArray) (ver size : Int) (w : World)
  (hr0 : Kd.C k46 w A0 ty.length ty) (hc0 : ty.length ≤ c0) (hr1 : Kd.C k48 w A1 tr.length tr) (hc1 : tr.length ≤ c1) (hr2 : Kd.C k50 w A2 lp.length lp) (hc2 : lp.length ≤ c2)
  (ho : okZ ty tr lp = true) (hno : (countN ty tr lp ver).2.2.2.2.2.2.2 = false ∨ (size ≠ 4 ∧ size ≠ 8)) :
  Calls Try.prog 12 #[.agg #[.slice A0 ty.length c0, .slice A1 tr.length c1, .slice A2 lp.length c2, .string foot, .int .i64 ver], .int .i64 size] w fun e w' => e = .returned (.tuple #[.slice none 0 0, .bool false]) ∧ Below w.heap.size w w' := by
 obtain ⟨n1, n2, n3, n4, n5, n6, n7, n8, hn⟩ : ∃ n1 n2 n3 n4 n5 n6 n7 n8, countN ty tr lp ver = (n1, n2, n3, n4, n5, n6, n7, n8) := ⟨_, _, _, _, _, _, _, _, rfl⟩
 have hno' : n8 = false ∨ (size ≠ 4 ∧ size ≠ 8) := by rw [hn] at hno; exact hno
 have HCT := Aside0.mk (fun W h0 h1 h2 => count_is A0 c0 ty A1 c1 tr A2 c2 lp foot ver n1 n2 n3 n4 n5 n6 n7 n8 W h0 hc0 h1 hc1 h2 hc2 (show countF ty tr lp foot ver = _ by unfold countF; rw [ho]; exact congrArg some hn))
 have HR0 := Aside0.mk hr0
 have HR1 := Aside0.mk hr1
 have HR2 := Aside0.mk hr2
 clear hr0 hr1 hr2 hn ho hno
 cases n8 with
 | false =>
  clear hno'
  go_enter Try.func12, Try.ntmps12
  go_wp2_with (first
   | ((with_reducible refine gate_dst (N := 2) rfl ?_); refine box_event ?hg (N := 2) ?hd (cs := #[.slice A0 ty.length c0, .slice A1 tr.length c1, .slice A2 lp.length c2, .string foot, .int .i64 ver]) (t := 26) ?hr ?_; (case hd => rfl); (case hg => rfl); (case hr => first | (go_simp; done) | (go_simp; rfl)); intro z hgW w1 hbox hb1; have HB1 := Aside0.mk hb1; obtain ⟨hz0, hz1, hz2, hz3, hz4⟩ := zone_cells hbox; clear hb1 hbox hgW))
  refine (HCT.out _ (Kd.C_below HR0.out HB1.out) (Kd.C_below HR1.out HB1.out) (Kd.C_below HR2.out HB1.out)).mono ?_
  rintro e w2 ⟨rfl, hb2⟩
  have HB2 := Aside0.mk (below_step HB1.out hb2)
  clear HB1 hb2 HCT hz0 hz1 hz2 hz3 hz4
  go_wp2
  go_ret2
  exact ⟨rfl, below_alloc HB2.out _⟩
 | true =>
  obtain ⟨h4, h8⟩ : size ≠ 4 ∧ size ≠ 8 := by rcases hno' with h | h; · cases h
                                              ·exact h
  have b4 : (size != 4) = true := bne_iff_ne.2 h4
  have b8 : (size != 8) = true := bne_iff_ne.2 h8
  clear hno' h4 h8
  go_enter Try.func12, Try.ntmps12
  go_wp2_with (first
   | ((with_reducible refine gate_dst (N := 2) rfl ?_); refine box_event ?hg (N := 2) ?hd (cs := #[.slice A0 ty.length c0, .slice A1 tr.length c1, .slice A2 lp.length c2, .string foot, .int .i64 ver]) (t := 26) ?hr ?_; (case hd => rfl); (case hg => rfl); (case hr => first | (go_simp; done) | (go_simp; rfl)); intro z hgW w1 hbox hb1; have HB1 := Aside0.mk hb1; obtain ⟨hz0, hz1, hz2, hz3, hz4⟩ := zone_cells hbox; clear hb1 hbox hgW))
  refine (HCT.out _ (Kd.C_below HR0.out HB1.out) (Kd.C_below HR1.out HB1.out) (Kd.C_below HR2.out HB1.out)).mono ?_
  rintro e w2 ⟨rfl, hb2⟩
  have HB2 := Aside0.mk (below_step HB1.out hb2)
  clear HB1 hb2 HCT hz0 hz1 hz2 hz3 hz4
  go_wp2
  go_ret2
  exact ⟨rfl, below_alloc HB2.out _⟩
theorem encN_no {ty : List S46} {tr : List S48} {lp : List S50} {ver size : Int} (h : (countN ty tr lp ver).2.2.2.2.2.2.2 = false ∨ (size ≠ 4 ∧ size ≠ 8)) : encN ty tr lp ver size = ([], false) := by
 have e : encG ty tr lp ver size = false := by
  unfold encG
  rcases h with h | ⟨h4, h8⟩
  ·rw [h]; rfl
  ·rw [decide_eq_false (by omega), Bool.and_false]; rfl
 unfold encN
 rw [e]
theorem encode_is (A0_0 : Option Addr) (c0_0 : Nat) (l0_0 : List S46) (A0_1 : Option Addr) (c0_1 : Nat) (l0_1 : List S48) (A0_2 : Option Addr) (c0_2 : Nat) (l0_2 : List S50) (a0_3 : ByteArray) (a0_4 a1 : Int) (r1 : List Int) (r2 : Bool) (w : World)
  (hr0_0 : Kd.C k46 w A0_0 l0_0.length l0_0) (hc0_0 : l0_0.length ≤ c0_0) (hr0_1 : Kd.C k48 w A0_1 l0_1.length l0_1) (hc0_1 : l0_1.length ≤ c0_1) (hr0_2 : Kd.C k50 w A0_2 l0_2.length l0_2) (hc0_2 : l0_2.length ≤ c0_2) (h : encF l0_0 l0_1 l0_2 a0_3 a0_4 a1 = some (r1, r2)) :
  Calls Try.prog 12 #[.agg #[.slice A0_0 l0_0.length c0_0, .slice A0_1 l0_1.length c0_1, .slice A0_2 l0_2.length c0_2, .string a0_3, .int .i64 a0_4], .int .i64 a1] w fun e w' => ∃ v0_ : Value, e = .returned (.tuple #[v0_, .bool r2]) ∧ Kd.R (Kd.int .u8) 5 w' w.heap.size (fun _ => True) v0_ r1 ∧ Below w.heap.size w w' := by
 unfold encF at h
 cases ho : okZ l0_0 l0_1 l0_2 with
 | false => rw [ho] at h; cases h
 | true =>
  rw [ho] at h
  have h2 : encN l0_0 l0_1 l0_2 a0_4 a1 = (r1, r2) := Option.some.inj h
  by_cases hno : (countN l0_0 l0_1 l0_2 a0_4).2.2.2.2.2.2.2 = false ∨ (a1 ≠ 4 ∧ a1 ≠ 8)
  ·rw [encN_no hno] at h2
   injection h2 with h3 h4
   subst h3 h4
   exact (encode_no A0_0 c0_0 l0_0 A0_1 c0_1 l0_1 A0_2 c0_2 l0_2 a0_3 a0_4 a1 w hr0_0 hc0_0 hr0_1 hc0_1 hr0_2 hc0_2 ho hno).mono fun e w' ⟨he, hb⟩ => ⟨_, he, Kd.R_nil _ _ _ _ _, hb⟩
  ·have hc : (countN l0_0 l0_1 l0_2 a0_4).2.2.2.2.2.2.2 = true := by
    cases hc : (countN l0_0 l0_1 l0_2 a0_4).2.2.2.2.2.2.2 with
    | true => rfl
    | false => exact absurd (Or.inl hc) hno
   have h48 : a1 = 4 ∨ a1 = 8 := by
    by_cases h4 : a1 = 4
    ·exact .inl h4
    ·by_cases h8 : a1 = 8
     ·exact .inr h8
     ·exact absurd (Or.inr ⟨h4, h8⟩) hno
   rcases h48 with rfl | rfl
   ·have h5 := encode_4 A0_0 c0_0 l0_0 A0_1 c0_1 l0_1 A0_2 c0_2 l0_2 a0_3 a0_4 w hr0_0 hc0_0 hr0_1 hc0_1 hr0_2 hc0_2 ho hc
    rw [h2] at h5
    exact h5
   ·have h5 := encode_8 A0_0 c0_0 l0_0 A0_1 c0_1 l0_1 A0_2 c0_2 l0_2 a0_3 a0_4 w hr0_0 hc0_0 hr0_1 hc0_1 hr0_2 hc0_2 ho hc
    rw [h2] at h5
    exact h5
end Go.Proofs.Ytpgjcnjojfehjaa.Bk
namespace Go.Proofs.Ytpgjcnjojfehjaa.PBlBack
open Go.RowKit Go.Proofs.YtpgjcnjojfehjaaW.PrintWords Go.Proofs.YtpgjcnjojfehjaaW.PrintLast Go.Proofs.YtpgjcnjojfehjaaW.PrintMore Kx
attribute [local go_sem] max2_int min2_int max_two min_two max_three min_three max_four min_four   -- for this text's walks alone
set_option linter.unusedVariables false
set_option linter.unusedSimpArgs false
theorem eqA46 (d : Nat) (w : World) (x0 y0 : Int) (x1 y1 : Bool) (x2 y2 : ByteArray) :
  (Op.equalIn (d + 2) 46 (.agg #[.int .i64 x0, .bool x1, .string x2]) (.agg #[.int .i64 y0, .bool y1, .string y2])).run Try.prog w = .ok (x0 == y0 && (x1 == y1 && (x2.toList == y2.toList))) w := by
 refine eqA_of Try.underlying46 (by kernel_rfl) ?_
 refine eqf_cons (by rfl) (by go_simp; rfl) (by go_simp; rfl) (by go_simp) ?_
 refine eqf_cons (by rfl) (by go_simp; rfl) (by go_simp; rfl) (by go_simp) ?_
 exact eqf_last (by rfl) (by go_simp; rfl) (by go_simp; rfl) (by go_simp)
end Go.Proofs.Ytpgjcnjojfehjaa.PBlBack
namespace Go.Proofs.Ytpgjcnjojfehjaa.PBlBack
open Go.RowKit Go.Proofs.YtpgjcnjojfehjaaW.PrintWords Go.Proofs.YtpgjcnjojfehjaaW.PrintLast Go.Proofs.YtpgjcnjojfehjaaW.PrintMore Kx
attribute [local go_sem] max2_int min2_int max_two min_two max_three min_three max_four min_four   -- for this text's walks alone
set_option linter.unusedVariables false
set_option linter.unusedSimpArgs false
theorem eqA48 (d : Nat) (w : World) (x0 y0 : Int) (x1 y1 : Int) :
  (Op.equalIn (d + 2) 48 (.agg #[.int .i64 x0, .int .i64 x1]) (.agg #[.int .i64 y0, .int .i64 y1])).run Try.prog w = .ok (x0 == y0 && (x1 == y1)) w := by
 refine eqA_of Try.underlying48 (by kernel_rfl) ?_
 refine eqf_cons (by rfl) (by go_simp; rfl) (by go_simp; rfl) (by go_simp) ?_
 exact eqf_last (by rfl) (by go_simp; rfl) (by go_simp; rfl) (by go_simp)
end Go.Proofs.Ytpgjcnjojfehjaa.PBlBack
namespace Go.Proofs.Ytpgjcnjojfehjaa.PBlBack
open Go.RowKit Go.Proofs.YtpgjcnjojfehjaaW.PrintWords Go.Proofs.YtpgjcnjojfehjaaW.PrintLast Go.Proofs.YtpgjcnjojfehjaaW.PrintMore Kx
attribute [local go_sem] max2_int min2_int max_two min_two max_three min_three max_four min_four   -- for this text's walks alone
set_option linter.unusedVariables false
set_option linter.unusedSimpArgs false
theorem eqA50 (d : Nat) (w : World) (x0 y0 : Int) (x1 y1 : Int) :
  (Op.equalIn (d + 2) 50 (.agg #[.int .i64 x0, .int .i64 x1]) (.agg #[.int .i64 y0, .int .i64 y1])).run Try.prog w = .ok (x0 == y0 && (x1 == y1)) w := by
 refine eqA_of Try.underlying50 (by kernel_rfl) ?_
 refine eqf_cons (by rfl) (by go_simp; rfl) (by go_simp; rfl) (by go_simp) ?_
 exact eqf_last (by rfl) (by go_simp; rfl) (by go_simp; rfl) (by go_simp)
end Go.Proofs.Ytpgjcnjojfehjaa.PBlBack
namespace Go.Proofs.Ytpgjcnjojfehjaa.PBlBack
open Go.RowKit Go.Proofs.YtpgjcnjojfehjaaW.PrintWords Go.Proofs.YtpgjcnjojfehjaaW.PrintLast Go.Proofs.YtpgjcnjojfehjaaW.PrintMore Kx
attribute [local go_sem] max2_int min2_int max_two min_two max_three min_three max_four min_four   -- for this text's walks alone
set_option linter.unusedVariables false
set_option linter.unusedSimpArgs false
attribute [local go_sem high] eqA50
mutual
def epactlaw16_Few.l0 : Nat → Int → List (S46) → List (S48) → List (S50) → ByteArray → Int → Option (Bool)
 | 0, _, _, _, _, _, _ => none
 | k + 1, x3, x102000, x102001, x102002, x102003, x102004 => if x3 < (x102000.length : Int) then (epactlaw16_Few.j1 k x3 (decide (x3 < 100)) x102000 x102001 x102002 x102003 x102004) else (epactlaw16_Few.j1 k x3 false x102000 x102001 x102002 x102003 x102004)
def epactlaw16_Few.j1 : Nat → Int → Bool → List (S46) → List (S48) → List (S50) → ByteArray → Int → Option (Bool)
 | 0, _, _, _, _, _, _, _ => none
 | k + 1, x3, x12, x102000, x102001, x102002, x102003, x102004 => if x12 = true then (if 0 ≤ x3 then (if x3 < (x102000.length : Int) then (if (((rd_T46 x102000 x3).f2).size : Int) > 100 then (some false) else (epactlaw16_Few.l0 k (wrap64 (x3 + 1)) x102000 x102001 x102002 x102003 x102004)) else (none)) else (none)) else (if (x102000.length : Int) ≤ 100 then (if (x102001.length : Int) ≤ 300 then (if (x102002.length : Int) ≤ 300 then (some (decide ((x102003.size : Int) ≤ 200))) else (some false)) else (some false)) else (some false))
end
def epactlaw16_Few.f (k : Nat) (l0_0 : List (S46)) (l0_1 : List (S48)) (l0_2 : List (S50)) (a0_3 : ByteArray) (a0_4 : Int) : Option (Bool) := epactlaw16_Few.l0 k 0 l0_0 l0_1 l0_2 a0_3 a0_4
theorem epactlaw16_Few.mono_l : ∀ k, (∀ y0 y1 y2 y3 y4 y5, LeO (epactlaw16_Few.l0 k y0 y1 y2 y3 y4 y5) (epactlaw16_Few.l0 (k + 1) y0 y1 y2 y3 y4 y5)) ∧ (∀ y0 y1 y2 y3 y4 y5 y6, LeO (epactlaw16_Few.j1 k y0 y1 y2 y3 y4 y5 y6) (epactlaw16_Few.j1 (k + 1) y0 y1 y2 y3 y4 y5 y6))
 | 0 => ⟨fun _ _ _ _ _ _ r h => by simp [epactlaw16_Few.l0] at h, fun _ _ _ _ _ _ _ r h => by simp [epactlaw16_Few.j1] at h⟩
 | k + 1 => by
  obtain ⟨ih0, ih1⟩ := epactlaw16_Few.mono_l k
  refine ⟨?_, ?_⟩
  ·intro y0 y1 y2 y3 y4 y5
   unfold epactlaw16_Few.l0
   repeat' first
   | (with_reducible exact ih0 _ _ _ _ _ _)
   | (with_reducible exact ih1 _ _ _ _ _ _ _)
   | (with_reducible exact LeO.refl _)
   | (with_reducible exact LeO.none _)
   | (with_reducible refine LeO.ite ?_ ?_)
   | (with_reducible refine LeO.bind ?_ (fun _ => ?_))
   | exact ih0 _ _ _ _ _ _
   | exact ih1 _ _ _ _ _ _ _
   | exact LeO.none _
   | refine LeO.ite ?_ ?_
   | refine LeO.bind ?_ (fun _ => ?_)
  ·intro y0 y1 y2 y3 y4 y5 y6
   unfold epactlaw16_Few.j1
   repeat' first
   | (with_reducible exact ih0 _ _ _ _ _ _)
   | (with_reducible exact ih1 _ _ _ _ _ _ _)
   | (with_reducible exact LeO.refl _)
   | (with_reducible exact LeO.none _)
   | (with_reducible refine LeO.ite ?_ ?_)
   | (with_reducible refine LeO.bind ?_ (fun _ => ?_))
   | exact ih0 _ _ _ _ _ _
   | exact ih1 _ _ _ _ _ _ _
   | exact LeO.none _
   | refine LeO.ite ?_ ?_
   | refine LeO.bind ?_ (fun _ => ?_)
theorem epactlaw16_Few.mono : ∀ a0 a1 a2 a3 a4 k, LeO (epactlaw16_Few.f k a0 a1 a2 a3 a4) (epactlaw16_Few.f (k + 1) a0 a1 a2 a3 a4) := by
 intro a0 a1 a2 a3 a4 k
 obtain ⟨ih0, ih1⟩ := epactlaw16_Few.mono_l k
 unfold epactlaw16_Few.f
 repeat' first
   | (with_reducible exact ih0 _ _ _ _ _ _)
   | (with_reducible exact ih1 _ _ _ _ _ _ _)
   | (with_reducible exact LeO.refl _)
   | (with_reducible exact LeO.none _)
   | (with_reducible refine LeO.ite ?_ ?_)
   | (with_reducible refine LeO.bind ?_ (fun _ => ?_))
   | exact ih0 _ _ _ _ _ _
   | exact ih1 _ _ _ _ _ _ _
   | exact LeO.none _
   | refine LeO.ite ?_ ?_
   | refine LeO.bind ?_ (fun _ => ?_)
set_option maxHeartbeats 8000000 in
set_option maxRecDepth 100000 in
theorem epactlaw16_Few.calls (k : Nat) (A0_0 : Option Addr) (c0_0 : Nat) (l0_0 : List (S46)) (A0_1 : Option Addr) (c0_1 : Nat) (l0_1 : List (S48)) (A0_2 : Option Addr) (c0_2 : Nat) (l0_2 : List (S50)) (a0_3 : ByteArray) (a0_4 : Int) (r : Bool) (w : World) (hr0_0 : Kd.C k46 w A0_0 l0_0.length l0_0) (hc0_0 : l0_0.length ≤ c0_0) (hr0_1 : Kd.C k48 w A0_1 l0_1.length l0_1) (hc0_1 : l0_1.length ≤ c0_1) (hr0_2 : Kd.C k50 w A0_2 l0_2.length l0_2) (hc0_2 : l0_2.length ≤ c0_2) (h : epactlaw16_Few.f k l0_0 l0_1 l0_2 a0_3 a0_4 = some r) :
  Calls Try.prog 9 #[.agg #[.slice A0_0 l0_0.length c0_0, .slice A0_1 l0_1.length c0_1, .slice A0_2 l0_2.length c0_2, .string a0_3, .int .i64 a0_4]] w fun e w' => e = .returned (.bool r) ∧ Below w.heap.size w w' := by
 have hu26 := Try.underlying26
 have HR0_0 := Aside0.mk hr0_0
 have HC0_0 := Aside0.mk hc0_0
 clear hr0_0 hc0_0
 have HR0_1 := Aside0.mk hr0_1
 have HC0_1 := Aside0.mk hc0_1
 clear hr0_1 hc0_1
 have HR0_2 := Aside0.mk hr0_2
 have HC0_2 := Aside0.mk hc0_2
 clear hr0_2 hc0_2
 have HB := Aside0.mk (Below.refl w.heap.size w)
 have H : (epactlaw16_Few.l0 k 0 l0_0 l0_1 l0_2 a0_3 a0_4) = some r := h
 clear h
 have H' := Aside0.mk H
 clear H
 go_enter Try.func9, Try.ntmps9
 go_wp2_with (first | ((with_reducible refine gate_dst (N := 1) rfl ?_); (try (refine gate_guard (by rfl) ?_; dsimp only)); refine box_event ?hg (N := 1) ?hd (cs := #[.slice A0_0 l0_0.length c0_0, .slice A0_1 l0_1.length c0_1, .slice A0_2 l0_2.length c0_2, .string a0_3, .int .i64 a0_4]) (t := 26) ?hr ?_; (case hd => rfl); (case hg => rfl); (case hr => first | (go_simp; done) | (go_simp; rfl)); intro gb101 hg w2 hbox hb; have n0_ := Aside0.mk (below_step (by repeat (first | (with_reducible first | exact HB.out | apply below_alloc | apply pw_below_drewN | apply below_drew1) | exact HB.out)) hb); have n1_ := Aside0.mk (hbox); have n2_ := Aside0.mk ((by rw [hg]; exact (below_size (by repeat (first | (with_reducible first | exact HB.out | apply below_alloc | apply pw_below_drewN | apply below_drew1) | exact HB.out))) : w.heap.size ≤ gb101)); have n3_ := Aside0.mk ((by rw [hg]; exact (below_size (by repeat (first | (with_reducible first | exact HB.out | apply below_alloc | apply pw_below_drewN | apply below_drew1) | exact HB.out))) : w.heap.size ≤ gb101)); clear HB; have HB := n0_; have BK101 := n1_; have GW101 := n2_; have GE101 := n3_; clear n0_ n1_ n2_ n3_; clear hb hbox hg))
 go_loopg [3] k (fun kq v3 w' => ∃ (x3_1 : Int), v3 = .int .i64 x3_1 ∧ Aside0 (epactlaw16_Few.l0 kq x3_1 l0_0 l0_1 l0_2 a0_3 a0_4 = some r) ∧ Aside0 (kq ≤ k) ∧ Aside0 (w'.heap[gb101]? = some (.cells #[(.slice A0_0 l0_0.length c0_0), (.slice A0_1 l0_1.length c0_1), (.slice A0_2 l0_2.length c0_2), .string a0_3, .int .i64 a0_4] 26 (0, 0))) ∧ Aside0 (Below w.heap.size w w'))
 case atStart => exact ⟨(0), (by first | rfl | (simp; done) | (simp [*]; done)), H', ⟨Nat.le_refl _⟩, ⟨by (with_reducible repeat (first | refine blk_drewN ?_ _ | refine blk_drew ?_ | refine blk_alloc ?_ _)); exact BK101.out⟩, ⟨by repeat (first | (with_reducible first | exact HB.out | apply below_alloc | apply pw_below_drewN | apply below_drew1 | refine below_set ?_ GE101.out) | exact HB.out)⟩⟩
 case round =>
  clear H'
  try clear p2
  obtain ⟨x3_1, rfl, HA, HK1, BK101, HB⟩ := hrel
  cases gk with
  | zero => exact absurd HA.out (by simp [epactlaw16_Few.l0])
  | succ k1 =>
   have H := HA.out
   clear HA
   simp only [epactlaw16_Few.l0] at H
   have HC3 := Aside0.mk H
   clear H
   go_upto_region 2 with (fail)
   go_cut [12] (fun v12 wc => ∃ (kq : Nat) (x12_2 : Bool), v12 = .bool x12_2 ∧ Aside0 (epactlaw16_Few.j1 kq x3_1 x12_2 l0_0 l0_1 l0_2 a0_3 a0_4 = some r) ∧ Aside0 (kq ≤ k1) ∧ Aside0 (wc.heap[gb101]? = some (.cells #[(.slice A0_0 l0_0.length c0_0), (.slice A0_1 l0_1.length c0_1), (.slice A0_2 l0_2.length c0_2), .string a0_3, .int .i64 a0_4] 26 (0, 0))) ∧ Aside0 (Below w.heap.size w wc))
   case first =>
    have H := HC3.out
    clear HC3
    by_cases c4 : x3_1 < (l0_0.length : Int)
    ·rw [if_pos c4] at H
     have c4b0 : decide (x3_1 < (l0_0.length : Int)) = true := decide_eq_true c4
     clear c4
     (first | rw [c4b0] | (simp only [i64_w, i32_w]; rw [c4b0]) | skip)
     have H' := Aside0.mk H
     clear H
     have hcz5_0 : wr.cell? ⟨gb101, 0, none⟩ = some (.slice A0_0 l0_0.length c0_0) := (blk_cell BK101.out 0).trans rfl
     have hcz5_1 : wr.cell? ⟨gb101, 1, none⟩ = some (.slice A0_1 l0_1.length c0_1) := (blk_cell BK101.out 1).trans rfl
     have hcz5_2 : wr.cell? ⟨gb101, 2, none⟩ = some (.slice A0_2 l0_2.length c0_2) := (blk_cell BK101.out 2).trans rfl
     have hcz5_3 : wr.cell? ⟨gb101, 3, none⟩ = some (.string a0_3) := (blk_cell BK101.out 3).trans rfl
     have hcz5_4 : wr.cell? ⟨gb101, 4, none⟩ = some (.int .i64 a0_4) := (blk_cell BK101.out 4).trans rfl
     have hfz5_0 := blk_frozen BK101.out 0
     have hfz5_1 := blk_frozen BK101.out 1
     have hfz5_2 := blk_frozen BK101.out 2
     have hfz5_3 := blk_frozen BK101.out 3
     have hfz5_4 := blk_frozen BK101.out 4
     go_wp2
     go_meet
     case rel => exact ⟨_, (decide (x3_1 < 100)), (by first | rfl | (simp; done) | (simp [*]; done)), H', ⟨by have := HK1.out; first | omega | exact Nat.le_refl _⟩, ⟨by (with_reducible repeat (first | refine blk_drewN ?_ _ | refine blk_drew ?_ | refine blk_alloc ?_ _)); exact BK101.out⟩, ⟨by repeat (first | (with_reducible first | exact HB.out | apply below_alloc | apply pw_below_drewN | apply below_drew1 | refine below_set ?_ GE101.out) | exact HB.out)⟩⟩
    ·rw [if_neg c4] at H
     have c4b0 : decide (x3_1 < (l0_0.length : Int)) = false := decide_eq_false c4
     clear c4
     (first | rw [c4b0] | (simp only [i64_w, i32_w]; rw [c4b0]) | skip)
     have H' := Aside0.mk H
     clear H
     have hcz6_0 : wr.cell? ⟨gb101, 0, none⟩ = some (.slice A0_0 l0_0.length c0_0) := (blk_cell BK101.out 0).trans rfl
     have hcz6_1 : wr.cell? ⟨gb101, 1, none⟩ = some (.slice A0_1 l0_1.length c0_1) := (blk_cell BK101.out 1).trans rfl
     have hcz6_2 : wr.cell? ⟨gb101, 2, none⟩ = some (.slice A0_2 l0_2.length c0_2) := (blk_cell BK101.out 2).trans rfl
     have hcz6_3 : wr.cell? ⟨gb101, 3, none⟩ = some (.string a0_3) := (blk_cell BK101.out 3).trans rfl
     have hcz6_4 : wr.cell? ⟨gb101, 4, none⟩ = some (.int .i64 a0_4) := (blk_cell BK101.out 4).trans rfl
     have hfz6_0 := blk_frozen BK101.out 0
     have hfz6_1 := blk_frozen BK101.out 1
     have hfz6_2 := blk_frozen BK101.out 2
     have hfz6_3 := blk_frozen BK101.out 3
     have hfz6_4 := blk_frozen BK101.out 4
     go_wp2
     go_meet
     case rel => exact ⟨_, (false), (by first | rfl | (simp; done) | (simp [*]; done)), H', ⟨by have := HK1.out; first | omega | exact Nat.le_refl _⟩, ⟨by (with_reducible repeat (first | refine blk_drewN ?_ _ | refine blk_drew ?_ | refine blk_alloc ?_ _)); exact BK101.out⟩, ⟨by repeat (first | (with_reducible first | exact HB.out | apply below_alloc | apply pw_below_drewN | apply below_drew1 | refine below_set ?_ GE101.out) | exact HB.out)⟩⟩
   case rest =>
    clear HC3
    try clear p2
    try clear c4
    try clear c4b0
    try clear hcz5_0
    try clear hcz5_1
    try clear hcz5_2
    try clear hcz5_3
    try clear hcz5_4
    try clear hcz6_0
    try clear hcz6_1
    try clear hcz6_2
    try clear hcz6_3
    try clear hcz6_4
    try clear hfz5_0
    try clear hfz5_1
    try clear hfz5_2
    try clear hfz5_3
    try clear hfz5_4
    try clear hfz6_0
    try clear hfz6_1
    try clear hfz6_2
    try clear hfz6_3
    try clear hfz6_4
    try clear p2
    obtain ⟨kq, x12_2, rfl, HA, HJ2, BK101, HB⟩ := hcut
    cases kq with
    | zero => exact absurd HA.out (by simp [epactlaw16_Few.j1])
    | succ kj2 =>
     have H := HA.out
     clear HA
     simp only [epactlaw16_Few.j1] at H
     by_cases c7 : x12_2 = true
     ·subst c7
      have H1 : (if 0 ≤ x3_1 then (if x3_1 < (l0_0.length : Int) then (if (((rd_T46 l0_0 x3_1).f2).size : Int) > 100 then (some false) else (epactlaw16_Few.l0 kj2 (wrap64 (x3_1 + 1)) l0_0 l0_1 l0_2 a0_3 a0_4)) else (none)) else (none)) = some r := by rw [if_pos rfl] at H; exact H
      clear H
      have H := H1
      clear H1
      by_cases c8 : 0 ≤ x3_1
      ·rw [if_pos c8] at H
       have c8b0 : decide (0 ≤ x3_1) = true := decide_eq_true c8
       clear c8
       by_cases c9 : x3_1 < (l0_0.length : Int)
       ·rw [if_pos c9] at H
        have c9b0 : decide (x3_1 < (l0_0.length : Int)) = true := decide_eq_true c9
        clear c9
        by_cases c10 : (((rd_T46 l0_0 x3_1).f2).size : Int) > 100
        ·rw [if_pos c10] at H
         have c10b0 : decide (100 < (((rd_T46 l0_0 x3_1).f2).size : Int)) = true := decide_eq_true c10
         have c10b1 : decide (100 < ((rd_T46 l0_0 x3_1).f2).size) = true := decide_eq_true (by omega)
         clear c10
         obtain rfl := Option.some.inj H
         have hcz11_0 : wc.cell? ⟨gb101, 0, none⟩ = some (.slice A0_0 l0_0.length c0_0) := (blk_cell BK101.out 0).trans rfl
         have hcz11_1 : wc.cell? ⟨gb101, 1, none⟩ = some (.slice A0_1 l0_1.length c0_1) := (blk_cell BK101.out 1).trans rfl
         have hcz11_2 : wc.cell? ⟨gb101, 2, none⟩ = some (.slice A0_2 l0_2.length c0_2) := (blk_cell BK101.out 2).trans rfl
         have hcz11_3 : wc.cell? ⟨gb101, 3, none⟩ = some (.string a0_3) := (blk_cell BK101.out 3).trans rfl
         have hcz11_4 : wc.cell? ⟨gb101, 4, none⟩ = some (.int .i64 a0_4) := (blk_cell BK101.out 4).trans rfl
         have hfz11_0 := blk_frozen BK101.out 0
         have hfz11_1 := blk_frozen BK101.out 1
         have hfz11_2 := blk_frozen BK101.out 2
         have hfz11_3 := blk_frozen BK101.out 3
         have hfz11_4 := blk_frozen BK101.out 4
         have p102 : 0 ≤ (x3_1 : Int) := of_decide_eq_true (by first | (with_reducible assumption) | assumption)
         have q102 : x3_1 < (l0_0.length : Int) := of_decide_eq_true (by first | (with_reducible assumption) | assumption)
         obtain ⟨ad102, e102, hx102_0, hx102_1, hx102_2⟩ := at_T46 HR0_0.out x3_1 p102 q102
         cases e102
         replace hx102_0 := (HB.out.cell (World.block_lt_of_cell? w _ hx102_0)).trans hx102_0
         replace hx102_1 := (HB.out.cell (World.block_lt_of_cell? w _ hx102_1)).trans hx102_1
         replace hx102_2 := (HB.out.cell (World.block_lt_of_cell? w _ hx102_2)).trans hx102_2
         replace p102 := eq_true p102
         replace q102 := eq_true q102
         go_wp2
         go_ret
         exact ⟨by first | rfl | (simp [errW_none, errW_some] <;> rfl) | (simp [*, errW_none, errW_some] <;> rfl), by repeat (first | (with_reducible first | exact HB.out | apply below_alloc | apply pw_below_drewN | apply below_drew1 | refine below_set ?_ GE101.out) | exact HB.out)⟩
        ·rw [if_neg c10] at H
         have c10b0 : decide (100 < (((rd_T46 l0_0 x3_1).f2).size : Int)) = false := decide_eq_false c10
         have c10b1 : decide (100 < ((rd_T46 l0_0 x3_1).f2).size) = false := decide_eq_false (by omega)
         clear c10
         have H' := Aside0.mk H
         clear H
         have hcz12_0 : wc.cell? ⟨gb101, 0, none⟩ = some (.slice A0_0 l0_0.length c0_0) := (blk_cell BK101.out 0).trans rfl
         have hcz12_1 : wc.cell? ⟨gb101, 1, none⟩ = some (.slice A0_1 l0_1.length c0_1) := (blk_cell BK101.out 1).trans rfl
         have hcz12_2 : wc.cell? ⟨gb101, 2, none⟩ = some (.slice A0_2 l0_2.length c0_2) := (blk_cell BK101.out 2).trans rfl
         have hcz12_3 : wc.cell? ⟨gb101, 3, none⟩ = some (.string a0_3) := (blk_cell BK101.out 3).trans rfl
         have hcz12_4 : wc.cell? ⟨gb101, 4, none⟩ = some (.int .i64 a0_4) := (blk_cell BK101.out 4).trans rfl
         have hfz12_0 := blk_frozen BK101.out 0
         have hfz12_1 := blk_frozen BK101.out 1
         have hfz12_2 := blk_frozen BK101.out 2
         have hfz12_3 := blk_frozen BK101.out 3
         have hfz12_4 := blk_frozen BK101.out 4
         have p102 : 0 ≤ (x3_1 : Int) := of_decide_eq_true (by first | (with_reducible assumption) | assumption)
         have q102 : x3_1 < (l0_0.length : Int) := of_decide_eq_true (by first | (with_reducible assumption) | assumption)
         obtain ⟨ad102, e102, hx102_0, hx102_1, hx102_2⟩ := at_T46 HR0_0.out x3_1 p102 q102
         cases e102
         replace hx102_0 := (HB.out.cell (World.block_lt_of_cell? w _ hx102_0)).trans hx102_0
         replace hx102_1 := (HB.out.cell (World.block_lt_of_cell? w _ hx102_1)).trans hx102_1
         replace hx102_2 := (HB.out.cell (World.block_lt_of_cell? w _ hx102_2)).trans hx102_2
         replace p102 := eq_true p102
         replace q102 := eq_true q102
         go_wp2
         go_roundg kj2
         case measure => have := HK1.out; have := HJ2.out; omega
         case rel => exact ⟨(wrap64 (x3_1 + 1)), (by first | rfl | (simp; done) | (simp [*]; done)), H', ⟨by have := HK1.out; have := HJ2.out; omega⟩, ⟨by (with_reducible repeat (first | refine blk_drewN ?_ _ | refine blk_drew ?_ | refine blk_alloc ?_ _)); exact BK101.out⟩, ⟨by repeat (first | (with_reducible first | exact HB.out | apply below_alloc | apply pw_below_drewN | apply below_drew1 | refine below_set ?_ GE101.out) | exact HB.out)⟩⟩
       ·rw [if_neg c9] at H
        exact absurd H (by simp)
      ·rw [if_neg c8] at H
       exact absurd H (by simp)
     ·replace c7 := Bool.eq_false_iff.mpr c7
      subst c7
      have H1 : (if (l0_0.length : Int) ≤ 100 then (if (l0_1.length : Int) ≤ 300 then (if (l0_2.length : Int) ≤ 300 then (some (decide ((a0_3.size : Int) ≤ 200))) else (some false)) else (some false)) else (some false)) = some r := by rw [if_neg (show ¬ (false = true) by decide)] at H; exact H
      clear H
      have H := H1
      clear H1
      by_cases c13 : (l0_0.length : Int) ≤ 100
      ·rw [if_pos c13] at H
       have c13b0 : decide ((l0_0.length : Int) ≤ 100) = true := decide_eq_true c13
       have c13b1 : decide (l0_0.length ≤ 100) = true := decide_eq_true (by omega)
       clear c13
       by_cases c14 : (l0_1.length : Int) ≤ 300
       ·rw [if_pos c14] at H
        have c14b0 : decide ((l0_1.length : Int) ≤ 300) = true := decide_eq_true c14
        have c14b1 : decide (l0_1.length ≤ 300) = true := decide_eq_true (by omega)
        clear c14
        by_cases c15 : (l0_2.length : Int) ≤ 300
        ·rw [if_pos c15] at H
         have c15b0 : decide ((l0_2.length : Int) ≤ 300) = true := decide_eq_true c15
         have c15b1 : decide (l0_2.length ≤ 300) = true := decide_eq_true (by omega)
         clear c15
         obtain rfl := Option.some.inj H
         have hcz16_0 : wc.cell? ⟨gb101, 0, none⟩ = some (.slice A0_0 l0_0.length c0_0) := (blk_cell BK101.out 0).trans rfl
         have hcz16_1 : wc.cell? ⟨gb101, 1, none⟩ = some (.slice A0_1 l0_1.length c0_1) := (blk_cell BK101.out 1).trans rfl
         have hcz16_2 : wc.cell? ⟨gb101, 2, none⟩ = some (.slice A0_2 l0_2.length c0_2) := (blk_cell BK101.out 2).trans rfl
         have hcz16_3 : wc.cell? ⟨gb101, 3, none⟩ = some (.string a0_3) := (blk_cell BK101.out 3).trans rfl
         have hcz16_4 : wc.cell? ⟨gb101, 4, none⟩ = some (.int .i64 a0_4) := (blk_cell BK101.out 4).trans rfl
         have hfz16_0 := blk_frozen BK101.out 0
         have hfz16_1 := blk_frozen BK101.out 1
         have hfz16_2 := blk_frozen BK101.out 2
         have hfz16_3 := blk_frozen BK101.out 3
         have hfz16_4 := blk_frozen BK101.out 4
         go_wp2
         go_ret
         exact ⟨by first | rfl | (simp [errW_none, errW_some] <;> rfl) | (simp [*, errW_none, errW_some] <;> rfl), by repeat (first | (with_reducible first | exact HB.out | apply below_alloc | apply pw_below_drewN | apply below_drew1 | refine below_set ?_ GE101.out) | exact HB.out)⟩
        ·rw [if_neg c15] at H
         have c15b0 : decide ((l0_2.length : Int) ≤ 300) = false := decide_eq_false c15
         have c15b1 : decide (l0_2.length ≤ 300) = false := decide_eq_false (by omega)
         clear c15
         obtain rfl := Option.some.inj H
         have hcz17_0 : wc.cell? ⟨gb101, 0, none⟩ = some (.slice A0_0 l0_0.length c0_0) := (blk_cell BK101.out 0).trans rfl
         have hcz17_1 : wc.cell? ⟨gb101, 1, none⟩ = some (.slice A0_1 l0_1.length c0_1) := (blk_cell BK101.out 1).trans rfl
         have hcz17_2 : wc.cell? ⟨gb101, 2, none⟩ = some (.slice A0_2 l0_2.length c0_2) := (blk_cell BK101.out 2).trans rfl
         have hcz17_3 : wc.cell? ⟨gb101, 3, none⟩ = some (.string a0_3) := (blk_cell BK101.out 3).trans rfl
         have hcz17_4 : wc.cell? ⟨gb101, 4, none⟩ = some (.int .i64 a0_4) := (blk_cell BK101.out 4).trans rfl
         have hfz17_0 := blk_frozen BK101.out 0
         have hfz17_1 := blk_frozen BK101.out 1
         have hfz17_2 := blk_frozen BK101.out 2
         have hfz17_3 := blk_frozen BK101.out 3
         have hfz17_4 := blk_frozen BK101.out 4
         go_wp2
         go_ret
         exact ⟨by first | rfl | (simp [errW_none, errW_some] <;> rfl) | (simp [*, errW_none, errW_some] <;> rfl), by repeat (first | (with_reducible first | exact HB.out | apply below_alloc | apply pw_below_drewN | apply below_drew1 | refine below_set ?_ GE101.out) | exact HB.out)⟩
       ·rw [if_neg c14] at H
        have c14b0 : decide ((l0_1.length : Int) ≤ 300) = false := decide_eq_false c14
        have c14b1 : decide (l0_1.length ≤ 300) = false := decide_eq_false (by omega)
        clear c14
        obtain rfl := Option.some.inj H
        have hcz18_0 : wc.cell? ⟨gb101, 0, none⟩ = some (.slice A0_0 l0_0.length c0_0) := (blk_cell BK101.out 0).trans rfl
        have hcz18_1 : wc.cell? ⟨gb101, 1, none⟩ = some (.slice A0_1 l0_1.length c0_1) := (blk_cell BK101.out 1).trans rfl
        have hcz18_2 : wc.cell? ⟨gb101, 2, none⟩ = some (.slice A0_2 l0_2.length c0_2) := (blk_cell BK101.out 2).trans rfl
        have hcz18_3 : wc.cell? ⟨gb101, 3, none⟩ = some (.string a0_3) := (blk_cell BK101.out 3).trans rfl
        have hcz18_4 : wc.cell? ⟨gb101, 4, none⟩ = some (.int .i64 a0_4) := (blk_cell BK101.out 4).trans rfl
        have hfz18_0 := blk_frozen BK101.out 0
        have hfz18_1 := blk_frozen BK101.out 1
        have hfz18_2 := blk_frozen BK101.out 2
        have hfz18_3 := blk_frozen BK101.out 3
        have hfz18_4 := blk_frozen BK101.out 4
        go_wp2
        go_ret
        exact ⟨by first | rfl | (simp [errW_none, errW_some] <;> rfl) | (simp [*, errW_none, errW_some] <;> rfl), by repeat (first | (with_reducible first | exact HB.out | apply below_alloc | apply pw_below_drewN | apply below_drew1 | refine below_set ?_ GE101.out) | exact HB.out)⟩
      ·rw [if_neg c13] at H
       have c13b0 : decide ((l0_0.length : Int) ≤ 100) = false := decide_eq_false c13
       have c13b1 : decide (l0_0.length ≤ 100) = false := decide_eq_false (by omega)
       clear c13
       obtain rfl := Option.some.inj H
       have hcz19_0 : wc.cell? ⟨gb101, 0, none⟩ = some (.slice A0_0 l0_0.length c0_0) := (blk_cell BK101.out 0).trans rfl
       have hcz19_1 : wc.cell? ⟨gb101, 1, none⟩ = some (.slice A0_1 l0_1.length c0_1) := (blk_cell BK101.out 1).trans rfl
       have hcz19_2 : wc.cell? ⟨gb101, 2, none⟩ = some (.slice A0_2 l0_2.length c0_2) := (blk_cell BK101.out 2).trans rfl
       have hcz19_3 : wc.cell? ⟨gb101, 3, none⟩ = some (.string a0_3) := (blk_cell BK101.out 3).trans rfl
       have hcz19_4 : wc.cell? ⟨gb101, 4, none⟩ = some (.int .i64 a0_4) := (blk_cell BK101.out 4).trans rfl
       have hfz19_0 := blk_frozen BK101.out 0
       have hfz19_1 := blk_frozen BK101.out 1
       have hfz19_2 := blk_frozen BK101.out 2
       have hfz19_3 := blk_frozen BK101.out 3
       have hfz19_4 := blk_frozen BK101.out 4
       go_wp2
       go_ret
       exact ⟨by first | rfl | (simp [errW_none, errW_some] <;> rfl) | (simp [*, errW_none, errW_some] <;> rfl), by repeat (first | (with_reducible first | exact HB.out | apply below_alloc | apply pw_below_drewN | apply below_drew1 | refine below_set ?_ GE101.out) | exact HB.out)⟩
def block_Count.f (l0_0 : List (S46)) (l0_1 : List (S48)) (l0_2 : List (S50)) (a0_3 : ByteArray) (a0_4 : Int) : Option (Int × Int × Int × Int × Int × Int × Int × Bool) := Go.Proofs.Ytpgjcnjojfehjaa.Bk.countF l0_0 l0_1 l0_2 a0_3 a0_4
set_option maxHeartbeats 8000000 in
set_option maxRecDepth 100000 in
theorem block_Count.calls (A0_0 : Option Addr) (c0_0 : Nat) (l0_0 : List (S46)) (A0_1 : Option Addr) (c0_1 : Nat) (l0_1 : List (S48)) (A0_2 : Option Addr) (c0_2 : Nat) (l0_2 : List (S50)) (a0_3 : ByteArray) (a0_4 : Int) (r1 : Int) (r2 : Int) (r3 : Int) (r4 : Int) (r5 : Int) (r6 : Int) (r7 : Int) (r8 : Bool) (w : World) (hr0_0 : Kd.C k46 w A0_0 l0_0.length l0_0) (hc0_0 : l0_0.length ≤ c0_0) (hr0_1 : Kd.C k48 w A0_1 l0_1.length l0_1) (hc0_1 : l0_1.length ≤ c0_1) (hr0_2 : Kd.C k50 w A0_2 l0_2.length l0_2) (hc0_2 : l0_2.length ≤ c0_2) (h : block_Count.f l0_0 l0_1 l0_2 a0_3 a0_4 = some (r1, r2, r3, r4, r5, r6, r7, r8)) :
  Calls Try.prog 10 #[.agg #[.slice A0_0 l0_0.length c0_0, .slice A0_1 l0_1.length c0_1, .slice A0_2 l0_2.length c0_2, .string a0_3, .int .i64 a0_4]] w fun e w' => e = .returned (.tuple #[.agg #[.int .i64 r1, .int .i64 r2, .int .i64 r3, .int .i64 r4, .int .i64 r5, .int .i64 r6, .int .i64 r7], .bool r8]) ∧ Below w.heap.size w w' := by
 exact Go.Proofs.Ytpgjcnjojfehjaa.Bk.count_is A0_0 c0_0 l0_0 A0_1 c0_1 l0_1 A0_2 c0_2 l0_2 a0_3 a0_4 r1 r2 r3 r4 r5 r6 r7 r8 w hr0_0 hc0_0 hr0_1 hc0_1 hr0_2 hc0_2 h
def block_Encode.f (l0_0 : List (S46)) (l0_1 : List (S48)) (l0_2 : List (S50)) (a0_3 : ByteArray) (a0_4 : Int) (a1 : Int) : Option (List Int × Bool) := Go.Proofs.Ytpgjcnjojfehjaa.Bk.encF l0_0 l0_1 l0_2 a0_3 a0_4 a1
set_option maxHeartbeats 8000000 in
set_option maxRecDepth 100000 in
theorem block_Encode.calls (A0_0 : Option Addr) (c0_0 : Nat) (l0_0 : List (S46)) (A0_1 : Option Addr) (c0_1 : Nat) (l0_1 : List (S48)) (A0_2 : Option Addr) (c0_2 : Nat) (l0_2 : List (S50)) (a0_3 : ByteArray) (a0_4 : Int) (a1 : Int) (r1 : List Int) (r2 : Bool) (w : World) (hr0_0 : Kd.C k46 w A0_0 l0_0.length l0_0) (hc0_0 : l0_0.length ≤ c0_0) (hr0_1 : Kd.C k48 w A0_1 l0_1.length l0_1) (hc0_1 : l0_1.length ≤ c0_1) (hr0_2 : Kd.C k50 w A0_2 l0_2.length l0_2) (hc0_2 : l0_2.length ≤ c0_2) (h : block_Encode.f l0_0 l0_1 l0_2 a0_3 a0_4 a1 = some (r1, r2)) :
  Calls Try.prog 12 #[.agg #[.slice A0_0 l0_0.length c0_0, .slice A0_1 l0_1.length c0_1, .slice A0_2 l0_2.length c0_2, .string a0_3, .int .i64 a0_4], .int .i64 a1] w fun e w' => ∃ v0_ : Value, e = .returned (.tuple #[v0_, .bool r2]) ∧ Kd.R (Kd.int .u8) 5 w' w.heap.size (fun _ => True) v0_ r1 ∧ Below w.heap.size w w' := by
 exact Go.Proofs.Ytpgjcnjojfehjaa.Bk.encode_is A0_0 c0_0 l0_0 A0_1 c0_1 l0_1 A0_2 c0_2 l0_2 a0_3 a0_4 a1 r1 r2 w hr0_0 hc0_0 hr0_1 hc0_1 hr0_2 hc0_2 h
def block_Decode.f (a0_0 : Int) (a0_1 : Int) (a0_2 : Int) (a0_3 : Int) (a0_4 : Int) (a0_5 : Int) (a0_6 : Int) (l1 : List Int) (a2 : Int) : Option ((List (S46)) × (List (S48)) × (List (S50)) × ByteArray × Int × Bool) := Go.Proofs.Ytpgjcnjojfehjaa.Bk.decF a0_0 a0_1 a0_2 a0_3 a0_4 a0_5 a0_6 l1 a2
set_option maxHeartbeats 8000000 in
set_option maxRecDepth 100000 in
theorem block_Decode.calls (a0_0 : Int) (a0_1 : Int) (a0_2 : Int) (a0_3 : Int) (a0_4 : Int) (a0_5 : Int) (a0_6 : Int) (A1 : Option Addr) (c1 : Nat) (l1 : List Int) (a2 : Int) (r1 : List (S46)) (r2 : List (S48)) (r3 : List (S50)) (r4 : ByteArray) (r5 : Int) (r6 : Bool) (w : World) (hr1 : Kd.C (Kd.int .u8) w A1 l1.length l1) (hc1 : l1.length ≤ c1) (h : block_Decode.f a0_0 a0_1 a0_2 a0_3 a0_4 a0_5 a0_6 l1 a2 = some (r1, r2, r3, r4, r5, r6)) :
  Calls Try.prog 14 #[.agg #[.int .i64 a0_0, .int .i64 a0_1, .int .i64 a0_2, .int .i64 a0_3, .int .i64 a0_4, .int .i64 a0_5, .int .i64 a0_6], .slice A1 l1.length c1, .int .i64 a2] w fun e w' => ∃ v0_ v1_ v2_ : Value, e = .returned (.tuple #[.agg #[v0_, v1_, v2_, .string r4, .int .i64 r5], .bool r6]) ∧ Kd.R k46 46 w' w.heap.size (fun _ => True) v0_ r1 ∧ Kd.R k48 48 w' w.heap.size (fun _ => True) v1_ r2 ∧ Kd.R k50 50 w' w.heap.size (fun _ => True) v2_ r3 ∧ Below w.heap.size w w' := by
 exact Go.Proofs.Ytpgjcnjojfehjaa.Bk.decode_is a0_0 a0_1 a0_2 a0_3 a0_4 a0_5 a0_6 A1 c1 l1 a2 _ _ _ _ _ _ w hr1 hc1 h
def epactref12_Same.l0 : Nat → List (S50) → List (S50) → Int → Option (Bool)
 | 0, _, _, _ => none
 | k + 1, x0, x1, x5 => if x5 < (x0.length : Int) then (if 0 ≤ x5 then (if x5 < (x1.length : Int) then (if (!(((rd_T50 x0 x5).f0) == ((rd_T50 x1 x5).f0)) || (!(((rd_T50 x0 x5).f1) == ((rd_T50 x1 x5).f1)))) = true then (some false) else (epactref12_Same.l0 k x0 x1 (wrap64 (x5 + 1)))) else (none)) else (none)) else (some true)
def epactref12_Same.f (k : Nat) (l0 : List (S50)) (l1 : List (S50)) : Option (Bool) := if (l0.length : Int) = (l1.length : Int) then (epactref12_Same.l0 k l0 l1 0) else (some false)
theorem epactref12_Same.mono_l : ∀ k, (∀ y0 y1 y2, LeO (epactref12_Same.l0 k y0 y1 y2) (epactref12_Same.l0 (k + 1) y0 y1 y2))
 | 0 => fun _ _ _ r h => by simp [epactref12_Same.l0] at h
 | k + 1 => by
  have ih0 := epactref12_Same.mono_l k
  ·intro y0 y1 y2
   unfold epactref12_Same.l0
   repeat' first
   | (with_reducible exact ih0 _ _ _)
   | (with_reducible exact LeO.refl _)
   | (with_reducible exact LeO.none _)
   | (with_reducible refine LeO.ite ?_ ?_)
   | (with_reducible refine LeO.bind ?_ (fun _ => ?_))
   | exact ih0 _ _ _
   | exact LeO.none _
   | refine LeO.ite ?_ ?_
   | refine LeO.bind ?_ (fun _ => ?_)
theorem epactref12_Same.mono : ∀ a0 a1 k, LeO (epactref12_Same.f k a0 a1) (epactref12_Same.f (k + 1) a0 a1) := by
 intro a0 a1 k
 have ih0 := epactref12_Same.mono_l k
 unfold epactref12_Same.f
 repeat' first
   | (with_reducible exact ih0 _ _ _)
   | (with_reducible exact LeO.refl _)
   | (with_reducible exact LeO.none _)
   | (with_reducible refine LeO.ite ?_ ?_)
   | (with_reducible refine LeO.bind ?_ (fun _ => ?_))
   | exact ih0 _ _ _
   | exact LeO.none _
   | refine LeO.ite ?_ ?_
   | refine LeO.bind ?_ (fun _ => ?_)
set_option maxHeartbeats 8000000 in
set_option maxRecDepth 100000 in
theorem epactref12_Same.calls (k : Nat) (A0 : Option Addr) (c0 : Nat) (l0 : List (S50)) (A1 : Option Addr) (c1 : Nat) (l1 : List (S50)) (r : Bool) (w : World) (hr0 : Kd.C k50 w A0 l0.length l0) (hc0 : l0.length ≤ c0) (hr1 : Kd.C k50 w A1 l1.length l1) (hc1 : l1.length ≤ c1) (h : epactref12_Same.f k l0 l1 = some r) :
  Calls Try.prog 38 #[.slice A0 l0.length c0, .slice A1 l1.length c1] w fun e w' => e = .returned (.bool r) ∧ Drawn0 w w' := by
 have hu50 := Try.underlying50
 have HR0 := Aside0.mk hr0
 have HC0 := Aside0.mk hc0
 clear hr0 hc0
 have HR1 := Aside0.mk hr1
 have HC1 := Aside0.mk hc1
 clear hr1 hc1
 have H : (if (l0.length : Int) = (l1.length : Int) then (epactref12_Same.l0 k l0 l1 0) else (some false)) = some r := h
 clear h
 by_cases c3 : (l0.length : Int) = (l1.length : Int)
 ·rw [if_pos c3] at H
  have c3b0 : ((l0.length : Int) == (l1.length : Int)) = true := beq_iff_eq.mpr c3
  have c3b1 : ((l0.length : Int) != (l1.length : Int)) = false := bne_eq_false_iff_eq.mpr c3
  have c3b2 : (l0.length == l1.length) = true := by first | simpa using c3 | (simp at c3 ⊢; omega)
  clear c3
  have H' := Aside0.mk H
  clear H
  go_enter Try.func38, Try.ntmps38
  go_wp2
  repeat (go_quiet (fail); try go_wp2)
  go_loopg [5] k (fun kq v5 w' => ∃ (x5_1 : Int), v5 = .int .i64 x5_1 ∧ Aside0 (epactref12_Same.l0 kq l0 l1 x5_1 = some r) ∧ Aside0 (kq ≤ k) ∧ Drawn0 w w')
  case atStart => exact ⟨(0), (by first | rfl | (simp; done) | (simp [*]; done)), H', ⟨Nat.le_refl _⟩, by repeat (first | exact Drawn0.refl _ | apply Drawn0.step)⟩
  case round =>
   clear H'
   try clear c1
   try clear p2
   try clear c3
   try clear c3b0
   try clear c3b1
   try clear c3b2
   obtain ⟨x5_1, rfl, HA, HK1, ⟨m1, rfl⟩⟩ := hrel
   cases gk with
   | zero => exact absurd HA.out (by simp [epactref12_Same.l0])
   | succ k1 =>
    have H := HA.out
    clear HA
    simp only [epactref12_Same.l0] at H
    by_cases c4 : x5_1 < (l0.length : Int)
    ·rw [if_pos c4] at H
     have c4b0 : decide (x5_1 < (l0.length : Int)) = true := decide_eq_true c4
     clear c4
     by_cases c5 : 0 ≤ x5_1
     ·rw [if_pos c5] at H
      have c5b0 : decide (0 ≤ x5_1) = true := decide_eq_true c5
      clear c5
      by_cases c6 : x5_1 < (l1.length : Int)
      ·rw [if_pos c6] at H
       have c6b0 : decide (x5_1 < (l1.length : Int)) = true := decide_eq_true c6
       clear c6
       by_cases c7 : (!(((rd_T50 l0 x5_1).f0) == ((rd_T50 l1 x5_1).f0)) || (!(((rd_T50 l0 x5_1).f1) == ((rd_T50 l1 x5_1).f1)))) = true
       ·rw [if_pos c7] at H
        have c7b0 : (!(((rd_T50 l0 x5_1).f0) == ((rd_T50 l1 x5_1).f0)) || (!(((rd_T50 l0 x5_1).f1) == ((rd_T50 l1 x5_1).f1)))) = true := c7
        clear c7
        obtain rfl := Option.some.inj H
        have p103 : 0 ≤ (x5_1 : Int) := of_decide_eq_true (by first | (with_reducible assumption) | assumption)
        have q103 : x5_1 < (l0.length : Int) := of_decide_eq_true (by first | (with_reducible assumption) | assumption)
        obtain ⟨ad103, e103, hx103_0, hx103_1⟩ := at_T50 HR0.out x5_1 p103 q103
        cases e103
        replace p103 := eq_true p103
        replace q103 := eq_true q103
        have p104 : 0 ≤ (x5_1 : Int) := of_decide_eq_true (by first | (with_reducible assumption) | assumption)
        have q104 : x5_1 < (l1.length : Int) := of_decide_eq_true (by first | (with_reducible assumption) | assumption)
        obtain ⟨ad104, e104, hx104_0, hx104_1⟩ := at_T50 HR1.out x5_1 p104 q104
        cases e104
        replace p104 := eq_true p104
        replace q104 := eq_true q104
        go_wp2
        repeat (go_quiet (fail); try go_wp2)
        go_ret
        exact ⟨by first | rfl | (simp; done) | (simp [*]; done), by repeat (first | exact Drawn0.refl _ | apply Drawn0.step)⟩
       ·rw [if_neg c7] at H
        have c7b0 : (!(((rd_T50 l0 x5_1).f0) == ((rd_T50 l1 x5_1).f0)) || (!(((rd_T50 l0 x5_1).f1) == ((rd_T50 l1 x5_1).f1)))) = false := by simpa using c7
        clear c7
        have H' := Aside0.mk H
        clear H
        have p103 : 0 ≤ (x5_1 : Int) := of_decide_eq_true (by first | (with_reducible assumption) | assumption)
        have q103 : x5_1 < (l0.length : Int) := of_decide_eq_true (by first | (with_reducible assumption) | assumption)
        obtain ⟨ad103, e103, hx103_0, hx103_1⟩ := at_T50 HR0.out x5_1 p103 q103
        cases e103
        replace p103 := eq_true p103
        replace q103 := eq_true q103
        have p104 : 0 ≤ (x5_1 : Int) := of_decide_eq_true (by first | (with_reducible assumption) | assumption)
        have q104 : x5_1 < (l1.length : Int) := of_decide_eq_true (by first | (with_reducible assumption) | assumption)
        obtain ⟨ad104, e104, hx104_0, hx104_1⟩ := at_T50 HR1.out x5_1 p104 q104
        cases e104
        replace p104 := eq_true p104
        replace q104 := eq_true q104
        go_wp2
        repeat (go_quiet (fail); try go_wp2)
        go_roundg k1
        case measure => have := HK1.out; omega
        case rel => exact ⟨(wrap64 (x5_1 + 1)), (by first | rfl | (simp; done) | (simp [*]; done)), H', ⟨by have := HK1.out; omega⟩, by repeat (first | exact Drawn0.refl _ | apply Drawn0.step)⟩
      ·rw [if_neg c6] at H
       exact absurd H (by simp)
     ·rw [if_neg c5] at H
      exact absurd H (by simp)
    ·rw [if_neg c4] at H
     have c4b0 : decide (x5_1 < (l0.length : Int)) = false := decide_eq_false c4
     clear c4
     obtain rfl := Option.some.inj H
     go_wp2
     repeat (go_quiet (fail); try go_wp2)
     go_ret
     exact ⟨by first | rfl | (simp; done) | (simp [*]; done), by repeat (first | exact Drawn0.refl _ | apply Drawn0.step)⟩
 ·rw [if_neg c3] at H
  have c3b0 : ((l0.length : Int) == (l1.length : Int)) = false := beq_eq_false_iff_ne.mpr c3
  have c3b1 : ((l0.length : Int) != (l1.length : Int)) = true := bne_iff_ne.mpr c3
  have c3b2 : (l0.length == l1.length) = false := by first | simpa using c3 | (simp at c3 ⊢; omega)
  obtain rfl := Option.some.inj H
  go_enter Try.func38, Try.ntmps38
  go_wp2
  repeat (go_quiet (fail); try go_wp2)
  go_ret
  exact ⟨by first | rfl | (simp; done) | (simp [*]; done), by repeat (first | exact Drawn0.refl _ | apply Drawn0.step)⟩
end Go.Proofs.Ytpgjcnjojfehjaa.PBlBack
namespace Go.Proofs.Ytpgjcnjojfehjaa.PBlBack
open Go.RowKit Go.Proofs.YtpgjcnjojfehjaaW.PrintWords Go.Proofs.YtpgjcnjojfehjaaW.PrintLast Go.Proofs.YtpgjcnjojfehjaaW.PrintMore Kx
attribute [local go_sem] max2_int min2_int max_two min_two max_three min_three max_four min_four   -- for this text's walks alone
set_option linter.unusedVariables false
set_option linter.unusedSimpArgs false
attribute [local go_sem high] eqA46 eqA48
mutual
def epactref16_Same.j0 : Nat → Bool → List (S46) → List (S48) → List (S50) → ByteArray → Int → List (S46) → List (S48) → List (S50) → ByteArray → Int → Option (Bool)
 | 0, _, _, _, _, _, _, _, _, _, _, _ => none
 | k + 1, x36, x106000, x106001, x106002, x106003, x106004, x107000, x107001, x107002, x107003, x107004 => if x36 = true then (some false) else (epactref16_Same.l0 k 0 x106000 x106001 x106002 x106003 x106004 x107000 x107001 x107002 x107003 x107004)
def epactref16_Same.l0 : Nat → Int → List (S46) → List (S48) → List (S50) → ByteArray → Int → List (S46) → List (S48) → List (S50) → ByteArray → Int → Option (Bool)
 | 0, _, _, _, _, _, _, _, _, _, _, _ => none
 | k + 1, x5, x106000, x106001, x106002, x106003, x106004, x107000, x107001, x107002, x107003, x107004 => if x5 < (x106000.length : Int) then (if 0 ≤ x5 then (if x5 < (x107000.length : Int) then (if (!(((rd_T46 x106000 x5).f0) == ((rd_T46 x107000 x5).f0)) || (!(((rd_T46 x106000 x5).f1) == ((rd_T46 x107000 x5).f1)) || (!((((rd_T46 x106000 x5).f2).toList) == (((rd_T46 x107000 x5).f2).toList))))) = true then (some false) else (epactref16_Same.l0 k (wrap64 (x5 + 1)) x106000 x106001 x106002 x106003 x106004 x107000 x107001 x107002 x107003 x107004)) else (none)) else (none)) else (epactref16_Same.l1 k 0 x106000 x106001 x106002 x106003 x106004 x107000 x107001 x107002 x107003 x107004)
def epactref16_Same.l1 : Nat → Int → List (S46) → List (S48) → List (S50) → ByteArray → Int → List (S46) → List (S48) → List (S50) → ByteArray → Int → Option (Bool)
 | 0, _, _, _, _, _, _, _, _, _, _, _ => none
 | k + 1, x6, x106000, x106001, x106002, x106003, x106004, x107000, x107001, x107002, x107003, x107004 => if x6 < (x106001.length : Int) then (if 0 ≤ x6 then (if x6 < (x107001.length : Int) then (if (!(((rd_T48 x106001 x6).f0) == ((rd_T48 x107001 x6).f0)) || (!(((rd_T48 x106001 x6).f1) == ((rd_T48 x107001 x6).f1)))) = true then (some false) else (epactref16_Same.l1 k (wrap64 (x6 + 1)) x106000 x106001 x106002 x106003 x106004 x107000 x107001 x107002 x107003 x107004)) else (none)) else (none)) else ((epactref12_Same.f k x106002 x107002).bind fun t111 => (some t111))
end
def epactref16_Same.f (k : Nat) (l0_0 : List (S46)) (l0_1 : List (S48)) (l0_2 : List (S50)) (a0_3 : ByteArray) (a0_4 : Int) (l1_0 : List (S46)) (l1_1 : List (S48)) (l1_2 : List (S50)) (a1_3 : ByteArray) (a1_4 : Int) : Option (Bool) := if (l0_0.length : Int) = (l1_0.length : Int) then (if (l0_1.length : Int) = (l1_1.length : Int) then (if a0_3.toList = a1_3.toList then (epactref16_Same.j0 k (a0_4 != a1_4) l0_0 l0_1 l0_2 a0_3 a0_4 l1_0 l1_1 l1_2 a1_3 a1_4) else (epactref16_Same.j0 k true l0_0 l0_1 l0_2 a0_3 a0_4 l1_0 l1_1 l1_2 a1_3 a1_4)) else (epactref16_Same.j0 k true l0_0 l0_1 l0_2 a0_3 a0_4 l1_0 l1_1 l1_2 a1_3 a1_4)) else (epactref16_Same.j0 k true l0_0 l0_1 l0_2 a0_3 a0_4 l1_0 l1_1 l1_2 a1_3 a1_4)
theorem epactref16_Same.mono_l : ∀ k, (∀ y0 y1 y2 y3 y4 y5 y6 y7 y8 y9 y10, LeO (epactref16_Same.j0 k y0 y1 y2 y3 y4 y5 y6 y7 y8 y9 y10) (epactref16_Same.j0 (k + 1) y0 y1 y2 y3 y4 y5 y6 y7 y8 y9 y10)) ∧ (∀ y0 y1 y2 y3 y4 y5 y6 y7 y8 y9 y10, LeO (epactref16_Same.l0 k y0 y1 y2 y3 y4 y5 y6 y7 y8 y9 y10) (epactref16_Same.l0 (k + 1) y0 y1 y2 y3 y4 y5 y6 y7 y8 y9 y10)) ∧ (∀ y0 y1 y2 y3 y4 y5 y6 y7 y8 y9 y10, LeO (epactref16_Same.l1 k y0 y1 y2 y3 y4 y5 y6 y7 y8 y9 y10) (epactref16_Same.l1 (k + 1) y0 y1 y2 y3 y4 y5 y6 y7 y8 y9 y10))
 | 0 => ⟨fun _ _ _ _ _ _ _ _ _ _ _ r h => by simp [epactref16_Same.j0] at h, fun _ _ _ _ _ _ _ _ _ _ _ r h => by simp [epactref16_Same.l0] at h, fun _ _ _ _ _ _ _ _ _ _ _ r h => by simp [epactref16_Same.l1] at h⟩
 | k + 1 => by
  obtain ⟨ih0, ih1, ih2⟩ := epactref16_Same.mono_l k
  refine ⟨?_, ?_, ?_⟩
  ·intro y0 y1 y2 y3 y4 y5 y6 y7 y8 y9 y10
   unfold epactref16_Same.j0
   repeat' first
   | (with_reducible exact ih0 _ _ _ _ _ _ _ _ _ _ _)
   | (with_reducible exact ih1 _ _ _ _ _ _ _ _ _ _ _)
   | (with_reducible exact ih2 _ _ _ _ _ _ _ _ _ _ _)
   | (with_reducible exact epactref12_Same.mono _ _ _)
   | (with_reducible exact LeO.refl _)
   | (with_reducible exact LeO.none _)
   | (with_reducible refine LeO.ite ?_ ?_)
   | (with_reducible refine LeO.bind ?_ (fun _ => ?_))
   | exact ih0 _ _ _ _ _ _ _ _ _ _ _
   | exact ih1 _ _ _ _ _ _ _ _ _ _ _
   | exact ih2 _ _ _ _ _ _ _ _ _ _ _
   | exact epactref12_Same.mono _ _ _
   | exact LeO.none _
   | refine LeO.ite ?_ ?_
   | refine LeO.bind ?_ (fun _ => ?_)
  ·intro y0 y1 y2 y3 y4 y5 y6 y7 y8 y9 y10
   unfold epactref16_Same.l0
   repeat' first
   | (with_reducible exact ih0 _ _ _ _ _ _ _ _ _ _ _)
   | (with_reducible exact ih1 _ _ _ _ _ _ _ _ _ _ _)
   | (with_reducible exact ih2 _ _ _ _ _ _ _ _ _ _ _)
   | (with_reducible exact epactref12_Same.mono _ _ _)
   | (with_reducible exact LeO.refl _)
   | (with_reducible exact LeO.none _)
   | (with_reducible refine LeO.ite ?_ ?_)
   | (with_reducible refine LeO.bind ?_ (fun _ => ?_))
   | exact ih0 _ _ _ _ _ _ _ _ _ _ _
   | exact ih1 _ _ _ _ _ _ _ _ _ _ _
   | exact ih2 _ _ _ _ _ _ _ _ _ _ _
   | exact epactref12_Same.mono _ _ _
   | exact LeO.none _
   | refine LeO.ite ?_ ?_
   | refine LeO.bind ?_ (fun _ => ?_)
  ·intro y0 y1 y2 y3 y4 y5 y6 y7 y8 y9 y10
   unfold epactref16_Same.l1
   repeat' first
   | (with_reducible exact ih0 _ _ _ _ _ _ _ _ _ _ _)
   | (with_reducible exact ih1 _ _ _ _ _ _ _ _ _ _ _)
   | (with_reducible exact ih2 _ _ _ _ _ _ _ _ _ _ _)
   | (with_reducible exact epactref12_Same.mono _ _ _)
   | (with_reducible exact LeO.refl _)
   | (with_reducible exact LeO.none _)
   | (with_reducible refine LeO.ite ?_ ?_)
   | (with_reducible refine LeO.bind ?_ (fun _ => ?_))
   | exact ih0 _ _ _ _ _ _ _ _ _ _ _
   | exact ih1 _ _ _ _ _ _ _ _ _ _ _
   | exact ih2 _ _ _ _ _ _ _ _ _ _ _
   | exact epactref12_Same.mono _ _ _
   | exact LeO.none _
   | refine LeO.ite ?_ ?_
   | refine LeO.bind ?_ (fun _ => ?_)
theorem epactref16_Same.mono : ∀ a0 a1 a2 a3 a4 a5 a6 a7 a8 a9 k, LeO (epactref16_Same.f k a0 a1 a2 a3 a4 a5 a6 a7 a8 a9) (epactref16_Same.f (k + 1) a0 a1 a2 a3 a4 a5 a6 a7 a8 a9) := by
 intro a0 a1 a2 a3 a4 a5 a6 a7 a8 a9 k
 obtain ⟨ih0, ih1, ih2⟩ := epactref16_Same.mono_l k
 unfold epactref16_Same.f
 repeat' first
   | (with_reducible exact ih0 _ _ _ _ _ _ _ _ _ _ _)
   | (with_reducible exact ih1 _ _ _ _ _ _ _ _ _ _ _)
   | (with_reducible exact ih2 _ _ _ _ _ _ _ _ _ _ _)
   | (with_reducible exact epactref12_Same.mono _ _ _)
   | (with_reducible exact LeO.refl _)
   | (with_reducible exact LeO.none _)
   | (with_reducible refine LeO.ite ?_ ?_)
   | (with_reducible refine LeO.bind ?_ (fun _ => ?_))
   | exact ih0 _ _ _ _ _ _ _ _ _ _ _
   | exact ih1 _ _ _ _ _ _ _ _ _ _ _
   | exact ih2 _ _ _ _ _ _ _ _ _ _ _
   | exact epactref12_Same.mono _ _ _
   | exact LeO.none _
   | refine LeO.ite ?_ ?_
   | refine LeO.bind ?_ (fun _ => ?_)
set_option maxHeartbeats 8000000 in
set_option maxRecDepth 100000 in
theorem epactref16_Same.calls (k : Nat) (A0_0 : Option Addr) (c0_0 : Nat) (l0_0 : List (S46)) (A0_1 : Option Addr) (c0_1 : Nat) (l0_1 : List (S48)) (A0_2 : Option Addr) (c0_2 : Nat) (l0_2 : List (S50)) (a0_3 : ByteArray) (a0_4 : Int) (A1_0 : Option Addr) (c1_0 : Nat) (l1_0 : List (S46)) (A1_1 : Option Addr) (c1_1 : Nat) (l1_1 : List (S48)) (A1_2 : Option Addr) (c1_2 : Nat) (l1_2 : List (S50)) (a1_3 : ByteArray) (a1_4 : Int) (r : Bool) (w : World) (hr0_0 : Kd.C k46 w A0_0 l0_0.length l0_0) (hc0_0 : l0_0.length ≤ c0_0) (hr0_1 : Kd.C k48 w A0_1 l0_1.length l0_1) (hc0_1 : l0_1.length ≤ c0_1) (hr0_2 : Kd.C k50 w A0_2 l0_2.length l0_2) (hc0_2 : l0_2.length ≤ c0_2) (hr1_0 : Kd.C k46 w A1_0 l1_0.length l1_0) (hc1_0 : l1_0.length ≤ c1_0) (hr1_1 : Kd.C k48 w A1_1 l1_1.length l1_1) (hc1_1 : l1_1.length ≤ c1_1) (hr1_2 : Kd.C k50 w A1_2 l1_2.length l1_2) (hc1_2 : l1_2.length ≤ c1_2) (h : epactref16_Same.f k l0_0 l0_1 l0_2 a0_3 a0_4 l1_0 l1_1 l1_2 a1_3 a1_4 = some r) :
  Calls Try.prog 16 #[.agg #[.slice A0_0 l0_0.length c0_0, .slice A0_1 l0_1.length c0_1, .slice A0_2 l0_2.length c0_2, .string a0_3, .int .i64 a0_4], .agg #[.slice A1_0 l1_0.length c1_0, .slice A1_1 l1_1.length c1_1, .slice A1_2 l1_2.length c1_2, .string a1_3, .int .i64 a1_4]] w fun e w' => e = .returned (.bool r) ∧ Below w.heap.size w w' := by
 have hu26 := Try.underlying26
 have hu46 := Try.underlying46
 have hu48 := Try.underlying48
 have HR0_0 := Aside0.mk hr0_0
 have HC0_0 := Aside0.mk hc0_0
 clear hr0_0 hc0_0
 have HR0_1 := Aside0.mk hr0_1
 have HC0_1 := Aside0.mk hc0_1
 clear hr0_1 hc0_1
 have HR0_2 := Aside0.mk hr0_2
 have HC0_2 := Aside0.mk hc0_2
 clear hr0_2 hc0_2
 have HR1_0 := Aside0.mk hr1_0
 have HC1_0 := Aside0.mk hc1_0
 clear hr1_0 hc1_0
 have HR1_1 := Aside0.mk hr1_1
 have HC1_1 := Aside0.mk hc1_1
 clear hr1_1 hc1_1
 have HR1_2 := Aside0.mk hr1_2
 have HC1_2 := Aside0.mk hc1_2
 clear hr1_2 hc1_2
 have HB := Aside0.mk (Below.refl w.heap.size w)
 have H : (if (l0_0.length : Int) = (l1_0.length : Int) then (if (l0_1.length : Int) = (l1_1.length : Int) then (if a0_3.toList = a1_3.toList then (epactref16_Same.j0 k (a0_4 != a1_4) l0_0 l0_1 l0_2 a0_3 a0_4 l1_0 l1_1 l1_2 a1_3 a1_4) else (epactref16_Same.j0 k true l0_0 l0_1 l0_2 a0_3 a0_4 l1_0 l1_1 l1_2 a1_3 a1_4)) else (epactref16_Same.j0 k true l0_0 l0_1 l0_2 a0_3 a0_4 l1_0 l1_1 l1_2 a1_3 a1_4)) else (epactref16_Same.j0 k true l0_0 l0_1 l0_2 a0_3 a0_4 l1_0 l1_1 l1_2 a1_3 a1_4)) = some r := h
 clear h
 have HC3 := Aside0.mk H
 clear H
 go_enter Try.func16, Try.ntmps16
 go_upto_region 1 with (first | ((with_reducible refine gate_dst (N := 2) rfl ?_); (try (refine gate_guard (by rfl) ?_; dsimp only)); refine box_event ?hg (N := 2) ?hd (cs := #[.slice A0_0 l0_0.length c0_0, .slice A0_1 l0_1.length c0_1, .slice A0_2 l0_2.length c0_2, .string a0_3, .int .i64 a0_4]) (t := 26) ?hr ?_; (case hd => rfl); (case hg => rfl); (case hr => first | (go_simp; done) | (go_simp; rfl)); intro gb105 hg w4 hbox hb; have n0_ := Aside0.mk (below_step (by repeat (first | (with_reducible first | exact HB.out | apply below_alloc | apply pw_below_drewN | apply below_drew1) | exact HB.out)) hb); have n1_ := Aside0.mk (hbox); have n2_ := Aside0.mk ((by rw [hg]; exact (below_size (by repeat (first | (with_reducible first | exact HB.out | apply below_alloc | apply pw_below_drewN | apply below_drew1) | exact HB.out))) : w.heap.size ≤ gb105)); have n3_ := Aside0.mk ((by rw [hg]; exact (below_size (by repeat (first | (with_reducible first | exact HB.out | apply below_alloc | apply pw_below_drewN | apply below_drew1) | exact HB.out))) : w.heap.size ≤ gb105)); clear HB; have HB := n0_; have BK105 := n1_; have GW105 := n2_; have GE105 := n3_; clear n0_ n1_ n2_ n3_; clear hb hbox hg) | ((with_reducible refine gate_dst (N := 3) rfl ?_); (try (refine gate_guard (by rfl) ?_; dsimp only)); refine box_event ?hg (N := 3) ?hd (cs := #[.slice A1_0 l1_0.length c1_0, .slice A1_1 l1_1.length c1_1, .slice A1_2 l1_2.length c1_2, .string a1_3, .int .i64 a1_4]) (t := 26) ?hr ?_; (case hd => rfl); (case hg => rfl); (case hr => first | (go_simp; done) | (go_simp; rfl)); intro gb106 hg w5 hbox hb; have n0_ := Aside0.mk (blk_below (g := gb105) (o := .cells #[.slice A0_0 l0_0.length c0_0, .slice A0_1 l0_1.length c0_1, .slice A0_2 l0_2.length c0_2, .string a0_3, .int .i64 a0_4] 26 (0, 0)) (by (with_reducible repeat (first | refine blk_drewN ?_ _ | refine blk_drew ?_ | refine blk_alloc ?_ _)); exact BK105.out) hb); have n1_ := Aside0.mk (below_step (by repeat (first | (with_reducible first | exact HB.out | apply below_alloc | apply pw_below_drewN | apply below_drew1 | refine below_set ?_ GE105.out) | exact HB.out)) hb); have n2_ := Aside0.mk (hbox); have n3_ := Aside0.mk ((by rw [hg]; exact (below_size (by repeat (first | (with_reducible first | exact HB.out | apply below_alloc | apply pw_below_drewN | apply below_drew1 | refine below_set ?_ GE105.out) | exact HB.out))) : w.heap.size ≤ gb106)); have n4_ := Aside0.mk ((by rw [hg]; exact (below_size (by repeat (first | (with_reducible first | exact HB.out | apply below_alloc | apply pw_below_drewN | apply below_drew1 | refine below_set ?_ GE105.out) | exact HB.out))) : w.heap.size ≤ gb106)); have n5_ := Aside0.mk ((by rw [hg]; exact Nat.ne_of_lt (blk_lt (g := gb105) (o := .cells #[.slice A0_0 l0_0.length c0_0, .slice A0_1 l0_1.length c0_1, .slice A0_2 l0_2.length c0_2, .string a0_3, .int .i64 a0_4] 26 (0, 0)) (by (with_reducible repeat (first | refine blk_drewN ?_ _ | refine blk_drew ?_ | refine blk_alloc ?_ _)); exact BK105.out)) : gb105 ≠ gb106)); have n6_ := Aside0.mk ((by rw [hg]; exact Nat.ne_of_gt (blk_lt (g := gb105) (o := .cells #[.slice A0_0 l0_0.length c0_0, .slice A0_1 l0_1.length c0_1, .slice A0_2 l0_2.length c0_2, .string a0_3, .int .i64 a0_4] 26 (0, 0)) (by (with_reducible repeat (first | refine blk_drewN ?_ _ | refine blk_drew ?_ | refine blk_alloc ?_ _)); exact BK105.out)) : gb106 ≠ gb105)); clear BK105; clear HB; have BK105 := n0_; have HB := n1_; have BK106 := n2_; have GW106 := n3_; have GE106 := n4_; have NB105_106 := n5_; have NB106_105 := n6_; clear n0_ n1_ n2_ n3_ n4_ n5_ n6_; clear hb hbox hg))
 repeat (go_quiet (first | ((with_reducible refine gate_dst (N := 2) rfl ?_); (try (refine gate_guard (by rfl) ?_; dsimp only)); refine box_event ?hg (N := 2) ?hd (cs := #[.slice A0_0 l0_0.length c0_0, .slice A0_1 l0_1.length c0_1, .slice A0_2 l0_2.length c0_2, .string a0_3, .int .i64 a0_4]) (t := 26) ?hr ?_; (case hd => rfl); (case hg => rfl); (case hr => first | (go_simp; done) | (go_simp; rfl)); intro gb105 hg w4 hbox hb; have n0_ := Aside0.mk (below_step (by repeat (first | (with_reducible first | exact HB.out | apply below_alloc | apply pw_below_drewN | apply below_drew1) | exact HB.out)) hb); have n1_ := Aside0.mk (hbox); have n2_ := Aside0.mk ((by rw [hg]; exact (below_size (by repeat (first | (with_reducible first | exact HB.out | apply below_alloc | apply pw_below_drewN | apply below_drew1) | exact HB.out))) : w.heap.size ≤ gb105)); have n3_ := Aside0.mk ((by rw [hg]; exact (below_size (by repeat (first | (with_reducible first | exact HB.out | apply below_alloc | apply pw_below_drewN | apply below_drew1) | exact HB.out))) : w.heap.size ≤ gb105)); clear HB; have HB := n0_; have BK105 := n1_; have GW105 := n2_; have GE105 := n3_; clear n0_ n1_ n2_ n3_; clear hb hbox hg) | ((with_reducible refine gate_dst (N := 3) rfl ?_); (try (refine gate_guard (by rfl) ?_; dsimp only)); refine box_event ?hg (N := 3) ?hd (cs := #[.slice A1_0 l1_0.length c1_0, .slice A1_1 l1_1.length c1_1, .slice A1_2 l1_2.length c1_2, .string a1_3, .int .i64 a1_4]) (t := 26) ?hr ?_; (case hd => rfl); (case hg => rfl); (case hr => first | (go_simp; done) | (go_simp; rfl)); intro gb106 hg w5 hbox hb; have n0_ := Aside0.mk (blk_below (g := gb105) (o := .cells #[.slice A0_0 l0_0.length c0_0, .slice A0_1 l0_1.length c0_1, .slice A0_2 l0_2.length c0_2, .string a0_3, .int .i64 a0_4] 26 (0, 0)) (by (with_reducible repeat (first | refine blk_drewN ?_ _ | refine blk_drew ?_ | refine blk_alloc ?_ _)); exact BK105.out) hb); have n1_ := Aside0.mk (below_step (by repeat (first | (with_reducible first | exact HB.out | apply below_alloc | apply pw_below_drewN | apply below_drew1 | refine below_set ?_ GE105.out) | exact HB.out)) hb); have n2_ := Aside0.mk (hbox); have n3_ := Aside0.mk ((by rw [hg]; exact (below_size (by repeat (first | (with_reducible first | exact HB.out | apply below_alloc | apply pw_below_drewN | apply below_drew1 | refine below_set ?_ GE105.out) | exact HB.out))) : w.heap.size ≤ gb106)); have n4_ := Aside0.mk ((by rw [hg]; exact (below_size (by repeat (first | (with_reducible first | exact HB.out | apply below_alloc | apply pw_below_drewN | apply below_drew1 | refine below_set ?_ GE105.out) | exact HB.out))) : w.heap.size ≤ gb106)); have n5_ := Aside0.mk ((by rw [hg]; exact Nat.ne_of_lt (blk_lt (g := gb105) (o := .cells #[.slice A0_0 l0_0.length c0_0, .slice A0_1 l0_1.length c0_1, .slice A0_2 l0_2.length c0_2, .string a0_3, .int .i64 a0_4] 26 (0, 0)) (by (with_reducible repeat (first | refine blk_drewN ?_ _ | refine blk_drew ?_ | refine blk_alloc ?_ _)); exact BK105.out)) : gb105 ≠ gb106)); have n6_ := Aside0.mk ((by rw [hg]; exact Nat.ne_of_gt (blk_lt (g := gb105) (o := .cells #[.slice A0_0 l0_0.length c0_0, .slice A0_1 l0_1.length c0_1, .slice A0_2 l0_2.length c0_2, .string a0_3, .int .i64 a0_4] 26 (0, 0)) (by (with_reducible repeat (first | refine blk_drewN ?_ _ | refine blk_drew ?_ | refine blk_alloc ?_ _)); exact BK105.out)) : gb106 ≠ gb105)); clear BK105; clear HB; have BK105 := n0_; have HB := n1_; have BK106 := n2_; have GW106 := n3_; have GE106 := n4_; have NB105_106 := n5_; have NB106_105 := n6_; clear n0_ n1_ n2_ n3_ n4_ n5_ n6_; clear hb hbox hg)); go_upto_region 1 with (first | ((with_reducible refine gate_dst (N := 2) rfl ?_); (try (refine gate_guard (by rfl) ?_; dsimp only)); refine box_event ?hg (N := 2) ?hd (cs := #[.slice A0_0 l0_0.length c0_0, .slice A0_1 l0_1.length c0_1, .slice A0_2 l0_2.length c0_2, .string a0_3, .int .i64 a0_4]) (t := 26) ?hr ?_; (case hd => rfl); (case hg => rfl); (case hr => first | (go_simp; done) | (go_simp; rfl)); intro gb105 hg w4 hbox hb; have n0_ := Aside0.mk (below_step (by repeat (first | (with_reducible first | exact HB.out | apply below_alloc | apply pw_below_drewN | apply below_drew1) | exact HB.out)) hb); have n1_ := Aside0.mk (hbox); have n2_ := Aside0.mk ((by rw [hg]; exact (below_size (by repeat (first | (with_reducible first | exact HB.out | apply below_alloc | apply pw_below_drewN | apply below_drew1) | exact HB.out))) : w.heap.size ≤ gb105)); have n3_ := Aside0.mk ((by rw [hg]; exact (below_size (by repeat (first | (with_reducible first | exact HB.out | apply below_alloc | apply pw_below_drewN | apply below_drew1) | exact HB.out))) : w.heap.size ≤ gb105)); clear HB; have HB := n0_; have BK105 := n1_; have GW105 := n2_; have GE105 := n3_; clear n0_ n1_ n2_ n3_; clear hb hbox hg) | ((with_reducible refine gate_dst (N := 3) rfl ?_); (try (refine gate_guard (by rfl) ?_; dsimp only)); refine box_event ?hg (N := 3) ?hd (cs := #[.slice A1_0 l1_0.length c1_0, .slice A1_1 l1_1.length c1_1, .slice A1_2 l1_2.length c1_2, .string a1_3, .int .i64 a1_4]) (t := 26) ?hr ?_; (case hd => rfl); (case hg => rfl); (case hr => first | (go_simp; done) | (go_simp; rfl)); intro gb106 hg w5 hbox hb; have n0_ := Aside0.mk (blk_below (g := gb105) (o := .cells #[.slice A0_0 l0_0.length c0_0, .slice A0_1 l0_1.length c0_1, .slice A0_2 l0_2.length c0_2, .string a0_3, .int .i64 a0_4] 26 (0, 0)) (by (with_reducible repeat (first | refine blk_drewN ?_ _ | refine blk_drew ?_ | refine blk_alloc ?_ _)); exact BK105.out) hb); have n1_ := Aside0.mk (below_step (by repeat (first | (with_reducible first | exact HB.out | apply below_alloc | apply pw_below_drewN | apply below_drew1 | refine below_set ?_ GE105.out) | exact HB.out)) hb); have n2_ := Aside0.mk (hbox); have n3_ := Aside0.mk ((by rw [hg]; exact (below_size (by repeat (first | (with_reducible first | exact HB.out | apply below_alloc | apply pw_below_drewN | apply below_drew1 | refine below_set ?_ GE105.out) | exact HB.out))) : w.heap.size ≤ gb106)); have n4_ := Aside0.mk ((by rw [hg]; exact (below_size (by repeat (first | (with_reducible first | exact HB.out | apply below_alloc | apply pw_below_drewN | apply below_drew1 | refine below_set ?_ GE105.out) | exact HB.out))) : w.heap.size ≤ gb106)); have n5_ := Aside0.mk ((by rw [hg]; exact Nat.ne_of_lt (blk_lt (g := gb105) (o := .cells #[.slice A0_0 l0_0.length c0_0, .slice A0_1 l0_1.length c0_1, .slice A0_2 l0_2.length c0_2, .string a0_3, .int .i64 a0_4] 26 (0, 0)) (by (with_reducible repeat (first | refine blk_drewN ?_ _ | refine blk_drew ?_ | refine blk_alloc ?_ _)); exact BK105.out)) : gb105 ≠ gb106)); have n6_ := Aside0.mk ((by rw [hg]; exact Nat.ne_of_gt (blk_lt (g := gb105) (o := .cells #[.slice A0_0 l0_0.length c0_0, .slice A0_1 l0_1.length c0_1, .slice A0_2 l0_2.length c0_2, .string a0_3, .int .i64 a0_4] 26 (0, 0)) (by (with_reducible repeat (first | refine blk_drewN ?_ _ | refine blk_drew ?_ | refine blk_alloc ?_ _)); exact BK105.out)) : gb106 ≠ gb105)); clear BK105; clear HB; have BK105 := n0_; have HB := n1_; have BK106 := n2_; have GW106 := n3_; have GE106 := n4_; have NB105_106 := n5_; have NB106_105 := n6_; clear n0_ n1_ n2_ n3_ n4_ n5_ n6_; clear hb hbox hg)))
 (try simp only [Act.put, List.setIfInBounds_toArray, List.set_cons_zero, List.set_cons_succ])
 go_cut [36] (fun v36 wc => ∃ (kq : Nat) (x36_2 : Bool), v36 = .bool x36_2 ∧ Aside0 (epactref16_Same.j0 kq x36_2 l0_0 l0_1 l0_2 a0_3 a0_4 l1_0 l1_1 l1_2 a1_3 a1_4 = some r) ∧ Aside0 (kq ≤ k) ∧ Aside0 (wc.heap[gb105]? = some (.cells #[(.slice A0_0 l0_0.length c0_0), (.slice A0_1 l0_1.length c0_1), (.slice A0_2 l0_2.length c0_2), .string a0_3, .int .i64 a0_4] 26 (0, 0))) ∧ Aside0 (wc.heap[gb106]? = some (.cells #[(.slice A1_0 l1_0.length c1_0), (.slice A1_1 l1_1.length c1_1), (.slice A1_2 l1_2.length c1_2), .string a1_3, .int .i64 a1_4] 26 (0, 0))) ∧ Aside0 (Below w.heap.size w wc))
 case first =>
  have H := HC3.out
  clear HC3
  by_cases c6 : (l0_0.length : Int) = (l1_0.length : Int)
  ·rw [if_pos c6] at H
   have c6b0 : ((l0_0.length : Int) == (l1_0.length : Int)) = true := beq_iff_eq.mpr c6
   have c6b1 : ((l0_0.length : Int) != (l1_0.length : Int)) = false := bne_eq_false_iff_eq.mpr c6
   have c6b2 : (l0_0.length == l1_0.length) = true := by first | simpa using c6 | (simp at c6 ⊢; omega)
   clear c6
   (first | rw [c6b0] | (simp only [i64_w, i32_w]; rw [c6b0]) | skip)
   by_cases c7 : (l0_1.length : Int) = (l1_1.length : Int)
   ·rw [if_pos c7] at H
    have c7b0 : ((l0_1.length : Int) == (l1_1.length : Int)) = true := beq_iff_eq.mpr c7
    have c7b1 : ((l0_1.length : Int) != (l1_1.length : Int)) = false := bne_eq_false_iff_eq.mpr c7
    have c7b2 : (l0_1.length == l1_1.length) = true := by first | simpa using c7 | (simp at c7 ⊢; omega)
    clear c7
    by_cases c8 : a0_3.toList = a1_3.toList
    ·rw [if_pos c8] at H
     have c8b0 : (a0_3.toList == a1_3.toList) = true := beq_iff_eq.mpr c8
     have c8b1 : (a0_3.toList != a1_3.toList) = false := bne_eq_false_iff_eq.mpr c8
     clear c8
     have H' := Aside0.mk H
     clear H
     have hnb9 := NB105_106.out
     have hnc9 := NB106_105.out
     have hcz10_0 : w5.cell? ⟨gb105, 0, none⟩ = some (.slice A0_0 l0_0.length c0_0) := (blk_cell BK105.out 0).trans rfl
     have hcz10_1 : w5.cell? ⟨gb105, 1, none⟩ = some (.slice A0_1 l0_1.length c0_1) := (blk_cell BK105.out 1).trans rfl
     have hcz10_2 : w5.cell? ⟨gb105, 2, none⟩ = some (.slice A0_2 l0_2.length c0_2) := (blk_cell BK105.out 2).trans rfl
     have hcz10_3 : w5.cell? ⟨gb105, 3, none⟩ = some (.string a0_3) := (blk_cell BK105.out 3).trans rfl
     have hcz10_4 : w5.cell? ⟨gb105, 4, none⟩ = some (.int .i64 a0_4) := (blk_cell BK105.out 4).trans rfl
     have hfz10_0 := blk_frozen BK105.out 0
     have hfz10_1 := blk_frozen BK105.out 1
     have hfz10_2 := blk_frozen BK105.out 2
     have hfz10_3 := blk_frozen BK105.out 3
     have hfz10_4 := blk_frozen BK105.out 4
     have hcz11_0 : w5.cell? ⟨gb106, 0, none⟩ = some (.slice A1_0 l1_0.length c1_0) := (blk_cell BK106.out 0).trans rfl
     have hcz11_1 : w5.cell? ⟨gb106, 1, none⟩ = some (.slice A1_1 l1_1.length c1_1) := (blk_cell BK106.out 1).trans rfl
     have hcz11_2 : w5.cell? ⟨gb106, 2, none⟩ = some (.slice A1_2 l1_2.length c1_2) := (blk_cell BK106.out 2).trans rfl
     have hcz11_3 : w5.cell? ⟨gb106, 3, none⟩ = some (.string a1_3) := (blk_cell BK106.out 3).trans rfl
     have hcz11_4 : w5.cell? ⟨gb106, 4, none⟩ = some (.int .i64 a1_4) := (blk_cell BK106.out 4).trans rfl
     have hfz11_0 := blk_frozen BK106.out 0
     have hfz11_1 := blk_frozen BK106.out 1
     have hfz11_2 := blk_frozen BK106.out 2
     have hfz11_3 := blk_frozen BK106.out 3
     have hfz11_4 := blk_frozen BK106.out 4
     go_wp2
     repeat (go_quiet (fail); try go_wp2)
     go_meet
     case rel => exact ⟨_, ((a0_4 != a1_4)), (by first | rfl | (simp; done) | (simp [*]; done)), H', ⟨by first | omega | exact Nat.le_refl _⟩, ⟨by (with_reducible repeat (first | refine blk_drewN ?_ _ | refine blk_drew ?_ | refine blk_alloc ?_ _)); exact BK105.out⟩, ⟨by (with_reducible repeat (first | refine blk_drewN ?_ _ | refine blk_drew ?_ | refine blk_alloc ?_ _)); exact BK106.out⟩, ⟨by repeat (first | (with_reducible first | exact HB.out | apply below_alloc | apply pw_below_drewN | apply below_drew1 | refine below_set ?_ GE105.out | refine below_set ?_ GE106.out) | exact HB.out)⟩⟩
    ·rw [if_neg c8] at H
     have c8b0 : (a0_3.toList == a1_3.toList) = false := beq_eq_false_iff_ne.mpr c8
     have c8b1 : (a0_3.toList != a1_3.toList) = true := bne_iff_ne.mpr c8
     have H' := Aside0.mk H
     clear H
     have hnb12 := NB105_106.out
     have hnc12 := NB106_105.out
     have hcz13_0 : w5.cell? ⟨gb105, 0, none⟩ = some (.slice A0_0 l0_0.length c0_0) := (blk_cell BK105.out 0).trans rfl
     have hcz13_1 : w5.cell? ⟨gb105, 1, none⟩ = some (.slice A0_1 l0_1.length c0_1) := (blk_cell BK105.out 1).trans rfl
     have hcz13_2 : w5.cell? ⟨gb105, 2, none⟩ = some (.slice A0_2 l0_2.length c0_2) := (blk_cell BK105.out 2).trans rfl
     have hcz13_3 : w5.cell? ⟨gb105, 3, none⟩ = some (.string a0_3) := (blk_cell BK105.out 3).trans rfl
     have hcz13_4 : w5.cell? ⟨gb105, 4, none⟩ = some (.int .i64 a0_4) := (blk_cell BK105.out 4).trans rfl
     have hfz13_0 := blk_frozen BK105.out 0
     have hfz13_1 := blk_frozen BK105.out 1
     have hfz13_2 := blk_frozen BK105.out 2
     have hfz13_3 := blk_frozen BK105.out 3
     have hfz13_4 := blk_frozen BK105.out 4
     have hcz14_0 : w5.cell? ⟨gb106, 0, none⟩ = some (.slice A1_0 l1_0.length c1_0) := (blk_cell BK106.out 0).trans rfl
     have hcz14_1 : w5.cell? ⟨gb106, 1, none⟩ = some (.slice A1_1 l1_1.length c1_1) := (blk_cell BK106.out 1).trans rfl
     have hcz14_2 : w5.cell? ⟨gb106, 2, none⟩ = some (.slice A1_2 l1_2.length c1_2) := (blk_cell BK106.out 2).trans rfl
     have hcz14_3 : w5.cell? ⟨gb106, 3, none⟩ = some (.string a1_3) := (blk_cell BK106.out 3).trans rfl
     have hcz14_4 : w5.cell? ⟨gb106, 4, none⟩ = some (.int .i64 a1_4) := (blk_cell BK106.out 4).trans rfl
     have hfz14_0 := blk_frozen BK106.out 0
     have hfz14_1 := blk_frozen BK106.out 1
     have hfz14_2 := blk_frozen BK106.out 2
     have hfz14_3 := blk_frozen BK106.out 3
     have hfz14_4 := blk_frozen BK106.out 4
     go_wp2
     repeat (go_quiet (fail); try go_wp2)
     go_meet
     case rel => exact ⟨_, (true), (by first | rfl | (simp; done) | (simp [*]; done)), H', ⟨by first | omega | exact Nat.le_refl _⟩, ⟨by (with_reducible repeat (first | refine blk_drewN ?_ _ | refine blk_drew ?_ | refine blk_alloc ?_ _)); exact BK105.out⟩, ⟨by (with_reducible repeat (first | refine blk_drewN ?_ _ | refine blk_drew ?_ | refine blk_alloc ?_ _)); exact BK106.out⟩, ⟨by repeat (first | (with_reducible first | exact HB.out | apply below_alloc | apply pw_below_drewN | apply below_drew1 | refine below_set ?_ GE105.out | refine below_set ?_ GE106.out) | exact HB.out)⟩⟩
   ·rw [if_neg c7] at H
    have c7b0 : ((l0_1.length : Int) == (l1_1.length : Int)) = false := beq_eq_false_iff_ne.mpr c7
    have c7b1 : ((l0_1.length : Int) != (l1_1.length : Int)) = true := bne_iff_ne.mpr c7
    have c7b2 : (l0_1.length == l1_1.length) = false := by first | simpa using c7 | (simp at c7 ⊢; omega)
    have H' := Aside0.mk H
    clear H
    have hnb15 := NB105_106.out
    have hnc15 := NB106_105.out
    have hcz16_0 : w5.cell? ⟨gb105, 0, none⟩ = some (.slice A0_0 l0_0.length c0_0) := (blk_cell BK105.out 0).trans rfl
    have hcz16_1 : w5.cell? ⟨gb105, 1, none⟩ = some (.slice A0_1 l0_1.length c0_1) := (blk_cell BK105.out 1).trans rfl
    have hcz16_2 : w5.cell? ⟨gb105, 2, none⟩ = some (.slice A0_2 l0_2.length c0_2) := (blk_cell BK105.out 2).trans rfl
    have hcz16_3 : w5.cell? ⟨gb105, 3, none⟩ = some (.string a0_3) := (blk_cell BK105.out 3).trans rfl
    have hcz16_4 : w5.cell? ⟨gb105, 4, none⟩ = some (.int .i64 a0_4) := (blk_cell BK105.out 4).trans rfl
    have hfz16_0 := blk_frozen BK105.out 0
    have hfz16_1 := blk_frozen BK105.out 1
    have hfz16_2 := blk_frozen BK105.out 2
    have hfz16_3 := blk_frozen BK105.out 3
    have hfz16_4 := blk_frozen BK105.out 4
    have hcz17_0 : w5.cell? ⟨gb106, 0, none⟩ = some (.slice A1_0 l1_0.length c1_0) := (blk_cell BK106.out 0).trans rfl
    have hcz17_1 : w5.cell? ⟨gb106, 1, none⟩ = some (.slice A1_1 l1_1.length c1_1) := (blk_cell BK106.out 1).trans rfl
    have hcz17_2 : w5.cell? ⟨gb106, 2, none⟩ = some (.slice A1_2 l1_2.length c1_2) := (blk_cell BK106.out 2).trans rfl
    have hcz17_3 : w5.cell? ⟨gb106, 3, none⟩ = some (.string a1_3) := (blk_cell BK106.out 3).trans rfl
    have hcz17_4 : w5.cell? ⟨gb106, 4, none⟩ = some (.int .i64 a1_4) := (blk_cell BK106.out 4).trans rfl
    have hfz17_0 := blk_frozen BK106.out 0
    have hfz17_1 := blk_frozen BK106.out 1
    have hfz17_2 := blk_frozen BK106.out 2
    have hfz17_3 := blk_frozen BK106.out 3
    have hfz17_4 := blk_frozen BK106.out 4
    go_wp2
    repeat (go_quiet (fail); try go_wp2)
    go_meet
    case rel => exact ⟨_, (true), (by first | rfl | (simp; done) | (simp [*]; done)), H', ⟨by first | omega | exact Nat.le_refl _⟩, ⟨by (with_reducible repeat (first | refine blk_drewN ?_ _ | refine blk_drew ?_ | refine blk_alloc ?_ _)); exact BK105.out⟩, ⟨by (with_reducible repeat (first | refine blk_drewN ?_ _ | refine blk_drew ?_ | refine blk_alloc ?_ _)); exact BK106.out⟩, ⟨by repeat (first | (with_reducible first | exact HB.out | apply below_alloc | apply pw_below_drewN | apply below_drew1 | refine below_set ?_ GE105.out | refine below_set ?_ GE106.out) | exact HB.out)⟩⟩
  ·rw [if_neg c6] at H
   have c6b0 : ((l0_0.length : Int) == (l1_0.length : Int)) = false := beq_eq_false_iff_ne.mpr c6
   have c6b1 : ((l0_0.length : Int) != (l1_0.length : Int)) = true := bne_iff_ne.mpr c6
   have c6b2 : (l0_0.length == l1_0.length) = false := by first | simpa using c6 | (simp at c6 ⊢; omega)
   (first | rw [c6b0] | (simp only [i64_w, i32_w]; rw [c6b0]) | skip)
   have H' := Aside0.mk H
   clear H
   have hnb18 := NB105_106.out
   have hnc18 := NB106_105.out
   have hcz19_0 : w5.cell? ⟨gb105, 0, none⟩ = some (.slice A0_0 l0_0.length c0_0) := (blk_cell BK105.out 0).trans rfl
   have hcz19_1 : w5.cell? ⟨gb105, 1, none⟩ = some (.slice A0_1 l0_1.length c0_1) := (blk_cell BK105.out 1).trans rfl
   have hcz19_2 : w5.cell? ⟨gb105, 2, none⟩ = some (.slice A0_2 l0_2.length c0_2) := (blk_cell BK105.out 2).trans rfl
   have hcz19_3 : w5.cell? ⟨gb105, 3, none⟩ = some (.string a0_3) := (blk_cell BK105.out 3).trans rfl
   have hcz19_4 : w5.cell? ⟨gb105, 4, none⟩ = some (.int .i64 a0_4) := (blk_cell BK105.out 4).trans rfl
   have hfz19_0 := blk_frozen BK105.out 0
   have hfz19_1 := blk_frozen BK105.out 1
   have hfz19_2 := blk_frozen BK105.out 2
   have hfz19_3 := blk_frozen BK105.out 3
   have hfz19_4 := blk_frozen BK105.out 4
   have hcz20_0 : w5.cell? ⟨gb106, 0, none⟩ = some (.slice A1_0 l1_0.length c1_0) := (blk_cell BK106.out 0).trans rfl
   have hcz20_1 : w5.cell? ⟨gb106, 1, none⟩ = some (.slice A1_1 l1_1.length c1_1) := (blk_cell BK106.out 1).trans rfl
   have hcz20_2 : w5.cell? ⟨gb106, 2, none⟩ = some (.slice A1_2 l1_2.length c1_2) := (blk_cell BK106.out 2).trans rfl
   have hcz20_3 : w5.cell? ⟨gb106, 3, none⟩ = some (.string a1_3) := (blk_cell BK106.out 3).trans rfl
   have hcz20_4 : w5.cell? ⟨gb106, 4, none⟩ = some (.int .i64 a1_4) := (blk_cell BK106.out 4).trans rfl
   have hfz20_0 := blk_frozen BK106.out 0
   have hfz20_1 := blk_frozen BK106.out 1
   have hfz20_2 := blk_frozen BK106.out 2
   have hfz20_3 := blk_frozen BK106.out 3
   have hfz20_4 := blk_frozen BK106.out 4
   go_wp2
   repeat (go_quiet (fail); try go_wp2)
   go_meet
   case rel => exact ⟨_, (true), (by first | rfl | (simp; done) | (simp [*]; done)), H', ⟨by first | omega | exact Nat.le_refl _⟩, ⟨by (with_reducible repeat (first | refine blk_drewN ?_ _ | refine blk_drew ?_ | refine blk_alloc ?_ _)); exact BK105.out⟩, ⟨by (with_reducible repeat (first | refine blk_drewN ?_ _ | refine blk_drew ?_ | refine blk_alloc ?_ _)); exact BK106.out⟩, ⟨by repeat (first | (with_reducible first | exact HB.out | apply below_alloc | apply pw_below_drewN | apply below_drew1 | refine below_set ?_ GE105.out | refine below_set ?_ GE106.out) | exact HB.out)⟩⟩
 case rest =>
  clear HC3
  try clear c1
  try clear p2
  try clear c6
  try clear c6b0
  try clear c6b1
  try clear c6b2
  try clear c7
  try clear c7b0
  try clear c7b1
  try clear c7b2
  try clear c8
  try clear c8b0
  try clear c8b1
  try clear c9
  try clear c12
  try clear c15
  try clear c16
  try clear c18
  try clear hcz10_0
  try clear hcz10_1
  try clear hcz10_2
  try clear hcz10_3
  try clear hcz10_4
  try clear hcz11_0
  try clear hcz11_1
  try clear hcz11_2
  try clear hcz11_3
  try clear hcz11_4
  try clear hcz13_0
  try clear hcz13_1
  try clear hcz13_2
  try clear hcz13_3
  try clear hcz13_4
  try clear hcz14_0
  try clear hcz14_1
  try clear hcz14_2
  try clear hcz14_3
  try clear hcz14_4
  try clear hcz16_0
  try clear hcz16_1
  try clear hcz16_2
  try clear hcz16_3
  try clear hcz16_4
  try clear hcz17_0
  try clear hcz17_1
  try clear hcz17_2
  try clear hcz17_3
  try clear hcz17_4
  try clear hcz19_0
  try clear hcz19_1
  try clear hcz19_2
  try clear hcz19_3
  try clear hcz19_4
  try clear hcz20_0
  try clear hcz20_1
  try clear hcz20_2
  try clear hcz20_3
  try clear hcz20_4
  try clear hfz10_0
  try clear hfz10_1
  try clear hfz10_2
  try clear hfz10_3
  try clear hfz10_4
  try clear hfz11_0
  try clear hfz11_1
  try clear hfz11_2
  try clear hfz11_3
  try clear hfz11_4
  try clear hfz13_0
  try clear hfz13_1
  try clear hfz13_2
  try clear hfz13_3
  try clear hfz13_4
  try clear hfz14_0
  try clear hfz14_1
  try clear hfz14_2
  try clear hfz14_3
  try clear hfz14_4
  try clear hfz16_0
  try clear hfz16_1
  try clear hfz16_2
  try clear hfz16_3
  try clear hfz16_4
  try clear hfz17_0
  try clear hfz17_1
  try clear hfz17_2
  try clear hfz17_3
  try clear hfz17_4
  try clear hfz19_0
  try clear hfz19_1
  try clear hfz19_2
  try clear hfz19_3
  try clear hfz19_4
  try clear hfz20_0
  try clear hfz20_1
  try clear hfz20_2
  try clear hfz20_3
  try clear hfz20_4
  obtain ⟨kq, x36_2, rfl, HA, HJ2, BK105, BK106, HB⟩ := hcut
  cases kq with
  | zero => exact absurd HA.out (by simp [epactref16_Same.j0])
  | succ kj2 =>
   have H := HA.out
   clear HA
   simp only [epactref16_Same.j0] at H
   by_cases c21 : x36_2 = true
   ·subst c21
    have H1 : (some false) = some r := by rw [if_pos rfl] at H; exact H
    clear H
    have H := H1
    clear H1
    obtain rfl := Option.some.inj H
    go_wp2
    repeat (go_quiet (fail); try go_wp2)
    go_ret
    exact ⟨by first | rfl | (simp [errW_none, errW_some] <;> rfl) | (simp [*, errW_none, errW_some] <;> rfl), by repeat (first | (with_reducible first | exact HB.out | apply below_alloc | apply pw_below_drewN | apply below_drew1 | refine below_set ?_ GE105.out | refine below_set ?_ GE106.out) | exact HB.out)⟩
   ·replace c21 := Bool.eq_false_iff.mpr c21
    subst c21
    have H1 : (epactref16_Same.l0 kj2 0 l0_0 l0_1 l0_2 a0_3 a0_4 l1_0 l1_1 l1_2 a1_3 a1_4) = some r := by rw [if_neg (show ¬ (false = true) by decide)] at H; exact H
    clear H
    have H := H1
    clear H1
    have H' := Aside0.mk H
    clear H
    go_wp2
    repeat (go_quiet (fail); try go_wp2)
    go_loopg [5] kj2 (fun kq v5 w' => ∃ (x5_2 : Int), v5 = .int .i64 x5_2 ∧ Aside0 (epactref16_Same.l0 kq x5_2 l0_0 l0_1 l0_2 a0_3 a0_4 l1_0 l1_1 l1_2 a1_3 a1_4 = some r) ∧ Aside0 (kq ≤ kj2) ∧ Aside0 (w'.heap[gb105]? = some (.cells #[(.slice A0_0 l0_0.length c0_0), (.slice A0_1 l0_1.length c0_1), (.slice A0_2 l0_2.length c0_2), .string a0_3, .int .i64 a0_4] 26 (0, 0))) ∧ Aside0 (w'.heap[gb106]? = some (.cells #[(.slice A1_0 l1_0.length c1_0), (.slice A1_1 l1_1.length c1_1), (.slice A1_2 l1_2.length c1_2), .string a1_3, .int .i64 a1_4] 26 (0, 0))) ∧ Aside0 (Below w.heap.size w w'))
    case atStart => exact ⟨(0), (by first | rfl | (simp; done) | (simp [*]; done)), H', ⟨Nat.le_refl _⟩, ⟨by (with_reducible repeat (first | refine blk_drewN ?_ _ | refine blk_drew ?_ | refine blk_alloc ?_ _)); exact BK105.out⟩, ⟨by (with_reducible repeat (first | refine blk_drewN ?_ _ | refine blk_drew ?_ | refine blk_alloc ?_ _)); exact BK106.out⟩, ⟨by repeat (first | (with_reducible first | exact HB.out | apply below_alloc | apply pw_below_drewN | apply below_drew1 | refine below_set ?_ GE105.out | refine below_set ?_ GE106.out) | exact HB.out)⟩⟩
    case round =>
     clear H'
     try clear c1
     try clear c2
     try clear p2
     try clear c6
     try clear c6b0
     try clear c6b1
     try clear c6b2
     try clear c7
     try clear c7b0
     try clear c7b1
     try clear c7b2
     try clear c8
     try clear c8b0
     try clear c8b1
     try clear c9
     try clear c12
     try clear c15
     try clear c16
     try clear c18
     try clear c21
     try clear hcz10_0
     try clear hcz10_1
     try clear hcz10_2
     try clear hcz10_3
     try clear hcz10_4
     try clear hcz11_0
     try clear hcz11_1
     try clear hcz11_2
     try clear hcz11_3
     try clear hcz11_4
     try clear hcz13_0
     try clear hcz13_1
     try clear hcz13_2
     try clear hcz13_3
     try clear hcz13_4
     try clear hcz14_0
     try clear hcz14_1
     try clear hcz14_2
     try clear hcz14_3
     try clear hcz14_4
     try clear hcz16_0
     try clear hcz16_1
     try clear hcz16_2
     try clear hcz16_3
     try clear hcz16_4
     try clear hcz17_0
     try clear hcz17_1
     try clear hcz17_2
     try clear hcz17_3
     try clear hcz17_4
     try clear hcz19_0
     try clear hcz19_1
     try clear hcz19_2
     try clear hcz19_3
     try clear hcz19_4
     try clear hcz20_0
     try clear hcz20_1
     try clear hcz20_2
     try clear hcz20_3
     try clear hcz20_4
     try clear hfz10_0
     try clear hfz10_1
     try clear hfz10_2
     try clear hfz10_3
     try clear hfz10_4
     try clear hfz11_0
     try clear hfz11_1
     try clear hfz11_2
     try clear hfz11_3
     try clear hfz11_4
     try clear hfz13_0
     try clear hfz13_1
     try clear hfz13_2
     try clear hfz13_3
     try clear hfz13_4
     try clear hfz14_0
     try clear hfz14_1
     try clear hfz14_2
     try clear hfz14_3
     try clear hfz14_4
     try clear hfz16_0
     try clear hfz16_1
     try clear hfz16_2
     try clear hfz16_3
     try clear hfz16_4
     try clear hfz17_0
     try clear hfz17_1
     try clear hfz17_2
     try clear hfz17_3
     try clear hfz17_4
     try clear hfz19_0
     try clear hfz19_1
     try clear hfz19_2
     try clear hfz19_3
     try clear hfz19_4
     try clear hfz20_0
     try clear hfz20_1
     try clear hfz20_2
     try clear hfz20_3
     try clear hfz20_4
     try clear p2
     obtain ⟨x5_2, rfl, HA, HK2, BK105, BK106, HB⟩ := hrel
     cases gk with
     | zero => exact absurd HA.out (by simp [epactref16_Same.l0])
     | succ k2 =>
      have H := HA.out
      clear HA
      simp only [epactref16_Same.l0] at H
      by_cases c22 : x5_2 < (l0_0.length : Int)
      ·rw [if_pos c22] at H
       have c22b0 : decide (x5_2 < (l0_0.length : Int)) = true := decide_eq_true c22
       clear c22
       by_cases c23 : 0 ≤ x5_2
       ·rw [if_pos c23] at H
        have c23b0 : decide (0 ≤ x5_2) = true := decide_eq_true c23
        clear c23
        by_cases c24 : x5_2 < (l1_0.length : Int)
        ·rw [if_pos c24] at H
         have c24b0 : decide (x5_2 < (l1_0.length : Int)) = true := decide_eq_true c24
         clear c24
         by_cases c25 : (!(((rd_T46 l0_0 x5_2).f0) == ((rd_T46 l1_0 x5_2).f0)) || (!(((rd_T46 l0_0 x5_2).f1) == ((rd_T46 l1_0 x5_2).f1)) || (!((((rd_T46 l0_0 x5_2).f2).toList) == (((rd_T46 l1_0 x5_2).f2).toList))))) = true
         ·rw [if_pos c25] at H
          have c25b0 : (!(((rd_T46 l0_0 x5_2).f0) == ((rd_T46 l1_0 x5_2).f0)) || (!(((rd_T46 l0_0 x5_2).f1) == ((rd_T46 l1_0 x5_2).f1)) || (!((((rd_T46 l0_0 x5_2).f2).toList) == (((rd_T46 l1_0 x5_2).f2).toList))))) = true := c25
          clear c25
          obtain rfl := Option.some.inj H
          have hnb26 := NB105_106.out
          have hnc26 := NB106_105.out
          have hcz27_0 : wr.cell? ⟨gb105, 0, none⟩ = some (.slice A0_0 l0_0.length c0_0) := (blk_cell BK105.out 0).trans rfl
          have hcz27_1 : wr.cell? ⟨gb105, 1, none⟩ = some (.slice A0_1 l0_1.length c0_1) := (blk_cell BK105.out 1).trans rfl
          have hcz27_2 : wr.cell? ⟨gb105, 2, none⟩ = some (.slice A0_2 l0_2.length c0_2) := (blk_cell BK105.out 2).trans rfl
          have hcz27_3 : wr.cell? ⟨gb105, 3, none⟩ = some (.string a0_3) := (blk_cell BK105.out 3).trans rfl
          have hcz27_4 : wr.cell? ⟨gb105, 4, none⟩ = some (.int .i64 a0_4) := (blk_cell BK105.out 4).trans rfl
          have hfz27_0 := blk_frozen BK105.out 0
          have hfz27_1 := blk_frozen BK105.out 1
          have hfz27_2 := blk_frozen BK105.out 2
          have hfz27_3 := blk_frozen BK105.out 3
          have hfz27_4 := blk_frozen BK105.out 4
          have p107 : 0 ≤ (x5_2 : Int) := of_decide_eq_true (by first | (with_reducible assumption) | assumption)
          have q107 : x5_2 < (l0_0.length : Int) := of_decide_eq_true (by first | (with_reducible assumption) | assumption)
          obtain ⟨ad107, e107, hx107_0, hx107_1, hx107_2⟩ := at_T46 HR0_0.out x5_2 p107 q107
          cases e107
          replace hx107_0 := (HB.out.cell (World.block_lt_of_cell? w _ hx107_0)).trans hx107_0
          replace hx107_1 := (HB.out.cell (World.block_lt_of_cell? w _ hx107_1)).trans hx107_1
          replace hx107_2 := (HB.out.cell (World.block_lt_of_cell? w _ hx107_2)).trans hx107_2
          replace p107 := eq_true p107
          replace q107 := eq_true q107
          have hcz28_0 : wr.cell? ⟨gb106, 0, none⟩ = some (.slice A1_0 l1_0.length c1_0) := (blk_cell BK106.out 0).trans rfl
          have hcz28_1 : wr.cell? ⟨gb106, 1, none⟩ = some (.slice A1_1 l1_1.length c1_1) := (blk_cell BK106.out 1).trans rfl
          have hcz28_2 : wr.cell? ⟨gb106, 2, none⟩ = some (.slice A1_2 l1_2.length c1_2) := (blk_cell BK106.out 2).trans rfl
          have hcz28_3 : wr.cell? ⟨gb106, 3, none⟩ = some (.string a1_3) := (blk_cell BK106.out 3).trans rfl
          have hcz28_4 : wr.cell? ⟨gb106, 4, none⟩ = some (.int .i64 a1_4) := (blk_cell BK106.out 4).trans rfl
          have hfz28_0 := blk_frozen BK106.out 0
          have hfz28_1 := blk_frozen BK106.out 1
          have hfz28_2 := blk_frozen BK106.out 2
          have hfz28_3 := blk_frozen BK106.out 3
          have hfz28_4 := blk_frozen BK106.out 4
          have p108 : 0 ≤ (x5_2 : Int) := of_decide_eq_true (by first | (with_reducible assumption) | assumption)
          have q108 : x5_2 < (l1_0.length : Int) := of_decide_eq_true (by first | (with_reducible assumption) | assumption)
          obtain ⟨ad108, e108, hx108_0, hx108_1, hx108_2⟩ := at_T46 HR1_0.out x5_2 p108 q108
          cases e108
          replace hx108_0 := (HB.out.cell (World.block_lt_of_cell? w _ hx108_0)).trans hx108_0
          replace hx108_1 := (HB.out.cell (World.block_lt_of_cell? w _ hx108_1)).trans hx108_1
          replace hx108_2 := (HB.out.cell (World.block_lt_of_cell? w _ hx108_2)).trans hx108_2
          replace p108 := eq_true p108
          replace q108 := eq_true q108
          go_wp2
          repeat (go_quiet (fail); try go_wp2)
          go_ret
          exact ⟨by first | rfl | (simp [errW_none, errW_some] <;> rfl) | (simp [*, errW_none, errW_some] <;> rfl), by repeat (first | (with_reducible first | exact HB.out | apply below_alloc | apply pw_below_drewN | apply below_drew1 | refine below_set ?_ GE105.out | refine below_set ?_ GE106.out) | exact HB.out)⟩
         ·rw [if_neg c25] at H
          have c25b0 : (!(((rd_T46 l0_0 x5_2).f0) == ((rd_T46 l1_0 x5_2).f0)) || (!(((rd_T46 l0_0 x5_2).f1) == ((rd_T46 l1_0 x5_2).f1)) || (!((((rd_T46 l0_0 x5_2).f2).toList) == (((rd_T46 l1_0 x5_2).f2).toList))))) = false := by simpa using c25
          clear c25
          have H' := Aside0.mk H
          clear H
          have hnb29 := NB105_106.out
          have hnc29 := NB106_105.out
          have hcz30_0 : wr.cell? ⟨gb105, 0, none⟩ = some (.slice A0_0 l0_0.length c0_0) := (blk_cell BK105.out 0).trans rfl
          have hcz30_1 : wr.cell? ⟨gb105, 1, none⟩ = some (.slice A0_1 l0_1.length c0_1) := (blk_cell BK105.out 1).trans rfl
          have hcz30_2 : wr.cell? ⟨gb105, 2, none⟩ = some (.slice A0_2 l0_2.length c0_2) := (blk_cell BK105.out 2).trans rfl
          have hcz30_3 : wr.cell? ⟨gb105, 3, none⟩ = some (.string a0_3) := (blk_cell BK105.out 3).trans rfl
          have hcz30_4 : wr.cell? ⟨gb105, 4, none⟩ = some (.int .i64 a0_4) := (blk_cell BK105.out 4).trans rfl
          have hfz30_0 := blk_frozen BK105.out 0
          have hfz30_1 := blk_frozen BK105.out 1
          have hfz30_2 := blk_frozen BK105.out 2
          have hfz30_3 := blk_frozen BK105.out 3
          have hfz30_4 := blk_frozen BK105.out 4
          have p107 : 0 ≤ (x5_2 : Int) := of_decide_eq_true (by first | (with_reducible assumption) | assumption)
          have q107 : x5_2 < (l0_0.length : Int) := of_decide_eq_true (by first | (with_reducible assumption) | assumption)
          obtain ⟨ad107, e107, hx107_0, hx107_1, hx107_2⟩ := at_T46 HR0_0.out x5_2 p107 q107
          cases e107
          replace hx107_0 := (HB.out.cell (World.block_lt_of_cell? w _ hx107_0)).trans hx107_0
          replace hx107_1 := (HB.out.cell (World.block_lt_of_cell? w _ hx107_1)).trans hx107_1
          replace hx107_2 := (HB.out.cell (World.block_lt_of_cell? w _ hx107_2)).trans hx107_2
          replace p107 := eq_true p107
          replace q107 := eq_true q107
          have hcz31_0 : wr.cell? ⟨gb106, 0, none⟩ = some (.slice A1_0 l1_0.length c1_0) := (blk_cell BK106.out 0).trans rfl
          have hcz31_1 : wr.cell? ⟨gb106, 1, none⟩ = some (.slice A1_1 l1_1.length c1_1) := (blk_cell BK106.out 1).trans rfl
          have hcz31_2 : wr.cell? ⟨gb106, 2, none⟩ = some (.slice A1_2 l1_2.length c1_2) := (blk_cell BK106.out 2).trans rfl
          have hcz31_3 : wr.cell? ⟨gb106, 3, none⟩ = some (.string a1_3) := (blk_cell BK106.out 3).trans rfl
          have hcz31_4 : wr.cell? ⟨gb106, 4, none⟩ = some (.int .i64 a1_4) := (blk_cell BK106.out 4).trans rfl
          have hfz31_0 := blk_frozen BK106.out 0
          have hfz31_1 := blk_frozen BK106.out 1
          have hfz31_2 := blk_frozen BK106.out 2
          have hfz31_3 := blk_frozen BK106.out 3
          have hfz31_4 := blk_frozen BK106.out 4
          have p108 : 0 ≤ (x5_2 : Int) := of_decide_eq_true (by first | (with_reducible assumption) | assumption)
          have q108 : x5_2 < (l1_0.length : Int) := of_decide_eq_true (by first | (with_reducible assumption) | assumption)
          obtain ⟨ad108, e108, hx108_0, hx108_1, hx108_2⟩ := at_T46 HR1_0.out x5_2 p108 q108
          cases e108
          replace hx108_0 := (HB.out.cell (World.block_lt_of_cell? w _ hx108_0)).trans hx108_0
          replace hx108_1 := (HB.out.cell (World.block_lt_of_cell? w _ hx108_1)).trans hx108_1
          replace hx108_2 := (HB.out.cell (World.block_lt_of_cell? w _ hx108_2)).trans hx108_2
          replace p108 := eq_true p108
          replace q108 := eq_true q108
          go_wp2
          repeat (go_quiet (fail); try go_wp2)
          go_roundg k2
          case measure => have := HJ2.out; have := HK2.out; omega
          case rel => exact ⟨(wrap64 (x5_2 + 1)), (by first | rfl | (simp; done) | (simp [*]; done)), H', ⟨by have := HJ2.out; have := HK2.out; omega⟩, ⟨by (with_reducible repeat (first | refine blk_drewN ?_ _ | refine blk_drew ?_ | refine blk_alloc ?_ _)); exact BK105.out⟩, ⟨by (with_reducible repeat (first | refine blk_drewN ?_ _ | refine blk_drew ?_ | refine blk_alloc ?_ _)); exact BK106.out⟩, ⟨by repeat (first | (with_reducible first | exact HB.out | apply below_alloc | apply pw_below_drewN | apply below_drew1 | refine below_set ?_ GE105.out | refine below_set ?_ GE106.out) | exact HB.out)⟩⟩
        ·rw [if_neg c24] at H
         exact absurd H (by simp)
       ·rw [if_neg c23] at H
        exact absurd H (by simp)
      ·rw [if_neg c22] at H
       have c22b0 : decide (x5_2 < (l0_0.length : Int)) = false := decide_eq_false c22
       clear c22
       have H' := Aside0.mk H
       clear H
       have hnb32 := NB105_106.out
       have hnc32 := NB106_105.out
       have hcz33_0 : wr.cell? ⟨gb105, 0, none⟩ = some (.slice A0_0 l0_0.length c0_0) := (blk_cell BK105.out 0).trans rfl
       have hcz33_1 : wr.cell? ⟨gb105, 1, none⟩ = some (.slice A0_1 l0_1.length c0_1) := (blk_cell BK105.out 1).trans rfl
       have hcz33_2 : wr.cell? ⟨gb105, 2, none⟩ = some (.slice A0_2 l0_2.length c0_2) := (blk_cell BK105.out 2).trans rfl
       have hcz33_3 : wr.cell? ⟨gb105, 3, none⟩ = some (.string a0_3) := (blk_cell BK105.out 3).trans rfl
       have hcz33_4 : wr.cell? ⟨gb105, 4, none⟩ = some (.int .i64 a0_4) := (blk_cell BK105.out 4).trans rfl
       have hfz33_0 := blk_frozen BK105.out 0
       have hfz33_1 := blk_frozen BK105.out 1
       have hfz33_2 := blk_frozen BK105.out 2
       have hfz33_3 := blk_frozen BK105.out 3
       have hfz33_4 := blk_frozen BK105.out 4
       go_wp2
       repeat (go_quiet (fail); try go_wp2)
       go_loopg [6] k2 (fun kq v6 w' => ∃ (x6_3 : Int), v6 = .int .i64 x6_3 ∧ Aside0 (epactref16_Same.l1 kq x6_3 l0_0 l0_1 l0_2 a0_3 a0_4 l1_0 l1_1 l1_2 a1_3 a1_4 = some r) ∧ Aside0 (kq ≤ k2) ∧ Aside0 (w'.heap[gb105]? = some (.cells #[(.slice A0_0 l0_0.length c0_0), (.slice A0_1 l0_1.length c0_1), (.slice A0_2 l0_2.length c0_2), .string a0_3, .int .i64 a0_4] 26 (0, 0))) ∧ Aside0 (w'.heap[gb106]? = some (.cells #[(.slice A1_0 l1_0.length c1_0), (.slice A1_1 l1_1.length c1_1), (.slice A1_2 l1_2.length c1_2), .string a1_3, .int .i64 a1_4] 26 (0, 0))) ∧ Aside0 (Below w.heap.size w w'))
       case atStart => exact ⟨(0), (by first | rfl | (simp; done) | (simp [*]; done)), H', ⟨Nat.le_refl _⟩, ⟨by (with_reducible repeat (first | refine blk_drewN ?_ _ | refine blk_drew ?_ | refine blk_alloc ?_ _)); exact BK105.out⟩, ⟨by (with_reducible repeat (first | refine blk_drewN ?_ _ | refine blk_drew ?_ | refine blk_alloc ?_ _)); exact BK106.out⟩, ⟨by repeat (first | (with_reducible first | exact HB.out | apply below_alloc | apply pw_below_drewN | apply below_drew1 | refine below_set ?_ GE105.out | refine below_set ?_ GE106.out) | exact HB.out)⟩⟩
       case round =>
        clear H'
        try clear c1
        try clear p1
        try clear q1
        try clear hx1
        try clear c2
        try clear p2
        try clear c3
        try clear c6
        try clear c6b0
        try clear c6b1
        try clear c6b2
        try clear p6
        try clear c7
        try clear c7b0
        try clear c7b1
        try clear c7b2
        try clear c8
        try clear c8b0
        try clear c8b1
        try clear c9
        try clear p10
        try clear q10
        try clear hx10
        try clear c12
        try clear c15
        try clear c16
        try clear c18
        try clear c21
        try clear c22
        try clear c22b0
        try clear c23
        try clear c23b0
        try clear c24
        try clear c24b0
        try clear c25
        try clear c25b0
        try clear c26
        try clear c29
        try clear c32
        try clear hcz10_0
        try clear hcz10_1
        try clear hcz10_2
        try clear hcz10_3
        try clear hcz10_4
        try clear hcz11_0
        try clear hcz11_1
        try clear hcz11_2
        try clear hcz11_3
        try clear hcz11_4
        try clear hcz13_0
        try clear hcz13_1
        try clear hcz13_2
        try clear hcz13_3
        try clear hcz13_4
        try clear hcz14_0
        try clear hcz14_1
        try clear hcz14_2
        try clear hcz14_3
        try clear hcz14_4
        try clear hcz16_0
        try clear hcz16_1
        try clear hcz16_2
        try clear hcz16_3
        try clear hcz16_4
        try clear hcz17_0
        try clear hcz17_1
        try clear hcz17_2
        try clear hcz17_3
        try clear hcz17_4
        try clear hcz19_0
        try clear hcz19_1
        try clear hcz19_2
        try clear hcz19_3
        try clear hcz19_4
        try clear hcz20_0
        try clear hcz20_1
        try clear hcz20_2
        try clear hcz20_3
        try clear hcz20_4
        try clear hcz27_0
        try clear hcz27_1
        try clear hcz27_2
        try clear hcz27_3
        try clear hcz27_4
        try clear hcz28_0
        try clear hcz28_1
        try clear hcz28_2
        try clear hcz28_3
        try clear hcz28_4
        try clear hcz30_0
        try clear hcz30_1
        try clear hcz30_2
        try clear hcz30_3
        try clear hcz30_4
        try clear hcz31_0
        try clear hcz31_1
        try clear hcz31_2
        try clear hcz31_3
        try clear hcz31_4
        try clear hcz33_0
        try clear hcz33_1
        try clear hcz33_2
        try clear hcz33_3
        try clear hcz33_4
        try clear hfz10_0
        try clear hfz10_1
        try clear hfz10_2
        try clear hfz10_3
        try clear hfz10_4
        try clear hfz11_0
        try clear hfz11_1
        try clear hfz11_2
        try clear hfz11_3
        try clear hfz11_4
        try clear hfz13_0
        try clear hfz13_1
        try clear hfz13_2
        try clear hfz13_3
        try clear hfz13_4
        try clear hfz14_0
        try clear hfz14_1
        try clear hfz14_2
        try clear hfz14_3
        try clear hfz14_4
        try clear hfz16_0
        try clear hfz16_1
        try clear hfz16_2
        try clear hfz16_3
        try clear hfz16_4
        try clear hfz17_0
        try clear hfz17_1
        try clear hfz17_2
        try clear hfz17_3
        try clear hfz17_4
        try clear hfz19_0
        try clear hfz19_1
        try clear hfz19_2
        try clear hfz19_3
        try clear hfz19_4
        try clear hfz20_0
        try clear hfz20_1
        try clear hfz20_2
        try clear hfz20_3
        try clear hfz20_4
        try clear hfz27_0
        try clear hfz27_1
        try clear hfz27_2
        try clear hfz27_3
        try clear hfz27_4
        try clear hfz28_0
        try clear hfz28_1
        try clear hfz28_2
        try clear hfz28_3
        try clear hfz28_4
        try clear hfz30_0
        try clear hfz30_1
        try clear hfz30_2
        try clear hfz30_3
        try clear hfz30_4
        try clear hfz31_0
        try clear hfz31_1
        try clear hfz31_2
        try clear hfz31_3
        try clear hfz31_4
        try clear hfz33_0
        try clear hfz33_1
        try clear hfz33_2
        try clear hfz33_3
        try clear hfz33_4
        try clear hx107_0
        try clear hx107_1
        try clear hx107_2
        try clear hx108_0
        try clear hx108_1
        try clear hx108_2
        try clear p107
        try clear p108
        try clear p2
        try clear q107
        try clear q108
        obtain ⟨x6_3, rfl, HA, HK3, BK105, BK106, HB⟩ := hrel
        cases gk with
        | zero => exact absurd HA.out (by simp [epactref16_Same.l1])
        | succ k3 =>
         have H := HA.out
         clear HA
         simp only [epactref16_Same.l1] at H
         by_cases c34 : x6_3 < (l0_1.length : Int)
         ·rw [if_pos c34] at H
          have c34b0 : decide (x6_3 < (l0_1.length : Int)) = true := decide_eq_true c34
          clear c34
          by_cases c35 : 0 ≤ x6_3
          ·rw [if_pos c35] at H
           have c35b0 : decide (0 ≤ x6_3) = true := decide_eq_true c35
           clear c35
           by_cases c36 : x6_3 < (l1_1.length : Int)
           ·rw [if_pos c36] at H
            have c36b0 : decide (x6_3 < (l1_1.length : Int)) = true := decide_eq_true c36
            clear c36
            by_cases c37 : (!(((rd_T48 l0_1 x6_3).f0) == ((rd_T48 l1_1 x6_3).f0)) || (!(((rd_T48 l0_1 x6_3).f1) == ((rd_T48 l1_1 x6_3).f1)))) = true
            ·rw [if_pos c37] at H
             have c37b0 : (!(((rd_T48 l0_1 x6_3).f0) == ((rd_T48 l1_1 x6_3).f0)) || (!(((rd_T48 l0_1 x6_3).f1) == ((rd_T48 l1_1 x6_3).f1)))) = true := c37
             clear c37
             obtain rfl := Option.some.inj H
             have hnb38 := NB105_106.out
             have hnc38 := NB106_105.out
             have hcz39_0 : wr.cell? ⟨gb105, 0, none⟩ = some (.slice A0_0 l0_0.length c0_0) := (blk_cell BK105.out 0).trans rfl
             have hcz39_1 : wr.cell? ⟨gb105, 1, none⟩ = some (.slice A0_1 l0_1.length c0_1) := (blk_cell BK105.out 1).trans rfl
             have hcz39_2 : wr.cell? ⟨gb105, 2, none⟩ = some (.slice A0_2 l0_2.length c0_2) := (blk_cell BK105.out 2).trans rfl
             have hcz39_3 : wr.cell? ⟨gb105, 3, none⟩ = some (.string a0_3) := (blk_cell BK105.out 3).trans rfl
             have hcz39_4 : wr.cell? ⟨gb105, 4, none⟩ = some (.int .i64 a0_4) := (blk_cell BK105.out 4).trans rfl
             have hfz39_0 := blk_frozen BK105.out 0
             have hfz39_1 := blk_frozen BK105.out 1
             have hfz39_2 := blk_frozen BK105.out 2
             have hfz39_3 := blk_frozen BK105.out 3
             have hfz39_4 := blk_frozen BK105.out 4
             have p109 : 0 ≤ (x6_3 : Int) := of_decide_eq_true (by first | (with_reducible assumption) | assumption)
             have q109 : x6_3 < (l0_1.length : Int) := of_decide_eq_true (by first | (with_reducible assumption) | assumption)
             obtain ⟨ad109, e109, hx109_0, hx109_1⟩ := at_T48 HR0_1.out x6_3 p109 q109
             cases e109
             replace hx109_0 := (HB.out.cell (World.block_lt_of_cell? w _ hx109_0)).trans hx109_0
             replace hx109_1 := (HB.out.cell (World.block_lt_of_cell? w _ hx109_1)).trans hx109_1
             replace p109 := eq_true p109
             replace q109 := eq_true q109
             have hcz40_0 : wr.cell? ⟨gb106, 0, none⟩ = some (.slice A1_0 l1_0.length c1_0) := (blk_cell BK106.out 0).trans rfl
             have hcz40_1 : wr.cell? ⟨gb106, 1, none⟩ = some (.slice A1_1 l1_1.length c1_1) := (blk_cell BK106.out 1).trans rfl
             have hcz40_2 : wr.cell? ⟨gb106, 2, none⟩ = some (.slice A1_2 l1_2.length c1_2) := (blk_cell BK106.out 2).trans rfl
             have hcz40_3 : wr.cell? ⟨gb106, 3, none⟩ = some (.string a1_3) := (blk_cell BK106.out 3).trans rfl
             have hcz40_4 : wr.cell? ⟨gb106, 4, none⟩ = some (.int .i64 a1_4) := (blk_cell BK106.out 4).trans rfl
             have hfz40_0 := blk_frozen BK106.out 0
             have hfz40_1 := blk_frozen BK106.out 1
             have hfz40_2 := blk_frozen BK106.out 2
             have hfz40_3 := blk_frozen BK106.out 3
             have hfz40_4 := blk_frozen BK106.out 4
             have p110 : 0 ≤ (x6_3 : Int) := of_decide_eq_true (by first | (with_reducible assumption) | assumption)
             have q110 : x6_3 < (l1_1.length : Int) := of_decide_eq_true (by first | (with_reducible assumption) | assumption)
             obtain ⟨ad110, e110, hx110_0, hx110_1⟩ := at_T48 HR1_1.out x6_3 p110 q110
             cases e110
             replace hx110_0 := (HB.out.cell (World.block_lt_of_cell? w _ hx110_0)).trans hx110_0
             replace hx110_1 := (HB.out.cell (World.block_lt_of_cell? w _ hx110_1)).trans hx110_1
             replace p110 := eq_true p110
             replace q110 := eq_true q110
             go_wp2
             repeat (go_quiet (fail); try go_wp2)
             go_ret
             exact ⟨by first | rfl | (simp [errW_none, errW_some] <;> rfl) | (simp [*, errW_none, errW_some] <;> rfl), by repeat (first | (with_reducible first | exact HB.out | apply below_alloc | apply pw_below_drewN | apply below_drew1 | refine below_set ?_ GE105.out | refine below_set ?_ GE106.out) | exact HB.out)⟩
            ·rw [if_neg c37] at H
             have c37b0 : (!(((rd_T48 l0_1 x6_3).f0) == ((rd_T48 l1_1 x6_3).f0)) || (!(((rd_T48 l0_1 x6_3).f1) == ((rd_T48 l1_1 x6_3).f1)))) = false := by simpa using c37
             clear c37
             have H' := Aside0.mk H
             clear H
             have hnb41 := NB105_106.out
             have hnc41 := NB106_105.out
             have hcz42_0 : wr.cell? ⟨gb105, 0, none⟩ = some (.slice A0_0 l0_0.length c0_0) := (blk_cell BK105.out 0).trans rfl
             have hcz42_1 : wr.cell? ⟨gb105, 1, none⟩ = some (.slice A0_1 l0_1.length c0_1) := (blk_cell BK105.out 1).trans rfl
             have hcz42_2 : wr.cell? ⟨gb105, 2, none⟩ = some (.slice A0_2 l0_2.length c0_2) := (blk_cell BK105.out 2).trans rfl
             have hcz42_3 : wr.cell? ⟨gb105, 3, none⟩ = some (.string a0_3) := (blk_cell BK105.out 3).trans rfl
             have hcz42_4 : wr.cell? ⟨gb105, 4, none⟩ = some (.int .i64 a0_4) := (blk_cell BK105.out 4).trans rfl
             have hfz42_0 := blk_frozen BK105.out 0
             have hfz42_1 := blk_frozen BK105.out 1
             have hfz42_2 := blk_frozen BK105.out 2
             have hfz42_3 := blk_frozen BK105.out 3
             have hfz42_4 := blk_frozen BK105.out 4
             have p109 : 0 ≤ (x6_3 : Int) := of_decide_eq_true (by first | (with_reducible assumption) | assumption)
             have q109 : x6_3 < (l0_1.length : Int) := of_decide_eq_true (by first | (with_reducible assumption) | assumption)
             obtain ⟨ad109, e109, hx109_0, hx109_1⟩ := at_T48 HR0_1.out x6_3 p109 q109
             cases e109
             replace hx109_0 := (HB.out.cell (World.block_lt_of_cell? w _ hx109_0)).trans hx109_0
             replace hx109_1 := (HB.out.cell (World.block_lt_of_cell? w _ hx109_1)).trans hx109_1
             replace p109 := eq_true p109
             replace q109 := eq_true q109
             have hcz43_0 : wr.cell? ⟨gb106, 0, none⟩ = some (.slice A1_0 l1_0.length c1_0) := (blk_cell BK106.out 0).trans rfl
             have hcz43_1 : wr.cell? ⟨gb106, 1, none⟩ = some (.slice A1_1 l1_1.length c1_1) := (blk_cell BK106.out 1).trans rfl
             have hcz43_2 : wr.cell? ⟨gb106, 2, none⟩ = some (.slice A1_2 l1_2.length c1_2) := (blk_cell BK106.out 2).trans rfl
             have hcz43_3 : wr.cell? ⟨gb106, 3, none⟩ = some (.string a1_3) := (blk_cell BK106.out 3).trans rfl
             have hcz43_4 : wr.cell? ⟨gb106, 4, none⟩ = some (.int .i64 a1_4) := (blk_cell BK106.out 4).trans rfl
             have hfz43_0 := blk_frozen BK106.out 0
             have hfz43_1 := blk_frozen BK106.out 1
             have hfz43_2 := blk_frozen BK106.out 2
             have hfz43_3 := blk_frozen BK106.out 3
             have hfz43_4 := blk_frozen BK106.out 4
             have p110 : 0 ≤ (x6_3 : Int) := of_decide_eq_true (by first | (with_reducible assumption) | assumption)
             have q110 : x6_3 < (l1_1.length : Int) := of_decide_eq_true (by first | (with_reducible assumption) | assumption)
             obtain ⟨ad110, e110, hx110_0, hx110_1⟩ := at_T48 HR1_1.out x6_3 p110 q110
             cases e110
             replace hx110_0 := (HB.out.cell (World.block_lt_of_cell? w _ hx110_0)).trans hx110_0
             replace hx110_1 := (HB.out.cell (World.block_lt_of_cell? w _ hx110_1)).trans hx110_1
             replace p110 := eq_true p110
             replace q110 := eq_true q110
             go_wp2
             repeat (go_quiet (fail); try go_wp2)
             go_roundg k3
             case measure => have := HJ2.out; have := HK2.out; have := HK3.out; omega
             case rel => exact ⟨(wrap64 (x6_3 + 1)), (by first | rfl | (simp; done) | (simp [*]; done)), H', ⟨by have := HJ2.out; have := HK2.out; have := HK3.out; omega⟩, ⟨by (with_reducible repeat (first | refine blk_drewN ?_ _ | refine blk_drew ?_ | refine blk_alloc ?_ _)); exact BK105.out⟩, ⟨by (with_reducible repeat (first | refine blk_drewN ?_ _ | refine blk_drew ?_ | refine blk_alloc ?_ _)); exact BK106.out⟩, ⟨by repeat (first | (with_reducible first | exact HB.out | apply below_alloc | apply pw_below_drewN | apply below_drew1 | refine below_set ?_ GE105.out | refine below_set ?_ GE106.out) | exact HB.out)⟩⟩
           ·rw [if_neg c36] at H
            exact absurd H (by simp)
          ·rw [if_neg c35] at H
           exact absurd H (by simp)
         ·rw [if_neg c34] at H
          have c34b0 : decide (x6_3 < (l0_1.length : Int)) = false := decide_eq_false c34
          clear c34
          replace H := Option.bind_eq_some_iff.mp H
          obtain ⟨t111, A440, H⟩ := H
          replace H : (some t111) = some r := H
          have A44 := Aside0.mk A440
          clear A440
          obtain rfl := Option.some.inj H
          have hnb45 := NB105_106.out
          have hnc45 := NB106_105.out
          have hcz46_0 : wr.cell? ⟨gb105, 0, none⟩ = some (.slice A0_0 l0_0.length c0_0) := (blk_cell BK105.out 0).trans rfl
          have hcz46_1 : wr.cell? ⟨gb105, 1, none⟩ = some (.slice A0_1 l0_1.length c0_1) := (blk_cell BK105.out 1).trans rfl
          have hcz46_2 : wr.cell? ⟨gb105, 2, none⟩ = some (.slice A0_2 l0_2.length c0_2) := (blk_cell BK105.out 2).trans rfl
          have hcz46_3 : wr.cell? ⟨gb105, 3, none⟩ = some (.string a0_3) := (blk_cell BK105.out 3).trans rfl
          have hcz46_4 : wr.cell? ⟨gb105, 4, none⟩ = some (.int .i64 a0_4) := (blk_cell BK105.out 4).trans rfl
          have hfz46_0 := blk_frozen BK105.out 0
          have hfz46_1 := blk_frozen BK105.out 1
          have hfz46_2 := blk_frozen BK105.out 2
          have hfz46_3 := blk_frozen BK105.out 3
          have hfz46_4 := blk_frozen BK105.out 4
          have hcz47_0 : wr.cell? ⟨gb106, 0, none⟩ = some (.slice A1_0 l1_0.length c1_0) := (blk_cell BK106.out 0).trans rfl
          have hcz47_1 : wr.cell? ⟨gb106, 1, none⟩ = some (.slice A1_1 l1_1.length c1_1) := (blk_cell BK106.out 1).trans rfl
          have hcz47_2 : wr.cell? ⟨gb106, 2, none⟩ = some (.slice A1_2 l1_2.length c1_2) := (blk_cell BK106.out 2).trans rfl
          have hcz47_3 : wr.cell? ⟨gb106, 3, none⟩ = some (.string a1_3) := (blk_cell BK106.out 3).trans rfl
          have hcz47_4 : wr.cell? ⟨gb106, 4, none⟩ = some (.int .i64 a1_4) := (blk_cell BK106.out 4).trans rfl
          have hfz47_0 := blk_frozen BK106.out 0
          have hfz47_1 := blk_frozen BK106.out 1
          have hfz47_2 := blk_frozen BK106.out 2
          have hfz47_3 := blk_frozen BK106.out 3
          have hfz47_4 := blk_frozen BK106.out 4
          go_wp2_with (first | (go_at_call 38; (with_reducible refine (epactref12_Same.calls k3 _ _ l0_2 _ _ l1_2 t111 _ ?side1 ?side2 ?side3 ?side4 A44.out).mono ?_); (case side1 => repeat (first | exact (Kd.C_below HR0_2.out HB.out) | (with_reducible refine Kd.C_alloc ?_ _) | (with_reducible refine Kd.C_drewN ?_ _) | (with_reducible refine Kd.C_drew ?_))); (case side2 => exact HC0_2.out); (case side3 => repeat (first | exact (Kd.C_below HR1_2.out HB.out) | (with_reducible refine Kd.C_alloc ?_ _) | (with_reducible refine Kd.C_drewN ?_ _) | (with_reducible refine Kd.C_drew ?_))); (case side4 => exact HC1_2.out); rintro e w' ⟨rfl, ⟨nd, rfl⟩⟩; (try first | exact ⟨rfl, _, World.drewN_drewN _ _ _⟩ | exact ⟨rfl, _, Eq.trans (World.drewN_drewN _ _ _) (congrArg (World.drewN _) (Nat.add_assoc _ _ _))⟩)))
          repeat (go_quiet (first | (go_at_call 38; (with_reducible refine (epactref12_Same.calls k3 _ _ l0_2 _ _ l1_2 t111 _ ?side1 ?side2 ?side3 ?side4 A44.out).mono ?_); (case side1 => repeat (first | exact (Kd.C_below HR0_2.out HB.out) | (with_reducible refine Kd.C_alloc ?_ _) | (with_reducible refine Kd.C_drewN ?_ _) | (with_reducible refine Kd.C_drew ?_))); (case side2 => exact HC0_2.out); (case side3 => repeat (first | exact (Kd.C_below HR1_2.out HB.out) | (with_reducible refine Kd.C_alloc ?_ _) | (with_reducible refine Kd.C_drewN ?_ _) | (with_reducible refine Kd.C_drew ?_))); (case side4 => exact HC1_2.out); rintro e w' ⟨rfl, ⟨nd, rfl⟩⟩; (try first | exact ⟨rfl, _, World.drewN_drewN _ _ _⟩ | exact ⟨rfl, _, Eq.trans (World.drewN_drewN _ _ _) (congrArg (World.drewN _) (Nat.add_assoc _ _ _))⟩))); try go_wp2_with (first | (go_at_call 38; (with_reducible refine (epactref12_Same.calls k3 _ _ l0_2 _ _ l1_2 t111 _ ?side1 ?side2 ?side3 ?side4 A44.out).mono ?_); (case side1 => repeat (first | exact (Kd.C_below HR0_2.out HB.out) | (with_reducible refine Kd.C_alloc ?_ _) | (with_reducible refine Kd.C_drewN ?_ _) | (with_reducible refine Kd.C_drew ?_))); (case side2 => exact HC0_2.out); (case side3 => repeat (first | exact (Kd.C_below HR1_2.out HB.out) | (with_reducible refine Kd.C_alloc ?_ _) | (with_reducible refine Kd.C_drewN ?_ _) | (with_reducible refine Kd.C_drew ?_))); (case side4 => exact HC1_2.out); rintro e w' ⟨rfl, ⟨nd, rfl⟩⟩; (try first | exact ⟨rfl, _, World.drewN_drewN _ _ _⟩ | exact ⟨rfl, _, Eq.trans (World.drewN_drewN _ _ _) (congrArg (World.drewN _) (Nat.add_assoc _ _ _))⟩))))
          go_ret
          exact ⟨by first | rfl | (simp [errW_none, errW_some] <;> rfl) | (simp [*, errW_none, errW_some] <;> rfl), by repeat (first | (with_reducible first | exact HB.out | apply below_alloc | apply pw_below_drewN | apply below_drew1 | refine below_set ?_ GE105.out | refine below_set ?_ GE106.out) | exact HB.out)⟩
end Go.Proofs.Ytpgjcnjojfehjaa.PBlBack
namespace Go.Proofs.Ytpgjcnjojfehjaa.Bk
open Go.RowKit Go.Proofs.YtpgjcnjojfehjaaW.PrintWords Go.Proofs.YtpgjcnjojfehjaaW.PrintLast Go.Proofs.YtpgjcnjojfehjaaW.PrintMore Oct Kx Ab PBlBack
def Ev {α : Type} (f : Nat → Option α) (r : α) : Prop := ∃ k0, ∀ k, k0 ≤ k → f k = some r
theorem Ev.step {α : Type} {f g : Nat → Option α} {r : α} (h : Ev f r) (hg : ∀ k, g (k + 1) = f k) : Ev g r := by
 obtain ⟨k0, h⟩ := h
 refine ⟨k0 + 1, fun k hk => ?_⟩
 obtain ⟨j, rfl⟩ : ∃ j, k = j + 1 := ⟨k - 1, by omega⟩
 rw [hg]
 exact h j (by omega)
theorem Ev.now {α : Type} {g : Nat → Option α} {r : α} (hg : ∀ k, g (k + 1) = some r) : Ev g r :=
 Ev.step (f := fun _ => some r) ⟨0, fun _ _ => rfl⟩ hg
theorem Ev.bind {α β : Type} {f : Nat → Option α} {g : Nat → α → Option β} {a : α} {r : β} (h1 : Ev f a) (h2 : Ev (fun k => g k a) r) : Ev (fun k => (f k).bind (g k)) r := by
 obtain ⟨k1, h1⟩ := h1
 obtain ⟨k2, h2⟩ := h2
 refine ⟨k1 + k2, fun k hk => ?_⟩
 simp only [h1 k (by omega), Option.bind_some]
 exact h2 k (by omega)
theorem next_n {i : Nat} (h : i < 1000000) : wrap64 ((i : Int) + 1) = ((i + 1 : Nat) : Int) := by
 rw [R_mod _ (by omega)]; omega
theorem same12_ev (l : List S50) (hl : l.length ≤ 1000000) : Ev (fun k => epactref12_Same.f k l l) true := by
 have key : ∀ d j : Nat, j + d = l.length → Ev (fun k => epactref12_Same.l0 k l l (j : Int)) true := by
  intro d
  induction d with
  | zero => exact fun j h => Ev.now fun k => by rw [epactref12_Same.l0, if_neg (by omega)]
  | succ d ih => exact fun j h => Ev.step (ih (j + 1) (by omega)) fun k => by rw [epactref12_Same.l0, if_pos (by omega), if_pos (by omega), if_pos (by omega), if_neg (by simp), next_n (by omega)]
 obtain ⟨k0, h⟩ := key l.length 0 (by omega)
 exact ⟨k0, fun k hk => by show epactref12_Same.f k l l = _; unfold epactref12_Same.f; rw [if_pos rfl]; exact h k hk⟩
theorem same_ev (ty : List S46) (tr : List S48) (lp : List S50) (foot : ByteArray) (ver : Int) (h0 : ty.length ≤ 1000000) (h1 : tr.length ≤ 1000000) (h2 : lp.length ≤ 1000000) :
  Ev (fun k => epactref16_Same.f k ty tr lp foot ver ty tr lp foot ver) true := by
 have key1 : ∀ d j : Nat, j + d = tr.length → Ev (fun k => epactref16_Same.l1 k (j : Int) ty tr lp foot ver ty tr lp foot ver) true := by
  intro d
  induction d with
  | zero =>
   intro j h
   refine Ev.step (f := fun k => (epactref12_Same.f k lp lp).bind fun t => some t) (Ev.bind (same12_ev lp h2) ⟨0, fun _ _ => rfl⟩) fun k => ?_
   rw [epactref16_Same.l1, if_neg (by omega)]
  | succ d ih => exact fun j h => Ev.step (ih (j + 1) (by omega)) fun k => by rw [epactref16_Same.l1, if_pos (by omega), if_pos (by omega), if_pos (by omega), if_neg (by simp), next_n (by omega)]
 have key0 : ∀ d j : Nat, j + d = ty.length → Ev (fun k => epactref16_Same.l0 k (j : Int) ty tr lp foot ver ty tr lp foot ver) true := by
  intro d
  induction d with
  | zero => exact fun j h => Ev.step (key1 tr.length 0 (by omega)) fun k => by rw [epactref16_Same.l0, if_neg (by omega)]; rfl
  | succ d ih => exact fun j h => Ev.step (ih (j + 1) (by omega)) fun k => by rw [epactref16_Same.l0, if_pos (by omega), if_pos (by omega), if_pos (by omega), if_neg (by simp), next_n (by omega)]
 have hj : Ev (fun k => epactref16_Same.j0 k (ver != ver) ty tr lp foot ver ty tr lp foot ver) true :=
  Ev.step (key0 ty.length 0 (by omega)) fun k => by rw [epactref16_Same.j0, if_neg (by simp)]; rfl
 obtain ⟨k0, h⟩ := hj
 exact ⟨k0, fun k hk => by show epactref16_Same.f k ty tr lp foot ver ty tr lp foot ver = _; unfold epactref16_Same.f; rw [if_pos rfl, if_pos rfl, if_pos rfl]; exact h k hk⟩
def fewB (ty : List S46) (tr : List S48) (lp : List S50) (foot : ByteArray) : Bool := decide ((∀ i, i < ty.length → i < 100 → (ty.getD i z46).f2.size ≤ 100) ∧ ty.length ≤ 100 ∧ tr.length ≤ 300 ∧ lp.length ≤ 300 ∧ foot.size ≤ 200)
theorem few_ev (ty : List S46) (tr : List S48) (lp : List S50) (foot : ByteArray) (ver : Int) : Ev (fun k => epactlaw16_Few.f k ty tr lp foot ver) (fewB ty tr lp foot) := by
 have last : ∀ j : Nat, (¬ (j < ty.length ∧ j < 100)) → (∀ i, i < j → i < ty.length → i < 100 → (ty.getD i z46).f2.size ≤ 100) → Ev (fun k => epactlaw16_Few.j1 k (j : Int) false ty tr lp foot ver) (fewB ty tr lp foot) := by
  intro j hj hd
  refine Ev.now fun k => ?_
  rw [epactlaw16_Few.j1, if_neg (by simp)]
  have hall : ∀ i, i < ty.length → i < 100 → (ty.getD i z46).f2.size ≤ 100 := fun i h1 h2 => hd i (by omega) h1 h2
  have hb : fewB ty tr lp foot = decide (ty.length ≤ 100 ∧ tr.length ≤ 300 ∧ lp.length ≤ 300 ∧ foot.size ≤ 200) := by
   unfold fewB
   exact decide_eq_decide.2 ⟨fun h => h.2, fun h => ⟨hall, h⟩⟩
  rw [hb]
  by_cases h1 : ty.length ≤ 100
  ·rw [if_pos (by omega)]
   by_cases h2 : tr.length ≤ 300
   ·rw [if_pos (by omega)]
    by_cases h3 : lp.length ≤ 300
    ·rw [if_pos (by omega)]
     exact congrArg some (decide_eq_decide.2 ⟨fun h => ⟨h1, h2, h3, by omega⟩, fun h => by omega⟩)
    ·rw [if_neg (by omega), decide_eq_false (fun h => h3 h.2.2.1)]
   ·rw [if_neg (by omega), decide_eq_false (fun h => h2 h.2.1)]
  ·rw [if_neg (by omega), decide_eq_false (fun h => h1 h.1)]
 have key : ∀ d j : Nat, j + d = 101 → (∀ i, i < j → i < ty.length → i < 100 → (ty.getD i z46).f2.size ≤ 100) → Ev (fun k => epactlaw16_Few.l0 k (j : Int) ty tr lp foot ver) (fewB ty tr lp foot) := by
  intro d
  induction d with
  | zero =>
   intro j h hd
   have hf : ¬ ((j : Int) < 100) := by omega
   refine Ev.step (last j (by omega) hd) fun k => ?_
   rw [epactlaw16_Few.l0, decide_eq_false hf]
   split <;> rfl
  | succ d ih =>
   intro j h hd
   by_cases h1 : j < ty.length
   ·by_cases h2 : j < 100
    ·have hl : Ev (fun k => epactlaw16_Few.j1 k (j : Int) true ty tr lp foot ver) (fewB ty tr lp foot) := by
      by_cases h3 : (ty.getD j z46).f2.size ≤ 100
      ·refine Ev.step (ih (j + 1) (by omega) (fun i hi a b => ?_)) fun k => ?_
       ·by_cases e : i = j
        ·subst e; exact h3
        ·exact hd i (by omega) a b
       ·rw [epactlaw16_Few.j1, if_pos rfl, if_pos (by omega), if_pos (by omega), if_neg (show ¬ (((rd_T46 ty (j : Int)).f2.size : Int) > 100) by unfold rd_T46; rw [Int.toNat_natCast]; omega), next_n (by omega)]
      ·refine Ev.now fun k => ?_
       rw [epactlaw16_Few.j1, if_pos rfl, if_pos (by omega), if_pos (by omega), if_pos (show (((rd_T46 ty (j : Int)).f2.size : Int) > 100) by unfold rd_T46; rw [Int.toNat_natCast]; omega)]
       unfold fewB
       rw [decide_eq_false (fun h => h3 (h.1 j h1 h2))]
     refine Ev.step hl fun k => ?_
     rw [epactlaw16_Few.l0, if_pos (by omega), decide_eq_true (show ((j : Int) < 100) by omega)]
    ·refine Ev.step (last j (by omega) hd) fun k => ?_
     rw [epactlaw16_Few.l0, if_pos (by omega), decide_eq_false (show ¬ ((j : Int) < 100) by omega)]
   ·refine Ev.step (last j (by omega) hd) fun k => ?_
    rw [epactlaw16_Few.l0, if_neg (by omega)]
 exact key 101 0 (by omega) (fun i hi => absurd hi (Nat.not_lt_zero i))
theorem few_parts {ty : List S46} {tr : List S48} {lp : List S50} {foot : ByteArray} (h : fewB ty tr lp foot = true) : (∀ i, i < ty.length → i < 100 → (ty.getD i z46).f2.size ≤ 100) ∧ ty.length ≤ 100 ∧ tr.length ≤ 300 ∧ lp.length ≤ 300 ∧ foot.size ≤ 200 := of_decide_eq_true h
theorem few_ok {ty : List S46} {tr : List S48} {lp : List S50} {foot : ByteArray} (h : fewB ty tr lp foot = true) : okZ ty tr lp = true := by
 obtain ⟨h0, h1, h2, h3, -⟩ := few_parts h
 unfold okZ
 rw [Bool.and_eq_true, decide_eq_true_eq, List.all_eq_true]
 refine ⟨⟨h1, by omega, by omega⟩, fun t ht => decide_eq_true ?_⟩
 obtain ⟨i, hi, rfl⟩ := List.mem_iff_getElem.1 ht
 have := h0 i hi (by omega)
 rw [List.getD, List.getElem?_eq_getElem hi] at this
 exact Nat.le_trans this (by omega)
end Go.Proofs.Ytpgjcnjojfehjaa.Bk
