/- Texts of chapter 16 laid together, without what none of them names (wip/block/prune.py; those whose names begin with W are the kit's printed words, cut): BkL, BkS, BkZ, BkQ, PSizex0, PSizex1, BkRr, PAtx0, PAtx1, PPoolx0, PPoolx1, PPoolx2. -/
import Derived.Test.YtpgjcnjojfehjaaQ3
import Derived.Outline
import Derived.Test.YtpgjcnjojfehjaaProg
import Derived.Below
import Derived.Deep.Draws
import Derived.Deep.AppendLies
import Derived.Maps.AppendAt
import Derived.OwnWalk
import Derived.Laws.BytesArg
import Derived.Laws.MakeOwn
import Derived.Laws.OwnMore
import Derived.Deep.OwnRows
import Derived.Tactics
import Derived.Lib.ConvBytes
import Derived.Laws.Slices
import Derived.WalkKit
import Derived.KernelRfl
import Derived.RowKit3
import Derived.Deep.LoopGhost
import Derived.Deep.QuietTactic
import Derived.BigQuiet
import Derived.WideLaws
import Derived.Deep.DeepCutAuto
import Derived.Deep.CutBlock
import Derived.Deep.RegionHeld3
import Derived.Laws.Rows
import Derived.Lib.AppendStr
import Derived.ArgAppend
import Derived.Laws.IdiomCopy
import Derived.OrdersHeld
import Derived.Laws.BitsLemmas
import Derived.RowKit
import Derived.Test.YtpgjcnjojfehjaaQ1
import Derived.Test.YtpgjcnjojfehjaaQ2
namespace Go.Proofs.Ytpgjcnjojfehjaa.Bk
open Go.RowKit Go.Proofs.YtpgjcnjojfehjaaW.PrintWords Go.Proofs.YtpgjcnjojfehjaaW.PrintLast Go.Proofs.YtpgjcnjojfehjaaW.PrintMore Kd
section
variable {α : Type} {P : Program} {ops : Array Oper} {o : Oper} {a : Act} {Q : Exit → Act → World → Prop} {Kc : Act → World → Prop}
theorem R_append_keep_step (d : Kd α) {Rr : α → List Value → Prop} {w0 W : World} (base : Nat) (hw : Region.wanted o (yielded ops a.tmps) = true) (s x : Operand) (t e : TypeId) (z : Value) (bytes : Nat)
  (ho : o.op = .call { callee := .builtin .append, args := #[s, x], argTypes := #[t, t] })
  (ht : P.underlying t = some (.slice e)) (hinfo : (P.info? e).map (fun i => (i.zero, i.size, i.bytes)) = some (some z, d.sz, bytes)) (hz : z.cells.size = d.sz) (hs0 : 0 < d.sz) (hb0 : 0 < bytes)
  (v : Value) (xs ys : List α) (A : Option Addr) (m c : Nat) (ok okp : Nat → Prop) (hs : a.eval s = v) (hx : a.eval x = .slice A m c)
  (HO : d.R e W base ok v xs) (HR : ReadsRow Rr d.sz W A m ys) (hKM : ∀ x cs, Rr x cs → d.M W base okp x cs) (hokp : ∀ k, okp k → ok k ∧ some k ≠ v.ownBlock) (hfresh : ∀ k, W.heap.size ≤ k → ok k)
  (HB : Below base w0 W) (hbase : base ≤ W.heap.size) (hl : (xs.length + m) * bytes ≤ 140737488355328)
  (h : ∀ v1 w1, d.R e w1 base ok v1 (xs ++ ys) → Below base w0 w1 → W.grownBy w1 v.ownBlock → (v1.ownBlock = v.ownBlock ∨ ∃ b, v1.ownBlock = some b ∧ W.heap.size ≤ b) → d.R e w1 base ok v xs → Kc (a.put o.dst v1) w1) :
  if Region.wanted o (yielded ops a.tmps) = true then Oper.wp P o a W Kc Q else Kc (a.put o.dst undef) W := by
 obtain ⟨i0, hi, hzz⟩ := Option.map_eq_some_iff.1 hinfo
 simp only [Prod.mk.injEq] at hzz
 obtain ⟨hz0, hz1, hz2⟩ := hzz
 have hm : ys.length = m := HR.1
 have hlen : xs.length + m ≤ 140737488355328 := Nat.le_trans (Nat.le_mul_of_pos_right _ hb0) hl
 have HC := HO
 obtain ⟨hok, inner, hown, hr⟩ := HO
 have hrun : ∃ v1 w1, (Builtin.append_ #[t, t] o.type #[v, .slice A m c]).run P W = .ok v1 w1 ∧ d.R e w1 base ok v1 (xs ++ ys) ∧ W.grownBy w1 v.ownBlock ∧ (v1.ownBlock = v.ownBlock ∨ ∃ b, v1.ownBlock = some b ∧ W.heap.size ≤ b) ∧ d.R e w1 base ok v xs := by
  rcases A with _ | ad
  ·have h0 : m = 0 := by
    rcases Nat.eq_zero_or_pos m with h0 | h0
    ·exact h0
    ·obtain ⟨ad, h, _⟩ := HR.2.2 h0
     cases h
   subst h0
   obtain rfl : ys = [] := List.eq_nil_of_length_eq_zero hm
   refine ⟨v, W, ?_, by rw [List.append_nil]; exact ⟨hok, inner, hown, hr⟩, World.grownBy.refl W _, .inl rfl, HC⟩
   rcases hown.2 with ⟨rfl, hn⟩ | ⟨g, cap, cur, rfl, _, _, hnc, _⟩
   ·simp [Builtin.append_, run_underlying ht, sizeOf, typeInfo, hi, Builtin.lenOf, Builtin.firstCells]
   ·simp [Builtin.append_, run_underlying ht, sizeOf, typeInfo, hi, Builtin.lenOf, Builtin.firstCells, hnc, storeCells]
  ·obtain ⟨news, hnr, hnc⟩ := ReadsRow.inner_ HR
   have hnM : Reps (d.M W base okp) d.sz ys news := hnr.imp_ (fun p c hp => hKM p c hp)
   have hone : ∀ u ∈ news, u.oneCell' = true := by
    intro u hu
    obtain ⟨q, hq, rfl⟩ := List.mem_iff_getElem.1 hu
    have hql : q / d.sz < ys.length := by
     rw [Nat.div_lt_iff_lt_mul hs0]
     rw [← hnM.1]
     exact hq
    have hc := hnM.2 (q / d.sz) _ (List.getElem?_eq_getElem hql)
    refine d.K_one (d.K_of_M hc) _ ?_
    rw [List.mem_iff_getElem?]
    refine ⟨q % d.sz, ?_⟩
    rw [List.getElem?_take, if_pos (Nat.mod_lt _ hs0), List.getElem?_drop, Nat.mul_comm, Nat.div_add_mod, List.getElem?_eq_getElem hq]
   obtain ⟨v1, w1, hrun, h2, hg, _, hat⟩ := run_append_own_at (P := P) W base t o.type e i0 z d.sz bytes ht hi hz0 hz1 hz2 hz hs0 v xs.length inner hown ad m c news (by rw [hnM.1, hm]) hnc hone (by simp only [maxLen]; omega) hl hbase
   have hat' : v1.ownBlock = v.ownBlock ∨ ∃ b, v1.ownBlock = some b ∧ W.heap.size ≤ b := by
    rcases hat with hat | hat
    ·exact .inl hat
    ·exact .inr ⟨_, hat, Nat.le_refl _⟩
   have hne : ∀ k, some k ≠ v.ownBlock → k < W.heap.size → some k ≠ v1.ownBlock := by
    intro k hk hlt
    rcases hat' with hat | ⟨b, hb, hle⟩
    ·rw [hat]; exact hk
    ·rw [hb]
     intro he
     injection he with he
     omega
   have step : ∀ {q : α} {c : List Value} {o : Nat → Prop}, d.M W base o q c → (∀ k, o k → ok k ∧ some k ≠ v.ownBlock) → d.M w1 base (fun k => ok k ∧ some k ≠ v1.ownBlock) q c := by
    intro q c o hq ho
    have h1 := d.M_move (w1 := w1) (fun k hk => hg.block k hk.2.2.1 (ho k hk.1).2) (d.M_bound hq)
    exact d.M_mono (fun k hk => ⟨(ho k hk.1).1, hne k (ho k hk.1).2 hk.2.2.1⟩) h1
   have hR1 : d.R e w1 base ok v1 (xs ++ ys) := by
    refine ⟨fun k hk => ?_, inner ++ news, by rw [List.length_append, hm]; exact h2, reps_append (hr.imp_ (fun _ _ hq => step hq (fun _ hk => hk))) (hnM.imp_ (fun _ _ hq => step hq hokp))⟩
    rcases hat' with hat | ⟨b, hb, hle⟩
    ·exact hok k (hat ▸ hk)
    ·rw [hb] at hk
     injection hk with hk
     exact hfresh k (by omega)
   refine ⟨v1, w1, hrun, hR1, hg, hat', ?_⟩
   have hnl : news.length = m * d.sz := by rw [hnM.1, hm]
   rcases hown.2 with ⟨hv, hn⟩ | ⟨g, cap, cur, hv, hbg, hgc, hnc', hcm, hcs, htake⟩
   ·have hx0 : xs = [] := List.eq_nil_of_length_eq_zero hn
    rw [hv, hx0]
    exact R_nil d e w1 base ok
   ·by_cases hroom : xs.length + m ≤ cap
    ·have hfit : xs.length * i0.size + news.length ≤ cur.size := by rw [hnl, hcs, hz1, ← Nat.add_mul]; exact Nat.mul_le_mul_right _ hroom
     have hra := Go.run_append_room (P := P) W t o.type e i0 ht hi g xs.length cap cur hgc ad m c news (by rw [hz1]; exact hnl) hnc hone hroom hfit
     have hrun2 := hrun
     rw [hv, hra] at hrun2
     injection hrun2 with f1 f2
     have ho1 : v1.ownBlock = v.ownBlock := by rw [← f1, hv]; rfl
     refine ⟨hok, inner, ⟨hown.1, .inr ⟨g, cap, ?_⟩⟩, hr.imp_ (fun _ _ hq => by rw [← ho1]; exact step hq (fun _ hk => hk))⟩
     rcases h2.2 with ⟨hv1, _⟩ | ⟨g1, cap1, cur1, hv1, hbg1, hgc1, hnc1, hcm1, hcs1, htake1⟩
     ·rw [← f1] at hv1
      injection hv1 with hv1
      cases hv1
     ·rw [← f1] at hv1
      injection hv1 with hv1 _ hv2
      injection hv1 with hv1
      injection hv1 with hv1
      subst hv1 hv2
      refine ⟨cur1, hv, hbg, hgc1, hnc', hcm, hcs1, ?_⟩
      have h3 := congrArg (List.take inner.length) htake1
      rw [List.take_left, List.take_take, Nat.min_eq_left (by have e1 := hown.1; rw [e1]; exact Nat.mul_le_mul_right _ (by omega))] at h3
      rw [hown.1] at h3
      exact h3
    ·have holds : ∀ j u, inner[j]? = some u → W.cell? ((⟨g, 0, none⟩ : Addr).add j) = some u := hown.cells (g := g) (by rw [hv]; rfl)
     have hra := Go.run_append_grow (P := P) W t o.type e i0 z ht hi hz0 ⟨g, 0, none⟩ xs.length cap inner (by rw [hz1]; exact hown.1) holds ad m c news (by rw [hz1]; exact hnl) hnc (by omega) (by omega) (growslice_fits (by omega) (by rw [hz2]; exact hl))
     have hrun2 := hrun
     rw [hv, hra] at hrun2
     injection hrun2 with f1 f2
     rw [← f2]
     exact R_alloc (R_drew HC) _
 obtain ⟨v1, w1, hr1, h1, hg, hat, hkp⟩ := hrun
 rw [if_pos hw]
 unfold Oper.wp execOp
 simp only [ho, resolve, invoke, builtin, Sem.run_bind, Sem.run_pure, Result.andThen_ok, List.map_toArray, List.map_cons, List.map_nil, hs, hx, hr1]
 exact h v1 w1 h1 (HB.grown hg hbase (own_base hown)) hg hat hkp
end
end Go.Proofs.Ytpgjcnjojfehjaa.Bk
namespace Go.Proofs.Ytpgjcnjojfehjaa.Bk
open Go.RowKit Go.Proofs.YtpgjcnjojfehjaaW.PrintWords Go.Proofs.YtpgjcnjojfehjaaW.PrintLast Go.Proofs.YtpgjcnjojfehjaaW.PrintMore Oct Kx Ab PBlBack
theorem lit_event {P : Program} {ops : Array Oper} {Q : Exit → Act → World → Prop} {o : Oper} {rest : List Oper} {a : Act} {W : World} (hgd : o.guard = none) {N : Tmp} (_hd : o.dst = some N) {n : Nat} {cs : Array Value} {t : TypeId}
  (hrun : (execOp a.eval o).run P W = .ok (.value (.slice (some ⟨W.heap.size, 0, none⟩) n n)) (W.alloc (.cells cs t (0, 0))))
  (h : ∀ g, g = W.heap.size → ∀ w1, w1.heap[g]? = some (.cells cs t (0, 0)) → Below W.heap.size W w1 → wpList P ops Q rest (a.put o.dst (.slice (some ⟨g, 0, none⟩) n n)) w1) : wpList P ops Q (o :: rest) a W :=
 Kd.event_run hgd hrun (h _ rfl _ (blk_new W _) (below_alloc (Below.refl _ _) _))
def set7 (W : World) (g : Nat) (a b c d e f h : Value) : World := ((((((W.setCell ⟨g, 0, none⟩ a).setCell ⟨g, 1, none⟩ b).setCell ⟨g, 2, none⟩ c).setCell ⟨g, 3, none⟩ d).setCell ⟨g, 4, none⟩ e).setCell ⟨g, 5, none⟩ f).setCell ⟨g, 6, none⟩ h
theorem set7_below {w W : World} {g : Nat} (hb : Below w.heap.size w W) (hg : w.heap.size ≤ g) (a b c d e f h : Value) : Below w.heap.size w (set7 W g a b c d e f h) :=
 Below.setCell (p := ⟨g, 6, none⟩) (Below.setCell (p := ⟨g, 5, none⟩) (Below.setCell (p := ⟨g, 4, none⟩) (Below.setCell (p := ⟨g, 3, none⟩) (Below.setCell (p := ⟨g, 2, none⟩) (Below.setCell (p := ⟨g, 1, none⟩) (Below.setCell (p := ⟨g, 0, none⟩) hb hg a) hg b) hg c) hg d) hg e) hg f) hg h
theorem set7_blk {W : World} {g T : Nat} {x0 x1 x2 x3 x4 x5 x6 : Value} (hx : W.heap[g]? = some (.cells #[x0, x1, x2, x3, x4, x5, x6] T (0, 0))) (a b c d e f h : Value) : (set7 W g a b c d e f h).heap[g]? = some (.cells #[a, b, c, d, e, f, h] T (0, 0)) := by
 have h0 : (W.setCell ⟨g, 0, none⟩ a).heap[g]? = some (.cells #[a, x1, x2, x3, x4, x5, x6] T (0, 0)) := blk_set hx 0 a
 have h1 : ((W.setCell ⟨g, 0, none⟩ a).setCell ⟨g, 1, none⟩ b).heap[g]? = some (.cells #[a, b, x2, x3, x4, x5, x6] T (0, 0)) := blk_set h0 1 b
 have h2 : (((W.setCell ⟨g, 0, none⟩ a).setCell ⟨g, 1, none⟩ b).setCell ⟨g, 2, none⟩ c).heap[g]? = some (.cells #[a, b, c, x3, x4, x5, x6] T (0, 0)) := blk_set h1 2 c
 have h3 : ((((W.setCell ⟨g, 0, none⟩ a).setCell ⟨g, 1, none⟩ b).setCell ⟨g, 2, none⟩ c).setCell ⟨g, 3, none⟩ d).heap[g]? = some (.cells #[a, b, c, d, x4, x5, x6] T (0, 0)) := blk_set h2 3 d
 have h4 : (((((W.setCell ⟨g, 0, none⟩ a).setCell ⟨g, 1, none⟩ b).setCell ⟨g, 2, none⟩ c).setCell ⟨g, 3, none⟩ d).setCell ⟨g, 4, none⟩ e).heap[g]? = some (.cells #[a, b, c, d, e, x5, x6] T (0, 0)) := blk_set h3 4 e
 have h5 : ((((((W.setCell ⟨g, 0, none⟩ a).setCell ⟨g, 1, none⟩ b).setCell ⟨g, 2, none⟩ c).setCell ⟨g, 3, none⟩ d).setCell ⟨g, 4, none⟩ e).setCell ⟨g, 5, none⟩ f).heap[g]? = some (.cells #[a, b, c, d, e, f, x6] T (0, 0)) := blk_set h4 5 f
 have h6 : (((((((W.setCell ⟨g, 0, none⟩ a).setCell ⟨g, 1, none⟩ b).setCell ⟨g, 2, none⟩ c).setCell ⟨g, 3, none⟩ d).setCell ⟨g, 4, none⟩ e).setCell ⟨g, 5, none⟩ f).setCell ⟨g, 6, none⟩ h).heap[g]? = some (.cells #[a, b, c, d, e, f, h] T (0, 0)) := blk_set h5 6 h
 exact h6
theorem row_C {α : Type} {d : Kd α} {W : World} {g n e : Nat} {cs : Array Value} {xs : List α} (hb : W.heap[g]? = some (.cells cs e (0, 0))) (hx : xs.length = n) (hn : n ≤ 1000000) (hl : cs.size = n * d.sz) (hrep : Reps (d.M W g (fun _ => True)) d.sz xs cs.toList) (hE : d.E = []) : d.C W (some ⟨g, 0, none⟩) n xs := by
 subst hx
 have h : d.R e W g (fun _ => True) (.slice (some ⟨g, 0, none⟩) xs.length xs.length) xs := by
  refine ⟨fun _ _ => trivial, cs.toList, ⟨by simp [hl], .inr ⟨g, xs.length, cs, by simp, Nat.le_refl _, hb, by simp, by unfold maxLen; omega, by rw [hl], ?_⟩⟩, hrep.imp_ (fun x c hp => d.M_mono (fun k hk => ⟨trivial, ?_⟩) (d.M_bound hp))⟩
  ·rw [List.take_of_length_le (by simp [hl])]
  ·obtain ⟨_, _, _, q, hq, _⟩ := hk
   rw [hE] at hq
   cases hq
 exact (Kd.R_reads' h).2.2
structure Al (w W0 W : World) (va : Value) : Prop where
 keep : ∀ k, k < W0.heap.size → some k ≠ va.ownBlock → W.heap[k]? = W0.heap[k]?
 below : Below w.heap.size w W
 size : W0.heap.size ≤ W.heap.size
section
variable {w W0 W W1 : World} {va : Value}
theorem Al.start (h : Below w.heap.size w W) : Al w W W va := ⟨fun _ _ _ => rfl, h, Nat.le_refl _⟩
theorem Al.step (h : Al w W0 W va) (hb : Below W.heap.size W W1) : Al w W0 W1 va :=
 ⟨fun k hk hn => (hb.block k (Nat.lt_of_lt_of_le hk h.size)).trans (h.keep k hk hn), below_step h.below hb, Nat.le_trans h.size hb.size⟩
theorem Al.grown (h : Al w W0 W va) (hg : W.grownBy W1 va.ownBlock) (hbase : ∀ k, va.ownBlock = some k → w.heap.size ≤ k) : Al w W0 W1 va :=
 ⟨fun k hk hn => (hg.block k (Nat.lt_of_lt_of_le hk h.size) hn).trans (h.keep k hk hn), below_grown h.below hg hbase, Nat.le_trans h.size hg.size⟩
theorem Al.blk (h : Al w W0 W va) {g : Nat} {o : Obj} (hx : W0.heap[g]? = some o) (hn : some g ≠ va.ownBlock) : W.heap[g]? = some o := (h.keep g (blk_lt hx) hn).trans hx
theorem Al.set5 (h : Al w W0 W va) {g : Nat} (hg : W0.heap.size ≤ g) (hw : w.heap.size ≤ W0.heap.size) (a b c d e : Value) : Al w W0 (set5 W g a b c d e) va :=
 ⟨fun k hk hn => by
  have hne : k ≠ g := by omega
  unfold Bk.set5
  exact ((Below.heap_setCell _ ⟨g, 4, none⟩ _ k hne).trans ((Below.heap_setCell _ ⟨g, 3, none⟩ _ k hne).trans ((Below.heap_setCell _ ⟨g, 2, none⟩ _ k hne).trans ((Below.heap_setCell _ ⟨g, 1, none⟩ _ k hne).trans ((Below.heap_setCell _ ⟨g, 0, none⟩ _ k hne).trans (h.keep k hk hn)))))),
 set5_below h.below (Nat.le_trans hw hg) a b c d e, by simpa [Bk.set5, World.setCell] using h.size⟩
theorem Al.row {α : Type} {d : Kd α} {e base : Nat} {ok : Nat → Prop} {v : Value} {xs : List α} (h : Al w W0 W va) (hr : d.R e W0 base ok v xs) (hok : ∀ k, ok k → some k ≠ va.ownBlock) : d.R e W base ok v xs := Kd.R_step hr (fun k hk hl => h.keep k hl (hok k hk))
end
theorem row_types {α β : Type} {d : Kd α} {d' : Kd β} {e e' base base' : Nat} {W : World} {ok ok' : Nat → Prop} {v u : Value} {xs : List α} {ys : List β} (h : d.R e W base ok v xs) (hu : d'.R e' W base' ok' u ys) (ht : ∀ q, q ∈ e :: d.E → q ≠ e') : d.R e W base (fun k => ok k ∧ some k ≠ u.ownBlock) v xs :=
 Kd.R_mono (Kd.R_bound h) (fun k hk => ⟨hk.1, fun e1 => by
  obtain ⟨_, _, _, q, hq, cells, hc⟩ := hk
  obtain ⟨inner, ho⟩ := Kd.R_own hu
  obtain ⟨cells', hc'⟩ := own_typed ho k e1.symm
  rw [hc] at hc'
  injection hc' with hc'
  injection hc' with _ hc'
  exact ht q hq hc'⟩)
theorem C_none {α : Type} (d : Kd α) (W : World) (A : Option Addr) : d.C W A 0 [] := ⟨rfl, by simp, fun h => absurd h (Nat.lt_irrefl 0)⟩
theorem back_same {W W2 : World} {g i T : Nat} {cs : Array Value} {u v : Value} (hx : W.heap[g]? = some (.cells cs T (0, 0))) (hv : cs[i]? = some v) (hb : Below (W.setCell ⟨g, i, none⟩ u).heap.size (W.setCell ⟨g, i, none⟩ u) W2) : Below W.heap.size W (W2.setCell ⟨g, i, none⟩ v) := by
 have hs : (W.setCell ⟨g, i, none⟩ u).heap.size = W.heap.size := by simp [World.setCell]
 have h0 : Below 0 W (W.setCell ⟨g, i, none⟩ u) := Below.setCell (p := ⟨g, i, none⟩) (Below.refl 0 W) (Nat.zero_le _) u
 have h1 : Below 0 (W.setCell ⟨g, i, none⟩ u) W2 := hb.mono (Nat.zero_le _)
 have h2 : Below 0 W (W2.setCell ⟨g, i, none⟩ v) := Below.setCell (p := ⟨g, i, none⟩) (h0.trans h1) (Nat.zero_le _) v
 refine ⟨h2.os, h2.tape, h2.output, h2.size, fun k hk => ?_⟩
 by_cases hkg : k = g
 ·subst hkg
  have e1 := (hb.block k (by rw [hs]; exact hk)).trans (blk_set hx i u)
  have e2 := blk_set e1 i v
  rw [e2, hx]
  congr 2
  apply Array.ext_getElem?
  intro j
  rw [Array.getElem?_setIfInBounds, Array.getElem?_setIfInBounds]
  by_cases hj : i = j
  ·subst hj
   have hlt := (Array.getElem?_eq_some_iff.1 hv).1
   simp [hlt]
   exact (Array.getElem?_eq_some_iff.1 hv).2.symm
  ·simp [hj]
 ·exact (Below.heap_setCell W2 ⟨g, i, none⟩ v k hkg).trans ((hb.block k (by rw [hs]; exact hk)).trans (Below.heap_setCell W ⟨g, i, none⟩ u k hkg))
def T10 : Bool × List (List Nat × List Nat) := (true, [([], []), ([], []), ([], []), ([1, 2], [1, 2]), ([0, 3, 3], [0, 3]), ([4], [4]), ([5], [5]), ([5], [5]), ([], []), ([8, 6, 4, 0, 1, 2, 3, 4, 5, 6, 8], [6, 8]), ([7, 9, 0, 1, 2, 3, 4, 5, 6, 7, 8, 9], [7])])
def B10 : List Nat := [0, 0, 0, 6, 15, 31, 63, 63, 0, 383, 1023]
theorem tab10 : rtab .any (opsOf Try.f8 10) = T10 := by kernel_rfl
theorem bits10 : waitsOk T10.2 B10 = true := by kernel_rfl
def sT : List S46 := [⟨0, false, ⟨#[85, 84, 67]⟩⟩]
def sA : List Int := [0, 0, 0, 0, 0, 0, 85, 84, 67, 0]
def yT : List S46 := [⟨-18000, false, ⟨#[69, 83, 84]⟩⟩, ⟨-14400, true, ⟨#[69, 68, 84]⟩⟩]
def yC : List S48 := [⟨-5, 1⟩]
def yD : List S48 := [⟨2147483648, 1⟩]
def yL : List S50 := [⟨7, 1⟩]
def sF : List Int := [255, 255, 255, 251, 1, 255, 255, 185, 176, 0, 0, 255, 255, 199, 192, 1, 4, 69, 83, 84, 0, 69, 68, 84, 0, 0, 0, 0, 7, 0, 0, 0, 1]
theorem rowT {W : World} {g : Nat} (hb : W.heap[g]? = some (.cells #[.int .i64 0, .bool false, .string ⟨#[85, 84, 67]⟩] 46 (0, 0))) : Kd.C k46 W (some ⟨g, 0, none⟩) 1 sT :=
 row_C hb rfl (by omega) rfl (Reps.c3 (show Kd.M k46 _ _ _ (⟨0, false, ⟨#[85, 84, 67]⟩⟩ : S46) [.int .i64 0, .bool false, .string ⟨#[85, 84, 67]⟩] from k46_mkM _ _ _ (⟨0, false, ⟨#[85, 84, 67]⟩⟩ : S46)) (Reps.none _ _)) rfl
theorem rowY {W : World} {g : Nat} (hb : W.heap[g]? = some (.cells #[.int .i64 (-18000), .bool false, .string ⟨#[69, 83, 84]⟩, .int .i64 (-14400), .bool true, .string ⟨#[69, 68, 84]⟩] 46 (0, 0))) : Kd.C k46 W (some ⟨g, 0, none⟩) 2 yT :=
 row_C hb rfl (by omega) rfl (Reps.c3 (show Kd.M k46 _ _ _ (⟨-18000, false, ⟨#[69, 83, 84]⟩⟩ : S46) [.int .i64 (-18000), .bool false, .string ⟨#[69, 83, 84]⟩] from k46_mkM _ _ _ (⟨-18000, false, ⟨#[69, 83, 84]⟩⟩ : S46)) (Reps.c3 (show Kd.M k46 _ _ _ (⟨-14400, true, ⟨#[69, 68, 84]⟩⟩ : S46) [.int .i64 (-14400), .bool true, .string ⟨#[69, 68, 84]⟩] from k46_mkM _ _ _ (⟨-14400, true, ⟨#[69, 68, 84]⟩⟩ : S46)) (Reps.none _ _))) rfl
theorem rowC {W : World} {g : Nat} (x y : Int) (hb : W.heap[g]? = some (.cells #[.int .i64 x, .int .i64 y] 48 (0, 0))) : Kd.C k48 W (some ⟨g, 0, none⟩) 1 [⟨x, y⟩] :=
 row_C hb rfl (by omega) rfl (Reps.c2 (show Kd.M k48 _ _ _ (⟨x, y⟩ : S48) [.int .i64 x, .int .i64 y] from k48_mkM _ _ _ (⟨x, y⟩ : S48)) (Reps.none _ _)) rfl
theorem rowL {W : World} {g : Nat} (hb : W.heap[g]? = some (.cells #[.int .i64 7, .int .i64 1] 50 (0, 0))) : Kd.C k50 W (some ⟨g, 0, none⟩) 1 yL :=
 row_C hb rfl (by omega) rfl (Reps.c2 (show Kd.M k50 _ _ _ (⟨7, 1⟩ : S50) [.int .i64 7, .int .i64 1] from k50_mkM _ _ _ (⟨7, 1⟩ : S50)) (Reps.none _ _)) rfl
theorem str_A : strOfNums sA = ⟨#[0, 0, 0, 0, 0, 0, 85, 84, 67, 0]⟩ := by kernel_rfl
theorem str_F : strOfNums sF = ⟨#[255, 255, 255, 251, 1, 255, 255, 185, 176, 0, 0, 255, 255, 199, 192, 1, 4, 69, 83, 84, 0, 69, 68, 84, 0, 0, 0, 0, 7, 0, 0, 0, 1]⟩ := by kernel_rfl
theorem e_z8 : encF sT [] [] ⟨#[]⟩ 2 8 = some (sA, true) := by kernel_rfl
theorem c_z : countF sT [] [] ⟨#[]⟩ 2 = some (2, 0, 0, 0, 0, 1, 4, true) := by kernel_rfl
theorem d_z8 : decF 2 0 0 0 0 1 4 sA 8 = some (sT, [], [], ⟨#[]⟩, 2, true) := by kernel_rfl
theorem e_y4 : encF yT yC yL ⟨#[]⟩ 4 4 = some (sF, true) := by kernel_rfl
theorem c_y : countF yT yC yL ⟨#[]⟩ 4 = some (4, 0, 0, 1, 1, 2, 8, true) := by kernel_rfl
theorem d_y4 : decF 4 0 0 1 1 2 8 sF 4 = some (yT, yC, yL, ⟨#[]⟩, 4, true) := by kernel_rfl
theorem e_none : encF [] [] [] ⟨#[]⟩ 2 8 = some ([], false) := by kernel_rfl
theorem d_more : decF 2 0 0 0 0 1 4 (sA ++ [0]) 8 = some ([], [], [], ⟨#[]⟩, 0, false) := by kernel_rfl
theorem e_far : encF yT yD yL ⟨#[]⟩ 4 4 = some ([], false) := by kernel_rfl
set_option maxHeartbeats 4000000 in
set_option maxRecDepth 100000 in
theorem small_true (w : World) : Calls Try.prog 8 #[] w fun e w' => e = .returned (.bool true) ∧ Below w.heap.size w w' := by
 go_enter Try.func8, Try.ntmps8
 have HB_0 := Aside0.mk (Below.refl w.heap.size w)
 go_wp2_with (first | ((with_reducible refine gate_dst (N := 22) rfl ?_); refine lit_event ?hg (N := 22) ?hd (n := 1) (cs := #[.int .i64 0, .bool false, .string ⟨#[85, 84, 67]⟩]) (t := 46) ?hr ?_; (case hd => rfl); (case hg => rfl); (case hr => first | (go_simp; done) | (go_simp; rfl)); intro g1 hg_ w1 hbox hb_; have GT1 : Aside0 (w.heap.size ≤ g1) := ⟨Nat.le_of_eq hg_.symm⟩; have HB_1 := Aside0.mk (below_step HB_0.out hb_); clear HB_0; have T1_1 := Aside0.mk (hbox); clear hbox hb_ hg_) | ((with_reducible refine gate_dst (N := 1) rfl ?_); refine box_event ?hg (N := 1) ?hd (cs := #[.slice none 0 0, .slice none 0 0, .slice none 0 0, .string ⟨#[]⟩, .int .i64 0]) (t := 26) ?hr ?_; (case hd => rfl); (case hg => rfl); (case hr => first | (go_simp; done) | (go_simp; rfl)); intro gz hg_ w2 hbox hb_; have HN := Aside0.mk hb_; have HBX := Aside0.mk hbox; have GZ : Aside0 (w1.heap.size ≤ gz) := ⟨Nat.le_of_eq hg_.symm⟩; obtain ⟨hy0, hy1, hy2, hy3, hy4⟩ := zone_cells hbox; have f0 := blk_frozen hbox 0; have f1 := blk_frozen hbox 1; have f2 := blk_frozen hbox 2; have f3 := blk_frozen hbox 3; have f4 := blk_frozen hbox 4; clear hbox hb_ hg_))
 have HX := Aside0.mk (set5_below HN.out GZ.out (.slice (some ⟨g1, 0, none⟩) 1 1) (.slice none 0 0) (.slice none 0 0) (.string ⟨#[]⟩) (.int .i64 2))
 have HY := Aside0.mk (set5_blk HBX.out (.slice (some ⟨g1, 0, none⟩) 1 1) (.slice none 0 0) (.slice none 0 0) (.string ⟨#[]⟩) (.int .i64 2))
 unfold set5 at HX HY
 clear HBX HN hy0 f0 hy1 f1 hy2 f2 hy3 f3 hy4 f4
 generalize (((((w2.setCell ⟨gz, 0, none⟩ (.slice (some ⟨g1, 0, none⟩) 1 1)).setCell ⟨gz, 1, none⟩ (.slice none 0 0)).setCell ⟨gz, 2, none⟩ (.slice none 0 0)).setCell ⟨gz, 3, none⟩ (.string ⟨#[]⟩)).setCell ⟨gz, 4, none⟩ (.int .i64 2)) = w3 at *
 have HB_3 := Aside0.mk (below_step HB_1.out HX.out)
 have T1_3 := Aside0.mk (blk_below T1_1.out HX.out)
 clear HB_1 T1_1
 have Z_3 := Aside0.mk (HY.out)
 clear HX HY
 refine (encode_is (some ⟨g1, 0, none⟩) 1 sT none 0 [] none 0 [] ⟨#[]⟩ 2 8 sA true w3 (rowT T1_3.out) (Nat.le_refl 1) (Kd.C_nil _ _) (Nat.le_refl 0) (Kd.C_nil _ _) (Nat.le_refl 0) e_z8).mono ?_
 rintro e w4 ⟨v0, rfl, hv, hb_⟩
 obtain ⟨Aa, ca, rfl⟩ := Kd.R_slice hv
 have hv := Kd.R_lower hv (Below.size HB_3.out)
 have HB_4 := Aside0.mk (below_step HB_3.out hb_)
 have T1_4 := Aside0.mk (blk_below T1_3.out hb_)
 have Z_4 := Aside0.mk (blk_below Z_3.out hb_)
 clear HB_3 T1_3 Z_3
 have A_4 := Aside0.mk (hv)
 clear hb_ hv
 obtain ⟨hz0, hz1, hz2, hz3, hz4⟩ := zone_cells Z_4.out
 go_wp2_with fail
 refine (count_is (some ⟨g1, 0, none⟩) 1 sT none 0 [] none 0 [] ⟨#[]⟩ 2 2 0 0 0 0 1 4 true w4 (rowT T1_4.out) (Nat.le_refl 1) (Kd.C_nil _ _) (Nat.le_refl 0) (Kd.C_nil _ _) (Nat.le_refl 0) c_z).mono ?_
 rintro e w5 ⟨rfl, hb_⟩
 have HB_5 := Aside0.mk (below_step HB_4.out hb_)
 have T1_5 := Aside0.mk (blk_below T1_4.out hb_)
 have Z_5 := Aside0.mk (blk_below Z_4.out hb_)
 have A_5 := Aside0.mk (Kd.R_below A_4.out hb_)
 clear HB_4 T1_4 Z_4 A_4
 clear hz0 hz1 hz2 hz3 hz4
 clear hb_
 go_wp2_with ((with_reducible refine gate_dst (N := 4) rfl ?_); refine box_event ?hg (N := 4) ?hd (cs := #[.int .i64 0, .int .i64 0, .int .i64 0, .int .i64 0, .int .i64 0, .int .i64 0, .int .i64 0]) (t := 28) ?hr ?_; (case hd => rfl); (case hg => rfl); (case hr => first | (go_simp; done) | (go_simp; rfl)); intro gh hg_ w6 hbox hb_; have HN := Aside0.mk hb_; have HBX := Aside0.mk hbox; have GH : Aside0 (w5.heap.size ≤ gh) := ⟨Nat.le_of_eq hg_.symm⟩; obtain ⟨hy0, hy1, hy2, hy3, hy4, hy5, hy6⟩ := cells7 hbox; have f0 := blk_frozen hbox 0; have f1 := blk_frozen hbox 1; have f2 := blk_frozen hbox 2; have f3 := blk_frozen hbox 3; have f4 := blk_frozen hbox 4; have f5 := blk_frozen hbox 5; have f6 := blk_frozen hbox 6; clear hbox hb_ hg_)
 have HX := Aside0.mk (set7_below HN.out GH.out (.int .i64 2) (.int .i64 0) (.int .i64 0) (.int .i64 0) (.int .i64 0) (.int .i64 1) (.int .i64 4))
 have HY := Aside0.mk (set7_blk HBX.out (.int .i64 2) (.int .i64 0) (.int .i64 0) (.int .i64 0) (.int .i64 0) (.int .i64 1) (.int .i64 4))
 unfold set7 at HX HY
 clear HBX HN hy0 f0 hy1 f1 hy2 f2 hy3 f3 hy4 f4 hy5 f5 hy6 f6
 generalize (((((((w6.setCell ⟨gh, 0, none⟩ (.int .i64 2)).setCell ⟨gh, 1, none⟩ (.int .i64 0)).setCell ⟨gh, 2, none⟩ (.int .i64 0)).setCell ⟨gh, 3, none⟩ (.int .i64 0)).setCell ⟨gh, 4, none⟩ (.int .i64 0)).setCell ⟨gh, 5, none⟩ (.int .i64 1)).setCell ⟨gh, 6, none⟩ (.int .i64 4)) = w7 at *
 have HB_7 := Aside0.mk (below_step HB_5.out HX.out)
 have T1_7 := Aside0.mk (blk_below T1_5.out HX.out)
 have Z_7 := Aside0.mk (blk_below Z_5.out HX.out)
 have A_7 := Aside0.mk (Kd.R_below A_5.out HX.out)
 clear HB_5 T1_5 Z_5 A_5
 have H_7 := Aside0.mk (HY.out)
 clear HX HY
 refine (decode_is 2 0 0 0 0 1 4 Aa ca sA 8 sT [] [] ⟨#[]⟩ 2 true w7 (Kd.R_reads' A_7.out).2.2 (Kd.R_reads' A_7.out).2.1 d_z8).mono ?_
 rintro e w8 ⟨v0, v1, v2, rfl, hr0, hr1, hr2, hb_⟩
 obtain ⟨D0, d0, rfl⟩ := Kd.R_slice hr0
 obtain ⟨D1, d1, rfl⟩ := Kd.R_slice hr1
 obtain ⟨D2, d2, rfl⟩ := Kd.R_slice hr2
 have HB_8 := Aside0.mk (below_step HB_7.out hb_)
 have T1_8 := Aside0.mk (blk_below T1_7.out hb_)
 have Z_8 := Aside0.mk (blk_below Z_7.out hb_)
 have A_8 := Aside0.mk (Kd.R_below A_7.out hb_)
 have H_8 := Aside0.mk (blk_below H_7.out hb_)
 clear HB_7 T1_7 Z_7 A_7 H_7
 have RD_8 := Aside0.mk (hr0)
 clear hb_ hr0 hr1 hr2
 go_upto_region 5 with ((with_reducible refine gate_dst (N := 6) rfl ?_); refine box_event ?hg (N := 6) ?hd (cs := #[.slice none 0 0, .slice none 0 0, .slice none 0 0, .string ⟨#[]⟩, .int .i64 0]) (t := 26) ?hr ?_; (case hd => rfl); (case hg => rfl); (case hr => first | (go_simp; done) | (go_simp; rfl)); intro gd hg_ w9 hbox hb_; have HN := Aside0.mk hb_; have HBX := Aside0.mk hbox; have GD : Aside0 (w8.heap.size ≤ gd) := ⟨Nat.le_of_eq hg_.symm⟩; obtain ⟨hy0, hy1, hy2, hy3, hy4⟩ := zone_cells hbox; have f0 := blk_frozen hbox 0; have f1 := blk_frozen hbox 1; have f2 := blk_frozen hbox 2; have f3 := blk_frozen hbox 3; have f4 := blk_frozen hbox 4; clear hbox hb_ hg_)
 have HX := Aside0.mk (set5_below HN.out GD.out (.slice D0 sT.length d0) (.slice D1 0 d1) (.slice D2 0 d2) (.string ⟨#[]⟩) (.int .i64 2))
 have HY := Aside0.mk (set5_blk HBX.out (.slice D0 sT.length d0) (.slice D1 0 d1) (.slice D2 0 d2) (.string ⟨#[]⟩) (.int .i64 2))
 unfold set5 at HX HY
 clear HBX HN hy0 f0 hy1 f1 hy2 f2 hy3 f3 hy4 f4
 generalize (((((w9.setCell ⟨gd, 0, none⟩ (.slice D0 sT.length d0)).setCell ⟨gd, 1, none⟩ (.slice D1 0 d1)).setCell ⟨gd, 2, none⟩ (.slice D2 0 d2)).setCell ⟨gd, 3, none⟩ (.string ⟨#[]⟩)).setCell ⟨gd, 4, none⟩ (.int .i64 2)) = w10 at *
 have HB_10 := Aside0.mk (below_step HB_8.out HX.out)
 have T1_10 := Aside0.mk (blk_below T1_8.out HX.out)
 have Z_10 := Aside0.mk (blk_below Z_8.out HX.out)
 have A_10 := Aside0.mk (Kd.R_below A_8.out HX.out)
 have H_10 := Aside0.mk (blk_below H_8.out HX.out)
 have RD_10 := Aside0.mk (Kd.R_below RD_8.out HX.out)
 clear HB_8 T1_8 Z_8 A_8 H_8 RD_8
 have D_10 := Aside0.mk (HY.out)
 clear HX HY
 go_wp2_with (first | ((with_reducible refine gate_dst (N := 42) rfl ?_); refine lit_event ?hg (N := 42) ?hd (n := 2) (cs := #[.int .i64 (-18000), .bool false, .string ⟨#[69, 83, 84]⟩, .int .i64 (-14400), .bool true, .string ⟨#[69, 68, 84]⟩]) (t := 46) ?hr ?_; (case hd => rfl); (case hg => rfl); (case hr => first | (go_simp; done) | (go_simp; rfl)); intro y1 hg_ w11 hbox hb_; have GY1 : Aside0 (w10.heap.size ≤ y1) := ⟨Nat.le_of_eq hg_.symm⟩; have HB_11 := Aside0.mk (below_step HB_10.out hb_); have T1_11 := Aside0.mk (blk_below T1_10.out hb_); have Z_11 := Aside0.mk (blk_below Z_10.out hb_); have A_11 := Aside0.mk (Kd.R_below A_10.out hb_); have H_11 := Aside0.mk (blk_below H_10.out hb_); have RD_11 := Aside0.mk (Kd.R_below RD_10.out hb_); have D_11 := Aside0.mk (blk_below D_10.out hb_); clear HB_10 T1_10 Z_10 A_10 H_10 RD_10 D_10; have Y1_11 := Aside0.mk (hbox); clear hbox hb_ hg_) | ((with_reducible refine gate_dst (N := 44) rfl ?_); refine lit_event ?hg (N := 44) ?hd (n := 1) (cs := #[.int .i64 (-5), .int .i64 1]) (t := 48) ?hr ?_; (case hd => rfl); (case hg => rfl); (case hr => first | (go_simp; done) | (go_simp; rfl)); intro y2 hg_ w12 hbox hb_; have GY2 : Aside0 (w11.heap.size ≤ y2) := ⟨Nat.le_of_eq hg_.symm⟩; have HB_12 := Aside0.mk (below_step HB_11.out hb_); have T1_12 := Aside0.mk (blk_below T1_11.out hb_); have Z_12 := Aside0.mk (blk_below Z_11.out hb_); have A_12 := Aside0.mk (Kd.R_below A_11.out hb_); have H_12 := Aside0.mk (blk_below H_11.out hb_); have RD_12 := Aside0.mk (Kd.R_below RD_11.out hb_); have D_12 := Aside0.mk (blk_below D_11.out hb_); have Y1_12 := Aside0.mk (blk_below Y1_11.out hb_); clear HB_11 T1_11 Z_11 A_11 H_11 RD_11 D_11 Y1_11; have Y2_12 := Aside0.mk (hbox); clear hbox hb_ hg_) | ((with_reducible refine gate_dst (N := 46) rfl ?_); refine lit_event ?hg (N := 46) ?hd (n := 1) (cs := #[.int .i64 7, .int .i64 1]) (t := 50) ?hr ?_; (case hd => rfl); (case hg => rfl); (case hr => first | (go_simp; done) | (go_simp; rfl)); intro y3 hg_ w13 hbox hb_; have GY3 : Aside0 (w12.heap.size ≤ y3) := ⟨Nat.le_of_eq hg_.symm⟩; have HB_13 := Aside0.mk (below_step HB_12.out hb_); have T1_13 := Aside0.mk (blk_below T1_12.out hb_); have Z_13 := Aside0.mk (blk_below Z_12.out hb_); have A_13 := Aside0.mk (Kd.R_below A_12.out hb_); have H_13 := Aside0.mk (blk_below H_12.out hb_); have RD_13 := Aside0.mk (Kd.R_below RD_12.out hb_); have D_13 := Aside0.mk (blk_below D_12.out hb_); have Y1_13 := Aside0.mk (blk_below Y1_12.out hb_); have Y2_13 := Aside0.mk (blk_below Y2_12.out hb_); clear HB_12 T1_12 Z_12 A_12 H_12 RD_12 D_12 Y1_12 Y2_12; have Y3_13 := Aside0.mk (hbox); clear hbox hb_ hg_) | ((with_reducible refine gate_dst (N := 8) rfl ?_); refine box_event ?hg (N := 8) ?hd (cs := #[.slice none 0 0, .slice none 0 0, .slice none 0 0, .string ⟨#[]⟩, .int .i64 0]) (t := 26) ?hr ?_; (case hd => rfl); (case hg => rfl); (case hr => first | (go_simp; done) | (go_simp; rfl)); intro gy hg_ w14 hbox hb_; have HN := Aside0.mk hb_; have HBX := Aside0.mk hbox; have GY : Aside0 (w13.heap.size ≤ gy) := ⟨Nat.le_of_eq hg_.symm⟩; obtain ⟨hy0, hy1, hy2, hy3, hy4⟩ := zone_cells hbox; have f0 := blk_frozen hbox 0; have f1 := blk_frozen hbox 1; have f2 := blk_frozen hbox 2; have f3 := blk_frozen hbox 3; have f4 := blk_frozen hbox 4; clear hbox hb_ hg_))
 have HX := Aside0.mk (set5_below HN.out GY.out (.slice (some ⟨y1, 0, none⟩) 2 2) (.slice (some ⟨y2, 0, none⟩) 1 1) (.slice (some ⟨y3, 0, none⟩) 1 1) (.string ⟨#[]⟩) (.int .i64 4))
 have HY := Aside0.mk (set5_blk HBX.out (.slice (some ⟨y1, 0, none⟩) 2 2) (.slice (some ⟨y2, 0, none⟩) 1 1) (.slice (some ⟨y3, 0, none⟩) 1 1) (.string ⟨#[]⟩) (.int .i64 4))
 unfold set5 at HX HY
 clear HBX HN hy0 f0 hy1 f1 hy2 f2 hy3 f3 hy4 f4
 generalize (((((w14.setCell ⟨gy, 0, none⟩ (.slice (some ⟨y1, 0, none⟩) 2 2)).setCell ⟨gy, 1, none⟩ (.slice (some ⟨y2, 0, none⟩) 1 1)).setCell ⟨gy, 2, none⟩ (.slice (some ⟨y3, 0, none⟩) 1 1)).setCell ⟨gy, 3, none⟩ (.string ⟨#[]⟩)).setCell ⟨gy, 4, none⟩ (.int .i64 4)) = w15 at *
 have HB_15 := Aside0.mk (below_step HB_13.out HX.out)
 have T1_15 := Aside0.mk (blk_below T1_13.out HX.out)
 have Z_15 := Aside0.mk (blk_below Z_13.out HX.out)
 have A_15 := Aside0.mk (Kd.R_below A_13.out HX.out)
 have H_15 := Aside0.mk (blk_below H_13.out HX.out)
 have RD_15 := Aside0.mk (Kd.R_below RD_13.out HX.out)
 have D_15 := Aside0.mk (blk_below D_13.out HX.out)
 have Y1_15 := Aside0.mk (blk_below Y1_13.out HX.out)
 have Y2_15 := Aside0.mk (blk_below Y2_13.out HX.out)
 have Y3_15 := Aside0.mk (blk_below Y3_13.out HX.out)
 clear HB_13 T1_13 Z_13 A_13 H_13 RD_13 D_13 Y1_13 Y2_13 Y3_13
 have Y_15 := Aside0.mk (HY.out)
 clear HX HY
 refine (encode_is (some ⟨y1, 0, none⟩) 2 yT (some ⟨y2, 0, none⟩) 1 yC (some ⟨y3, 0, none⟩) 1 yL ⟨#[]⟩ 4 4 sF true w15 (rowY Y1_15.out) (Nat.le_refl 2) (rowC (-5) 1 Y2_15.out) (Nat.le_refl 1) (rowL Y3_15.out) (Nat.le_refl 1) e_y4).mono ?_
 rintro e w16 ⟨v0, rfl, hv, hb_⟩
 obtain ⟨Af, cf, rfl⟩ := Kd.R_slice hv
 have hv := Kd.R_newR hv A_15.out
 have HB_16 := Aside0.mk (below_step HB_15.out hb_)
 have T1_16 := Aside0.mk (blk_below T1_15.out hb_)
 have Z_16 := Aside0.mk (blk_below Z_15.out hb_)
 have A_16 := Aside0.mk (Kd.R_below A_15.out hb_)
 have H_16 := Aside0.mk (blk_below H_15.out hb_)
 have RD_16 := Aside0.mk (Kd.R_below RD_15.out hb_)
 have D_16 := Aside0.mk (blk_below D_15.out hb_)
 have Y1_16 := Aside0.mk (blk_below Y1_15.out hb_)
 have Y2_16 := Aside0.mk (blk_below Y2_15.out hb_)
 have Y3_16 := Aside0.mk (blk_below Y3_15.out hb_)
 have Y_16 := Aside0.mk (blk_below Y_15.out hb_)
 clear HB_15 T1_15 Z_15 A_15 H_15 RD_15 D_15 Y1_15 Y2_15 Y3_15 Y_15
 have FR_16 := Aside0.mk (hv)
 clear hb_ hv
 obtain ⟨hz0, hz1, hz2, hz3, hz4⟩ := zone_cells Y_16.out
 go_wp2_with fail
 refine (count_is (some ⟨y1, 0, none⟩) 2 yT (some ⟨y2, 0, none⟩) 1 yC (some ⟨y3, 0, none⟩) 1 yL ⟨#[]⟩ 4 4 0 0 1 1 2 8 true w16 (rowY Y1_16.out) (Nat.le_refl 2) (rowC (-5) 1 Y2_16.out) (Nat.le_refl 1) (rowL Y3_16.out) (Nat.le_refl 1) c_y).mono ?_
 rintro e w17 ⟨rfl, hb_⟩
 have HB_17 := Aside0.mk (below_step HB_16.out hb_)
 have T1_17 := Aside0.mk (blk_below T1_16.out hb_)
 have Z_17 := Aside0.mk (blk_below Z_16.out hb_)
 have A_17 := Aside0.mk (Kd.R_below A_16.out hb_)
 have H_17 := Aside0.mk (blk_below H_16.out hb_)
 have RD_17 := Aside0.mk (Kd.R_below RD_16.out hb_)
 have D_17 := Aside0.mk (blk_below D_16.out hb_)
 have Y1_17 := Aside0.mk (blk_below Y1_16.out hb_)
 have Y2_17 := Aside0.mk (blk_below Y2_16.out hb_)
 have Y3_17 := Aside0.mk (blk_below Y3_16.out hb_)
 have Y_17 := Aside0.mk (blk_below Y_16.out hb_)
 have FR_17 := Aside0.mk (Kd.R_below FR_16.out hb_)
 clear HB_16 T1_16 Z_16 A_16 H_16 RD_16 D_16 Y1_16 Y2_16 Y3_16 Y_16 FR_16
 clear hz0 hz1 hz2 hz3 hz4
 clear hb_
 go_wp2_with ((with_reducible refine gate_dst (N := 11) rfl ?_); refine box_event ?hg (N := 11) ?hd (cs := #[.int .i64 0, .int .i64 0, .int .i64 0, .int .i64 0, .int .i64 0, .int .i64 0, .int .i64 0]) (t := 28) ?hr ?_; (case hd => rfl); (case hg => rfl); (case hr => first | (go_simp; done) | (go_simp; rfl)); intro gi hg_ w18 hbox hb_; have HN := Aside0.mk hb_; have HBX := Aside0.mk hbox; have GI : Aside0 (w17.heap.size ≤ gi) := ⟨Nat.le_of_eq hg_.symm⟩; obtain ⟨hy0, hy1, hy2, hy3, hy4, hy5, hy6⟩ := cells7 hbox; have f0 := blk_frozen hbox 0; have f1 := blk_frozen hbox 1; have f2 := blk_frozen hbox 2; have f3 := blk_frozen hbox 3; have f4 := blk_frozen hbox 4; have f5 := blk_frozen hbox 5; have f6 := blk_frozen hbox 6; clear hbox hb_ hg_)
 have HX := Aside0.mk (set7_below HN.out GI.out (.int .i64 4) (.int .i64 0) (.int .i64 0) (.int .i64 1) (.int .i64 1) (.int .i64 2) (.int .i64 8))
 have HY := Aside0.mk (set7_blk HBX.out (.int .i64 4) (.int .i64 0) (.int .i64 0) (.int .i64 1) (.int .i64 1) (.int .i64 2) (.int .i64 8))
 unfold set7 at HX HY
 clear HBX HN hy0 f0 hy1 f1 hy2 f2 hy3 f3 hy4 f4 hy5 f5 hy6 f6
 generalize (((((((w18.setCell ⟨gi, 0, none⟩ (.int .i64 4)).setCell ⟨gi, 1, none⟩ (.int .i64 0)).setCell ⟨gi, 2, none⟩ (.int .i64 0)).setCell ⟨gi, 3, none⟩ (.int .i64 1)).setCell ⟨gi, 4, none⟩ (.int .i64 1)).setCell ⟨gi, 5, none⟩ (.int .i64 2)).setCell ⟨gi, 6, none⟩ (.int .i64 8)) = w19 at *
 have HB_19 := Aside0.mk (below_step HB_17.out HX.out)
 have T1_19 := Aside0.mk (blk_below T1_17.out HX.out)
 have Z_19 := Aside0.mk (blk_below Z_17.out HX.out)
 have A_19 := Aside0.mk (Kd.R_below A_17.out HX.out)
 have H_19 := Aside0.mk (blk_below H_17.out HX.out)
 have RD_19 := Aside0.mk (Kd.R_below RD_17.out HX.out)
 have D_19 := Aside0.mk (blk_below D_17.out HX.out)
 have Y1_19 := Aside0.mk (blk_below Y1_17.out HX.out)
 have Y2_19 := Aside0.mk (blk_below Y2_17.out HX.out)
 have Y3_19 := Aside0.mk (blk_below Y3_17.out HX.out)
 have Y_19 := Aside0.mk (blk_below Y_17.out HX.out)
 have FR_19 := Aside0.mk (Kd.R_below FR_17.out HX.out)
 clear HB_17 T1_17 Z_17 A_17 H_17 RD_17 D_17 Y1_17 Y2_17 Y3_17 Y_17 FR_17
 have I_19 := Aside0.mk (HY.out)
 clear HX HY
 refine (decode_is 4 0 0 1 1 2 8 Af cf sF 4 yT yC yL ⟨#[]⟩ 4 true w19 (Kd.R_reads' FR_19.out).2.2 (Kd.R_reads' FR_19.out).2.1 d_y4).mono ?_
 rintro e w20 ⟨v0, v1, v2, rfl, hr0, hr1, hr2, hb_⟩
 obtain ⟨L0, e0, rfl⟩ := Kd.R_slice hr0
 obtain ⟨L1, e1, rfl⟩ := Kd.R_slice hr1
 obtain ⟨L2, e2, rfl⟩ := Kd.R_slice hr2
 have HB_20 := Aside0.mk (below_step HB_19.out hb_)
 have T1_20 := Aside0.mk (blk_below T1_19.out hb_)
 have Z_20 := Aside0.mk (blk_below Z_19.out hb_)
 have A_20 := Aside0.mk (Kd.R_below A_19.out hb_)
 have H_20 := Aside0.mk (blk_below H_19.out hb_)
 have RD_20 := Aside0.mk (Kd.R_below RD_19.out hb_)
 have D_20 := Aside0.mk (blk_below D_19.out hb_)
 have Y1_20 := Aside0.mk (blk_below Y1_19.out hb_)
 have Y2_20 := Aside0.mk (blk_below Y2_19.out hb_)
 have Y3_20 := Aside0.mk (blk_below Y3_19.out hb_)
 have Y_20 := Aside0.mk (blk_below Y_19.out hb_)
 have FR_20 := Aside0.mk (Kd.R_below FR_19.out hb_)
 have I_20 := Aside0.mk (blk_below I_19.out hb_)
 clear HB_19 T1_19 Z_19 A_19 H_19 RD_19 D_19 Y1_19 Y2_19 Y3_19 Y_19 FR_19 I_19
 have L0_20 := Aside0.mk (hr0)
 have L1_20 := Aside0.mk (hr1)
 have L2_20 := Aside0.mk (hr2)
 clear hb_ hr0 hr1 hr2
 go_wp2_with ((with_reducible refine gate_dst (N := 13) rfl ?_); refine box_event ?hg (N := 13) ?hd (cs := #[.slice none 0 0, .slice none 0 0, .slice none 0 0, .string ⟨#[]⟩, .int .i64 0]) (t := 26) ?hr ?_; (case hd => rfl); (case hg => rfl); (case hr => first | (go_simp; done) | (go_simp; rfl)); intro gl hg_ w21 hbox hb_; have HN := Aside0.mk hb_; have HBX := Aside0.mk hbox; have GL : Aside0 (w20.heap.size ≤ gl) := ⟨Nat.le_of_eq hg_.symm⟩; obtain ⟨hy0, hy1, hy2, hy3, hy4⟩ := zone_cells hbox; have f0 := blk_frozen hbox 0; have f1 := blk_frozen hbox 1; have f2 := blk_frozen hbox 2; have f3 := blk_frozen hbox 3; have f4 := blk_frozen hbox 4; clear hbox hb_ hg_)
 have HX := Aside0.mk (set5_below HN.out GL.out (.slice L0 yT.length e0) (.slice L1 yC.length e1) (.slice L2 yL.length e2) (.string ⟨#[]⟩) (.int .i64 4))
 have HY := Aside0.mk (set5_blk HBX.out (.slice L0 yT.length e0) (.slice L1 yC.length e1) (.slice L2 yL.length e2) (.string ⟨#[]⟩) (.int .i64 4))
 unfold set5 at HX HY
 clear HBX HN hy0 f0 hy1 f1 hy2 f2 hy3 f3 hy4 f4
 generalize (((((w21.setCell ⟨gl, 0, none⟩ (.slice L0 yT.length e0)).setCell ⟨gl, 1, none⟩ (.slice L1 yC.length e1)).setCell ⟨gl, 2, none⟩ (.slice L2 yL.length e2)).setCell ⟨gl, 3, none⟩ (.string ⟨#[]⟩)).setCell ⟨gl, 4, none⟩ (.int .i64 4)) = w22 at *
 have HB_22 := Aside0.mk (below_step HB_20.out HX.out)
 have T1_22 := Aside0.mk (blk_below T1_20.out HX.out)
 have Z_22 := Aside0.mk (blk_below Z_20.out HX.out)
 have A_22 := Aside0.mk (Kd.R_below A_20.out HX.out)
 have H_22 := Aside0.mk (blk_below H_20.out HX.out)
 have RD_22 := Aside0.mk (Kd.R_below RD_20.out HX.out)
 have D_22 := Aside0.mk (blk_below D_20.out HX.out)
 have Y1_22 := Aside0.mk (blk_below Y1_20.out HX.out)
 have Y2_22 := Aside0.mk (blk_below Y2_20.out HX.out)
 have Y3_22 := Aside0.mk (blk_below Y3_20.out HX.out)
 have Y_22 := Aside0.mk (blk_below Y_20.out HX.out)
 have FR_22 := Aside0.mk (Kd.R_below FR_20.out HX.out)
 have I_22 := Aside0.mk (blk_below I_20.out HX.out)
 have L0_22 := Aside0.mk (Kd.R_below L0_20.out HX.out)
 have L1_22 := Aside0.mk (Kd.R_below L1_20.out HX.out)
 have L2_22 := Aside0.mk (Kd.R_below L2_20.out HX.out)
 clear HB_20 T1_20 Z_20 A_20 H_20 RD_20 D_20 Y1_20 Y2_20 Y3_20 Y_20 FR_20 I_20 L0_20 L1_20 L2_20
 have L_22 := Aside0.mk (HY.out)
 clear HX HY
 clear I_22
 refine (encode_is none 0 [] none 0 [] none 0 [] ⟨#[]⟩ 2 8 [] false w22 (Kd.C_nil _ _) (Nat.le_refl 0) (Kd.C_nil _ _) (Nat.le_refl 0) (Kd.C_nil _ _) (Nat.le_refl 0) e_none).mono ?_
 rintro e w23 ⟨v0, rfl, hv, hb_⟩
 have HB_23 := Aside0.mk (below_step HB_22.out hb_)
 have T1_23 := Aside0.mk (blk_below T1_22.out hb_)
 have Z_23 := Aside0.mk (blk_below Z_22.out hb_)
 have A_23 := Aside0.mk (Kd.R_below A_22.out hb_)
 have H_23 := Aside0.mk (blk_below H_22.out hb_)
 have RD_23 := Aside0.mk (Kd.R_below RD_22.out hb_)
 have D_23 := Aside0.mk (blk_below D_22.out hb_)
 have Y1_23 := Aside0.mk (blk_below Y1_22.out hb_)
 have Y2_23 := Aside0.mk (blk_below Y2_22.out hb_)
 have Y3_23 := Aside0.mk (blk_below Y3_22.out hb_)
 have Y_23 := Aside0.mk (blk_below Y_22.out hb_)
 have FR_23 := Aside0.mk (Kd.R_below FR_22.out hb_)
 have L0_23 := Aside0.mk (Kd.R_below L0_22.out hb_)
 have L1_23 := Aside0.mk (Kd.R_below L1_22.out hb_)
 have L2_23 := Aside0.mk (Kd.R_below L2_22.out hb_)
 have L_23 := Aside0.mk (blk_below L_22.out hb_)
 clear HB_22 T1_22 Z_22 A_22 H_22 RD_22 D_22 Y1_22 Y2_22 Y3_22 Y_22 FR_22 L0_22 L1_22 L2_22 L_22
 clear hb_ hv
 obtain ⟨hx0, hx1, hx2, hx3, hx4, hx5, hx6⟩ := cells7 H_23.out
 go_upto_region 10 with fail
 clear hx0 hx1 hx2 hx3 hx4 hx5 hx6
 have HB_d := Aside0.mk (below_step HB_23.out (below_drew (Below.refl _ _) : Below w23.heap.size w23 w23.drew))
 have T1_d := Aside0.mk (blk_below T1_23.out (below_drew (Below.refl _ _) : Below w23.heap.size w23 w23.drew))
 have Z_d := Aside0.mk (blk_below Z_23.out (below_drew (Below.refl _ _) : Below w23.heap.size w23 w23.drew))
 have A_d := Aside0.mk (Kd.R_below A_23.out (below_drew (Below.refl _ _) : Below w23.heap.size w23 w23.drew))
 have H_d := Aside0.mk (blk_below H_23.out (below_drew (Below.refl _ _) : Below w23.heap.size w23 w23.drew))
 have RD_d := Aside0.mk (Kd.R_below RD_23.out (below_drew (Below.refl _ _) : Below w23.heap.size w23 w23.drew))
 have D_d := Aside0.mk (blk_below D_23.out (below_drew (Below.refl _ _) : Below w23.heap.size w23 w23.drew))
 have Y1_d := Aside0.mk (blk_below Y1_23.out (below_drew (Below.refl _ _) : Below w23.heap.size w23 w23.drew))
 have Y2_d := Aside0.mk (blk_below Y2_23.out (below_drew (Below.refl _ _) : Below w23.heap.size w23 w23.drew))
 have Y3_d := Aside0.mk (blk_below Y3_23.out (below_drew (Below.refl _ _) : Below w23.heap.size w23 w23.drew))
 have Y_d := Aside0.mk (blk_below Y_23.out (below_drew (Below.refl _ _) : Below w23.heap.size w23 w23.drew))
 have FR_d := Aside0.mk (Kd.R_below FR_23.out (below_drew (Below.refl _ _) : Below w23.heap.size w23 w23.drew))
 have L0_d := Aside0.mk (Kd.R_below L0_23.out (below_drew (Below.refl _ _) : Below w23.heap.size w23 w23.drew))
 have L1_d := Aside0.mk (Kd.R_below L1_23.out (below_drew (Below.refl _ _) : Below w23.heap.size w23 w23.drew))
 have L2_d := Aside0.mk (Kd.R_below L2_23.out (below_drew (Below.refl _ _) : Below w23.heap.size w23 w23.drew))
 have L_d := Aside0.mk (blk_below L_23.out (below_drew (Below.refl _ _) : Below w23.heap.size w23 w23.drew))
 clear HB_23 T1_23 Z_23 A_23 H_23 RD_23 D_23 Y1_23 Y2_23 Y3_23 Y_23 FR_23 L0_23 L1_23 L2_23 L_23
 refine start_ (n := 11) (S := fun w' => w'.cell? ⟨gh, 0, none⟩ = some (.int .i64 2) ∧ w'.cell? ⟨gh, 1, none⟩ = some (.int .i64 0) ∧ w'.cell? ⟨gh, 2, none⟩ = some (.int .i64 0) ∧ w'.cell? ⟨gh, 3, none⟩ = some (.int .i64 0) ∧ w'.cell? ⟨gh, 4, none⟩ = some (.int .i64 0) ∧ w'.cell? ⟨gh, 5, none⟩ = some (.int .i64 1) ∧ w'.cell? ⟨gh, 6, none⟩ = some (.int .i64 4)) (ds := []) #[false, false, false, false, false, false, false, false, false, false, false] (by kernel_rfl) rfl rfl (cells7 H_d.out) (fun hHeld => ?_); refine with_tabW tab10 bits10 (fun HT_ HW_ => ?_)
 generalize w23.drew = w24 at *
 have HVB := Aside0.mk (Kd.R_base A_d.out)
 have HVN := Aside0.mk (Kd.R_ne A_d.out H_d.out (by decide))
 have HAL := Aside0.mk (Al.start (va := .slice Aa sA.length ca) HB_d.out)
 refine pure_ (i := 1) (N := some 71) (v := ?_) (a' := ?_) #[false, true, false, false, false, false, false, false, false, false, false] rfl rfl (any_of HT_.out (by kernel_rfl)) (fun _ _ _ h => h) (Or.inl ⟨by rfl, ?_⟩) ?_ ?_
 rotate_left
 ·intro w'
  go_simp
  with_reducible rfl
 rotate_left
 ·simp only [Act.put, List.setIfInBounds_toArray, List.set_cons_zero, List.set_cons_succ]
  rfl
 refine take_ (i := 0) (N := some 70) (v := ?_) (a' := ?_) #[true, true, false, false, false, false, false, false, false, false, false] rfl rfl (take_ofW HT_.out HW_.out (by kernel_rfl)) (fun _ _ _ h => h) (Or.inl ⟨by rfl, ?_⟩) hHeld ?_ ?_
 rotate_left
 ·rintro w' ⟨s0, s1, s2, s3, s4, s5, s6⟩
  go_simp
  with_reducible rfl
 rotate_left
 ·simp only [Act.put, List.setIfInBounds_toArray, List.set_cons_zero, List.set_cons_succ]
  rfl
 refine join_ (σ := Value × Value × Value × Value × Value × Nat) 2 #[true, true, true, true, true, true, true, true, true, false, false] (fun s_ => [(72, s_.1), (73, s_.2.1), (74, .tuple #[.agg #[s_.2.2.1, s_.2.2.2.1, s_.2.2.2.2.1, .string ⟨#[]⟩, .int .i64 0], .bool false]), (17, .pointer (some ⟨s_.2.2.2.2.2, 0, none⟩)), (69, .tuple #[.agg #[s_.2.2.1, s_.2.2.2.1, s_.2.2.2.2.1, .string ⟨#[]⟩, .int .i64 0], .bool false]), (75, .agg #[s_.2.2.1, s_.2.2.2.1, s_.2.2.2.2.1, .string ⟨#[]⟩, .int .i64 0]), (76, .bool false)]) (fun s_ w' => Al w w24 w' (.slice Aa sA.length ca) ∧ Kd.R (Kd.int .u8) 5 w' w.heap.size (fun _ => True) (.slice Aa sA.length ca) sA ∧ w'.heap[s_.2.2.2.2.2]? = some (.cells #[.slice none 0 0, .slice none 0 0, .slice none 0 0, .string ⟨#[]⟩, .int .i64 0] 26 (0, 0)) ∧ w24.heap.size ≤ s_.2.2.2.2.2 ∧ (∃ A c, s_.2.2.1 = .slice A 0 c) ∧ (∃ A c, s_.2.2.2.1 = .slice A 0 c) ∧ (∃ A c, s_.2.2.2.2.1 = .slice A 0 c)) ?_ ?_
 rotate_left
 ·intro hCont
  refine two_ (i := 2) (j := 8) (Ni := some 72) (Nj := some 17) #[true, true, true, false, false, false, false, false, false, false, false] #[true, true, false, false, false, false, false, false, true, false, false] rfl rfl rfl rfl (two_of HT_.out (by kernel_rfl)) (by decide) (by decide) (fun K hK => ?_) (fun K hK => ?_)
  ·skip
   refine Kd.R_lit_step (Kd.int .u8) _ 5 ?hg (N := 72) ?hd (xs := ([0] : List Int)) (inner := [.int .u8 0]) (ok := fun _ => True) (okp := fun _ => True) ?hr ?hp (fun _ hk => hk) trivial (Below.refl _ _) (Nat.le_refl _) (by simp) ?_; (case hd => rfl); (case hg => rfl); (case hr => first | (go_simp; done) | (go_simp; rfl)); (case hp => exact (Reps.one (show Kd.M (Kd.int .u8) _ _ _ 0 [.int .u8 0] from rfl) (Reps.none _ _)))
   intro vs wr1 hs_ hb_ _ _
   obtain ⟨As, cs, rfl⟩ := Kd.R_slice hs_
   have AL2 := Aside0.mk (Al.step HAL.out hb_)
   have RA2 := Aside0.mk (Kd.R_below A_d.out hb_)
   have SR2 := Aside0.mk (Kd.R_reads' hs_).2.2
   refine hK.out _ _ (cells7 (Al.blk AL2.out H_d.out HVN.out)) (fun hHeld => ?_)
   refine norm_ (a' := ?_) ?_ ?_
   rotate_left
   ·show Act.put _ (some 72) _ = _
    simp only [Act.put, List.setIfInBounds_toArray, List.set_cons_zero, List.set_cons_succ]
    rfl
   refine two_ (i := 3) (j := 8) (Ni := some 73) (Nj := some 17) #[true, true, true, true, false, false, false, false, false, false, false] #[true, true, true, false, false, false, false, false, true, false, false] rfl rfl rfl rfl (two_of HT_.out (by kernel_rfl)) (by decide) (by decide) (fun K hK => ?_) (fun K hK => ?_)
   ·skip
    refine R_append_keep_step (Kd.int .u8) (w0 := w) w.heap.size (by rfl) (.tmp 71) (.tmp 72) 29 5 (.int .u8 0) 1 rfl Try.underlying29 info5 rfl (by decide) (by omega) (.slice Aa sA.length ca) sA [0] As 1 cs (fun _ => True) (fun _ => False) rfl rfl ?aO ?aR (fun _ _ h => h) (fun _ h => h.elim) ?aF ?aB ?aS ?aL ?_
    (case aR => exact SR2.out)
    (case aB => exact AL2.out.below)
    (case aF => exact (fun _ _ => trivial))
    (case aO => exact RA2.out)
    (case aS => exact Below.size AL2.out.below)
    (case aL => decide)
    intro vp wr3 hp_ _ hg_ _ hk_
    obtain ⟨Ap, cp, rfl⟩ := Kd.R_slice hp_
    have AL4 := Aside0.mk (Al.grown AL2.out hg_ HVB.out)
    have RA4 := Aside0.mk (hk_)
    have AP4 := Aside0.mk (Kd.R_reads' hp_).2
    refine hK.out _ _ (cells7 (Al.blk AL4.out H_d.out HVN.out)) (fun hHeld => ?_)
    refine norm_ (a' := ?_) ?_ ?_
    rotate_left
    ·show Act.put _ (some 73) _ = _
     simp only [Act.put, List.setIfInBounds_toArray, List.set_cons_zero, List.set_cons_succ]
     rfl
    refine two_ (i := 4) (j := 8) (Ni := some 74) (Nj := some 17) #[true, true, true, true, true, false, false, false, false, false, false] #[true, true, true, true, false, false, false, false, true, false, false] rfl rfl rfl rfl (two_of HT_.out (by kernel_rfl)) (by decide) (by decide) (fun K hK => ?_) (fun K hK => ?_)
    ·skip
     refine goes_ Try.func14 (by kernel_rfl) rfl #[.agg #[.int .i64 2, .int .i64 0, .int .i64 0, .int .i64 0, .int .i64 0, .int .i64 1, .int .i64 4], .slice Ap (sA ++ [0]).length cp, .int .i64 8] (by rfl) rfl rfl (by (try simp only [List.map_toArray, List.map_cons, List.map_nil]); first | done | rfl) ?_
     refine (decode_is 2 0 0 0 0 1 4 Ap cp (sA ++ [0]) 8 [] [] [] ⟨#[]⟩ 0 false _ AP4.out.2 AP4.out.1 d_more).mono ?_
     rintro e wr5 ⟨v0, v1, v2, rfl, hr0, hr1, hr2, hb_⟩
     obtain ⟨E0, x0, rfl⟩ := Kd.R_slice hr0
     obtain ⟨E1, x1, rfl⟩ := Kd.R_slice hr1
     obtain ⟨E2, x2, rfl⟩ := Kd.R_slice hr2
     refine ⟨_, rfl, ?_⟩
     have AL6 := Aside0.mk (Al.step AL4.out hb_)
     have RA6 := Aside0.mk (Kd.R_below RA4.out hb_)
     refine hK.out _ _ (cells7 (Al.blk AL6.out H_d.out HVN.out)) (fun hHeld => ?_)
     refine norm_ (a' := ?_) ?_ ?_
     rotate_left
     ·show Act.put _ (some 74) _ = _
      simp only [Act.put, List.setIfInBounds_toArray, List.set_cons_zero, List.set_cons_succ]
      rfl
     refine pure_ (i := 5) (N := some 69) (v := ?_) (a' := ?_) #[true, true, true, true, true, true, false, false, false, false, false] rfl rfl (any_of HT_.out (by kernel_rfl)) (fun _ _ _ h => h) (Or.inl ⟨by rfl, ?_⟩) ?_ ?_
     rotate_left
     ·intro w'
      go_simp
      with_reducible rfl
     rotate_left
     ·simp only [Act.put, List.setIfInBounds_toArray, List.set_cons_zero, List.set_cons_succ]
      rfl
     refine pure_ (i := 6) (N := some 75) (v := ?_) (a' := ?_) #[true, true, true, true, true, true, true, false, false, false, false] rfl rfl (any_of HT_.out (by kernel_rfl)) (fun _ _ _ h => h) (Or.inl ⟨by rfl, ?_⟩) ?_ ?_
     rotate_left
     ·intro w'
      go_simp
      with_reducible rfl
     rotate_left
     ·simp only [Act.put, List.setIfInBounds_toArray, List.set_cons_zero, List.set_cons_succ]
      rfl
     refine pure_ (i := 7) (N := some 76) (v := ?_) (a' := ?_) #[true, true, true, true, true, true, true, true, false, false, false] rfl rfl (any_of HT_.out (by kernel_rfl)) (fun _ _ _ h => h) (Or.inl ⟨by rfl, ?_⟩) ?_ ?_
     rotate_left
     ·intro w'
      go_simp
      with_reducible rfl
     rotate_left
     ·simp only [Act.put, List.setIfInBounds_toArray, List.set_cons_zero, List.set_cons_succ]
      rfl
     refine one_ (i := 8) (N := some 17) #[true, true, true, true, true, true, true, true, true, false, false] rfl rfl (one_of HT_.out (by kernel_rfl)) (by decide) (fun K hK => ?_)
     refine box_step ?hg (N := 17) ?hd (cs := #[.slice none 0 0, .slice none 0 0, .slice none 0 0, .string ⟨#[]⟩, .int .i64 0]) (t := 26) ?hr ?_; (case hd => rfl); (case hg => rfl); (case hr => first | (go_simp; done) | (go_simp; rfl))
     intro gb hgb wr7 hbx_ hb_
     have GBX : Aside0 (w24.heap.size ≤ gb) := ⟨by have := AL6.out.size; omega⟩
     have AL8 := Aside0.mk (Al.step AL6.out hb_)
     have RA8 := Aside0.mk (Kd.R_below RA6.out hb_)
     have BX8 := Aside0.mk hbx_
     refine hK.out _ _ (cells7 (Al.blk AL8.out H_d.out HVN.out)) (fun hHeld => ?_)
     refine norm_ (a' := ?_) ?_ ?_
     rotate_left
     ·show Act.put _ (some 17) _ = _
      simp only [Act.put, List.setIfInBounds_toArray, List.set_cons_zero, List.set_cons_succ]
      rfl
     exact norm_ (by simp only [putAll, Act.put, List.setIfInBounds_toArray, List.set_cons_zero, List.set_cons_succ] <;> rfl) (hCont (.slice As ([0] : List Int).length cs, .slice Ap (sA ++ [0]).length cp, .slice E0 ([] : List S46).length x0, .slice E1 ([] : List S48).length x1, .slice E2 ([] : List S50).length x2, gb) _ ⟨AL8.out, RA8.out, BX8.out, GBX.out, ⟨_, _, rfl⟩, ⟨_, _, rfl⟩, ⟨_, _, rfl⟩⟩)
    ·skip
     refine box_step ?hg (N := 17) ?hd (cs := #[.slice none 0 0, .slice none 0 0, .slice none 0 0, .string ⟨#[]⟩, .int .i64 0]) (t := 26) ?hr ?_; (case hd => rfl); (case hg => rfl); (case hr => first | (go_simp; done) | (go_simp; rfl))
     intro gb hgb wr9 hbx_ hb_
     have APx := Aside0.mk (And.intro AP4.out.1 (Kd.C_below AP4.out.2 hb_))
     have GBX : Aside0 (w24.heap.size ≤ gb) := ⟨by have := AL4.out.size; omega⟩
     have AL10 := Aside0.mk (Al.step AL4.out hb_)
     have RA10 := Aside0.mk (Kd.R_below RA4.out hb_)
     have BX10 := Aside0.mk hbx_
     refine hK.out _ _ (cells7 (Al.blk AL10.out H_d.out HVN.out)) (fun hHeld => ?_)
     refine norm_ (a' := ?_) ?_ ?_
     rotate_left
     ·show Act.put _ (some 17) _ = _
      simp only [Act.put, List.setIfInBounds_toArray, List.set_cons_zero, List.set_cons_succ]
      rfl
     refine one_ (i := 4) (N := some 74) #[true, true, true, true, true, false, false, false, true, false, false] rfl rfl (one_of HT_.out (by kernel_rfl)) (by decide) (fun K hK => ?_)
     refine goes_ Try.func14 (by kernel_rfl) rfl #[.agg #[.int .i64 2, .int .i64 0, .int .i64 0, .int .i64 0, .int .i64 0, .int .i64 1, .int .i64 4], .slice Ap (sA ++ [0]).length cp, .int .i64 8] (by rfl) rfl rfl (by (try simp only [List.map_toArray, List.map_cons, List.map_nil]); first | done | rfl) ?_
     refine (decode_is 2 0 0 0 0 1 4 Ap cp (sA ++ [0]) 8 [] [] [] ⟨#[]⟩ 0 false _ APx.out.2 APx.out.1 d_more).mono ?_
     rintro e wr11 ⟨v0, v1, v2, rfl, hr0, hr1, hr2, hb_⟩
     obtain ⟨E0, x0, rfl⟩ := Kd.R_slice hr0
     obtain ⟨E1, x1, rfl⟩ := Kd.R_slice hr1
     obtain ⟨E2, x2, rfl⟩ := Kd.R_slice hr2
     refine ⟨_, rfl, ?_⟩
     have AL12 := Aside0.mk (Al.step AL10.out hb_)
     have RA12 := Aside0.mk (Kd.R_below RA10.out hb_)
     have BX12 := Aside0.mk (blk_below BX10.out hb_)
     refine hK.out _ _ (cells7 (Al.blk AL12.out H_d.out HVN.out)) (fun hHeld => ?_)
     refine norm_ (a' := ?_) ?_ ?_
     rotate_left
     ·show Act.put _ (some 74) _ = _
      simp only [Act.put, List.setIfInBounds_toArray, List.set_cons_zero, List.set_cons_succ]
      rfl
     refine pure_ (i := 5) (N := some 69) (v := ?_) (a' := ?_) #[true, true, true, true, true, true, false, false, true, false, false] rfl rfl (any_of HT_.out (by kernel_rfl)) (fun _ _ _ h => h) (Or.inl ⟨by rfl, ?_⟩) ?_ ?_
     rotate_left
     ·intro w'
      go_simp
      with_reducible rfl
     rotate_left
     ·simp only [Act.put, List.setIfInBounds_toArray, List.set_cons_zero, List.set_cons_succ]
      rfl
     refine pure_ (i := 6) (N := some 75) (v := ?_) (a' := ?_) #[true, true, true, true, true, true, true, false, true, false, false] rfl rfl (any_of HT_.out (by kernel_rfl)) (fun _ _ _ h => h) (Or.inl ⟨by rfl, ?_⟩) ?_ ?_
     rotate_left
     ·intro w'
      go_simp
      with_reducible rfl
     rotate_left
     ·simp only [Act.put, List.setIfInBounds_toArray, List.set_cons_zero, List.set_cons_succ]
      rfl
     refine pure_ (i := 7) (N := some 76) (v := ?_) (a' := ?_) #[true, true, true, true, true, true, true, true, true, false, false] rfl rfl (any_of HT_.out (by kernel_rfl)) (fun _ _ _ h => h) (Or.inl ⟨by rfl, ?_⟩) ?_ ?_
     rotate_left
     ·intro w'
      go_simp
      with_reducible rfl
     rotate_left
     ·simp only [Act.put, List.setIfInBounds_toArray, List.set_cons_zero, List.set_cons_succ]
      rfl
     exact norm_ (by simp only [putAll, Act.put, List.setIfInBounds_toArray, List.set_cons_zero, List.set_cons_succ] <;> rfl) (hCont (.slice As ([0] : List Int).length cs, .slice Ap (sA ++ [0]).length cp, .slice E0 ([] : List S46).length x0, .slice E1 ([] : List S48).length x1, .slice E2 ([] : List S50).length x2, gb) _ ⟨AL12.out, RA12.out, BX12.out, GBX.out, ⟨_, _, rfl⟩, ⟨_, _, rfl⟩, ⟨_, _, rfl⟩⟩)
   ·skip
    refine box_step ?hg (N := 17) ?hd (cs := #[.slice none 0 0, .slice none 0 0, .slice none 0 0, .string ⟨#[]⟩, .int .i64 0]) (t := 26) ?hr ?_; (case hd => rfl); (case hg => rfl); (case hr => first | (go_simp; done) | (go_simp; rfl))
    intro gb hgb wr13 hbx_ hb_
    have GBX : Aside0 (w24.heap.size ≤ gb) := ⟨by have := AL2.out.size; omega⟩
    have AL14 := Aside0.mk (Al.step AL2.out hb_)
    have RA14 := Aside0.mk (Kd.R_below RA2.out hb_)
    have SR14 := Aside0.mk (Kd.C_below SR2.out hb_)
    have BX14 := Aside0.mk hbx_
    refine hK.out _ _ (cells7 (Al.blk AL14.out H_d.out HVN.out)) (fun hHeld => ?_)
    refine norm_ (a' := ?_) ?_ ?_
    rotate_left
    ·show Act.put _ (some 17) _ = _
     simp only [Act.put, List.setIfInBounds_toArray, List.set_cons_zero, List.set_cons_succ]
     rfl
    refine one_ (i := 3) (N := some 73) #[true, true, true, true, false, false, false, false, true, false, false] rfl rfl (one_of HT_.out (by kernel_rfl)) (by decide) (fun K hK => ?_)
    refine R_append_keep_step (Kd.int .u8) (w0 := w) w.heap.size (by rfl) (.tmp 71) (.tmp 72) 29 5 (.int .u8 0) 1 rfl Try.underlying29 info5 rfl (by decide) (by omega) (.slice Aa sA.length ca) sA [0] As 1 cs (fun _ => True) (fun _ => False) rfl rfl ?aO ?aR (fun _ _ h => h) (fun _ h => h.elim) ?aF ?aB ?aS ?aL ?_
    (case aR => exact SR14.out)
    (case aB => exact AL14.out.below)
    (case aF => exact (fun _ _ => trivial))
    (case aO => exact RA14.out)
    (case aS => exact Below.size AL14.out.below)
    (case aL => decide)
    intro vp wr15 hp_ _ hg_ _ hk_
    obtain ⟨Ap, cp, rfl⟩ := Kd.R_slice hp_
    have AL16 := Aside0.mk (Al.grown AL14.out hg_ HVB.out)
    have RA16 := Aside0.mk (hk_)
    have BX16 := Aside0.mk (blk_grown BX14.out hg_ (Kd.R_ne RA14.out BX14.out (by decide)))
    have AP16 := Aside0.mk (Kd.R_reads' hp_).2
    refine hK.out _ _ (cells7 (Al.blk AL16.out H_d.out HVN.out)) (fun hHeld => ?_)
    refine norm_ (a' := ?_) ?_ ?_
    rotate_left
    ·show Act.put _ (some 73) _ = _
     simp only [Act.put, List.setIfInBounds_toArray, List.set_cons_zero, List.set_cons_succ]
     rfl
    refine one_ (i := 4) (N := some 74) #[true, true, true, true, true, false, false, false, true, false, false] rfl rfl (one_of HT_.out (by kernel_rfl)) (by decide) (fun K hK => ?_)
    refine goes_ Try.func14 (by kernel_rfl) rfl #[.agg #[.int .i64 2, .int .i64 0, .int .i64 0, .int .i64 0, .int .i64 0, .int .i64 1, .int .i64 4], .slice Ap (sA ++ [0]).length cp, .int .i64 8] (by rfl) rfl rfl (by (try simp only [List.map_toArray, List.map_cons, List.map_nil]); first | done | rfl) ?_
    refine (decode_is 2 0 0 0 0 1 4 Ap cp (sA ++ [0]) 8 [] [] [] ⟨#[]⟩ 0 false _ AP16.out.2 AP16.out.1 d_more).mono ?_
    rintro e wr17 ⟨v0, v1, v2, rfl, hr0, hr1, hr2, hb_⟩
    obtain ⟨E0, x0, rfl⟩ := Kd.R_slice hr0
    obtain ⟨E1, x1, rfl⟩ := Kd.R_slice hr1
    obtain ⟨E2, x2, rfl⟩ := Kd.R_slice hr2
    refine ⟨_, rfl, ?_⟩
    have AL18 := Aside0.mk (Al.step AL16.out hb_)
    have RA18 := Aside0.mk (Kd.R_below RA16.out hb_)
    have BX18 := Aside0.mk (blk_below BX16.out hb_)
    refine hK.out _ _ (cells7 (Al.blk AL18.out H_d.out HVN.out)) (fun hHeld => ?_)
    refine norm_ (a' := ?_) ?_ ?_
    rotate_left
    ·show Act.put _ (some 74) _ = _
     simp only [Act.put, List.setIfInBounds_toArray, List.set_cons_zero, List.set_cons_succ]
     rfl
    refine pure_ (i := 5) (N := some 69) (v := ?_) (a' := ?_) #[true, true, true, true, true, true, false, false, true, false, false] rfl rfl (any_of HT_.out (by kernel_rfl)) (fun _ _ _ h => h) (Or.inl ⟨by rfl, ?_⟩) ?_ ?_
    rotate_left
    ·intro w'
     go_simp
     with_reducible rfl
    rotate_left
    ·simp only [Act.put, List.setIfInBounds_toArray, List.set_cons_zero, List.set_cons_succ]
     rfl
    refine pure_ (i := 6) (N := some 75) (v := ?_) (a' := ?_) #[true, true, true, true, true, true, true, false, true, false, false] rfl rfl (any_of HT_.out (by kernel_rfl)) (fun _ _ _ h => h) (Or.inl ⟨by rfl, ?_⟩) ?_ ?_
    rotate_left
    ·intro w'
     go_simp
     with_reducible rfl
    rotate_left
    ·simp only [Act.put, List.setIfInBounds_toArray, List.set_cons_zero, List.set_cons_succ]
     rfl
    refine pure_ (i := 7) (N := some 76) (v := ?_) (a' := ?_) #[true, true, true, true, true, true, true, true, true, false, false] rfl rfl (any_of HT_.out (by kernel_rfl)) (fun _ _ _ h => h) (Or.inl ⟨by rfl, ?_⟩) ?_ ?_
    rotate_left
    ·intro w'
     go_simp
     with_reducible rfl
    rotate_left
    ·simp only [Act.put, List.setIfInBounds_toArray, List.set_cons_zero, List.set_cons_succ]
     rfl
    exact norm_ (by simp only [putAll, Act.put, List.setIfInBounds_toArray, List.set_cons_zero, List.set_cons_succ] <;> rfl) (hCont (.slice As ([0] : List Int).length cs, .slice Ap (sA ++ [0]).length cp, .slice E0 ([] : List S46).length x0, .slice E1 ([] : List S48).length x1, .slice E2 ([] : List S50).length x2, gb) _ ⟨AL18.out, RA18.out, BX18.out, GBX.out, ⟨_, _, rfl⟩, ⟨_, _, rfl⟩, ⟨_, _, rfl⟩⟩)
  ·skip
   refine box_step ?hg (N := 17) ?hd (cs := #[.slice none 0 0, .slice none 0 0, .slice none 0 0, .string ⟨#[]⟩, .int .i64 0]) (t := 26) ?hr ?_; (case hd => rfl); (case hg => rfl); (case hr => first | (go_simp; done) | (go_simp; rfl))
   intro gb hgb wr19 hbx_ hb_
   have GBX : Aside0 (w24.heap.size ≤ gb) := ⟨by have := HAL.out.size; omega⟩
   have AL20 := Aside0.mk (Al.step HAL.out hb_)
   have RA20 := Aside0.mk (Kd.R_below A_d.out hb_)
   have BX20 := Aside0.mk hbx_
   refine hK.out _ _ (cells7 (Al.blk AL20.out H_d.out HVN.out)) (fun hHeld => ?_)
   refine norm_ (a' := ?_) ?_ ?_
   rotate_left
   ·show Act.put _ (some 17) _ = _
    simp only [Act.put, List.setIfInBounds_toArray, List.set_cons_zero, List.set_cons_succ]
    rfl
   refine one_ (i := 2) (N := some 72) #[true, true, true, false, false, false, false, false, true, false, false] rfl rfl (one_of HT_.out (by kernel_rfl)) (by decide) (fun K hK => ?_)
   refine Kd.R_lit_step (Kd.int .u8) _ 5 ?hg (N := 72) ?hd (xs := ([0] : List Int)) (inner := [.int .u8 0]) (ok := fun _ => True) (okp := fun _ => True) ?hr ?hp (fun _ hk => hk) trivial (Below.refl _ _) (Nat.le_refl _) (by simp) ?_; (case hd => rfl); (case hg => rfl); (case hr => first | (go_simp; done) | (go_simp; rfl)); (case hp => exact (Reps.one (show Kd.M (Kd.int .u8) _ _ _ 0 [.int .u8 0] from rfl) (Reps.none _ _)))
   intro vs wr21 hs_ hb_ _ _
   obtain ⟨As, cs, rfl⟩ := Kd.R_slice hs_
   have AL22 := Aside0.mk (Al.step AL20.out hb_)
   have RA22 := Aside0.mk (Kd.R_below RA20.out hb_)
   have BX22 := Aside0.mk (blk_below BX20.out hb_)
   have SR22 := Aside0.mk (Kd.R_reads' hs_).2.2
   refine hK.out _ _ (cells7 (Al.blk AL22.out H_d.out HVN.out)) (fun hHeld => ?_)
   refine norm_ (a' := ?_) ?_ ?_
   rotate_left
   ·show Act.put _ (some 72) _ = _
    simp only [Act.put, List.setIfInBounds_toArray, List.set_cons_zero, List.set_cons_succ]
    rfl
   refine one_ (i := 3) (N := some 73) #[true, true, true, true, false, false, false, false, true, false, false] rfl rfl (one_of HT_.out (by kernel_rfl)) (by decide) (fun K hK => ?_)
   refine R_append_keep_step (Kd.int .u8) (w0 := w) w.heap.size (by rfl) (.tmp 71) (.tmp 72) 29 5 (.int .u8 0) 1 rfl Try.underlying29 info5 rfl (by decide) (by omega) (.slice Aa sA.length ca) sA [0] As 1 cs (fun _ => True) (fun _ => False) rfl rfl ?aO ?aR (fun _ _ h => h) (fun _ h => h.elim) ?aF ?aB ?aS ?aL ?_
   (case aR => exact SR22.out)
   (case aB => exact AL22.out.below)
   (case aF => exact (fun _ _ => trivial))
   (case aO => exact RA22.out)
   (case aS => exact Below.size AL22.out.below)
   (case aL => decide)
   intro vp wr23 hp_ _ hg_ _ hk_
   obtain ⟨Ap, cp, rfl⟩ := Kd.R_slice hp_
   have AL24 := Aside0.mk (Al.grown AL22.out hg_ HVB.out)
   have RA24 := Aside0.mk (hk_)
   have BX24 := Aside0.mk (blk_grown BX22.out hg_ (Kd.R_ne RA22.out BX22.out (by decide)))
   have AP24 := Aside0.mk (Kd.R_reads' hp_).2
   refine hK.out _ _ (cells7 (Al.blk AL24.out H_d.out HVN.out)) (fun hHeld => ?_)
   refine norm_ (a' := ?_) ?_ ?_
   rotate_left
   ·show Act.put _ (some 73) _ = _
    simp only [Act.put, List.setIfInBounds_toArray, List.set_cons_zero, List.set_cons_succ]
    rfl
   refine one_ (i := 4) (N := some 74) #[true, true, true, true, true, false, false, false, true, false, false] rfl rfl (one_of HT_.out (by kernel_rfl)) (by decide) (fun K hK => ?_)
   refine goes_ Try.func14 (by kernel_rfl) rfl #[.agg #[.int .i64 2, .int .i64 0, .int .i64 0, .int .i64 0, .int .i64 0, .int .i64 1, .int .i64 4], .slice Ap (sA ++ [0]).length cp, .int .i64 8] (by rfl) rfl rfl (by (try simp only [List.map_toArray, List.map_cons, List.map_nil]); first | done | rfl) ?_
   refine (decode_is 2 0 0 0 0 1 4 Ap cp (sA ++ [0]) 8 [] [] [] ⟨#[]⟩ 0 false _ AP24.out.2 AP24.out.1 d_more).mono ?_
   rintro e wr25 ⟨v0, v1, v2, rfl, hr0, hr1, hr2, hb_⟩
   obtain ⟨E0, x0, rfl⟩ := Kd.R_slice hr0
   obtain ⟨E1, x1, rfl⟩ := Kd.R_slice hr1
   obtain ⟨E2, x2, rfl⟩ := Kd.R_slice hr2
   refine ⟨_, rfl, ?_⟩
   have AL26 := Aside0.mk (Al.step AL24.out hb_)
   have RA26 := Aside0.mk (Kd.R_below RA24.out hb_)
   have BX26 := Aside0.mk (blk_below BX24.out hb_)
   refine hK.out _ _ (cells7 (Al.blk AL26.out H_d.out HVN.out)) (fun hHeld => ?_)
   refine norm_ (a' := ?_) ?_ ?_
   rotate_left
   ·show Act.put _ (some 74) _ = _
    simp only [Act.put, List.setIfInBounds_toArray, List.set_cons_zero, List.set_cons_succ]
    rfl
   refine pure_ (i := 5) (N := some 69) (v := ?_) (a' := ?_) #[true, true, true, true, true, true, false, false, true, false, false] rfl rfl (any_of HT_.out (by kernel_rfl)) (fun _ _ _ h => h) (Or.inl ⟨by rfl, ?_⟩) ?_ ?_
   rotate_left
   ·intro w'
    go_simp
    with_reducible rfl
   rotate_left
   ·simp only [Act.put, List.setIfInBounds_toArray, List.set_cons_zero, List.set_cons_succ]
    rfl
   refine pure_ (i := 6) (N := some 75) (v := ?_) (a' := ?_) #[true, true, true, true, true, true, true, false, true, false, false] rfl rfl (any_of HT_.out (by kernel_rfl)) (fun _ _ _ h => h) (Or.inl ⟨by rfl, ?_⟩) ?_ ?_
   rotate_left
   ·intro w'
    go_simp
    with_reducible rfl
   rotate_left
   ·simp only [Act.put, List.setIfInBounds_toArray, List.set_cons_zero, List.set_cons_succ]
    rfl
   refine pure_ (i := 7) (N := some 76) (v := ?_) (a' := ?_) #[true, true, true, true, true, true, true, true, true, false, false] rfl rfl (any_of HT_.out (by kernel_rfl)) (fun _ _ _ h => h) (Or.inl ⟨by rfl, ?_⟩) ?_ ?_
   rotate_left
   ·intro w'
    go_simp
    with_reducible rfl
   rotate_left
   ·simp only [Act.put, List.setIfInBounds_toArray, List.set_cons_zero, List.set_cons_succ]
    rfl
   exact norm_ (by simp only [putAll, Act.put, List.setIfInBounds_toArray, List.set_cons_zero, List.set_cons_succ] <;> rfl) (hCont (.slice As ([0] : List Int).length cs, .slice Ap (sA ++ [0]).length cp, .slice E0 ([] : List S46).length x0, .slice E1 ([] : List S48).length x1, .slice E2 ([] : List S50).length x2, gb) _ ⟨AL26.out, RA26.out, BX26.out, GBX.out, ⟨_, _, rfl⟩, ⟨_, _, rfl⟩, ⟨_, _, rfl⟩⟩)
 rintro ⟨vs, vp, v0, v1, v2, gb⟩ w25 ⟨hal_, hra_, hbx_, hge_, ⟨E0, x0, h0_⟩, ⟨E1, x1, h1_⟩, ⟨E2, x2, h2_⟩⟩
 dsimp only at h0_ h1_ h2_ hbx_ hge_
 subst h0_ h1_ h2_
 have HAL1 := Aside0.mk hal_
 have HRA := Aside0.mk hra_
 have HBX := Aside0.mk hbx_
 have HGE : Aside0 (w24.heap.size ≤ gb) := ⟨hge_⟩
 have HGN : Aside0 (gh ≠ gb) := ⟨by have := blk_lt H_d.out; omega⟩
 have HGY : Aside0 (gy ≠ gb) := ⟨by have := blk_lt Y_d.out; omega⟩
 clear hal_ hra_ hge_ hHeld HAL
 refine norm_ (a' := ?_) ?_ ?_
 rotate_left
 ·simp only [putAll, Act.put, List.setIfInBounds_toArray, List.set_cons_zero, List.set_cons_succ]
  rfl
 refine one_ (i := 9) (N := none) #[true, true, true, true, true, true, true, true, true, true, false] rfl rfl (one_of HT_.out (by kernel_rfl)) (by decide) (fun K hK => ?_)
 obtain ⟨hy0, hy1, hy2, hy3, hy4⟩ := zone_cells hbx_
 have f0 := blk_frozen hbx_ 0
 have f1 := blk_frozen hbx_ 1
 have f2 := blk_frozen hbx_ 2
 have f3 := blk_frozen hbx_ 3
 have f4 := blk_frozen hbx_ 4
 clear hbx_
 refine skip_ (w1 := ?_) (by rfl) rfl ?_ ?_
 rotate_left
 ·go_simp
  rfl
 have HAL2 := Aside0.mk (Al.set5 HAL1.out HGE.out (Below.size HB_d.out) (.slice E0 0 x0) (.slice E1 0 x1) (.slice E2 0 x2) (.string ⟨#[]⟩) (.int .i64 0))
 have HRA2 := Aside0.mk (set5_row HRA.out HBX.out (E5 (by decide)) (Nat.le_refl _) (.slice E0 0 x0) (.slice E1 0 x1) (.slice E2 0 x2) (.string ⟨#[]⟩) (.int .i64 0))
 unfold set5 at HAL2 HRA2
 clear hy0 hy1 hy2 hy3 hy4 f0 f1 f2 f3 f4 HBX HAL1 HRA
 generalize (((((w25.setCell ⟨gb, 0, none⟩ (.slice E0 0 x0)).setCell ⟨gb, 1, none⟩ (.slice E1 0 x1)).setCell ⟨gb, 2, none⟩ (.slice E2 0 x2)).setCell ⟨gb, 3, none⟩ (.string ⟨#[]⟩)).setCell ⟨gb, 4, none⟩ (.int .i64 0)) = w26 at *
 refine hK.out _ _ (cells7 (Al.blk HAL2.out H_d.out HVN.out)) (fun _ => ?_)
 clear hK K
 refine pure_ (i := 10) (N := some 18) (v := ?_) (a' := ?_) #[true, true, true, true, true, true, true, true, true, true, true] rfl rfl (any_of HT_.out (by kernel_rfl)) (fun _ _ _ h => h) (Or.inl ⟨by rfl, ?_⟩) ?_ ?_
 rotate_left
 ·intro w'
  go_simp
  with_reducible rfl
 rotate_left
 ·simp only [Act.put, List.setIfInBounds_toArray, List.set_cons_zero, List.set_cons_succ]
  rfl
 refine done_ (done_of HT_.out (by kernel_rfl)) ?_
 have HB_26 := Aside0.mk (HAL2.out.below)
 have T1_26 := Aside0.mk (Al.blk HAL2.out T1_d.out (Kd.R_ne A_d.out T1_d.out (by decide)))
 have Z_26 := Aside0.mk (Al.blk HAL2.out Z_d.out (Kd.R_ne A_d.out Z_d.out (by decide)))
 have A_26 := Aside0.mk (HRA2.out)
 have H_26 := Aside0.mk (Al.blk HAL2.out H_d.out (Kd.R_ne A_d.out H_d.out (by decide)))
 have RD_26 := Aside0.mk (Kd.R_mono (Al.row HAL2.out (row_types RD_d.out A_d.out (by decide)) (fun _ hk => hk.2)) (ok' := fun _ => True) (fun _ _ => trivial))
 have D_26 := Aside0.mk (Al.blk HAL2.out D_d.out (Kd.R_ne A_d.out D_d.out (by decide)))
 have Y1_26 := Aside0.mk (Al.blk HAL2.out Y1_d.out (Kd.R_ne A_d.out Y1_d.out (by decide)))
 have Y2_26 := Aside0.mk (Al.blk HAL2.out Y2_d.out (Kd.R_ne A_d.out Y2_d.out (by decide)))
 have Y3_26 := Aside0.mk (Al.blk HAL2.out Y3_d.out (Kd.R_ne A_d.out Y3_d.out (by decide)))
 have Y_26 := Aside0.mk (Al.blk HAL2.out Y_d.out (Kd.R_ne A_d.out Y_d.out (by decide)))
 have FR_26 := Aside0.mk (Al.row HAL2.out FR_d.out (fun _ hk => hk.2))
 have L0_26 := Aside0.mk (Kd.R_mono (Al.row HAL2.out (row_types L0_d.out A_d.out (by decide)) (fun _ hk => hk.2)) (ok' := fun _ => True) (fun _ _ => trivial))
 have L1_26 := Aside0.mk (Kd.R_mono (Al.row HAL2.out (row_types L1_d.out A_d.out (by decide)) (fun _ hk => hk.2)) (ok' := fun _ => True) (fun _ _ => trivial))
 have L2_26 := Aside0.mk (Kd.R_mono (Al.row HAL2.out (row_types L2_d.out A_d.out (by decide)) (fun _ hk => hk.2)) (ok' := fun _ => True) (fun _ _ => trivial))
 have L_26 := Aside0.mk (Al.blk HAL2.out L_d.out (Kd.R_ne A_d.out L_d.out (by decide)))
 clear HB_d T1_d Z_d A_d H_d RD_d D_d Y1_d Y2_d Y3_d Y_d FR_d L0_d L1_d L2_d L_d HAL2 HRA2 HT_ HW_ HVB HVN HGE HGN HGY
 obtain ⟨hz0, hz1, hz2, hz3, hz4⟩ := zone_cells Y_26.out
 have hq0 : w26.cell? ⟨y2, 0, none⟩ = some (.int .i64 (-5)) := (blk_cell Y2_26.out 0).trans rfl
 have fq0 := blk_frozen Y2_26.out 0
 go_upto_region 12 with fail
 clear hz0 hz1 hz2 hz3 hz4 hq0 fq0
 have PY1 := Aside0.mk (blk_far (p := ⟨y2, 0, none⟩) Y1_26.out (blk_ne Y1_26.out Y2_26.out (by decide)) (.int .i64 2147483648))
 have PY3 := Aside0.mk (blk_far (p := ⟨y2, 0, none⟩) Y3_26.out (blk_ne Y3_26.out Y2_26.out (by decide)) (.int .i64 2147483648))
 have PY := Aside0.mk (blk_far (p := ⟨y2, 0, none⟩) Y_26.out (blk_ne Y_26.out Y2_26.out (by decide)) (.int .i64 2147483648))
 have PY2 : Aside0 ((w26.setCell ⟨y2, 0, none⟩ (.int .i64 2147483648)).heap[y2]? = some (.cells #[.int .i64 2147483648, .int .i64 1] 48 (0, 0))) := ⟨blk_set Y2_26.out 0 (.int .i64 2147483648)⟩
 have HBK := Aside0.mk (fun (W2 : World) (hb : Below (w26.setCell ⟨y2, 0, none⟩ (.int .i64 2147483648)).heap.size (w26.setCell ⟨y2, 0, none⟩ (.int .i64 2147483648)) W2) => back_same (v := .int .i64 (-5)) Y2_26.out rfl hb)
 generalize (w26.setCell ⟨y2, 0, none⟩ (.int .i64 2147483648)) = w27 at *
 obtain ⟨hz0, hz1, hz2, hz3, hz4⟩ := zone_cells PY.out
 go_wp2_with fail
 refine (encode_is (some ⟨y1, 0, none⟩) 2 yT (some ⟨y2, 0, none⟩) 1 yD (some ⟨y3, 0, none⟩) 1 yL ⟨#[]⟩ 4 4 [] false w27 (rowY PY1.out) (Nat.le_refl 2) (rowC 2147483648 1 PY2.out) (Nat.le_refl 1) (rowL PY3.out) (Nat.le_refl 1) e_far).mono ?_
 rintro e w28 ⟨v0f, rfl, hv, hb_⟩
 obtain ⟨Ae, ce, rfl⟩ := Kd.R_slice hv
 have HBK2 := Aside0.mk (HBK.out _ hb_)
 have QY := Aside0.mk (blk_below PY.out hb_)
 have QY2 := Aside0.mk (blk_below PY2.out hb_)
 clear hz0 hz1 hz2 hz3 hz4
 clear HBK PY1 PY2 PY3 PY hv hb_
 obtain ⟨hz0, hz1, hz2, hz3, hz4⟩ := zone_cells QY.out
 have hq0 : w28.cell? ⟨y2, 0, none⟩ = some (.int .i64 2147483648) := (blk_cell QY2.out 0).trans rfl
 have fq0 := blk_frozen QY2.out 0
 go_upto_region 14 with fail
 clear hz0 hz1 hz2 hz3 hz4 hq0 fq0
 clear QY QY2
 generalize (w28.setCell ⟨y2, 0, none⟩ (.int .i64 (-5))) = w29 at *
 have HB_29 := Aside0.mk (below_step HB_26.out HBK2.out)
 have T1_29 := Aside0.mk (blk_below T1_26.out HBK2.out)
 have Z_29 := Aside0.mk (blk_below Z_26.out HBK2.out)
 have A_29 := Aside0.mk (Kd.R_below A_26.out HBK2.out)
 have H_29 := Aside0.mk (blk_below H_26.out HBK2.out)
 have RD_29 := Aside0.mk (Kd.R_below RD_26.out HBK2.out)
 have D_29 := Aside0.mk (blk_below D_26.out HBK2.out)
 have Y1_29 := Aside0.mk (blk_below Y1_26.out HBK2.out)
 have Y2_29 := Aside0.mk (blk_below Y2_26.out HBK2.out)
 have Y3_29 := Aside0.mk (blk_below Y3_26.out HBK2.out)
 have Y_29 := Aside0.mk (blk_below Y_26.out HBK2.out)
 have FR_29 := Aside0.mk (Kd.R_below FR_26.out HBK2.out)
 have L0_29 := Aside0.mk (Kd.R_below L0_26.out HBK2.out)
 have L1_29 := Aside0.mk (Kd.R_below L1_26.out HBK2.out)
 have L2_29 := Aside0.mk (Kd.R_below L2_26.out HBK2.out)
 have L_29 := Aside0.mk (blk_below L_26.out HBK2.out)
 clear HB_26 T1_26 Z_26 A_26 H_26 RD_26 D_26 Y1_26 Y2_26 Y3_26 Y_26 FR_26 L0_26 L1_26 L2_26 L_26
 clear HBK2
 have hca := own_string (P := Try.prog) Try.underlying29 Try.underlying5 Try.underlying9 (Kd.own_of_R A_29.out)
 rw [str_A] at hca
 obtain ⟨hx0, hx1, hx2, hx3, hx4, hx5, hx6⟩ := cells7 H_29.out
 obtain ⟨hz0, hz1, hz2, hz3, hz4⟩ := zone_cells D_29.out
 obtain ⟨hy0, hy1, hy2, hy3, hy4⟩ := zone_cells Z_29.out
 go_wp2_with fail
 obtain ⟨k1, h1⟩ := same_ev sT [] [] ⟨#[]⟩ 2 (by decide) (by decide) (by decide)
 refine (epactref16_Same.calls k1 D0 d0 sT D1 d1 [] D2 d2 [] ⟨#[]⟩ 2 (some ⟨g1, 0, none⟩) 1 sT none 0 [] none 0 [] ⟨#[]⟩ 2 true w29 (Kd.R_reads' RD_29.out).2.2 (Kd.R_reads' RD_29.out).2.1 (C_none _ _ _) (Nat.zero_le _) (C_none _ _ _) (Nat.zero_le _) (rowT T1_29.out) (Nat.le_refl 1) (C_none _ _ _) (Nat.le_refl 0) (C_none _ _ _) (Nat.le_refl 0) (h1 k1 (Nat.le_refl _))).mono ?_
 rintro e w30 ⟨rfl, hb_⟩
 have HB_30 := Aside0.mk (below_step HB_29.out hb_)
 have T1_30 := Aside0.mk (blk_below T1_29.out hb_)
 have Z_30 := Aside0.mk (blk_below Z_29.out hb_)
 have A_30 := Aside0.mk (Kd.R_below A_29.out hb_)
 have H_30 := Aside0.mk (blk_below H_29.out hb_)
 have RD_30 := Aside0.mk (Kd.R_below RD_29.out hb_)
 have D_30 := Aside0.mk (blk_below D_29.out hb_)
 have Y1_30 := Aside0.mk (blk_below Y1_29.out hb_)
 have Y2_30 := Aside0.mk (blk_below Y2_29.out hb_)
 have Y3_30 := Aside0.mk (blk_below Y3_29.out hb_)
 have Y_30 := Aside0.mk (blk_below Y_29.out hb_)
 have FR_30 := Aside0.mk (Kd.R_below FR_29.out hb_)
 have L0_30 := Aside0.mk (Kd.R_below L0_29.out hb_)
 have L1_30 := Aside0.mk (Kd.R_below L1_29.out hb_)
 have L2_30 := Aside0.mk (Kd.R_below L2_29.out hb_)
 have L_30 := Aside0.mk (blk_below L_29.out hb_)
 clear HB_29 T1_29 Z_29 A_29 H_29 RD_29 D_29 Y1_29 Y2_29 Y3_29 Y_29 FR_29 L0_29 L1_29 L2_29 L_29
 clear hca hx0 hx1 hx2 hx3 hx4 hx5 hx6 hz0 hz1 hz2 hz3 hz4 hy0 hy1 hy2 hy3 hy4
 clear hb_
 clear h1
 have hcf := own_string (P := Try.prog) Try.underlying29 Try.underlying5 Try.underlying9 (Kd.own_of_R FR_30.out)
 rw [str_F] at hcf
 obtain ⟨hz0, hz1, hz2, hz3, hz4⟩ := zone_cells L_30.out
 obtain ⟨hy0, hy1, hy2, hy3, hy4⟩ := zone_cells Y_30.out
 go_wp2_with fail
 obtain ⟨k2, h2⟩ := same_ev yT yC yL ⟨#[]⟩ 4 (by decide) (by decide) (by decide)
 refine (epactref16_Same.calls k2 L0 e0 yT L1 e1 yC L2 e2 yL ⟨#[]⟩ 4 (some ⟨y1, 0, none⟩) 2 yT (some ⟨y2, 0, none⟩) 1 yC (some ⟨y3, 0, none⟩) 1 yL ⟨#[]⟩ 4 true w30 (Kd.R_reads' L0_30.out).2.2 (Kd.R_reads' L0_30.out).2.1 (Kd.R_reads' L1_30.out).2.2 (Kd.R_reads' L1_30.out).2.1 (Kd.R_reads' L2_30.out).2.2 (Kd.R_reads' L2_30.out).2.1 (rowY Y1_30.out) (Nat.le_refl 2) (rowC (-5) 1 Y2_30.out) (Nat.le_refl 1) (rowL Y3_30.out) (Nat.le_refl 1) (h2 k2 (Nat.le_refl _))).mono ?_
 rintro e w31 ⟨rfl, hb_⟩
 have HB_31 := Aside0.mk (below_step HB_30.out hb_)
 have T1_31 := Aside0.mk (blk_below T1_30.out hb_)
 have Z_31 := Aside0.mk (blk_below Z_30.out hb_)
 have A_31 := Aside0.mk (Kd.R_below A_30.out hb_)
 have H_31 := Aside0.mk (blk_below H_30.out hb_)
 have RD_31 := Aside0.mk (Kd.R_below RD_30.out hb_)
 have D_31 := Aside0.mk (blk_below D_30.out hb_)
 have Y1_31 := Aside0.mk (blk_below Y1_30.out hb_)
 have Y2_31 := Aside0.mk (blk_below Y2_30.out hb_)
 have Y3_31 := Aside0.mk (blk_below Y3_30.out hb_)
 have Y_31 := Aside0.mk (blk_below Y_30.out hb_)
 have FR_31 := Aside0.mk (Kd.R_below FR_30.out hb_)
 have L0_31 := Aside0.mk (Kd.R_below L0_30.out hb_)
 have L1_31 := Aside0.mk (Kd.R_below L1_30.out hb_)
 have L2_31 := Aside0.mk (Kd.R_below L2_30.out hb_)
 have L_31 := Aside0.mk (blk_below L_30.out hb_)
 clear HB_30 T1_30 Z_30 A_30 H_30 RD_30 D_30 Y1_30 Y2_30 Y3_30 Y_30 FR_30 L0_30 L1_30 L2_30 L_30
 clear hcf hz0 hz1 hz2 hz3 hz4 hy0 hy1 hy2 hy3 hy4
 clear hb_
 clear h2
 go_wp2_with fail
 go_ret
 all_goals exact ⟨rfl, HB_31.out⟩
theorem small_is (r : Bool) (w : World) (h : (some true : Option Bool) = some r) :
  Calls Try.prog 8 #[] w fun e w' => e = .returned (.bool r) ∧ Below w.heap.size w w' := by
 injection h with h
 subst h
 exact small_true w
end Go.Proofs.Ytpgjcnjojfehjaa.Bk
namespace Go.Proofs.Ytpgjcnjojfehjaa.Bk
open Go.RowKit Go.Proofs.YtpgjcnjojfehjaaW.PrintWords Go.Proofs.YtpgjcnjojfehjaaW.PrintLast Go.Proofs.YtpgjcnjojfehjaaW.PrintMore Oct Kx Ab
def Fits (n size : Int) : Prop := (putS [] n size).2 = true ∧ R64 n
theorem fits_of {n size : Int} (h : mayS n size = true) (hr : R64 n) : Fits n size := ⟨by unfold putS; rw [if_pos h], hr⟩
theorem fits_zero {size : Int} (hs : sizeB size = true) : Fits 0 size := by
 rcases size_cases hs with rfl | rfl | rfl <;> exact fits_of (by decide) (by unfold R64; omega)
theorem wrap_R (x : Int) : R64 (wrap64 x) := by unfold wrap64 R64; omega
theorem take_B8 {l : List Int} (n : Nat) (h : B8 l) : B8 (l.take n) := fun x hx => h x (List.mem_of_mem_take hx)
theorem drop_B8 {l : List Int} (n : Nat) (h : B8 l) : B8 (l.drop n) := fun x hx => h x (List.mem_of_mem_drop hx)
theorem num_fits {l : List Int} {bad : Bool} {size : Int} (hb : B8 l) (hs : sizeB size = true) : Fits (numS l bad size).1 size ∧ B8 (numS l bad size).2.1 := by
 have hz : sizeS size = size := by unfold sizeS; rw [if_pos hs]
 unfold numS
 rw [hz]
 unfold takeS
 split
 ·exact ⟨fits_zero hs, fun x hx => by simp at hx⟩
 ·rename_i hn
  have h1 : size = 1 ∨ size = 4 ∨ size = 8 := size_cases hs
  have hl : (l.take size.toNat).length = size.toNat := by
   rw [List.length_take]
   have : ¬ ((l.length : Int) < size) := fun h => hn (.inr (.inr h))
   omega
  have ht := take_B8 size.toNat hb
  obtain ⟨hm, -⟩ := back_read ht hs hl
  refine ⟨fits_of hm ?_, drop_B8 _ hb⟩
  rcases h1 with rfl | rfl | rfl
  ·have hm' := hm; unfold mayS at hm'; rw [decide_eq_true_eq] at hm'; unfold R64; simp only at hm' ⊢; omega
  ·have hm' := hm; unfold mayS at hm'; rw [decide_eq_true_eq] at hm'; unfold R64; simp only at hm' ⊢; omega
  ·obtain ⟨a, b, c, d, e, f, g, k, he⟩ := len8 hl
   rw [he] at ht ⊢
   rw [val8 _ _ _ _ _ _ _ _ ht]
   exact wrap_R _
def TF (size : Int) (t : S48) : Prop := Fits t.f0 size ∧ Fits t.f1 1
theorem one_size : sizeB 1 = true := rfl
theorem four_size : sizeB 4 = true := rfl
theorem getD_all {α : Type} {P : α → Prop} {l : List α} {z : α} (h : ∀ t ∈ l, P t) (hz : P z) (k : Nat) : P (l.getD k z) := by
 rw [List.getD]
 by_cases hk : k < l.length
 ·rw [List.getElem?_eq_getElem hk]; exact h _ (List.getElem_mem hk)
 ·rw [List.getElem?_eq_none (by omega)]; exact hz
theorem set_all {α : Type} {P : α → Prop} {l : List α} (h : ∀ t ∈ l, P t) {x : α} (hx : P x) (k : Nat) : ∀ t ∈ l.set k x, P t := fun t ht => by
 rcases List.mem_or_eq_of_mem_set ht with h1 | rfl
 ·exact h t h1
 ·exact hx
theorem trA_fits (size : Int) (hs : sizeB size = true) {l : List Int} {b : Bool} {L0 : List S48} (h0 : ∀ t ∈ L0, TF size t) (hl : B8 l) : ∀ k, (∀ t ∈ (trA size k L0 l b).1, TF size t) ∧ B8 (trA size k L0 l b).2.1
 | 0 => ⟨h0, hl⟩
 | k + 1 => by
  obtain ⟨h1, h2⟩ := trA_fits size hs h0 hl (b := b) k
  unfold trA
  obtain ⟨h3, h4⟩ := num_fits (bad := (trA size k L0 l b).2.2) h2 hs
  have hx : TF size ⟨(numS (trA size k L0 l b).2.1 (trA size k L0 l b).2.2 size).1, ((trA size k L0 l b).1.getD k z48).f1⟩ := ⟨h3, (getD_all h1 (show TF size z48 from ⟨fits_zero hs, fits_zero one_size⟩) k).2⟩
  exact ⟨set_all h1 hx k, h4⟩
theorem trB_fits (size : Int) (hs : sizeB size = true) {l : List Int} {b : Bool} {L0 : List S48} (h0 : ∀ t ∈ L0, TF size t) (hl : B8 l) : ∀ k, (∀ t ∈ (trB k L0 l b).1, TF size t) ∧ B8 (trB k L0 l b).2.1
 | 0 => ⟨h0, hl⟩
 | k + 1 => by
  obtain ⟨h1, h2⟩ := trB_fits size hs h0 hl (b := b) k
  unfold trB
  obtain ⟨h3, h4⟩ := num_fits (bad := (trB k L0 l b).2.2) h2 one_size
  have hx : TF size ⟨((trB k L0 l b).1.getD k z48).f0, (numS (trB k L0 l b).2.1 (trB k L0 l b).2.2 1).1⟩ := ⟨(getD_all h1 (show TF size z48 from ⟨fits_zero hs, fits_zero one_size⟩) k).1, h3⟩
  exact ⟨set_all h1 hx k, h4⟩
theorem tyK_fits {l : List Int} {b : Bool} (hl : B8 l) : ∀ k, (∀ t ∈ (tyK k l b).1, Fits t.f0 4) ∧ B8 (tyK k l b).2.2.2.1
 | 0 => ⟨fun t h => (by cases h), hl⟩
 | k + 1 => by
  obtain ⟨h1, h2⟩ := tyK_fits hl (b := b) k
  unfold tyK
  obtain ⟨h3, h4⟩ := num_fits (bad := (tyK k l b).2.2.2.2) h2 four_size
  obtain ⟨-, h6⟩ := num_fits (bad := (numS (tyK k l b).2.2.2.1 (tyK k l b).2.2.2.2 4).2.2) h4 one_size
  obtain ⟨-, h8⟩ := num_fits (bad := (numS (numS (tyK k l b).2.2.2.1 (tyK k l b).2.2.2.2 4).2.1 (numS (tyK k l b).2.2.2.1 (tyK k l b).2.2.2.2 4).2.2 1).2.2) h6 one_size
  refine ⟨fun t ht => ?_, h8⟩
  rcases List.mem_append.1 ht with h | h
  ·exact h1 t h
  ·rw [List.mem_singleton] at h; subst h; exact h3
theorem lpK_fits (size : Int) (hs : sizeB size = true) {l : List Int} {b : Bool} (hl : B8 l) : ∀ k, (∀ t ∈ (lpK size k l b).1, Fits t.f0 size ∧ Fits t.f1 4) ∧ B8 (lpK size k l b).2.1
 | 0 => ⟨fun t h => (by cases h), hl⟩
 | k + 1 => by
  obtain ⟨h1, h2⟩ := lpK_fits size hs hl (b := b) k
  unfold lpK
  obtain ⟨h3, h4⟩ := num_fits (bad := (lpK size k l b).2.2) h2 hs
  obtain ⟨h5, h6⟩ := num_fits (bad := (numS (lpK size k l b).2.1 (lpK size k l b).2.2 size).2.2) h4 four_size
  refine ⟨fun t ht => ?_, h6⟩
  rcases List.mem_append.1 ht with h | h
  ·exact h1 t h
  ·rw [List.mem_singleton] at h; subst h; exact ⟨h3, h5⟩
theorem pool_fits {l : List ByteArray} (h : (poolT l).2.2 = true) : ∀ i, i < l.length → Fits ((poolT l).2.1.getD i 0) 1 := by
 intro i hi
 have hsz := pool_size l
 rcases right_or l with hr | hw
 ·have I := inv_steps l St0 [] inv0 hr
  rw [List.nil_append] at I
  rw [poolT_right hr] at h hsz ⊢
  unfold poolE at h hsz ⊢
  simp only at h hsz ⊢
  split at h
  ·simp at h
  ·rename_i hd
   rw [hd] at hsz
   simp only at hsz
   obtain ⟨k, h1, h2⟩ := I.at_ i l[i] (List.getElem?_eq_getElem hi)
   obtain ⟨pre, post, e1, e2, -⟩ := I.place _ _ h1
   have e3 := congrArg List.length e1
   rw [data_length, List.length_append, List.length_append, List.length_cons] at e3
   show Fits ((steps St0 l).ats.getD i 0) 1
   rw [List.getD, h2]
   show Fits k 1
   exact fits_of (by unfold mayS; rw [decide_eq_true_eq]; omega) (by unfold R64; omega)
 ·rw [poolT_wrong hw] at h; cases h
theorem fit_all {ns : List (Int × Int)} (h : ∀ p ∈ ns, (putS [] p.1 p.2).2 = true) : fit ns = true := by
 unfold fit
 exact List.all_eq_true.2 h
theorem fitT_of {tr : List S48} {size : Int} (h : ∀ t ∈ tr, TF size t) : fit (numsT tr size) = true ∧ fit (numsK tr) = true :=
 ⟨fit_all fun p hp => by obtain ⟨t, ht, rfl⟩ := List.mem_map.1 hp; exact (h t ht).1.1, fit_all fun p hp => by obtain ⟨t, ht, rfl⟩ := List.mem_map.1 hp; exact (h t ht).2.1⟩
theorem fitL_of {lp : List S50} {size : Int} (h : ∀ t ∈ lp, Fits t.f0 size ∧ Fits t.f1 4) : fit (numsL lp size) = true := fit_all fun p hp => by
 obtain ⟨t, ht, hp⟩ := List.mem_flatMap.1 hp
 simp only [List.mem_cons, List.not_mem_nil, or_false] at hp
 rcases hp with rfl | rfl
 ·exact (h t ht).1.1
 ·exact (h t ht).2.1
theorem mk_fits (b : Bool) : (putS [] (mk b) 1).2 = true := by cases b <;> decide
theorem fitY_of {ty : List S46} {ats : List Int} (h : ∀ t ∈ ty, Fits t.f0 4) (ha : ∀ i, i < ty.length → Fits (ats.getD i 0) 1) (hl : ats.length = ty.length) : fit (numsY ty ats) = true := fit_all fun p hp => by
 obtain ⟨q, hq, hp⟩ := List.mem_flatMap.1 hp
 obtain ⟨i, hi, hz⟩ := List.mem_iff_getElem.1 hq
 rw [List.getElem_zip] at hz
 have hi2 : i < ty.length := by rw [List.length_zip] at hi; omega
 have h2 := ha i hi2
 rw [List.getD, List.getElem?_eq_getElem (by omega)] at h2
 subst hz
 simp only [List.mem_cons, List.not_mem_nil, or_false] at hp
 rcases hp with rfl | rfl | rfl
 ·exact (h _ (List.getElem_mem hi2)).1
 ·exact mk_fits _
 ·exact h2.1
end Go.Proofs.Ytpgjcnjojfehjaa.Bk
namespace Go.Proofs.Ytpgjcnjojfehjaa.Bk
open Go.RowKit Go.Proofs.YtpgjcnjojfehjaaW.PrintWords Go.Proofs.YtpgjcnjojfehjaaW.PrintLast Go.Proofs.YtpgjcnjojfehjaaW.PrintMore Oct Kx Ab
theorem at_size (p : ByteArray) (x : Int) : (atN p x).1.size ≤ p.size := by
 rcases at_cases p x with h | ⟨a, i, -, hi, h, -⟩
 ·rw [h]; exact Nat.zero_le _
 ·rw [h]
  show (p.extract a (a + i)).size ≤ p.size
  rw [ByteArray.size_extract]
  omega
theorem nmK_keep (p : ByteArray) (ats : List Int) {ty : List S46} {ok : Bool} {P : S46 → Prop} (h0 : ∀ t ∈ ty, P t) (hz : P z46) (hset : ∀ t k, P t → P (setNm t (atN p (ats.getD k 0)).1)) : ∀ k, ∀ t ∈ (nmK p ats ty ok k).1, P t
 | 0 => h0
 | k + 1 => by
  have h1 := nmK_keep p ats (ok := ok) h0 hz hset k
  unfold nmK
  exact set_all h1 (hset _ k (getD_all h1 hz k)) k
theorem tyK_names {l : List Int} {b : Bool} : ∀ k, ∀ t ∈ (tyK k l b).1, t.f2.size = 0
 | 0 => fun t h => by cases h
 | k + 1 => by
  unfold tyK
  intro t ht
  rcases List.mem_append.1 ht with h | h
  ·exact tyK_names k t h
  ·rw [List.mem_singleton] at h; subst h; rfl
theorem dec_out (v u s l t ty c : Int) (b : List Int) (size : Int) (hb : B8 b) (hl : b.length ≤ 1000000) :
  decN v u s l t ty c b size = ([], [], [], ⟨#[]⟩, 0, false) ∨ ∃ (T : List S46) (R : List S48) (L : List S50), decN v u s l t ty c b size = (T, R, L, ⟨#[]⟩, v, true) ∧ (T.length : Int) = ty ∧ (R.length : Int) = t ∧ (L.length : Int) = l ∧ sizeF v u s l t ty c size = b.length ∧ RZ T R L ∧ okZ T R L = true ∧ T.length ≤ 64 ∧ R.length ≤ 2000 ∧ L.length ≤ 201 ∧ encG T R L v size = (countN T R L v).2.2.2.2.2.2.2 := by
 cases hg : decide (sizeF v u s l t ty c size ≠ 0 ∧ (b.length : Int) = sizeF v u s l t ty c size) with
 | false => left; unfold decN; rw [hg]
 | true =>
  have hg' := of_decide_eq_true hg
  have hR : rightS v u s l t ty c = true := by
   cases h : rightS v u s l t ty c with
   | true => rfl
   | false => exfalso; apply hg'.1; unfold sizeF; rw [h]
  have hs4 : size = 4 ∨ size = 8 := by
   by_cases h : size = 4 ∨ size = 8
   ·exact h
   ·exfalso; apply hg'.1; unfold sizeF; rw [hR]; simp only; rw [if_neg h]
  have hs : sizeB size = true := by unfold sizeB; rw [decide_eq_true_eq]; omega
  have hRR := of_decide_eq_true hR
  obtain ⟨tn, rfl⟩ := Int.eq_ofNat_of_zero_le hRR.2.2.1.1
  obtain ⟨ln, rfl⟩ := Int.eq_ofNat_of_zero_le hRR.2.1.1
  obtain ⟨yn, rfl⟩ := Int.eq_ofNat_of_zero_le (show 0 ≤ ty by omega)
  have d0 : ∀ x ∈ List.replicate tn z48, TF size x := fun x hx => by
   rw [List.eq_of_mem_replicate hx]; exact ⟨fits_zero hs, fits_zero one_size⟩
  obtain ⟨a1, b1⟩ := trA_fits size hs d0 hb (b := false) tn
  obtain ⟨a2, b2⟩ := trB_fits size hs a1 b1 (b := (trA size tn (List.replicate tn z48) b false).2.2) tn
  have n1 := trA_len size (List.replicate tn z48) b false tn
  have n2 := trB_len (trA size tn (List.replicate tn z48) b false).1 (trA size tn (List.replicate tn z48) b false).2.1 (trA size tn (List.replicate tn z48) b false).2.2 tn
  unfold decN
  rw [hg]
  simp only [Int.toNat_natCast]
  generalize trA size tn (List.replicate tn z48) b false = A1 at *
  generalize trB tn A1.1 A1.2.1 A1.2.2 = A2 at *
  obtain ⟨a3, b3⟩ := tyK_fits b2 (b := A2.2.2) yn
  have n3 := tyK_len A2.2.1 A2.2.2 yn
  have m3 := tyK_names (l := A2.2.1) (b := A2.2.2) yn
  generalize tyK yn A2.2.1 A2.2.2 = Y at *
  have hp : B8 (takeS Y.2.2.2.1 Y.2.2.2.2 c).2.1 ∧ (takeS Y.2.2.2.1 Y.2.2.2.2 c).1.length ≤ 1000000 := by
   unfold takeS
   split
   ·exact ⟨fun x hx => (by cases hx), Nat.zero_le _⟩
   ·refine ⟨drop_B8 _ b3, ?_⟩
    have h1 := n3.2.2
    have h2 := n2.2
    have h3 := n1.2
    show (Y.2.2.2.1.take c.toNat).length ≤ 1000000
    rw [List.length_take]
    omega
  generalize takeS Y.2.2.2.1 Y.2.2.2.2 c = p at *
  have hps : (strOfNums p.1).size ≤ 1000000 := by rw [strOfNums_size]; exact hp.2
  generalize strOfNums p.1 = P at *
  have n4 := nmK_len P Y.2.1 Y.1 Y.2.2.1 yn
  have a4 := nmK_keep P Y.2.1 (ty := Y.1) (ok := Y.2.2.1) (P := fun t => Fits t.f0 4 ∧ t.f2.size ≤ 1000000) (fun t ht => ⟨a3 t ht, by rw [m3 t ht]; omega⟩) ⟨fits_zero four_size, by decide⟩ (fun t k ht => ⟨ht.1, Nat.le_trans (at_size P _) hps⟩) yn
  generalize nmK P Y.2.1 Y.1 Y.2.2.1 yn = M at *
  obtain ⟨a5, b5⟩ := lpK_fits size hs hp.1 (b := p.2.2) ln
  have n5 := lpK_len size p.2.1 p.2.2 ln
  generalize lpK size ln p.2.1 p.2.2 = q at *
  cases hm : markS (takeS q.2.1 q.2.2 s).1 (takeS (takeS q.2.1 q.2.2 s).2.1 (takeS q.2.1 q.2.2 s).2.2 u).1 && M.2 with
  | false => left; rfl
  | true =>
   right
   have l2 : A2.1.length = tn := by rw [n2.1, n1.1, List.length_replicate]
   have l4 : M.1.length = yn := by rw [n4, n3.1]
   refine ⟨M.1, A2.1, q.1, rfl, by rw [l4], by rw [l2], by rw [n5.1], hg'.2.symm, ⟨fun t ht => (a4 t ht).1.2, fun t ht => ⟨(a2 t ht).1.2, (a2 t ht).2.2⟩, fun t ht => ⟨(a5 t ht).1.2, (a5 t ht).2.2⟩⟩, ?_, by omega, by omega, by omega, ?_⟩
   ·unfold okZ
    rw [Bool.and_eq_true, decide_eq_true_eq, List.all_eq_true]
    exact ⟨by omega, fun t ht => decide_eq_true (Nat.le_trans (a4 t ht).2 (by omega))⟩
   ·unfold encG
    cases hc : (countN M.1 A2.1 q.1 v).2.2.2.2.2.2.2 with
    | false => rfl
    | true =>
     have hpo : (poolT (namesL M.1)).2.2 = true := by
      unfold countN at hc
      split at hc
      ·rename_i h; rw [Bool.and_eq_true] at h; exact h.1
      ·cases hc
     have hn : (namesL M.1).length = M.1.length := by unfold namesL; rw [List.length_map]
     have f1 := fitT_of a2
     have f2 := fitL_of a5
     have f3 := fitY_of (ty := M.1) (ats := (poolT (namesL M.1)).2.1) (fun t ht => (a4 t ht).1) (fun i hi => pool_fits hpo i (by rw [hn]; exact hi)) (by rw [pool_ats hpo, hn])
     unfold numsA
     rw [fit_app, fit_app, f1.1, f1.2, f2, f3, decide_eq_true hs4]
     rfl
end Go.Proofs.Ytpgjcnjojfehjaa.Bk
namespace Go.Proofs.Ytpgjcnjojfehjaa.PSize
open Go.RowKit Go.Proofs.YtpgjcnjojfehjaaW.PrintWords Go.Proofs.YtpgjcnjojfehjaaW.PrintLast Go.Proofs.YtpgjcnjojfehjaaW.PrintMore
attribute [local go_sem] max2_int min2_int max_two min_two max_three min_three max_four min_four   -- for this text's walks alone
set_option linter.unusedVariables false
set_option linter.unusedSimpArgs false
def errW : Option Int → Value
 | none => .nilIface
 | some c => .iface 0 (.int .i64 c)
theorem errW_none : errW none = .nilIface := rfl
theorem errW_some (c : Int) : errW (some c) = .iface 0 (.int .i64 c) := rfl
end Go.Proofs.Ytpgjcnjojfehjaa.PSize
namespace Go.Proofs.Ytpgjcnjojfehjaa.PSize
open Go.RowKit Go.Proofs.YtpgjcnjojfehjaaW.PrintWords Go.Proofs.YtpgjcnjojfehjaaW.PrintLast Go.Proofs.YtpgjcnjojfehjaaW.PrintMore
attribute [local go_sem] max2_int min2_int max_two min_two max_three min_three max_four min_four   -- for this text's walks alone
set_option linter.unusedVariables false
set_option linter.unusedSimpArgs false
def epactref15_Right.f (a0_0 : Int) (a0_1 : Int) (a0_2 : Int) (a0_3 : Int) (a0_4 : Int) (a0_5 : Int) (a0_6 : Int) : Option (Bool) := if a0_0 < 1 then (some false) else (if a0_0 > 4 then (some false) else (if a0_5 < 1 then (some false) else (if a0_5 > 64 then (some false) else (if a0_6 < 1 then (some false) else (if a0_6 > 256 then (some false) else (if a0_3 < 0 then (some false) else (if a0_3 > 201 then (some false) else (if a0_4 < 0 then (some false) else (if a0_4 > 2000 then (some false) else (if a0_1 = 0 then (if a0_2 = 0 then (some true) else (some (a0_2 == a0_5))) else (if a0_1 = a0_5 then (if a0_2 = 0 then (some true) else (some (a0_2 == a0_5))) else (some false))))))))))))
set_option maxHeartbeats 8000000 in
set_option maxRecDepth 100000 in
theorem epactref15_Right.calls (a0_0 : Int) (a0_1 : Int) (a0_2 : Int) (a0_3 : Int) (a0_4 : Int) (a0_5 : Int) (a0_6 : Int) (r : Bool) (w : World) (h : epactref15_Right.f a0_0 a0_1 a0_2 a0_3 a0_4 a0_5 a0_6 = some r) :
  Calls Try.prog 22 #[.agg #[.int .i64 a0_0, .int .i64 a0_1, .int .i64 a0_2, .int .i64 a0_3, .int .i64 a0_4, .int .i64 a0_5, .int .i64 a0_6]] w fun e w' => e = .returned (.bool r) ∧ Below w.heap.size w w' := by
 have hu28 := Try.underlying28
 have HB := Aside0.mk (Below.refl w.heap.size w)
 have H : (if a0_0 < 1 then (some false) else (if a0_0 > 4 then (some false) else (if a0_5 < 1 then (some false) else (if a0_5 > 64 then (some false) else (if a0_6 < 1 then (some false) else (if a0_6 > 256 then (some false) else (if a0_3 < 0 then (some false) else (if a0_3 > 201 then (some false) else (if a0_4 < 0 then (some false) else (if a0_4 > 2000 then (some false) else (if a0_1 = 0 then (if a0_2 = 0 then (some true) else (some (a0_2 == a0_5))) else (if a0_1 = a0_5 then (if a0_2 = 0 then (some true) else (some (a0_2 == a0_5))) else (some false))))))))))))) = some r := h
 clear h
 by_cases c2 : a0_0 < 1
 ·rw [if_pos c2] at H
  have c2b0 : decide (a0_0 < 1) = true := decide_eq_true c2
  clear c2
  obtain rfl := Option.some.inj H
  go_enter Try.func22, Try.ntmps22
  go_wp2_with (first | ((with_reducible refine gate_dst (N := 1) rfl ?_); refine box_event ?hg (N := 1) ?hd (cs := #[.int .i64 a0_0, .int .i64 a0_1, .int .i64 a0_2, .int .i64 a0_3, .int .i64 a0_4, .int .i64 a0_5, .int .i64 a0_6]) (t := 28) ?hr ?_; (case hd => rfl); (case hg => rfl); (case hr => first | (go_simp; done) | (go_simp; rfl)); intro gb101 hg w3 hbox hb; have n0_ := Aside0.mk (below_step (by repeat (first | (with_reducible first | exact HB.out | apply below_alloc | apply pw_below_drewN | apply below_drew1) | exact HB.out)) hb); have n1_ := Aside0.mk (hbox); have n2_ := Aside0.mk ((by rw [hg]; exact (below_size (by repeat (first | (with_reducible first | exact HB.out | apply below_alloc | apply pw_below_drewN | apply below_drew1) | exact HB.out))) : w.heap.size ≤ gb101)); have n3_ := Aside0.mk ((by rw [hg]; exact (below_size (by repeat (first | (with_reducible first | exact HB.out | apply below_alloc | apply pw_below_drewN | apply below_drew1) | exact HB.out))) : w.heap.size ≤ gb101)); clear HB; have HB := n0_; have BK101 := n1_; have GW101 := n2_; have GE101 := n3_; clear n0_ n1_ n2_ n3_; clear hb hbox hg; have hcz4_0 : w3.cell? ⟨gb101, 0, none⟩ = some (.int .i64 a0_0) := (blk_cell BK101.out 0).trans rfl; have hcz4_1 : w3.cell? ⟨gb101, 1, none⟩ = some (.int .i64 a0_1) := (blk_cell BK101.out 1).trans rfl; have hcz4_2 : w3.cell? ⟨gb101, 2, none⟩ = some (.int .i64 a0_2) := (blk_cell BK101.out 2).trans rfl; have hcz4_3 : w3.cell? ⟨gb101, 3, none⟩ = some (.int .i64 a0_3) := (blk_cell BK101.out 3).trans rfl; have hcz4_4 : w3.cell? ⟨gb101, 4, none⟩ = some (.int .i64 a0_4) := (blk_cell BK101.out 4).trans rfl; have hcz4_5 : w3.cell? ⟨gb101, 5, none⟩ = some (.int .i64 a0_5) := (blk_cell BK101.out 5).trans rfl; have hcz4_6 : w3.cell? ⟨gb101, 6, none⟩ = some (.int .i64 a0_6) := (blk_cell BK101.out 6).trans rfl; have hfz4_0 := blk_frozen BK101.out 0; have hfz4_1 := blk_frozen BK101.out 1; have hfz4_2 := blk_frozen BK101.out 2; have hfz4_3 := blk_frozen BK101.out 3; have hfz4_4 := blk_frozen BK101.out 4; have hfz4_5 := blk_frozen BK101.out 5; have hfz4_6 := blk_frozen BK101.out 6))
  go_ret
  exact ⟨by first | rfl | (simp [errW_none, errW_some] <;> rfl) | (simp [*, errW_none, errW_some] <;> rfl), by repeat (first | (with_reducible first | exact HB.out | apply below_alloc | apply pw_below_drewN | apply below_drew1 | refine below_set ?_ GE101.out) | exact HB.out)⟩
 ·rw [if_neg c2] at H
  have c2b0 : decide (a0_0 < 1) = false := decide_eq_false c2
  clear c2
  by_cases c5 : a0_0 > 4
  ·rw [if_pos c5] at H
   have c5b0 : decide (4 < a0_0) = true := decide_eq_true c5
   clear c5
   obtain rfl := Option.some.inj H
   go_enter Try.func22, Try.ntmps22
   go_wp2_with (first | ((with_reducible refine gate_dst (N := 1) rfl ?_); refine box_event ?hg (N := 1) ?hd (cs := #[.int .i64 a0_0, .int .i64 a0_1, .int .i64 a0_2, .int .i64 a0_3, .int .i64 a0_4, .int .i64 a0_5, .int .i64 a0_6]) (t := 28) ?hr ?_; (case hd => rfl); (case hg => rfl); (case hr => first | (go_simp; done) | (go_simp; rfl)); intro gb101 hg w6 hbox hb; have n0_ := Aside0.mk (below_step (by repeat (first | (with_reducible first | exact HB.out | apply below_alloc | apply pw_below_drewN | apply below_drew1) | exact HB.out)) hb); have n1_ := Aside0.mk (hbox); have n2_ := Aside0.mk ((by rw [hg]; exact (below_size (by repeat (first | (with_reducible first | exact HB.out | apply below_alloc | apply pw_below_drewN | apply below_drew1) | exact HB.out))) : w.heap.size ≤ gb101)); have n3_ := Aside0.mk ((by rw [hg]; exact (below_size (by repeat (first | (with_reducible first | exact HB.out | apply below_alloc | apply pw_below_drewN | apply below_drew1) | exact HB.out))) : w.heap.size ≤ gb101)); clear HB; have HB := n0_; have BK101 := n1_; have GW101 := n2_; have GE101 := n3_; clear n0_ n1_ n2_ n3_; clear hb hbox hg; have hcz7_0 : w6.cell? ⟨gb101, 0, none⟩ = some (.int .i64 a0_0) := (blk_cell BK101.out 0).trans rfl; have hcz7_1 : w6.cell? ⟨gb101, 1, none⟩ = some (.int .i64 a0_1) := (blk_cell BK101.out 1).trans rfl; have hcz7_2 : w6.cell? ⟨gb101, 2, none⟩ = some (.int .i64 a0_2) := (blk_cell BK101.out 2).trans rfl; have hcz7_3 : w6.cell? ⟨gb101, 3, none⟩ = some (.int .i64 a0_3) := (blk_cell BK101.out 3).trans rfl; have hcz7_4 : w6.cell? ⟨gb101, 4, none⟩ = some (.int .i64 a0_4) := (blk_cell BK101.out 4).trans rfl; have hcz7_5 : w6.cell? ⟨gb101, 5, none⟩ = some (.int .i64 a0_5) := (blk_cell BK101.out 5).trans rfl; have hcz7_6 : w6.cell? ⟨gb101, 6, none⟩ = some (.int .i64 a0_6) := (blk_cell BK101.out 6).trans rfl; have hfz7_0 := blk_frozen BK101.out 0; have hfz7_1 := blk_frozen BK101.out 1; have hfz7_2 := blk_frozen BK101.out 2; have hfz7_3 := blk_frozen BK101.out 3; have hfz7_4 := blk_frozen BK101.out 4; have hfz7_5 := blk_frozen BK101.out 5; have hfz7_6 := blk_frozen BK101.out 6))
   go_ret
   exact ⟨by first | rfl | (simp [errW_none, errW_some] <;> rfl) | (simp [*, errW_none, errW_some] <;> rfl), by repeat (first | (with_reducible first | exact HB.out | apply below_alloc | apply pw_below_drewN | apply below_drew1 | refine below_set ?_ GE101.out) | exact HB.out)⟩
  ·rw [if_neg c5] at H
   have c5b0 : decide (4 < a0_0) = false := decide_eq_false c5
   clear c5
   by_cases c8 : a0_5 < 1
   ·rw [if_pos c8] at H
    have c8b0 : decide (a0_5 < 1) = true := decide_eq_true c8
    clear c8
    obtain rfl := Option.some.inj H
    go_enter Try.func22, Try.ntmps22
    go_wp2_with (first | ((with_reducible refine gate_dst (N := 1) rfl ?_); refine box_event ?hg (N := 1) ?hd (cs := #[.int .i64 a0_0, .int .i64 a0_1, .int .i64 a0_2, .int .i64 a0_3, .int .i64 a0_4, .int .i64 a0_5, .int .i64 a0_6]) (t := 28) ?hr ?_; (case hd => rfl); (case hg => rfl); (case hr => first | (go_simp; done) | (go_simp; rfl)); intro gb101 hg w9 hbox hb; have n0_ := Aside0.mk (below_step (by repeat (first | (with_reducible first | exact HB.out | apply below_alloc | apply pw_below_drewN | apply below_drew1) | exact HB.out)) hb); have n1_ := Aside0.mk (hbox); have n2_ := Aside0.mk ((by rw [hg]; exact (below_size (by repeat (first | (with_reducible first | exact HB.out | apply below_alloc | apply pw_below_drewN | apply below_drew1) | exact HB.out))) : w.heap.size ≤ gb101)); have n3_ := Aside0.mk ((by rw [hg]; exact (below_size (by repeat (first | (with_reducible first | exact HB.out | apply below_alloc | apply pw_below_drewN | apply below_drew1) | exact HB.out))) : w.heap.size ≤ gb101)); clear HB; have HB := n0_; have BK101 := n1_; have GW101 := n2_; have GE101 := n3_; clear n0_ n1_ n2_ n3_; clear hb hbox hg; have hcz10_0 : w9.cell? ⟨gb101, 0, none⟩ = some (.int .i64 a0_0) := (blk_cell BK101.out 0).trans rfl; have hcz10_1 : w9.cell? ⟨gb101, 1, none⟩ = some (.int .i64 a0_1) := (blk_cell BK101.out 1).trans rfl; have hcz10_2 : w9.cell? ⟨gb101, 2, none⟩ = some (.int .i64 a0_2) := (blk_cell BK101.out 2).trans rfl; have hcz10_3 : w9.cell? ⟨gb101, 3, none⟩ = some (.int .i64 a0_3) := (blk_cell BK101.out 3).trans rfl; have hcz10_4 : w9.cell? ⟨gb101, 4, none⟩ = some (.int .i64 a0_4) := (blk_cell BK101.out 4).trans rfl; have hcz10_5 : w9.cell? ⟨gb101, 5, none⟩ = some (.int .i64 a0_5) := (blk_cell BK101.out 5).trans rfl; have hcz10_6 : w9.cell? ⟨gb101, 6, none⟩ = some (.int .i64 a0_6) := (blk_cell BK101.out 6).trans rfl; have hfz10_0 := blk_frozen BK101.out 0; have hfz10_1 := blk_frozen BK101.out 1; have hfz10_2 := blk_frozen BK101.out 2; have hfz10_3 := blk_frozen BK101.out 3; have hfz10_4 := blk_frozen BK101.out 4; have hfz10_5 := blk_frozen BK101.out 5; have hfz10_6 := blk_frozen BK101.out 6))
    go_ret
    exact ⟨by first | rfl | (simp [errW_none, errW_some] <;> rfl) | (simp [*, errW_none, errW_some] <;> rfl), by repeat (first | (with_reducible first | exact HB.out | apply below_alloc | apply pw_below_drewN | apply below_drew1 | refine below_set ?_ GE101.out) | exact HB.out)⟩
   ·rw [if_neg c8] at H
    have c8b0 : decide (a0_5 < 1) = false := decide_eq_false c8
    clear c8
    by_cases c11 : a0_5 > 64
    ·rw [if_pos c11] at H
     have c11b0 : decide (64 < a0_5) = true := decide_eq_true c11
     clear c11
     obtain rfl := Option.some.inj H
     go_enter Try.func22, Try.ntmps22
     go_wp2_with (first | ((with_reducible refine gate_dst (N := 1) rfl ?_); refine box_event ?hg (N := 1) ?hd (cs := #[.int .i64 a0_0, .int .i64 a0_1, .int .i64 a0_2, .int .i64 a0_3, .int .i64 a0_4, .int .i64 a0_5, .int .i64 a0_6]) (t := 28) ?hr ?_; (case hd => rfl); (case hg => rfl); (case hr => first | (go_simp; done) | (go_simp; rfl)); intro gb101 hg w12 hbox hb; have n0_ := Aside0.mk (below_step (by repeat (first | (with_reducible first | exact HB.out | apply below_alloc | apply pw_below_drewN | apply below_drew1) | exact HB.out)) hb); have n1_ := Aside0.mk (hbox); have n2_ := Aside0.mk ((by rw [hg]; exact (below_size (by repeat (first | (with_reducible first | exact HB.out | apply below_alloc | apply pw_below_drewN | apply below_drew1) | exact HB.out))) : w.heap.size ≤ gb101)); have n3_ := Aside0.mk ((by rw [hg]; exact (below_size (by repeat (first | (with_reducible first | exact HB.out | apply below_alloc | apply pw_below_drewN | apply below_drew1) | exact HB.out))) : w.heap.size ≤ gb101)); clear HB; have HB := n0_; have BK101 := n1_; have GW101 := n2_; have GE101 := n3_; clear n0_ n1_ n2_ n3_; clear hb hbox hg; have hcz13_0 : w12.cell? ⟨gb101, 0, none⟩ = some (.int .i64 a0_0) := (blk_cell BK101.out 0).trans rfl; have hcz13_1 : w12.cell? ⟨gb101, 1, none⟩ = some (.int .i64 a0_1) := (blk_cell BK101.out 1).trans rfl; have hcz13_2 : w12.cell? ⟨gb101, 2, none⟩ = some (.int .i64 a0_2) := (blk_cell BK101.out 2).trans rfl; have hcz13_3 : w12.cell? ⟨gb101, 3, none⟩ = some (.int .i64 a0_3) := (blk_cell BK101.out 3).trans rfl; have hcz13_4 : w12.cell? ⟨gb101, 4, none⟩ = some (.int .i64 a0_4) := (blk_cell BK101.out 4).trans rfl; have hcz13_5 : w12.cell? ⟨gb101, 5, none⟩ = some (.int .i64 a0_5) := (blk_cell BK101.out 5).trans rfl; have hcz13_6 : w12.cell? ⟨gb101, 6, none⟩ = some (.int .i64 a0_6) := (blk_cell BK101.out 6).trans rfl; have hfz13_0 := blk_frozen BK101.out 0; have hfz13_1 := blk_frozen BK101.out 1; have hfz13_2 := blk_frozen BK101.out 2; have hfz13_3 := blk_frozen BK101.out 3; have hfz13_4 := blk_frozen BK101.out 4; have hfz13_5 := blk_frozen BK101.out 5; have hfz13_6 := blk_frozen BK101.out 6))
     go_ret
     exact ⟨by first | rfl | (simp [errW_none, errW_some] <;> rfl) | (simp [*, errW_none, errW_some] <;> rfl), by repeat (first | (with_reducible first | exact HB.out | apply below_alloc | apply pw_below_drewN | apply below_drew1 | refine below_set ?_ GE101.out) | exact HB.out)⟩
    ·rw [if_neg c11] at H
     have c11b0 : decide (64 < a0_5) = false := decide_eq_false c11
     clear c11
     by_cases c14 : a0_6 < 1
     ·rw [if_pos c14] at H
      have c14b0 : decide (a0_6 < 1) = true := decide_eq_true c14
      clear c14
      obtain rfl := Option.some.inj H
      go_enter Try.func22, Try.ntmps22
      go_wp2_with (first | ((with_reducible refine gate_dst (N := 1) rfl ?_); refine box_event ?hg (N := 1) ?hd (cs := #[.int .i64 a0_0, .int .i64 a0_1, .int .i64 a0_2, .int .i64 a0_3, .int .i64 a0_4, .int .i64 a0_5, .int .i64 a0_6]) (t := 28) ?hr ?_; (case hd => rfl); (case hg => rfl); (case hr => first | (go_simp; done) | (go_simp; rfl)); intro gb101 hg w15 hbox hb; have n0_ := Aside0.mk (below_step (by repeat (first | (with_reducible first | exact HB.out | apply below_alloc | apply pw_below_drewN | apply below_drew1) | exact HB.out)) hb); have n1_ := Aside0.mk (hbox); have n2_ := Aside0.mk ((by rw [hg]; exact (below_size (by repeat (first | (with_reducible first | exact HB.out | apply below_alloc | apply pw_below_drewN | apply below_drew1) | exact HB.out))) : w.heap.size ≤ gb101)); have n3_ := Aside0.mk ((by rw [hg]; exact (below_size (by repeat (first | (with_reducible first | exact HB.out | apply below_alloc | apply pw_below_drewN | apply below_drew1) | exact HB.out))) : w.heap.size ≤ gb101)); clear HB; have HB := n0_; have BK101 := n1_; have GW101 := n2_; have GE101 := n3_; clear n0_ n1_ n2_ n3_; clear hb hbox hg; have hcz16_0 : w15.cell? ⟨gb101, 0, none⟩ = some (.int .i64 a0_0) := (blk_cell BK101.out 0).trans rfl; have hcz16_1 : w15.cell? ⟨gb101, 1, none⟩ = some (.int .i64 a0_1) := (blk_cell BK101.out 1).trans rfl; have hcz16_2 : w15.cell? ⟨gb101, 2, none⟩ = some (.int .i64 a0_2) := (blk_cell BK101.out 2).trans rfl; have hcz16_3 : w15.cell? ⟨gb101, 3, none⟩ = some (.int .i64 a0_3) := (blk_cell BK101.out 3).trans rfl; have hcz16_4 : w15.cell? ⟨gb101, 4, none⟩ = some (.int .i64 a0_4) := (blk_cell BK101.out 4).trans rfl; have hcz16_5 : w15.cell? ⟨gb101, 5, none⟩ = some (.int .i64 a0_5) := (blk_cell BK101.out 5).trans rfl; have hcz16_6 : w15.cell? ⟨gb101, 6, none⟩ = some (.int .i64 a0_6) := (blk_cell BK101.out 6).trans rfl; have hfz16_0 := blk_frozen BK101.out 0; have hfz16_1 := blk_frozen BK101.out 1; have hfz16_2 := blk_frozen BK101.out 2; have hfz16_3 := blk_frozen BK101.out 3; have hfz16_4 := blk_frozen BK101.out 4; have hfz16_5 := blk_frozen BK101.out 5; have hfz16_6 := blk_frozen BK101.out 6))
      go_ret
      exact ⟨by first | rfl | (simp [errW_none, errW_some] <;> rfl) | (simp [*, errW_none, errW_some] <;> rfl), by repeat (first | (with_reducible first | exact HB.out | apply below_alloc | apply pw_below_drewN | apply below_drew1 | refine below_set ?_ GE101.out) | exact HB.out)⟩
     ·rw [if_neg c14] at H
      have c14b0 : decide (a0_6 < 1) = false := decide_eq_false c14
      clear c14
      by_cases c17 : a0_6 > 256
      ·rw [if_pos c17] at H
       have c17b0 : decide (256 < a0_6) = true := decide_eq_true c17
       clear c17
       obtain rfl := Option.some.inj H
       go_enter Try.func22, Try.ntmps22
       go_wp2_with (first | ((with_reducible refine gate_dst (N := 1) rfl ?_); refine box_event ?hg (N := 1) ?hd (cs := #[.int .i64 a0_0, .int .i64 a0_1, .int .i64 a0_2, .int .i64 a0_3, .int .i64 a0_4, .int .i64 a0_5, .int .i64 a0_6]) (t := 28) ?hr ?_; (case hd => rfl); (case hg => rfl); (case hr => first | (go_simp; done) | (go_simp; rfl)); intro gb101 hg w18 hbox hb; have n0_ := Aside0.mk (below_step (by repeat (first | (with_reducible first | exact HB.out | apply below_alloc | apply pw_below_drewN | apply below_drew1) | exact HB.out)) hb); have n1_ := Aside0.mk (hbox); have n2_ := Aside0.mk ((by rw [hg]; exact (below_size (by repeat (first | (with_reducible first | exact HB.out | apply below_alloc | apply pw_below_drewN | apply below_drew1) | exact HB.out))) : w.heap.size ≤ gb101)); have n3_ := Aside0.mk ((by rw [hg]; exact (below_size (by repeat (first | (with_reducible first | exact HB.out | apply below_alloc | apply pw_below_drewN | apply below_drew1) | exact HB.out))) : w.heap.size ≤ gb101)); clear HB; have HB := n0_; have BK101 := n1_; have GW101 := n2_; have GE101 := n3_; clear n0_ n1_ n2_ n3_; clear hb hbox hg; have hcz19_0 : w18.cell? ⟨gb101, 0, none⟩ = some (.int .i64 a0_0) := (blk_cell BK101.out 0).trans rfl; have hcz19_1 : w18.cell? ⟨gb101, 1, none⟩ = some (.int .i64 a0_1) := (blk_cell BK101.out 1).trans rfl; have hcz19_2 : w18.cell? ⟨gb101, 2, none⟩ = some (.int .i64 a0_2) := (blk_cell BK101.out 2).trans rfl; have hcz19_3 : w18.cell? ⟨gb101, 3, none⟩ = some (.int .i64 a0_3) := (blk_cell BK101.out 3).trans rfl; have hcz19_4 : w18.cell? ⟨gb101, 4, none⟩ = some (.int .i64 a0_4) := (blk_cell BK101.out 4).trans rfl; have hcz19_5 : w18.cell? ⟨gb101, 5, none⟩ = some (.int .i64 a0_5) := (blk_cell BK101.out 5).trans rfl; have hcz19_6 : w18.cell? ⟨gb101, 6, none⟩ = some (.int .i64 a0_6) := (blk_cell BK101.out 6).trans rfl; have hfz19_0 := blk_frozen BK101.out 0; have hfz19_1 := blk_frozen BK101.out 1; have hfz19_2 := blk_frozen BK101.out 2; have hfz19_3 := blk_frozen BK101.out 3; have hfz19_4 := blk_frozen BK101.out 4; have hfz19_5 := blk_frozen BK101.out 5; have hfz19_6 := blk_frozen BK101.out 6))
       go_ret
       exact ⟨by first | rfl | (simp [errW_none, errW_some] <;> rfl) | (simp [*, errW_none, errW_some] <;> rfl), by repeat (first | (with_reducible first | exact HB.out | apply below_alloc | apply pw_below_drewN | apply below_drew1 | refine below_set ?_ GE101.out) | exact HB.out)⟩
      ·rw [if_neg c17] at H
       have c17b0 : decide (256 < a0_6) = false := decide_eq_false c17
       clear c17
       by_cases c20 : a0_3 < 0
       ·rw [if_pos c20] at H
        have c20b0 : decide (a0_3 < 0) = true := decide_eq_true c20
        clear c20
        obtain rfl := Option.some.inj H
        go_enter Try.func22, Try.ntmps22
        go_wp2_with (first | ((with_reducible refine gate_dst (N := 1) rfl ?_); refine box_event ?hg (N := 1) ?hd (cs := #[.int .i64 a0_0, .int .i64 a0_1, .int .i64 a0_2, .int .i64 a0_3, .int .i64 a0_4, .int .i64 a0_5, .int .i64 a0_6]) (t := 28) ?hr ?_; (case hd => rfl); (case hg => rfl); (case hr => first | (go_simp; done) | (go_simp; rfl)); intro gb101 hg w21 hbox hb; have n0_ := Aside0.mk (below_step (by repeat (first | (with_reducible first | exact HB.out | apply below_alloc | apply pw_below_drewN | apply below_drew1) | exact HB.out)) hb); have n1_ := Aside0.mk (hbox); have n2_ := Aside0.mk ((by rw [hg]; exact (below_size (by repeat (first | (with_reducible first | exact HB.out | apply below_alloc | apply pw_below_drewN | apply below_drew1) | exact HB.out))) : w.heap.size ≤ gb101)); have n3_ := Aside0.mk ((by rw [hg]; exact (below_size (by repeat (first | (with_reducible first | exact HB.out | apply below_alloc | apply pw_below_drewN | apply below_drew1) | exact HB.out))) : w.heap.size ≤ gb101)); clear HB; have HB := n0_; have BK101 := n1_; have GW101 := n2_; have GE101 := n3_; clear n0_ n1_ n2_ n3_; clear hb hbox hg; have hcz22_0 : w21.cell? ⟨gb101, 0, none⟩ = some (.int .i64 a0_0) := (blk_cell BK101.out 0).trans rfl; have hcz22_1 : w21.cell? ⟨gb101, 1, none⟩ = some (.int .i64 a0_1) := (blk_cell BK101.out 1).trans rfl; have hcz22_2 : w21.cell? ⟨gb101, 2, none⟩ = some (.int .i64 a0_2) := (blk_cell BK101.out 2).trans rfl; have hcz22_3 : w21.cell? ⟨gb101, 3, none⟩ = some (.int .i64 a0_3) := (blk_cell BK101.out 3).trans rfl; have hcz22_4 : w21.cell? ⟨gb101, 4, none⟩ = some (.int .i64 a0_4) := (blk_cell BK101.out 4).trans rfl; have hcz22_5 : w21.cell? ⟨gb101, 5, none⟩ = some (.int .i64 a0_5) := (blk_cell BK101.out 5).trans rfl; have hcz22_6 : w21.cell? ⟨gb101, 6, none⟩ = some (.int .i64 a0_6) := (blk_cell BK101.out 6).trans rfl; have hfz22_0 := blk_frozen BK101.out 0; have hfz22_1 := blk_frozen BK101.out 1; have hfz22_2 := blk_frozen BK101.out 2; have hfz22_3 := blk_frozen BK101.out 3; have hfz22_4 := blk_frozen BK101.out 4; have hfz22_5 := blk_frozen BK101.out 5; have hfz22_6 := blk_frozen BK101.out 6))
        go_ret
        exact ⟨by first | rfl | (simp [errW_none, errW_some] <;> rfl) | (simp [*, errW_none, errW_some] <;> rfl), by repeat (first | (with_reducible first | exact HB.out | apply below_alloc | apply pw_below_drewN | apply below_drew1 | refine below_set ?_ GE101.out) | exact HB.out)⟩
       ·rw [if_neg c20] at H
        have c20b0 : decide (a0_3 < 0) = false := decide_eq_false c20
        clear c20
        by_cases c23 : a0_3 > 201
        ·rw [if_pos c23] at H
         have c23b0 : decide (201 < a0_3) = true := decide_eq_true c23
         clear c23
         obtain rfl := Option.some.inj H
         go_enter Try.func22, Try.ntmps22
         go_wp2_with (first | ((with_reducible refine gate_dst (N := 1) rfl ?_); refine box_event ?hg (N := 1) ?hd (cs := #[.int .i64 a0_0, .int .i64 a0_1, .int .i64 a0_2, .int .i64 a0_3, .int .i64 a0_4, .int .i64 a0_5, .int .i64 a0_6]) (t := 28) ?hr ?_; (case hd => rfl); (case hg => rfl); (case hr => first | (go_simp; done) | (go_simp; rfl)); intro gb101 hg w24 hbox hb; have n0_ := Aside0.mk (below_step (by repeat (first | (with_reducible first | exact HB.out | apply below_alloc | apply pw_below_drewN | apply below_drew1) | exact HB.out)) hb); have n1_ := Aside0.mk (hbox); have n2_ := Aside0.mk ((by rw [hg]; exact (below_size (by repeat (first | (with_reducible first | exact HB.out | apply below_alloc | apply pw_below_drewN | apply below_drew1) | exact HB.out))) : w.heap.size ≤ gb101)); have n3_ := Aside0.mk ((by rw [hg]; exact (below_size (by repeat (first | (with_reducible first | exact HB.out | apply below_alloc | apply pw_below_drewN | apply below_drew1) | exact HB.out))) : w.heap.size ≤ gb101)); clear HB; have HB := n0_; have BK101 := n1_; have GW101 := n2_; have GE101 := n3_; clear n0_ n1_ n2_ n3_; clear hb hbox hg; have hcz25_0 : w24.cell? ⟨gb101, 0, none⟩ = some (.int .i64 a0_0) := (blk_cell BK101.out 0).trans rfl; have hcz25_1 : w24.cell? ⟨gb101, 1, none⟩ = some (.int .i64 a0_1) := (blk_cell BK101.out 1).trans rfl; have hcz25_2 : w24.cell? ⟨gb101, 2, none⟩ = some (.int .i64 a0_2) := (blk_cell BK101.out 2).trans rfl; have hcz25_3 : w24.cell? ⟨gb101, 3, none⟩ = some (.int .i64 a0_3) := (blk_cell BK101.out 3).trans rfl; have hcz25_4 : w24.cell? ⟨gb101, 4, none⟩ = some (.int .i64 a0_4) := (blk_cell BK101.out 4).trans rfl; have hcz25_5 : w24.cell? ⟨gb101, 5, none⟩ = some (.int .i64 a0_5) := (blk_cell BK101.out 5).trans rfl; have hcz25_6 : w24.cell? ⟨gb101, 6, none⟩ = some (.int .i64 a0_6) := (blk_cell BK101.out 6).trans rfl; have hfz25_0 := blk_frozen BK101.out 0; have hfz25_1 := blk_frozen BK101.out 1; have hfz25_2 := blk_frozen BK101.out 2; have hfz25_3 := blk_frozen BK101.out 3; have hfz25_4 := blk_frozen BK101.out 4; have hfz25_5 := blk_frozen BK101.out 5; have hfz25_6 := blk_frozen BK101.out 6))
         go_ret
         exact ⟨by first | rfl | (simp [errW_none, errW_some] <;> rfl) | (simp [*, errW_none, errW_some] <;> rfl), by repeat (first | (with_reducible first | exact HB.out | apply below_alloc | apply pw_below_drewN | apply below_drew1 | refine below_set ?_ GE101.out) | exact HB.out)⟩
        ·rw [if_neg c23] at H
         have c23b0 : decide (201 < a0_3) = false := decide_eq_false c23
         clear c23
         by_cases c26 : a0_4 < 0
         ·rw [if_pos c26] at H
          have c26b0 : decide (a0_4 < 0) = true := decide_eq_true c26
          clear c26
          obtain rfl := Option.some.inj H
          go_enter Try.func22, Try.ntmps22
          go_wp2_with (first | ((with_reducible refine gate_dst (N := 1) rfl ?_); refine box_event ?hg (N := 1) ?hd (cs := #[.int .i64 a0_0, .int .i64 a0_1, .int .i64 a0_2, .int .i64 a0_3, .int .i64 a0_4, .int .i64 a0_5, .int .i64 a0_6]) (t := 28) ?hr ?_; (case hd => rfl); (case hg => rfl); (case hr => first | (go_simp; done) | (go_simp; rfl)); intro gb101 hg w27 hbox hb; have n0_ := Aside0.mk (below_step (by repeat (first | (with_reducible first | exact HB.out | apply below_alloc | apply pw_below_drewN | apply below_drew1) | exact HB.out)) hb); have n1_ := Aside0.mk (hbox); have n2_ := Aside0.mk ((by rw [hg]; exact (below_size (by repeat (first | (with_reducible first | exact HB.out | apply below_alloc | apply pw_below_drewN | apply below_drew1) | exact HB.out))) : w.heap.size ≤ gb101)); have n3_ := Aside0.mk ((by rw [hg]; exact (below_size (by repeat (first | (with_reducible first | exact HB.out | apply below_alloc | apply pw_below_drewN | apply below_drew1) | exact HB.out))) : w.heap.size ≤ gb101)); clear HB; have HB := n0_; have BK101 := n1_; have GW101 := n2_; have GE101 := n3_; clear n0_ n1_ n2_ n3_; clear hb hbox hg; have hcz28_0 : w27.cell? ⟨gb101, 0, none⟩ = some (.int .i64 a0_0) := (blk_cell BK101.out 0).trans rfl; have hcz28_1 : w27.cell? ⟨gb101, 1, none⟩ = some (.int .i64 a0_1) := (blk_cell BK101.out 1).trans rfl; have hcz28_2 : w27.cell? ⟨gb101, 2, none⟩ = some (.int .i64 a0_2) := (blk_cell BK101.out 2).trans rfl; have hcz28_3 : w27.cell? ⟨gb101, 3, none⟩ = some (.int .i64 a0_3) := (blk_cell BK101.out 3).trans rfl; have hcz28_4 : w27.cell? ⟨gb101, 4, none⟩ = some (.int .i64 a0_4) := (blk_cell BK101.out 4).trans rfl; have hcz28_5 : w27.cell? ⟨gb101, 5, none⟩ = some (.int .i64 a0_5) := (blk_cell BK101.out 5).trans rfl; have hcz28_6 : w27.cell? ⟨gb101, 6, none⟩ = some (.int .i64 a0_6) := (blk_cell BK101.out 6).trans rfl; have hfz28_0 := blk_frozen BK101.out 0; have hfz28_1 := blk_frozen BK101.out 1; have hfz28_2 := blk_frozen BK101.out 2; have hfz28_3 := blk_frozen BK101.out 3; have hfz28_4 := blk_frozen BK101.out 4; have hfz28_5 := blk_frozen BK101.out 5; have hfz28_6 := blk_frozen BK101.out 6))
          go_ret
          exact ⟨by first | rfl | (simp [errW_none, errW_some] <;> rfl) | (simp [*, errW_none, errW_some] <;> rfl), by repeat (first | (with_reducible first | exact HB.out | apply below_alloc | apply pw_below_drewN | apply below_drew1 | refine below_set ?_ GE101.out) | exact HB.out)⟩
         ·rw [if_neg c26] at H
          have c26b0 : decide (a0_4 < 0) = false := decide_eq_false c26
          clear c26
          by_cases c29 : a0_4 > 2000
          ·rw [if_pos c29] at H
           have c29b0 : decide (2000 < a0_4) = true := decide_eq_true c29
           clear c29
           obtain rfl := Option.some.inj H
           go_enter Try.func22, Try.ntmps22
           go_wp2_with (first | ((with_reducible refine gate_dst (N := 1) rfl ?_); refine box_event ?hg (N := 1) ?hd (cs := #[.int .i64 a0_0, .int .i64 a0_1, .int .i64 a0_2, .int .i64 a0_3, .int .i64 a0_4, .int .i64 a0_5, .int .i64 a0_6]) (t := 28) ?hr ?_; (case hd => rfl); (case hg => rfl); (case hr => first | (go_simp; done) | (go_simp; rfl)); intro gb101 hg w30 hbox hb; have n0_ := Aside0.mk (below_step (by repeat (first | (with_reducible first | exact HB.out | apply below_alloc | apply pw_below_drewN | apply below_drew1) | exact HB.out)) hb); have n1_ := Aside0.mk (hbox); have n2_ := Aside0.mk ((by rw [hg]; exact (below_size (by repeat (first | (with_reducible first | exact HB.out | apply below_alloc | apply pw_below_drewN | apply below_drew1) | exact HB.out))) : w.heap.size ≤ gb101)); have n3_ := Aside0.mk ((by rw [hg]; exact (below_size (by repeat (first | (with_reducible first | exact HB.out | apply below_alloc | apply pw_below_drewN | apply below_drew1) | exact HB.out))) : w.heap.size ≤ gb101)); clear HB; have HB := n0_; have BK101 := n1_; have GW101 := n2_; have GE101 := n3_; clear n0_ n1_ n2_ n3_; clear hb hbox hg; have hcz31_0 : w30.cell? ⟨gb101, 0, none⟩ = some (.int .i64 a0_0) := (blk_cell BK101.out 0).trans rfl; have hcz31_1 : w30.cell? ⟨gb101, 1, none⟩ = some (.int .i64 a0_1) := (blk_cell BK101.out 1).trans rfl; have hcz31_2 : w30.cell? ⟨gb101, 2, none⟩ = some (.int .i64 a0_2) := (blk_cell BK101.out 2).trans rfl; have hcz31_3 : w30.cell? ⟨gb101, 3, none⟩ = some (.int .i64 a0_3) := (blk_cell BK101.out 3).trans rfl; have hcz31_4 : w30.cell? ⟨gb101, 4, none⟩ = some (.int .i64 a0_4) := (blk_cell BK101.out 4).trans rfl; have hcz31_5 : w30.cell? ⟨gb101, 5, none⟩ = some (.int .i64 a0_5) := (blk_cell BK101.out 5).trans rfl; have hcz31_6 : w30.cell? ⟨gb101, 6, none⟩ = some (.int .i64 a0_6) := (blk_cell BK101.out 6).trans rfl; have hfz31_0 := blk_frozen BK101.out 0; have hfz31_1 := blk_frozen BK101.out 1; have hfz31_2 := blk_frozen BK101.out 2; have hfz31_3 := blk_frozen BK101.out 3; have hfz31_4 := blk_frozen BK101.out 4; have hfz31_5 := blk_frozen BK101.out 5; have hfz31_6 := blk_frozen BK101.out 6))
           go_ret
           exact ⟨by first | rfl | (simp [errW_none, errW_some] <;> rfl) | (simp [*, errW_none, errW_some] <;> rfl), by repeat (first | (with_reducible first | exact HB.out | apply below_alloc | apply pw_below_drewN | apply below_drew1 | refine below_set ?_ GE101.out) | exact HB.out)⟩
          ·rw [if_neg c29] at H
           have c29b0 : decide (2000 < a0_4) = false := decide_eq_false c29
           clear c29
           by_cases c32 : a0_1 = 0
           ·rw [if_pos c32] at H
            have c32b0 : (a0_1 == 0) = true := beq_iff_eq.mpr c32
            have c32b1 : (a0_1 != 0) = false := bne_eq_false_iff_eq.mpr c32
            clear c32
            by_cases c33 : a0_2 = 0
            ·rw [if_pos c33] at H
             have c33b0 : (a0_2 == 0) = true := beq_iff_eq.mpr c33
             have c33b1 : (a0_2 != 0) = false := bne_eq_false_iff_eq.mpr c33
             clear c33
             obtain rfl := Option.some.inj H
             go_enter Try.func22, Try.ntmps22
             go_wp2_with (first | ((with_reducible refine gate_dst (N := 1) rfl ?_); refine box_event ?hg (N := 1) ?hd (cs := #[.int .i64 a0_0, .int .i64 a0_1, .int .i64 a0_2, .int .i64 a0_3, .int .i64 a0_4, .int .i64 a0_5, .int .i64 a0_6]) (t := 28) ?hr ?_; (case hd => rfl); (case hg => rfl); (case hr => first | (go_simp; done) | (go_simp; rfl)); intro gb101 hg w34 hbox hb; have n0_ := Aside0.mk (below_step (by repeat (first | (with_reducible first | exact HB.out | apply below_alloc | apply pw_below_drewN | apply below_drew1) | exact HB.out)) hb); have n1_ := Aside0.mk (hbox); have n2_ := Aside0.mk ((by rw [hg]; exact (below_size (by repeat (first | (with_reducible first | exact HB.out | apply below_alloc | apply pw_below_drewN | apply below_drew1) | exact HB.out))) : w.heap.size ≤ gb101)); have n3_ := Aside0.mk ((by rw [hg]; exact (below_size (by repeat (first | (with_reducible first | exact HB.out | apply below_alloc | apply pw_below_drewN | apply below_drew1) | exact HB.out))) : w.heap.size ≤ gb101)); clear HB; have HB := n0_; have BK101 := n1_; have GW101 := n2_; have GE101 := n3_; clear n0_ n1_ n2_ n3_; clear hb hbox hg; have hcz35_0 : w34.cell? ⟨gb101, 0, none⟩ = some (.int .i64 a0_0) := (blk_cell BK101.out 0).trans rfl; have hcz35_1 : w34.cell? ⟨gb101, 1, none⟩ = some (.int .i64 a0_1) := (blk_cell BK101.out 1).trans rfl; have hcz35_2 : w34.cell? ⟨gb101, 2, none⟩ = some (.int .i64 a0_2) := (blk_cell BK101.out 2).trans rfl; have hcz35_3 : w34.cell? ⟨gb101, 3, none⟩ = some (.int .i64 a0_3) := (blk_cell BK101.out 3).trans rfl; have hcz35_4 : w34.cell? ⟨gb101, 4, none⟩ = some (.int .i64 a0_4) := (blk_cell BK101.out 4).trans rfl; have hcz35_5 : w34.cell? ⟨gb101, 5, none⟩ = some (.int .i64 a0_5) := (blk_cell BK101.out 5).trans rfl; have hcz35_6 : w34.cell? ⟨gb101, 6, none⟩ = some (.int .i64 a0_6) := (blk_cell BK101.out 6).trans rfl; have hfz35_0 := blk_frozen BK101.out 0; have hfz35_1 := blk_frozen BK101.out 1; have hfz35_2 := blk_frozen BK101.out 2; have hfz35_3 := blk_frozen BK101.out 3; have hfz35_4 := blk_frozen BK101.out 4; have hfz35_5 := blk_frozen BK101.out 5; have hfz35_6 := blk_frozen BK101.out 6))
             go_ret
             exact ⟨by first | rfl | (simp [errW_none, errW_some] <;> rfl) | (simp [*, errW_none, errW_some] <;> rfl), by repeat (first | (with_reducible first | exact HB.out | apply below_alloc | apply pw_below_drewN | apply below_drew1 | refine below_set ?_ GE101.out) | exact HB.out)⟩
            ·rw [if_neg c33] at H
             have c33b0 : (a0_2 == 0) = false := beq_eq_false_iff_ne.mpr c33
             have c33b1 : (a0_2 != 0) = true := bne_iff_ne.mpr c33
             obtain rfl := Option.some.inj H
             go_enter Try.func22, Try.ntmps22
             go_wp2_with (first | ((with_reducible refine gate_dst (N := 1) rfl ?_); refine box_event ?hg (N := 1) ?hd (cs := #[.int .i64 a0_0, .int .i64 a0_1, .int .i64 a0_2, .int .i64 a0_3, .int .i64 a0_4, .int .i64 a0_5, .int .i64 a0_6]) (t := 28) ?hr ?_; (case hd => rfl); (case hg => rfl); (case hr => first | (go_simp; done) | (go_simp; rfl)); intro gb101 hg w36 hbox hb; have n0_ := Aside0.mk (below_step (by repeat (first | (with_reducible first | exact HB.out | apply below_alloc | apply pw_below_drewN | apply below_drew1) | exact HB.out)) hb); have n1_ := Aside0.mk (hbox); have n2_ := Aside0.mk ((by rw [hg]; exact (below_size (by repeat (first | (with_reducible first | exact HB.out | apply below_alloc | apply pw_below_drewN | apply below_drew1) | exact HB.out))) : w.heap.size ≤ gb101)); have n3_ := Aside0.mk ((by rw [hg]; exact (below_size (by repeat (first | (with_reducible first | exact HB.out | apply below_alloc | apply pw_below_drewN | apply below_drew1) | exact HB.out))) : w.heap.size ≤ gb101)); clear HB; have HB := n0_; have BK101 := n1_; have GW101 := n2_; have GE101 := n3_; clear n0_ n1_ n2_ n3_; clear hb hbox hg; have hcz37_0 : w36.cell? ⟨gb101, 0, none⟩ = some (.int .i64 a0_0) := (blk_cell BK101.out 0).trans rfl; have hcz37_1 : w36.cell? ⟨gb101, 1, none⟩ = some (.int .i64 a0_1) := (blk_cell BK101.out 1).trans rfl; have hcz37_2 : w36.cell? ⟨gb101, 2, none⟩ = some (.int .i64 a0_2) := (blk_cell BK101.out 2).trans rfl; have hcz37_3 : w36.cell? ⟨gb101, 3, none⟩ = some (.int .i64 a0_3) := (blk_cell BK101.out 3).trans rfl; have hcz37_4 : w36.cell? ⟨gb101, 4, none⟩ = some (.int .i64 a0_4) := (blk_cell BK101.out 4).trans rfl; have hcz37_5 : w36.cell? ⟨gb101, 5, none⟩ = some (.int .i64 a0_5) := (blk_cell BK101.out 5).trans rfl; have hcz37_6 : w36.cell? ⟨gb101, 6, none⟩ = some (.int .i64 a0_6) := (blk_cell BK101.out 6).trans rfl; have hfz37_0 := blk_frozen BK101.out 0; have hfz37_1 := blk_frozen BK101.out 1; have hfz37_2 := blk_frozen BK101.out 2; have hfz37_3 := blk_frozen BK101.out 3; have hfz37_4 := blk_frozen BK101.out 4; have hfz37_5 := blk_frozen BK101.out 5; have hfz37_6 := blk_frozen BK101.out 6))
             go_ret
             exact ⟨by first | rfl | (simp [errW_none, errW_some] <;> rfl) | (simp [*, errW_none, errW_some] <;> rfl), by repeat (first | (with_reducible first | exact HB.out | apply below_alloc | apply pw_below_drewN | apply below_drew1 | refine below_set ?_ GE101.out) | exact HB.out)⟩
           ·rw [if_neg c32] at H
            have c32b0 : (a0_1 == 0) = false := beq_eq_false_iff_ne.mpr c32
            have c32b1 : (a0_1 != 0) = true := bne_iff_ne.mpr c32
            by_cases c38 : a0_1 = a0_5
            ·rw [if_pos c38] at H
             have c38b0 : (a0_1 == a0_5) = true := beq_iff_eq.mpr c38
             have c38b1 : (a0_1 != a0_5) = false := bne_eq_false_iff_eq.mpr c38
             clear c38
             by_cases c39 : a0_2 = 0
             ·rw [if_pos c39] at H
              have c39b0 : (a0_2 == 0) = true := beq_iff_eq.mpr c39
              have c39b1 : (a0_2 != 0) = false := bne_eq_false_iff_eq.mpr c39
              clear c39
              obtain rfl := Option.some.inj H
              go_enter Try.func22, Try.ntmps22
              go_wp2_with (first | ((with_reducible refine gate_dst (N := 1) rfl ?_); refine box_event ?hg (N := 1) ?hd (cs := #[.int .i64 a0_0, .int .i64 a0_1, .int .i64 a0_2, .int .i64 a0_3, .int .i64 a0_4, .int .i64 a0_5, .int .i64 a0_6]) (t := 28) ?hr ?_; (case hd => rfl); (case hg => rfl); (case hr => first | (go_simp; done) | (go_simp; rfl)); intro gb101 hg w40 hbox hb; have n0_ := Aside0.mk (below_step (by repeat (first | (with_reducible first | exact HB.out | apply below_alloc | apply pw_below_drewN | apply below_drew1) | exact HB.out)) hb); have n1_ := Aside0.mk (hbox); have n2_ := Aside0.mk ((by rw [hg]; exact (below_size (by repeat (first | (with_reducible first | exact HB.out | apply below_alloc | apply pw_below_drewN | apply below_drew1) | exact HB.out))) : w.heap.size ≤ gb101)); have n3_ := Aside0.mk ((by rw [hg]; exact (below_size (by repeat (first | (with_reducible first | exact HB.out | apply below_alloc | apply pw_below_drewN | apply below_drew1) | exact HB.out))) : w.heap.size ≤ gb101)); clear HB; have HB := n0_; have BK101 := n1_; have GW101 := n2_; have GE101 := n3_; clear n0_ n1_ n2_ n3_; clear hb hbox hg; have hcz41_0 : w40.cell? ⟨gb101, 0, none⟩ = some (.int .i64 a0_0) := (blk_cell BK101.out 0).trans rfl; have hcz41_1 : w40.cell? ⟨gb101, 1, none⟩ = some (.int .i64 a0_1) := (blk_cell BK101.out 1).trans rfl; have hcz41_2 : w40.cell? ⟨gb101, 2, none⟩ = some (.int .i64 a0_2) := (blk_cell BK101.out 2).trans rfl; have hcz41_3 : w40.cell? ⟨gb101, 3, none⟩ = some (.int .i64 a0_3) := (blk_cell BK101.out 3).trans rfl; have hcz41_4 : w40.cell? ⟨gb101, 4, none⟩ = some (.int .i64 a0_4) := (blk_cell BK101.out 4).trans rfl; have hcz41_5 : w40.cell? ⟨gb101, 5, none⟩ = some (.int .i64 a0_5) := (blk_cell BK101.out 5).trans rfl; have hcz41_6 : w40.cell? ⟨gb101, 6, none⟩ = some (.int .i64 a0_6) := (blk_cell BK101.out 6).trans rfl; have hfz41_0 := blk_frozen BK101.out 0; have hfz41_1 := blk_frozen BK101.out 1; have hfz41_2 := blk_frozen BK101.out 2; have hfz41_3 := blk_frozen BK101.out 3; have hfz41_4 := blk_frozen BK101.out 4; have hfz41_5 := blk_frozen BK101.out 5; have hfz41_6 := blk_frozen BK101.out 6))
              go_ret
              exact ⟨by first | rfl | (simp [errW_none, errW_some] <;> rfl) | (simp [*, errW_none, errW_some] <;> rfl), by repeat (first | (with_reducible first | exact HB.out | apply below_alloc | apply pw_below_drewN | apply below_drew1 | refine below_set ?_ GE101.out) | exact HB.out)⟩
             ·rw [if_neg c39] at H
              have c39b0 : (a0_2 == 0) = false := beq_eq_false_iff_ne.mpr c39
              have c39b1 : (a0_2 != 0) = true := bne_iff_ne.mpr c39
              obtain rfl := Option.some.inj H
              go_enter Try.func22, Try.ntmps22
              go_wp2_with (first | ((with_reducible refine gate_dst (N := 1) rfl ?_); refine box_event ?hg (N := 1) ?hd (cs := #[.int .i64 a0_0, .int .i64 a0_1, .int .i64 a0_2, .int .i64 a0_3, .int .i64 a0_4, .int .i64 a0_5, .int .i64 a0_6]) (t := 28) ?hr ?_; (case hd => rfl); (case hg => rfl); (case hr => first | (go_simp; done) | (go_simp; rfl)); intro gb101 hg w42 hbox hb; have n0_ := Aside0.mk (below_step (by repeat (first | (with_reducible first | exact HB.out | apply below_alloc | apply pw_below_drewN | apply below_drew1) | exact HB.out)) hb); have n1_ := Aside0.mk (hbox); have n2_ := Aside0.mk ((by rw [hg]; exact (below_size (by repeat (first | (with_reducible first | exact HB.out | apply below_alloc | apply pw_below_drewN | apply below_drew1) | exact HB.out))) : w.heap.size ≤ gb101)); have n3_ := Aside0.mk ((by rw [hg]; exact (below_size (by repeat (first | (with_reducible first | exact HB.out | apply below_alloc | apply pw_below_drewN | apply below_drew1) | exact HB.out))) : w.heap.size ≤ gb101)); clear HB; have HB := n0_; have BK101 := n1_; have GW101 := n2_; have GE101 := n3_; clear n0_ n1_ n2_ n3_; clear hb hbox hg; have hcz43_0 : w42.cell? ⟨gb101, 0, none⟩ = some (.int .i64 a0_0) := (blk_cell BK101.out 0).trans rfl; have hcz43_1 : w42.cell? ⟨gb101, 1, none⟩ = some (.int .i64 a0_1) := (blk_cell BK101.out 1).trans rfl; have hcz43_2 : w42.cell? ⟨gb101, 2, none⟩ = some (.int .i64 a0_2) := (blk_cell BK101.out 2).trans rfl; have hcz43_3 : w42.cell? ⟨gb101, 3, none⟩ = some (.int .i64 a0_3) := (blk_cell BK101.out 3).trans rfl; have hcz43_4 : w42.cell? ⟨gb101, 4, none⟩ = some (.int .i64 a0_4) := (blk_cell BK101.out 4).trans rfl; have hcz43_5 : w42.cell? ⟨gb101, 5, none⟩ = some (.int .i64 a0_5) := (blk_cell BK101.out 5).trans rfl; have hcz43_6 : w42.cell? ⟨gb101, 6, none⟩ = some (.int .i64 a0_6) := (blk_cell BK101.out 6).trans rfl; have hfz43_0 := blk_frozen BK101.out 0; have hfz43_1 := blk_frozen BK101.out 1; have hfz43_2 := blk_frozen BK101.out 2; have hfz43_3 := blk_frozen BK101.out 3; have hfz43_4 := blk_frozen BK101.out 4; have hfz43_5 := blk_frozen BK101.out 5; have hfz43_6 := blk_frozen BK101.out 6))
              go_ret
              exact ⟨by first | rfl | (simp [errW_none, errW_some] <;> rfl) | (simp [*, errW_none, errW_some] <;> rfl), by repeat (first | (with_reducible first | exact HB.out | apply below_alloc | apply pw_below_drewN | apply below_drew1 | refine below_set ?_ GE101.out) | exact HB.out)⟩
            ·rw [if_neg c38] at H
             have c38b0 : (a0_1 == a0_5) = false := beq_eq_false_iff_ne.mpr c38
             have c38b1 : (a0_1 != a0_5) = true := bne_iff_ne.mpr c38
             obtain rfl := Option.some.inj H
             go_enter Try.func22, Try.ntmps22
             go_wp2_with (first | ((with_reducible refine gate_dst (N := 1) rfl ?_); refine box_event ?hg (N := 1) ?hd (cs := #[.int .i64 a0_0, .int .i64 a0_1, .int .i64 a0_2, .int .i64 a0_3, .int .i64 a0_4, .int .i64 a0_5, .int .i64 a0_6]) (t := 28) ?hr ?_; (case hd => rfl); (case hg => rfl); (case hr => first | (go_simp; done) | (go_simp; rfl)); intro gb101 hg w44 hbox hb; have n0_ := Aside0.mk (below_step (by repeat (first | (with_reducible first | exact HB.out | apply below_alloc | apply pw_below_drewN | apply below_drew1) | exact HB.out)) hb); have n1_ := Aside0.mk (hbox); have n2_ := Aside0.mk ((by rw [hg]; exact (below_size (by repeat (first | (with_reducible first | exact HB.out | apply below_alloc | apply pw_below_drewN | apply below_drew1) | exact HB.out))) : w.heap.size ≤ gb101)); have n3_ := Aside0.mk ((by rw [hg]; exact (below_size (by repeat (first | (with_reducible first | exact HB.out | apply below_alloc | apply pw_below_drewN | apply below_drew1) | exact HB.out))) : w.heap.size ≤ gb101)); clear HB; have HB := n0_; have BK101 := n1_; have GW101 := n2_; have GE101 := n3_; clear n0_ n1_ n2_ n3_; clear hb hbox hg; have hcz45_0 : w44.cell? ⟨gb101, 0, none⟩ = some (.int .i64 a0_0) := (blk_cell BK101.out 0).trans rfl; have hcz45_1 : w44.cell? ⟨gb101, 1, none⟩ = some (.int .i64 a0_1) := (blk_cell BK101.out 1).trans rfl; have hcz45_2 : w44.cell? ⟨gb101, 2, none⟩ = some (.int .i64 a0_2) := (blk_cell BK101.out 2).trans rfl; have hcz45_3 : w44.cell? ⟨gb101, 3, none⟩ = some (.int .i64 a0_3) := (blk_cell BK101.out 3).trans rfl; have hcz45_4 : w44.cell? ⟨gb101, 4, none⟩ = some (.int .i64 a0_4) := (blk_cell BK101.out 4).trans rfl; have hcz45_5 : w44.cell? ⟨gb101, 5, none⟩ = some (.int .i64 a0_5) := (blk_cell BK101.out 5).trans rfl; have hcz45_6 : w44.cell? ⟨gb101, 6, none⟩ = some (.int .i64 a0_6) := (blk_cell BK101.out 6).trans rfl; have hfz45_0 := blk_frozen BK101.out 0; have hfz45_1 := blk_frozen BK101.out 1; have hfz45_2 := blk_frozen BK101.out 2; have hfz45_3 := blk_frozen BK101.out 3; have hfz45_4 := blk_frozen BK101.out 4; have hfz45_5 := blk_frozen BK101.out 5; have hfz45_6 := blk_frozen BK101.out 6))
             go_ret
             exact ⟨by first | rfl | (simp [errW_none, errW_some] <;> rfl) | (simp [*, errW_none, errW_some] <;> rfl), by repeat (first | (with_reducible first | exact HB.out | apply below_alloc | apply pw_below_drewN | apply below_drew1 | refine below_set ?_ GE101.out) | exact HB.out)⟩
def epactref15_Size.f (a0_0 : Int) (a0_1 : Int) (a0_2 : Int) (a0_3 : Int) (a0_4 : Int) (a0_5 : Int) (a0_6 : Int) (a1 : Int) : Option (Int) := (epactref15_Right.f a0_0 a0_1 a0_2 a0_3 a0_4 a0_5 a0_6).bind fun t103 => (if t103 = true then (if a1 = 4 then (some (wrap64 ((wrap64 ((wrap64 ((wrap64 ((wrap64 ((wrap64 ((wrap64 (a1 + 1)) * a0_4)) + (wrap64 (6 * a0_5)))) + a0_6)) + (wrap64 ((wrap64 (a1 + 4)) * a0_3)))) + a0_2)) + a0_1))) else (if a1 = 8 then (some (wrap64 ((wrap64 ((wrap64 ((wrap64 ((wrap64 ((wrap64 ((wrap64 (a1 + 1)) * a0_4)) + (wrap64 (6 * a0_5)))) + a0_6)) + (wrap64 ((wrap64 (a1 + 4)) * a0_3)))) + a0_2)) + a0_1))) else (some 0))) else (some 0))
set_option maxHeartbeats 8000000 in
set_option maxRecDepth 100000 in
theorem epactref15_Size.calls (a0_0 : Int) (a0_1 : Int) (a0_2 : Int) (a0_3 : Int) (a0_4 : Int) (a0_5 : Int) (a0_6 : Int) (a1 : Int) (r : Int) (w : World) (h : epactref15_Size.f a0_0 a0_1 a0_2 a0_3 a0_4 a0_5 a0_6 a1 = some r) :
  Calls Try.prog 32 #[.agg #[.int .i64 a0_0, .int .i64 a0_1, .int .i64 a0_2, .int .i64 a0_3, .int .i64 a0_4, .int .i64 a0_5, .int .i64 a0_6], .int .i64 a1] w fun e w' => e = .returned (.int .i64 r) ∧ Below w.heap.size w w' := by
 have hu28 := Try.underlying28
 have HB := Aside0.mk (Below.refl w.heap.size w)
 have H : ((epactref15_Right.f a0_0 a0_1 a0_2 a0_3 a0_4 a0_5 a0_6).bind fun t103 => (if t103 = true then (if a1 = 4 then (some (wrap64 ((wrap64 ((wrap64 ((wrap64 ((wrap64 ((wrap64 ((wrap64 (a1 + 1)) * a0_4)) + (wrap64 (6 * a0_5)))) + a0_6)) + (wrap64 ((wrap64 (a1 + 4)) * a0_3)))) + a0_2)) + a0_1))) else (if a1 = 8 then (some (wrap64 ((wrap64 ((wrap64 ((wrap64 ((wrap64 ((wrap64 ((wrap64 (a1 + 1)) * a0_4)) + (wrap64 (6 * a0_5)))) + a0_6)) + (wrap64 ((wrap64 (a1 + 4)) * a0_3)))) + a0_2)) + a0_1))) else (some 0))) else (some 0))) = some r := h
 clear h
 replace H := Option.bind_eq_some_iff.mp H
 obtain ⟨t103, A30, H⟩ := H
 replace H : (if t103 = true then (if a1 = 4 then (some (wrap64 ((wrap64 ((wrap64 ((wrap64 ((wrap64 ((wrap64 ((wrap64 (a1 + 1)) * a0_4)) + (wrap64 (6 * a0_5)))) + a0_6)) + (wrap64 ((wrap64 (a1 + 4)) * a0_3)))) + a0_2)) + a0_1))) else (if a1 = 8 then (some (wrap64 ((wrap64 ((wrap64 ((wrap64 ((wrap64 ((wrap64 ((wrap64 (a1 + 1)) * a0_4)) + (wrap64 (6 * a0_5)))) + a0_6)) + (wrap64 ((wrap64 (a1 + 4)) * a0_3)))) + a0_2)) + a0_1))) else (some 0))) else (some 0)) = some r := H
 have A3 := Aside0.mk A30
 clear A30
 by_cases c4 : t103 = true
 ·subst c4
  have H1 : (if a1 = 4 then (some (wrap64 ((wrap64 ((wrap64 ((wrap64 ((wrap64 ((wrap64 ((wrap64 (a1 + 1)) * a0_4)) + (wrap64 (6 * a0_5)))) + a0_6)) + (wrap64 ((wrap64 (a1 + 4)) * a0_3)))) + a0_2)) + a0_1))) else (if a1 = 8 then (some (wrap64 ((wrap64 ((wrap64 ((wrap64 ((wrap64 ((wrap64 ((wrap64 (a1 + 1)) * a0_4)) + (wrap64 (6 * a0_5)))) + a0_6)) + (wrap64 ((wrap64 (a1 + 4)) * a0_3)))) + a0_2)) + a0_1))) else (some 0))) = some r := by rw [if_pos rfl] at H; exact H
  clear H
  have H := H1
  clear H1
  by_cases c5 : a1 = 4
  ·rw [if_pos c5] at H
   have c5b0 : (a1 == 4) = true := beq_iff_eq.mpr c5
   have c5b1 : (a1 != 4) = false := bne_eq_false_iff_eq.mpr c5
   clear c5
   obtain rfl := Option.some.inj H
   go_enter Try.func32, Try.ntmps32
   go_wp2_with (first | ((with_reducible refine gate_dst (N := 2) rfl ?_); refine box_event ?hg (N := 2) ?hd (cs := #[.int .i64 a0_0, .int .i64 a0_1, .int .i64 a0_2, .int .i64 a0_3, .int .i64 a0_4, .int .i64 a0_5, .int .i64 a0_6]) (t := 28) ?hr ?_; (case hd => rfl); (case hg => rfl); (case hr => first | (go_simp; done) | (go_simp; rfl)); intro gb102 hg w6 hbox hb; have n0_ := Aside0.mk (below_step (by repeat (first | (with_reducible first | exact HB.out | apply below_alloc | apply pw_below_drewN | apply below_drew1) | exact HB.out)) hb); have n1_ := Aside0.mk (hbox); have n2_ := Aside0.mk ((by rw [hg]; exact (below_size (by repeat (first | (with_reducible first | exact HB.out | apply below_alloc | apply pw_below_drewN | apply below_drew1) | exact HB.out))) : w.heap.size ≤ gb102)); have n3_ := Aside0.mk ((by rw [hg]; exact (below_size (by repeat (first | (with_reducible first | exact HB.out | apply below_alloc | apply pw_below_drewN | apply below_drew1) | exact HB.out))) : w.heap.size ≤ gb102)); clear HB; have HB := n0_; have BK102 := n1_; have GW102 := n2_; have GE102 := n3_; clear n0_ n1_ n2_ n3_; clear hb hbox hg; have hcz7_0 : w6.cell? ⟨gb102, 0, none⟩ = some (.int .i64 a0_0) := (blk_cell BK102.out 0).trans rfl; have hcz7_1 : w6.cell? ⟨gb102, 1, none⟩ = some (.int .i64 a0_1) := (blk_cell BK102.out 1).trans rfl; have hcz7_2 : w6.cell? ⟨gb102, 2, none⟩ = some (.int .i64 a0_2) := (blk_cell BK102.out 2).trans rfl; have hcz7_3 : w6.cell? ⟨gb102, 3, none⟩ = some (.int .i64 a0_3) := (blk_cell BK102.out 3).trans rfl; have hcz7_4 : w6.cell? ⟨gb102, 4, none⟩ = some (.int .i64 a0_4) := (blk_cell BK102.out 4).trans rfl; have hcz7_5 : w6.cell? ⟨gb102, 5, none⟩ = some (.int .i64 a0_5) := (blk_cell BK102.out 5).trans rfl; have hcz7_6 : w6.cell? ⟨gb102, 6, none⟩ = some (.int .i64 a0_6) := (blk_cell BK102.out 6).trans rfl; have hfz7_0 := blk_frozen BK102.out 0; have hfz7_1 := blk_frozen BK102.out 1; have hfz7_2 := blk_frozen BK102.out 2; have hfz7_3 := blk_frozen BK102.out 3; have hfz7_4 := blk_frozen BK102.out 4; have hfz7_5 := blk_frozen BK102.out 5; have hfz7_6 := blk_frozen BK102.out 6) | ((with_reducible refine gate_callee (f := 22) rfl ?_); refine goesL_ (some 6) rfl rfl Try.func22 (by kernel_rfl) rfl #[.agg #[.int .i64 a0_0, .int .i64 a0_1, .int .i64 a0_2, .int .i64 a0_3, .int .i64 a0_4, .int .i64 a0_5, .int .i64 a0_6]] rfl (by (try simp only [List.map_toArray, List.map_cons, List.map_nil]); first | done | rfl | (simp only [List.length_drop, List.length_take]; rfl)) ?_; (with_reducible refine (epactref15_Right.calls a0_0 a0_1 a0_2 a0_3 a0_4 a0_5 a0_6 true _ A3.out).mono ?_); rintro e w8 ⟨rfl, hb⟩; refine ⟨_, rfl, ?_⟩; have n0_ := Aside0.mk (blk_below (g := gb102) (o := .cells #[.int .i64 a0_0, .int .i64 a0_1, .int .i64 a0_2, .int .i64 a0_3, .int .i64 a0_4, .int .i64 a0_5, .int .i64 a0_6] 28 (0, 0)) (by (with_reducible repeat (first | refine blk_drewN ?_ _ | refine blk_drew ?_ | refine blk_alloc ?_ _)); exact BK102.out) hb); have n1_ := Aside0.mk (below_step (by repeat (first | (with_reducible first | exact HB.out | apply below_alloc | apply pw_below_drewN | apply below_drew1 | refine below_set ?_ GE102.out) | exact HB.out)) hb); clear BK102; clear HB; have BK102 := n0_; have HB := n1_; clear n0_ n1_; (try clear hb); (try clear hb2); (try clear hk); (try clear hi); have hcz9_0 : w8.cell? ⟨gb102, 0, none⟩ = some (.int .i64 a0_0) := (blk_cell BK102.out 0).trans rfl; have hcz9_1 : w8.cell? ⟨gb102, 1, none⟩ = some (.int .i64 a0_1) := (blk_cell BK102.out 1).trans rfl; have hcz9_2 : w8.cell? ⟨gb102, 2, none⟩ = some (.int .i64 a0_2) := (blk_cell BK102.out 2).trans rfl; have hcz9_3 : w8.cell? ⟨gb102, 3, none⟩ = some (.int .i64 a0_3) := (blk_cell BK102.out 3).trans rfl; have hcz9_4 : w8.cell? ⟨gb102, 4, none⟩ = some (.int .i64 a0_4) := (blk_cell BK102.out 4).trans rfl; have hcz9_5 : w8.cell? ⟨gb102, 5, none⟩ = some (.int .i64 a0_5) := (blk_cell BK102.out 5).trans rfl; have hcz9_6 : w8.cell? ⟨gb102, 6, none⟩ = some (.int .i64 a0_6) := (blk_cell BK102.out 6).trans rfl; have hfz9_0 := blk_frozen BK102.out 0; have hfz9_1 := blk_frozen BK102.out 1; have hfz9_2 := blk_frozen BK102.out 2; have hfz9_3 := blk_frozen BK102.out 3; have hfz9_4 := blk_frozen BK102.out 4; have hfz9_5 := blk_frozen BK102.out 5; have hfz9_6 := blk_frozen BK102.out 6))
   go_ret
   exact ⟨by first | rfl | (simp [errW_none, errW_some] <;> rfl) | (simp [*, errW_none, errW_some] <;> rfl), by repeat (first | (with_reducible first | exact HB.out | apply below_alloc | apply pw_below_drewN | apply below_drew1 | refine below_set ?_ GE102.out) | exact HB.out)⟩
  ·rw [if_neg c5] at H
   have c5b0 : (a1 == 4) = false := beq_eq_false_iff_ne.mpr c5
   have c5b1 : (a1 != 4) = true := bne_iff_ne.mpr c5
   by_cases c10 : a1 = 8
   ·rw [if_pos c10] at H
    have c10b0 : (a1 == 8) = true := beq_iff_eq.mpr c10
    have c10b1 : (a1 != 8) = false := bne_eq_false_iff_eq.mpr c10
    clear c10
    obtain rfl := Option.some.inj H
    go_enter Try.func32, Try.ntmps32
    go_wp2_with (first | ((with_reducible refine gate_dst (N := 2) rfl ?_); refine box_event ?hg (N := 2) ?hd (cs := #[.int .i64 a0_0, .int .i64 a0_1, .int .i64 a0_2, .int .i64 a0_3, .int .i64 a0_4, .int .i64 a0_5, .int .i64 a0_6]) (t := 28) ?hr ?_; (case hd => rfl); (case hg => rfl); (case hr => first | (go_simp; done) | (go_simp; rfl)); intro gb102 hg w11 hbox hb; have n0_ := Aside0.mk (below_step (by repeat (first | (with_reducible first | exact HB.out | apply below_alloc | apply pw_below_drewN | apply below_drew1) | exact HB.out)) hb); have n1_ := Aside0.mk (hbox); have n2_ := Aside0.mk ((by rw [hg]; exact (below_size (by repeat (first | (with_reducible first | exact HB.out | apply below_alloc | apply pw_below_drewN | apply below_drew1) | exact HB.out))) : w.heap.size ≤ gb102)); have n3_ := Aside0.mk ((by rw [hg]; exact (below_size (by repeat (first | (with_reducible first | exact HB.out | apply below_alloc | apply pw_below_drewN | apply below_drew1) | exact HB.out))) : w.heap.size ≤ gb102)); clear HB; have HB := n0_; have BK102 := n1_; have GW102 := n2_; have GE102 := n3_; clear n0_ n1_ n2_ n3_; clear hb hbox hg; have hcz12_0 : w11.cell? ⟨gb102, 0, none⟩ = some (.int .i64 a0_0) := (blk_cell BK102.out 0).trans rfl; have hcz12_1 : w11.cell? ⟨gb102, 1, none⟩ = some (.int .i64 a0_1) := (blk_cell BK102.out 1).trans rfl; have hcz12_2 : w11.cell? ⟨gb102, 2, none⟩ = some (.int .i64 a0_2) := (blk_cell BK102.out 2).trans rfl; have hcz12_3 : w11.cell? ⟨gb102, 3, none⟩ = some (.int .i64 a0_3) := (blk_cell BK102.out 3).trans rfl; have hcz12_4 : w11.cell? ⟨gb102, 4, none⟩ = some (.int .i64 a0_4) := (blk_cell BK102.out 4).trans rfl; have hcz12_5 : w11.cell? ⟨gb102, 5, none⟩ = some (.int .i64 a0_5) := (blk_cell BK102.out 5).trans rfl; have hcz12_6 : w11.cell? ⟨gb102, 6, none⟩ = some (.int .i64 a0_6) := (blk_cell BK102.out 6).trans rfl; have hfz12_0 := blk_frozen BK102.out 0; have hfz12_1 := blk_frozen BK102.out 1; have hfz12_2 := blk_frozen BK102.out 2; have hfz12_3 := blk_frozen BK102.out 3; have hfz12_4 := blk_frozen BK102.out 4; have hfz12_5 := blk_frozen BK102.out 5; have hfz12_6 := blk_frozen BK102.out 6) | ((with_reducible refine gate_callee (f := 22) rfl ?_); refine goesL_ (some 6) rfl rfl Try.func22 (by kernel_rfl) rfl #[.agg #[.int .i64 a0_0, .int .i64 a0_1, .int .i64 a0_2, .int .i64 a0_3, .int .i64 a0_4, .int .i64 a0_5, .int .i64 a0_6]] rfl (by (try simp only [List.map_toArray, List.map_cons, List.map_nil]); first | done | rfl | (simp only [List.length_drop, List.length_take]; rfl)) ?_; (with_reducible refine (epactref15_Right.calls a0_0 a0_1 a0_2 a0_3 a0_4 a0_5 a0_6 true _ A3.out).mono ?_); rintro e w13 ⟨rfl, hb⟩; refine ⟨_, rfl, ?_⟩; have n0_ := Aside0.mk (blk_below (g := gb102) (o := .cells #[.int .i64 a0_0, .int .i64 a0_1, .int .i64 a0_2, .int .i64 a0_3, .int .i64 a0_4, .int .i64 a0_5, .int .i64 a0_6] 28 (0, 0)) (by (with_reducible repeat (first | refine blk_drewN ?_ _ | refine blk_drew ?_ | refine blk_alloc ?_ _)); exact BK102.out) hb); have n1_ := Aside0.mk (below_step (by repeat (first | (with_reducible first | exact HB.out | apply below_alloc | apply pw_below_drewN | apply below_drew1 | refine below_set ?_ GE102.out) | exact HB.out)) hb); clear BK102; clear HB; have BK102 := n0_; have HB := n1_; clear n0_ n1_; (try clear hb); (try clear hb2); (try clear hk); (try clear hi); have hcz14_0 : w13.cell? ⟨gb102, 0, none⟩ = some (.int .i64 a0_0) := (blk_cell BK102.out 0).trans rfl; have hcz14_1 : w13.cell? ⟨gb102, 1, none⟩ = some (.int .i64 a0_1) := (blk_cell BK102.out 1).trans rfl; have hcz14_2 : w13.cell? ⟨gb102, 2, none⟩ = some (.int .i64 a0_2) := (blk_cell BK102.out 2).trans rfl; have hcz14_3 : w13.cell? ⟨gb102, 3, none⟩ = some (.int .i64 a0_3) := (blk_cell BK102.out 3).trans rfl; have hcz14_4 : w13.cell? ⟨gb102, 4, none⟩ = some (.int .i64 a0_4) := (blk_cell BK102.out 4).trans rfl; have hcz14_5 : w13.cell? ⟨gb102, 5, none⟩ = some (.int .i64 a0_5) := (blk_cell BK102.out 5).trans rfl; have hcz14_6 : w13.cell? ⟨gb102, 6, none⟩ = some (.int .i64 a0_6) := (blk_cell BK102.out 6).trans rfl; have hfz14_0 := blk_frozen BK102.out 0; have hfz14_1 := blk_frozen BK102.out 1; have hfz14_2 := blk_frozen BK102.out 2; have hfz14_3 := blk_frozen BK102.out 3; have hfz14_4 := blk_frozen BK102.out 4; have hfz14_5 := blk_frozen BK102.out 5; have hfz14_6 := blk_frozen BK102.out 6))
    go_ret
    exact ⟨by first | rfl | (simp [errW_none, errW_some] <;> rfl) | (simp [*, errW_none, errW_some] <;> rfl), by repeat (first | (with_reducible first | exact HB.out | apply below_alloc | apply pw_below_drewN | apply below_drew1 | refine below_set ?_ GE102.out) | exact HB.out)⟩
   ·rw [if_neg c10] at H
    have c10b0 : (a1 == 8) = false := beq_eq_false_iff_ne.mpr c10
    have c10b1 : (a1 != 8) = true := bne_iff_ne.mpr c10
    obtain rfl := Option.some.inj H
    go_enter Try.func32, Try.ntmps32
    go_wp2_with (first | ((with_reducible refine gate_dst (N := 2) rfl ?_); refine box_event ?hg (N := 2) ?hd (cs := #[.int .i64 a0_0, .int .i64 a0_1, .int .i64 a0_2, .int .i64 a0_3, .int .i64 a0_4, .int .i64 a0_5, .int .i64 a0_6]) (t := 28) ?hr ?_; (case hd => rfl); (case hg => rfl); (case hr => first | (go_simp; done) | (go_simp; rfl)); intro gb102 hg w15 hbox hb; have n0_ := Aside0.mk (below_step (by repeat (first | (with_reducible first | exact HB.out | apply below_alloc | apply pw_below_drewN | apply below_drew1) | exact HB.out)) hb); have n1_ := Aside0.mk (hbox); have n2_ := Aside0.mk ((by rw [hg]; exact (below_size (by repeat (first | (with_reducible first | exact HB.out | apply below_alloc | apply pw_below_drewN | apply below_drew1) | exact HB.out))) : w.heap.size ≤ gb102)); have n3_ := Aside0.mk ((by rw [hg]; exact (below_size (by repeat (first | (with_reducible first | exact HB.out | apply below_alloc | apply pw_below_drewN | apply below_drew1) | exact HB.out))) : w.heap.size ≤ gb102)); clear HB; have HB := n0_; have BK102 := n1_; have GW102 := n2_; have GE102 := n3_; clear n0_ n1_ n2_ n3_; clear hb hbox hg; have hcz16_0 : w15.cell? ⟨gb102, 0, none⟩ = some (.int .i64 a0_0) := (blk_cell BK102.out 0).trans rfl; have hcz16_1 : w15.cell? ⟨gb102, 1, none⟩ = some (.int .i64 a0_1) := (blk_cell BK102.out 1).trans rfl; have hcz16_2 : w15.cell? ⟨gb102, 2, none⟩ = some (.int .i64 a0_2) := (blk_cell BK102.out 2).trans rfl; have hcz16_3 : w15.cell? ⟨gb102, 3, none⟩ = some (.int .i64 a0_3) := (blk_cell BK102.out 3).trans rfl; have hcz16_4 : w15.cell? ⟨gb102, 4, none⟩ = some (.int .i64 a0_4) := (blk_cell BK102.out 4).trans rfl; have hcz16_5 : w15.cell? ⟨gb102, 5, none⟩ = some (.int .i64 a0_5) := (blk_cell BK102.out 5).trans rfl; have hcz16_6 : w15.cell? ⟨gb102, 6, none⟩ = some (.int .i64 a0_6) := (blk_cell BK102.out 6).trans rfl; have hfz16_0 := blk_frozen BK102.out 0; have hfz16_1 := blk_frozen BK102.out 1; have hfz16_2 := blk_frozen BK102.out 2; have hfz16_3 := blk_frozen BK102.out 3; have hfz16_4 := blk_frozen BK102.out 4; have hfz16_5 := blk_frozen BK102.out 5; have hfz16_6 := blk_frozen BK102.out 6) | ((with_reducible refine gate_callee (f := 22) rfl ?_); refine goesL_ (some 6) rfl rfl Try.func22 (by kernel_rfl) rfl #[.agg #[.int .i64 a0_0, .int .i64 a0_1, .int .i64 a0_2, .int .i64 a0_3, .int .i64 a0_4, .int .i64 a0_5, .int .i64 a0_6]] rfl (by (try simp only [List.map_toArray, List.map_cons, List.map_nil]); first | done | rfl | (simp only [List.length_drop, List.length_take]; rfl)) ?_; (with_reducible refine (epactref15_Right.calls a0_0 a0_1 a0_2 a0_3 a0_4 a0_5 a0_6 true _ A3.out).mono ?_); rintro e w17 ⟨rfl, hb⟩; refine ⟨_, rfl, ?_⟩; have n0_ := Aside0.mk (blk_below (g := gb102) (o := .cells #[.int .i64 a0_0, .int .i64 a0_1, .int .i64 a0_2, .int .i64 a0_3, .int .i64 a0_4, .int .i64 a0_5, .int .i64 a0_6] 28 (0, 0)) (by (with_reducible repeat (first | refine blk_drewN ?_ _ | refine blk_drew ?_ | refine blk_alloc ?_ _)); exact BK102.out) hb); have n1_ := Aside0.mk (below_step (by repeat (first | (with_reducible first | exact HB.out | apply below_alloc | apply pw_below_drewN | apply below_drew1 | refine below_set ?_ GE102.out) | exact HB.out)) hb); clear BK102; clear HB; have BK102 := n0_; have HB := n1_; clear n0_ n1_; (try clear hb); (try clear hb2); (try clear hk); (try clear hi)))
    go_ret
    exact ⟨by first | rfl | (simp [errW_none, errW_some] <;> rfl) | (simp [*, errW_none, errW_some] <;> rfl), by repeat (first | (with_reducible first | exact HB.out | apply below_alloc | apply pw_below_drewN | apply below_drew1 | refine below_set ?_ GE102.out) | exact HB.out)⟩
 ·replace c4 := Bool.eq_false_iff.mpr c4
  subst c4
  have H1 : (some 0) = some r := by rw [if_neg (show ¬ (false = true) by decide)] at H; exact H
  clear H
  have H := H1
  clear H1
  obtain rfl := Option.some.inj H
  go_enter Try.func32, Try.ntmps32
  go_wp2_with (first | ((with_reducible refine gate_dst (N := 2) rfl ?_); refine box_event ?hg (N := 2) ?hd (cs := #[.int .i64 a0_0, .int .i64 a0_1, .int .i64 a0_2, .int .i64 a0_3, .int .i64 a0_4, .int .i64 a0_5, .int .i64 a0_6]) (t := 28) ?hr ?_; (case hd => rfl); (case hg => rfl); (case hr => first | (go_simp; done) | (go_simp; rfl)); intro gb102 hg w18 hbox hb; have n0_ := Aside0.mk (below_step (by repeat (first | (with_reducible first | exact HB.out | apply below_alloc | apply pw_below_drewN | apply below_drew1) | exact HB.out)) hb); have n1_ := Aside0.mk (hbox); have n2_ := Aside0.mk ((by rw [hg]; exact (below_size (by repeat (first | (with_reducible first | exact HB.out | apply below_alloc | apply pw_below_drewN | apply below_drew1) | exact HB.out))) : w.heap.size ≤ gb102)); have n3_ := Aside0.mk ((by rw [hg]; exact (below_size (by repeat (first | (with_reducible first | exact HB.out | apply below_alloc | apply pw_below_drewN | apply below_drew1) | exact HB.out))) : w.heap.size ≤ gb102)); clear HB; have HB := n0_; have BK102 := n1_; have GW102 := n2_; have GE102 := n3_; clear n0_ n1_ n2_ n3_; clear hb hbox hg; have hcz19_0 : w18.cell? ⟨gb102, 0, none⟩ = some (.int .i64 a0_0) := (blk_cell BK102.out 0).trans rfl; have hcz19_1 : w18.cell? ⟨gb102, 1, none⟩ = some (.int .i64 a0_1) := (blk_cell BK102.out 1).trans rfl; have hcz19_2 : w18.cell? ⟨gb102, 2, none⟩ = some (.int .i64 a0_2) := (blk_cell BK102.out 2).trans rfl; have hcz19_3 : w18.cell? ⟨gb102, 3, none⟩ = some (.int .i64 a0_3) := (blk_cell BK102.out 3).trans rfl; have hcz19_4 : w18.cell? ⟨gb102, 4, none⟩ = some (.int .i64 a0_4) := (blk_cell BK102.out 4).trans rfl; have hcz19_5 : w18.cell? ⟨gb102, 5, none⟩ = some (.int .i64 a0_5) := (blk_cell BK102.out 5).trans rfl; have hcz19_6 : w18.cell? ⟨gb102, 6, none⟩ = some (.int .i64 a0_6) := (blk_cell BK102.out 6).trans rfl; have hfz19_0 := blk_frozen BK102.out 0; have hfz19_1 := blk_frozen BK102.out 1; have hfz19_2 := blk_frozen BK102.out 2; have hfz19_3 := blk_frozen BK102.out 3; have hfz19_4 := blk_frozen BK102.out 4; have hfz19_5 := blk_frozen BK102.out 5; have hfz19_6 := blk_frozen BK102.out 6) | ((with_reducible refine gate_callee (f := 22) rfl ?_); refine goesL_ (some 6) rfl rfl Try.func22 (by kernel_rfl) rfl #[.agg #[.int .i64 a0_0, .int .i64 a0_1, .int .i64 a0_2, .int .i64 a0_3, .int .i64 a0_4, .int .i64 a0_5, .int .i64 a0_6]] rfl (by (try simp only [List.map_toArray, List.map_cons, List.map_nil]); first | done | rfl | (simp only [List.length_drop, List.length_take]; rfl)) ?_; (with_reducible refine (epactref15_Right.calls a0_0 a0_1 a0_2 a0_3 a0_4 a0_5 a0_6 false _ A3.out).mono ?_); rintro e w20 ⟨rfl, hb⟩; refine ⟨_, rfl, ?_⟩; have n0_ := Aside0.mk (blk_below (g := gb102) (o := .cells #[.int .i64 a0_0, .int .i64 a0_1, .int .i64 a0_2, .int .i64 a0_3, .int .i64 a0_4, .int .i64 a0_5, .int .i64 a0_6] 28 (0, 0)) (by (with_reducible repeat (first | refine blk_drewN ?_ _ | refine blk_drew ?_ | refine blk_alloc ?_ _)); exact BK102.out) hb); have n1_ := Aside0.mk (below_step (by repeat (first | (with_reducible first | exact HB.out | apply below_alloc | apply pw_below_drewN | apply below_drew1 | refine below_set ?_ GE102.out) | exact HB.out)) hb); clear BK102; clear HB; have BK102 := n0_; have HB := n1_; clear n0_ n1_; (try clear hb); (try clear hb2); (try clear hk); (try clear hi)))
  go_ret
  exact ⟨by first | rfl | (simp [errW_none, errW_some] <;> rfl) | (simp [*, errW_none, errW_some] <;> rfl), by repeat (first | (with_reducible first | exact HB.out | apply below_alloc | apply pw_below_drewN | apply below_drew1 | refine below_set ?_ GE102.out) | exact HB.out)⟩
end Go.Proofs.Ytpgjcnjojfehjaa.PSize
namespace Go.Proofs.Ytpgjcnjojfehjaa.Oct
open Go.RowKit Go.Proofs.YtpgjcnjojfehjaaW.PrintWords Go.Proofs.YtpgjcnjojfehjaaW.PrintLast Go.Proofs.YtpgjcnjojfehjaaW.PrintMore
theorem rright_f (v u s l t ty c : Int) : PSize.epactref15_Right.f v u s l t ty c = some (rightS v u s l t ty c) := by
 unfold PSize.epactref15_Right.f rightS
 by_cases h0 : v < 1
 ·rw [if_pos h0]; congr 1; symm; rw [decide_eq_false_iff_not]; omega
 rw [if_neg h0]
 by_cases h1 : v > 4
 ·rw [if_pos h1]; congr 1; symm; rw [decide_eq_false_iff_not]; omega
 rw [if_neg h1]
 by_cases h2 : ty < 1
 ·rw [if_pos h2]; congr 1; symm; rw [decide_eq_false_iff_not]; omega
 rw [if_neg h2]
 by_cases h3 : ty > 64
 ·rw [if_pos h3]; congr 1; symm; rw [decide_eq_false_iff_not]; omega
 rw [if_neg h3]
 by_cases h4 : c < 1
 ·rw [if_pos h4]; congr 1; symm; rw [decide_eq_false_iff_not]; omega
 rw [if_neg h4]
 by_cases h5 : c > 256
 ·rw [if_pos h5]; congr 1; symm; rw [decide_eq_false_iff_not]; omega
 rw [if_neg h5]
 by_cases h6 : l < 0
 ·rw [if_pos h6]; congr 1; symm; rw [decide_eq_false_iff_not]; omega
 rw [if_neg h6]
 by_cases h7 : l > 201
 ·rw [if_pos h7]; congr 1; symm; rw [decide_eq_false_iff_not]; omega
 rw [if_neg h7]
 by_cases h8 : t < 0
 ·rw [if_pos h8]; congr 1; symm; rw [decide_eq_false_iff_not]; omega
 rw [if_neg h8]
 by_cases h9 : t > 2000
 ·rw [if_pos h9]; congr 1; symm; rw [decide_eq_false_iff_not]; omega
 rw [if_neg h9]
 by_cases hu : u = 0
 ·rw [if_pos hu]
  by_cases hs : s = 0
  ·rw [if_pos hs]; congr 1; symm; rw [decide_eq_true_iff]; omega
  ·rw [if_neg hs]; congr 1; rw [Bool.eq_iff_iff, decide_eq_true_iff, beq_iff_eq]; omega
 ·rw [if_neg hu]
  by_cases hut : u = ty
  ·rw [if_pos hut]
   by_cases hs : s = 0
   ·rw [if_pos hs]; congr 1; symm; rw [decide_eq_true_iff]; omega
   ·rw [if_neg hs]; congr 1; rw [Bool.eq_iff_iff, decide_eq_true_iff, beq_iff_eq]; omega
  ·rw [if_neg hut]; congr 1; symm; rw [decide_eq_false_iff_not]; omega
theorem rright_calls (v u s l t ty c : Int) (w : World) :
  Calls Try.prog 22 #[.agg #[.int .i64 v, .int .i64 u, .int .i64 s, .int .i64 l, .int .i64 t, .int .i64 ty, .int .i64 c]] w fun e w' => e = .returned (.bool (rightS v u s l t ty c)) ∧ Below w.heap.size w w' :=
 PSize.epactref15_Right.calls v u s l t ty c _ w (rright_f v u s l t ty c)
theorem w64 {x : Int} (h : -9223372036854775808 ≤ x ∧ x ≤ 9223372036854775807) : wrap64 x = x := by
 unfold wrap64; omega
theorem rsize_f (v u s l t ty c size : Int) : PSize.epactref15_Size.f v u s l t ty c size = some (sizeF v u s l t ty c size) := by
 unfold PSize.epactref15_Size.f sizeF
 rw [rright_f]
 cases hr : rightS v u s l t ty c with
 | false => rfl
 | true =>
  have hR := of_decide_eq_true hr
  simp only [Option.bind_some, if_true]
  by_cases h4 : size = 4
  ·subst h4
   rw [if_pos rfl, if_pos (Or.inl rfl), show wrap64 (4 + 1) = 5 from (w64 (by omega)).trans (by omega), show wrap64 (4 + 4) = 8 from (w64 (by omega)).trans (by omega)]
   rw [w64 (x := 5 * t) (by omega), w64 (x := 6 * ty) (by omega), w64 (x := 8 * l) (by omega), w64 (x := 5 * t + 6 * ty) (by omega), w64 (x := 5 * t + 6 * ty + c) (by omega), w64 (x := 5 * t + 6 * ty + c + 8 * l) (by omega), w64 (x := 5 * t + 6 * ty + c + 8 * l + s) (by omega), w64 (by omega)]
   congr 1; omega
  ·rw [if_neg h4]
   by_cases h8 : size = 8
   ·subst h8
    rw [if_pos rfl, if_pos (Or.inr rfl), show wrap64 (8 + 1) = 9 from (w64 (by omega)).trans (by omega), show wrap64 (8 + 4) = 12 from (w64 (by omega)).trans (by omega)]
    rw [w64 (x := 9 * t) (by omega), w64 (x := 6 * ty) (by omega), w64 (x := 12 * l) (by omega), w64 (x := 9 * t + 6 * ty) (by omega), w64 (x := 9 * t + 6 * ty + c) (by omega), w64 (x := 9 * t + 6 * ty + c + 12 * l) (by omega), w64 (x := 9 * t + 6 * ty + c + 12 * l + s) (by omega), w64 (by omega)]
    congr 1; omega
   ·rw [if_neg h8, if_neg (by omega)]
theorem rsize_calls (v u s l t ty c size : Int) (w : World) :
  Calls Try.prog 32 #[.agg #[.int .i64 v, .int .i64 u, .int .i64 s, .int .i64 l, .int .i64 t, .int .i64 ty, .int .i64 c], .int .i64 size] w fun e w' => e = .returned (.int .i64 (sizeF v u s l t ty c size)) ∧ Below w.heap.size w w' :=
 PSize.epactref15_Size.calls v u s l t ty c size _ w (rsize_f v u s l t ty c size)
end Go.Proofs.Ytpgjcnjojfehjaa.Oct
namespace Go.Proofs.Ytpgjcnjojfehjaa.PAt
open Go.RowKit Go.Proofs.YtpgjcnjojfehjaaW.PrintWords Go.Proofs.YtpgjcnjojfehjaaW.PrintLast Go.Proofs.YtpgjcnjojfehjaaW.PrintMore
attribute [local go_sem] max2_int min2_int max_two min_two max_three min_three max_four min_four   -- for this text's walks alone
set_option linter.unusedVariables false
set_option linter.unusedSimpArgs false
def errW : Option Int → Value
 | none => .nilIface
 | some c => .iface 0 (.int .i64 c)
theorem errW_none : errW none = .nilIface := rfl
theorem errW_some (c : Int) : errW (some c) = .iface 0 (.int .i64 c) := rfl
end Go.Proofs.Ytpgjcnjojfehjaa.PAt
namespace Go.Proofs.Ytpgjcnjojfehjaa.PAt
open Go.RowKit Go.Proofs.YtpgjcnjojfehjaaW.PrintWords Go.Proofs.YtpgjcnjojfehjaaW.PrintLast Go.Proofs.YtpgjcnjojfehjaaW.PrintMore
attribute [local go_sem] max2_int min2_int max_two min_two max_three min_three max_four min_four   -- for this text's walks alone
set_option linter.unusedVariables false
set_option linter.unusedSimpArgs false
def epactref14_Right.l0 : Nat → ByteArray → Int → Option (Bool)
 | 0, _, _ => none
 | k + 1, x0, x3 => if x3 < (x0.size : Int) then (if 0 ≤ x3 then (if (bt x0 x3) ≥ 97 then (if (bt x0 x3) ≤ 122 then (epactref14_Right.l0 k x0 (wrap64 (x3 + 1))) else (if (bt x0 x3) ≥ 65 then (if ((bt x0 x3) ≤ 90) then (epactref14_Right.l0 k x0 (wrap64 (x3 + 1))) else (if (bt x0 x3) < 48 then (if (bt x0 x3) = 43 then (epactref14_Right.l0 k x0 (wrap64 (x3 + 1))) else (if (bt x0 x3) = 45 then (epactref14_Right.l0 k x0 (wrap64 (x3 + 1))) else (some false))) else (if (bt x0 x3) > 57 then (if (bt x0 x3) = 43 then (epactref14_Right.l0 k x0 (wrap64 (x3 + 1))) else (if (bt x0 x3) = 45 then (epactref14_Right.l0 k x0 (wrap64 (x3 + 1))) else (some false))) else (epactref14_Right.l0 k x0 (wrap64 (x3 + 1)))))) else (if (bt x0 x3) < 48 then (if (bt x0 x3) = 43 then (epactref14_Right.l0 k x0 (wrap64 (x3 + 1))) else (if (bt x0 x3) = 45 then (epactref14_Right.l0 k x0 (wrap64 (x3 + 1))) else (some false))) else (if (bt x0 x3) > 57 then (if (bt x0 x3) = 43 then (epactref14_Right.l0 k x0 (wrap64 (x3 + 1))) else (if (bt x0 x3) = 45 then (epactref14_Right.l0 k x0 (wrap64 (x3 + 1))) else (some false))) else (epactref14_Right.l0 k x0 (wrap64 (x3 + 1))))))) else (if (bt x0 x3) ≥ 65 then (if ((bt x0 x3) ≤ 90) then (epactref14_Right.l0 k x0 (wrap64 (x3 + 1))) else (if (bt x0 x3) < 48 then (if (bt x0 x3) = 43 then (epactref14_Right.l0 k x0 (wrap64 (x3 + 1))) else (if (bt x0 x3) = 45 then (epactref14_Right.l0 k x0 (wrap64 (x3 + 1))) else (some false))) else (if (bt x0 x3) > 57 then (if (bt x0 x3) = 43 then (epactref14_Right.l0 k x0 (wrap64 (x3 + 1))) else (if (bt x0 x3) = 45 then (epactref14_Right.l0 k x0 (wrap64 (x3 + 1))) else (some false))) else (epactref14_Right.l0 k x0 (wrap64 (x3 + 1)))))) else (if (bt x0 x3) < 48 then (if (bt x0 x3) = 43 then (epactref14_Right.l0 k x0 (wrap64 (x3 + 1))) else (if (bt x0 x3) = 45 then (epactref14_Right.l0 k x0 (wrap64 (x3 + 1))) else (some false))) else (if (bt x0 x3) > 57 then (if (bt x0 x3) = 43 then (epactref14_Right.l0 k x0 (wrap64 (x3 + 1))) else (if (bt x0 x3) = 45 then (epactref14_Right.l0 k x0 (wrap64 (x3 + 1))) else (some false))) else (epactref14_Right.l0 k x0 (wrap64 (x3 + 1))))))) else (none)) else (if (x0.size : Int) ≥ 3 then (some (decide ((x0.size : Int) ≤ 16))) else (some false))
def epactref14_Right.f (k : Nat) (a0 : ByteArray) : Option (Bool) := epactref14_Right.l0 k a0 0
theorem epactref14_Right.mono_l : ∀ k, (∀ y0 y1, LeO (epactref14_Right.l0 k y0 y1) (epactref14_Right.l0 (k + 1) y0 y1))
 | 0 => fun _ _ r h => by simp [epactref14_Right.l0] at h
 | k + 1 => by
  have ih0 := epactref14_Right.mono_l k
  ·intro y0 y1
   unfold epactref14_Right.l0
   repeat' first
   | (with_reducible exact ih0 _ _)
   | (with_reducible exact LeO.refl _)
   | (with_reducible exact LeO.none _)
   | (with_reducible refine LeO.ite ?_ ?_)
   | (with_reducible refine LeO.bind ?_ (fun _ => ?_))
   | exact ih0 _ _
   | exact LeO.none _
   | refine LeO.ite ?_ ?_
   | refine LeO.bind ?_ (fun _ => ?_)
theorem epactref14_Right.mono : ∀ a0 k, LeO (epactref14_Right.f k a0) (epactref14_Right.f (k + 1) a0) := by
 intro a0 k
 have ih0 := epactref14_Right.mono_l k
 unfold epactref14_Right.f
 repeat' first
   | (with_reducible exact ih0 _ _)
   | (with_reducible exact LeO.refl _)
   | (with_reducible exact LeO.none _)
   | (with_reducible refine LeO.ite ?_ ?_)
   | (with_reducible refine LeO.bind ?_ (fun _ => ?_))
   | exact ih0 _ _
   | exact LeO.none _
   | refine LeO.ite ?_ ?_
   | refine LeO.bind ?_ (fun _ => ?_)
set_option maxHeartbeats 8000000 in
set_option maxRecDepth 100000 in
theorem epactref14_Right.calls (k : Nat) (a0 : ByteArray) (r : Bool) (w : World) (h : epactref14_Right.f k a0 = some r) :
  Calls Try.prog 41 #[.string a0] w fun e w' => e = .returned (.bool r) ∧ Drawn0 w w' := by
 have H : (epactref14_Right.l0 k a0 0) = some r := h
 clear h
 have H' := Aside0.mk H
 clear H
 go_enter Try.func41, Try.ntmps41
 go_wp2
 go_loopg [3] k (fun kq v3 w' => ∃ (x3_1 : Int), v3 = .int .i64 x3_1 ∧ Aside0 (epactref14_Right.l0 kq a0 x3_1 = some r) ∧ Aside0 (kq ≤ k) ∧ Drawn0 w w')
 case atStart => exact ⟨(0), (by first | rfl | (simp; done) | (simp [*]; done)), H', ⟨Nat.le_refl _⟩, by repeat (first | exact Drawn0.refl _ | apply Drawn0.step)⟩
 case round =>
  clear H'
  obtain ⟨x3_1, rfl, HA, HK1, ⟨m1, rfl⟩⟩ := hrel
  cases gk with
  | zero => exact absurd HA.out (by simp [epactref14_Right.l0])
  | succ k1 =>
   have H := HA.out
   clear HA
   simp only [epactref14_Right.l0] at H
   by_cases c2 : x3_1 < (a0.size : Int)
   ·rw [if_pos c2] at H
    have c2b0 : decide (x3_1 < (a0.size : Int)) = true := decide_eq_true c2
    clear c2
    by_cases c3 : 0 ≤ x3_1
    ·rw [if_pos c3] at H
     have c3b0 : decide (0 ≤ x3_1) = true := decide_eq_true c3
     clear c3
     by_cases c5 : (bt a0 x3_1) ≥ 97
     ·rw [if_pos c5] at H
      have c5b0 : decide (97 ≤ (bt a0 x3_1)) = true := decide_eq_true c5
      clear c5
      by_cases c6 : (bt a0 x3_1) ≤ 122
      ·rw [if_pos c6] at H
       have c6b0 : decide ((bt a0 x3_1) ≤ 122) = true := decide_eq_true c6
       clear c6
       have H' := Aside0.mk H
       clear H
       have p4 : 0 ≤ (x3_1 : Int) := of_decide_eq_true (by first | (with_reducible assumption) | assumption)
       have q4 : x3_1 < (a0.size : Int) := of_decide_eq_true (by first | (with_reducible assumption) | assumption)
       have hx4 := bt_at a0 x3_1
       replace p4 := eq_true p4
       replace q4 := eq_true q4
       go_wp2
       go_roundg k1
       case measure => have := HK1.out; omega
       case rel => exact ⟨(wrap64 (x3_1 + 1)), (by first | rfl | (simp; done) | (simp [*]; done)), H', ⟨by have := HK1.out; omega⟩, by repeat (first | exact Drawn0.refl _ | apply Drawn0.step)⟩
      ·rw [if_neg c6] at H
       have c6b0 : decide ((bt a0 x3_1) ≤ 122) = false := decide_eq_false c6
       clear c6
       by_cases c7 : (bt a0 x3_1) ≥ 65
       ·rw [if_pos c7] at H
        have c7b0 : decide (65 ≤ (bt a0 x3_1)) = true := decide_eq_true c7
        clear c7
        by_cases c8 : ((bt a0 x3_1) ≤ 90)
        ·rw [if_pos c8] at H
         have c8b0 : decide ((bt a0 x3_1) ≤ 90) = true := decide_eq_true c8
         clear c8
         have H' := Aside0.mk H
         clear H
         have p4 : 0 ≤ (x3_1 : Int) := of_decide_eq_true (by first | (with_reducible assumption) | assumption)
         have q4 : x3_1 < (a0.size : Int) := of_decide_eq_true (by first | (with_reducible assumption) | assumption)
         have hx4 := bt_at a0 x3_1
         replace p4 := eq_true p4
         replace q4 := eq_true q4
         go_wp2
         go_roundg k1
         case measure => have := HK1.out; omega
         case rel => exact ⟨(wrap64 (x3_1 + 1)), (by first | rfl | (simp; done) | (simp [*]; done)), H', ⟨by have := HK1.out; omega⟩, by repeat (first | exact Drawn0.refl _ | apply Drawn0.step)⟩
        ·rw [if_neg c8] at H
         have c8b0 : decide ((bt a0 x3_1) ≤ 90) = false := decide_eq_false c8
         clear c8
         by_cases c9 : (bt a0 x3_1) < 48
         ·rw [if_pos c9] at H
          have c9b0 : decide ((bt a0 x3_1) < 48) = true := decide_eq_true c9
          clear c9
          by_cases c10 : (bt a0 x3_1) = 43
          ·rw [if_pos c10] at H
           have c10b0 : ((bt a0 x3_1) == 43) = true := beq_iff_eq.mpr c10
           have c10b1 : ((bt a0 x3_1) != 43) = false := bne_eq_false_iff_eq.mpr c10
           clear c10
           have H' := Aside0.mk H
           clear H
           have p4 : 0 ≤ (x3_1 : Int) := of_decide_eq_true (by first | (with_reducible assumption) | assumption)
           have q4 : x3_1 < (a0.size : Int) := of_decide_eq_true (by first | (with_reducible assumption) | assumption)
           have hx4 := bt_at a0 x3_1
           replace p4 := eq_true p4
           replace q4 := eq_true q4
           go_wp2
           go_roundg k1
           case measure => have := HK1.out; omega
           case rel => exact ⟨(wrap64 (x3_1 + 1)), (by first | rfl | (simp; done) | (simp [*]; done)), H', ⟨by have := HK1.out; omega⟩, by repeat (first | exact Drawn0.refl _ | apply Drawn0.step)⟩
          ·rw [if_neg c10] at H
           have c10b0 : ((bt a0 x3_1) == 43) = false := beq_eq_false_iff_ne.mpr c10
           have c10b1 : ((bt a0 x3_1) != 43) = true := bne_iff_ne.mpr c10
           by_cases c11 : (bt a0 x3_1) = 45
           ·rw [if_pos c11] at H
            have c11b0 : ((bt a0 x3_1) == 45) = true := beq_iff_eq.mpr c11
            have c11b1 : ((bt a0 x3_1) != 45) = false := bne_eq_false_iff_eq.mpr c11
            clear c11
            have H' := Aside0.mk H
            clear H
            have p4 : 0 ≤ (x3_1 : Int) := of_decide_eq_true (by first | (with_reducible assumption) | assumption)
            have q4 : x3_1 < (a0.size : Int) := of_decide_eq_true (by first | (with_reducible assumption) | assumption)
            have hx4 := bt_at a0 x3_1
            replace p4 := eq_true p4
            replace q4 := eq_true q4
            go_wp2
            go_roundg k1
            case measure => have := HK1.out; omega
            case rel => exact ⟨(wrap64 (x3_1 + 1)), (by first | rfl | (simp; done) | (simp [*]; done)), H', ⟨by have := HK1.out; omega⟩, by repeat (first | exact Drawn0.refl _ | apply Drawn0.step)⟩
           ·rw [if_neg c11] at H
            have c11b0 : ((bt a0 x3_1) == 45) = false := beq_eq_false_iff_ne.mpr c11
            have c11b1 : ((bt a0 x3_1) != 45) = true := bne_iff_ne.mpr c11
            obtain rfl := Option.some.inj H
            have p4 : 0 ≤ (x3_1 : Int) := of_decide_eq_true (by first | (with_reducible assumption) | assumption)
            have q4 : x3_1 < (a0.size : Int) := of_decide_eq_true (by first | (with_reducible assumption) | assumption)
            have hx4 := bt_at a0 x3_1
            replace p4 := eq_true p4
            replace q4 := eq_true q4
            go_wp2
            go_ret
            exact ⟨by first | rfl | (simp; done) | (simp [*]; done), by repeat (first | exact Drawn0.refl _ | apply Drawn0.step)⟩
         ·rw [if_neg c9] at H
          have c9b0 : decide ((bt a0 x3_1) < 48) = false := decide_eq_false c9
          clear c9
          by_cases c12 : (bt a0 x3_1) > 57
          ·rw [if_pos c12] at H
           have c12b0 : decide (57 < (bt a0 x3_1)) = true := decide_eq_true c12
           clear c12
           by_cases c13 : (bt a0 x3_1) = 43
           ·rw [if_pos c13] at H
            have c13b0 : ((bt a0 x3_1) == 43) = true := beq_iff_eq.mpr c13
            have c13b1 : ((bt a0 x3_1) != 43) = false := bne_eq_false_iff_eq.mpr c13
            clear c13
            have H' := Aside0.mk H
            clear H
            have p4 : 0 ≤ (x3_1 : Int) := of_decide_eq_true (by first | (with_reducible assumption) | assumption)
            have q4 : x3_1 < (a0.size : Int) := of_decide_eq_true (by first | (with_reducible assumption) | assumption)
            have hx4 := bt_at a0 x3_1
            replace p4 := eq_true p4
            replace q4 := eq_true q4
            go_wp2
            go_roundg k1
            case measure => have := HK1.out; omega
            case rel => exact ⟨(wrap64 (x3_1 + 1)), (by first | rfl | (simp; done) | (simp [*]; done)), H', ⟨by have := HK1.out; omega⟩, by repeat (first | exact Drawn0.refl _ | apply Drawn0.step)⟩
           ·rw [if_neg c13] at H
            have c13b0 : ((bt a0 x3_1) == 43) = false := beq_eq_false_iff_ne.mpr c13
            have c13b1 : ((bt a0 x3_1) != 43) = true := bne_iff_ne.mpr c13
            by_cases c14 : (bt a0 x3_1) = 45
            ·rw [if_pos c14] at H
             have c14b0 : ((bt a0 x3_1) == 45) = true := beq_iff_eq.mpr c14
             have c14b1 : ((bt a0 x3_1) != 45) = false := bne_eq_false_iff_eq.mpr c14
             clear c14
             have H' := Aside0.mk H
             clear H
             have p4 : 0 ≤ (x3_1 : Int) := of_decide_eq_true (by first | (with_reducible assumption) | assumption)
             have q4 : x3_1 < (a0.size : Int) := of_decide_eq_true (by first | (with_reducible assumption) | assumption)
             have hx4 := bt_at a0 x3_1
             replace p4 := eq_true p4
             replace q4 := eq_true q4
             go_wp2
             go_roundg k1
             case measure => have := HK1.out; omega
             case rel => exact ⟨(wrap64 (x3_1 + 1)), (by first | rfl | (simp; done) | (simp [*]; done)), H', ⟨by have := HK1.out; omega⟩, by repeat (first | exact Drawn0.refl _ | apply Drawn0.step)⟩
            ·rw [if_neg c14] at H
             have c14b0 : ((bt a0 x3_1) == 45) = false := beq_eq_false_iff_ne.mpr c14
             have c14b1 : ((bt a0 x3_1) != 45) = true := bne_iff_ne.mpr c14
             obtain rfl := Option.some.inj H
             have p4 : 0 ≤ (x3_1 : Int) := of_decide_eq_true (by first | (with_reducible assumption) | assumption)
             have q4 : x3_1 < (a0.size : Int) := of_decide_eq_true (by first | (with_reducible assumption) | assumption)
             have hx4 := bt_at a0 x3_1
             replace p4 := eq_true p4
             replace q4 := eq_true q4
             go_wp2
             go_ret
             exact ⟨by first | rfl | (simp; done) | (simp [*]; done), by repeat (first | exact Drawn0.refl _ | apply Drawn0.step)⟩
          ·rw [if_neg c12] at H
           have c12b0 : decide (57 < (bt a0 x3_1)) = false := decide_eq_false c12
           clear c12
           have H' := Aside0.mk H
           clear H
           have p4 : 0 ≤ (x3_1 : Int) := of_decide_eq_true (by first | (with_reducible assumption) | assumption)
           have q4 : x3_1 < (a0.size : Int) := of_decide_eq_true (by first | (with_reducible assumption) | assumption)
           have hx4 := bt_at a0 x3_1
           replace p4 := eq_true p4
           replace q4 := eq_true q4
           go_wp2
           go_roundg k1
           case measure => have := HK1.out; omega
           case rel => exact ⟨(wrap64 (x3_1 + 1)), (by first | rfl | (simp; done) | (simp [*]; done)), H', ⟨by have := HK1.out; omega⟩, by repeat (first | exact Drawn0.refl _ | apply Drawn0.step)⟩
       ·rw [if_neg c7] at H
        have c7b0 : decide (65 ≤ (bt a0 x3_1)) = false := decide_eq_false c7
        clear c7
        by_cases c15 : (bt a0 x3_1) < 48
        ·rw [if_pos c15] at H
         have c15b0 : decide ((bt a0 x3_1) < 48) = true := decide_eq_true c15
         clear c15
         by_cases c16 : (bt a0 x3_1) = 43
         ·rw [if_pos c16] at H
          have c16b0 : ((bt a0 x3_1) == 43) = true := beq_iff_eq.mpr c16
          have c16b1 : ((bt a0 x3_1) != 43) = false := bne_eq_false_iff_eq.mpr c16
          clear c16
          have H' := Aside0.mk H
          clear H
          have p4 : 0 ≤ (x3_1 : Int) := of_decide_eq_true (by first | (with_reducible assumption) | assumption)
          have q4 : x3_1 < (a0.size : Int) := of_decide_eq_true (by first | (with_reducible assumption) | assumption)
          have hx4 := bt_at a0 x3_1
          replace p4 := eq_true p4
          replace q4 := eq_true q4
          go_wp2
          go_roundg k1
          case measure => have := HK1.out; omega
          case rel => exact ⟨(wrap64 (x3_1 + 1)), (by first | rfl | (simp; done) | (simp [*]; done)), H', ⟨by have := HK1.out; omega⟩, by repeat (first | exact Drawn0.refl _ | apply Drawn0.step)⟩
         ·rw [if_neg c16] at H
          have c16b0 : ((bt a0 x3_1) == 43) = false := beq_eq_false_iff_ne.mpr c16
          have c16b1 : ((bt a0 x3_1) != 43) = true := bne_iff_ne.mpr c16
          by_cases c17 : (bt a0 x3_1) = 45
          ·rw [if_pos c17] at H
           have c17b0 : ((bt a0 x3_1) == 45) = true := beq_iff_eq.mpr c17
           have c17b1 : ((bt a0 x3_1) != 45) = false := bne_eq_false_iff_eq.mpr c17
           clear c17
           have H' := Aside0.mk H
           clear H
           have p4 : 0 ≤ (x3_1 : Int) := of_decide_eq_true (by first | (with_reducible assumption) | assumption)
           have q4 : x3_1 < (a0.size : Int) := of_decide_eq_true (by first | (with_reducible assumption) | assumption)
           have hx4 := bt_at a0 x3_1
           replace p4 := eq_true p4
           replace q4 := eq_true q4
           go_wp2
           go_roundg k1
           case measure => have := HK1.out; omega
           case rel => exact ⟨(wrap64 (x3_1 + 1)), (by first | rfl | (simp; done) | (simp [*]; done)), H', ⟨by have := HK1.out; omega⟩, by repeat (first | exact Drawn0.refl _ | apply Drawn0.step)⟩
          ·rw [if_neg c17] at H
           have c17b0 : ((bt a0 x3_1) == 45) = false := beq_eq_false_iff_ne.mpr c17
           have c17b1 : ((bt a0 x3_1) != 45) = true := bne_iff_ne.mpr c17
           obtain rfl := Option.some.inj H
           have p4 : 0 ≤ (x3_1 : Int) := of_decide_eq_true (by first | (with_reducible assumption) | assumption)
           have q4 : x3_1 < (a0.size : Int) := of_decide_eq_true (by first | (with_reducible assumption) | assumption)
           have hx4 := bt_at a0 x3_1
           replace p4 := eq_true p4
           replace q4 := eq_true q4
           go_wp2
           go_ret
           exact ⟨by first | rfl | (simp; done) | (simp [*]; done), by repeat (first | exact Drawn0.refl _ | apply Drawn0.step)⟩
        ·rw [if_neg c15] at H
         have c15b0 : decide ((bt a0 x3_1) < 48) = false := decide_eq_false c15
         clear c15
         by_cases c18 : (bt a0 x3_1) > 57
         ·rw [if_pos c18] at H
          have c18b0 : decide (57 < (bt a0 x3_1)) = true := decide_eq_true c18
          clear c18
          by_cases c19 : (bt a0 x3_1) = 43
          ·rw [if_pos c19] at H
           have c19b0 : ((bt a0 x3_1) == 43) = true := beq_iff_eq.mpr c19
           have c19b1 : ((bt a0 x3_1) != 43) = false := bne_eq_false_iff_eq.mpr c19
           clear c19
           have H' := Aside0.mk H
           clear H
           have p4 : 0 ≤ (x3_1 : Int) := of_decide_eq_true (by first | (with_reducible assumption) | assumption)
           have q4 : x3_1 < (a0.size : Int) := of_decide_eq_true (by first | (with_reducible assumption) | assumption)
           have hx4 := bt_at a0 x3_1
           replace p4 := eq_true p4
           replace q4 := eq_true q4
           go_wp2
           go_roundg k1
           case measure => have := HK1.out; omega
           case rel => exact ⟨(wrap64 (x3_1 + 1)), (by first | rfl | (simp; done) | (simp [*]; done)), H', ⟨by have := HK1.out; omega⟩, by repeat (first | exact Drawn0.refl _ | apply Drawn0.step)⟩
          ·rw [if_neg c19] at H
           have c19b0 : ((bt a0 x3_1) == 43) = false := beq_eq_false_iff_ne.mpr c19
           have c19b1 : ((bt a0 x3_1) != 43) = true := bne_iff_ne.mpr c19
           by_cases c20 : (bt a0 x3_1) = 45
           ·rw [if_pos c20] at H
            have c20b0 : ((bt a0 x3_1) == 45) = true := beq_iff_eq.mpr c20
            have c20b1 : ((bt a0 x3_1) != 45) = false := bne_eq_false_iff_eq.mpr c20
            clear c20
            have H' := Aside0.mk H
            clear H
            have p4 : 0 ≤ (x3_1 : Int) := of_decide_eq_true (by first | (with_reducible assumption) | assumption)
            have q4 : x3_1 < (a0.size : Int) := of_decide_eq_true (by first | (with_reducible assumption) | assumption)
            have hx4 := bt_at a0 x3_1
            replace p4 := eq_true p4
            replace q4 := eq_true q4
            go_wp2
            go_roundg k1
            case measure => have := HK1.out; omega
            case rel => exact ⟨(wrap64 (x3_1 + 1)), (by first | rfl | (simp; done) | (simp [*]; done)), H', ⟨by have := HK1.out; omega⟩, by repeat (first | exact Drawn0.refl _ | apply Drawn0.step)⟩
           ·rw [if_neg c20] at H
            have c20b0 : ((bt a0 x3_1) == 45) = false := beq_eq_false_iff_ne.mpr c20
            have c20b1 : ((bt a0 x3_1) != 45) = true := bne_iff_ne.mpr c20
            obtain rfl := Option.some.inj H
            have p4 : 0 ≤ (x3_1 : Int) := of_decide_eq_true (by first | (with_reducible assumption) | assumption)
            have q4 : x3_1 < (a0.size : Int) := of_decide_eq_true (by first | (with_reducible assumption) | assumption)
            have hx4 := bt_at a0 x3_1
            replace p4 := eq_true p4
            replace q4 := eq_true q4
            go_wp2
            go_ret
            exact ⟨by first | rfl | (simp; done) | (simp [*]; done), by repeat (first | exact Drawn0.refl _ | apply Drawn0.step)⟩
         ·rw [if_neg c18] at H
          have c18b0 : decide (57 < (bt a0 x3_1)) = false := decide_eq_false c18
          clear c18
          have H' := Aside0.mk H
          clear H
          have p4 : 0 ≤ (x3_1 : Int) := of_decide_eq_true (by first | (with_reducible assumption) | assumption)
          have q4 : x3_1 < (a0.size : Int) := of_decide_eq_true (by first | (with_reducible assumption) | assumption)
          have hx4 := bt_at a0 x3_1
          replace p4 := eq_true p4
          replace q4 := eq_true q4
          go_wp2
          go_roundg k1
          case measure => have := HK1.out; omega
          case rel => exact ⟨(wrap64 (x3_1 + 1)), (by first | rfl | (simp; done) | (simp [*]; done)), H', ⟨by have := HK1.out; omega⟩, by repeat (first | exact Drawn0.refl _ | apply Drawn0.step)⟩
     ·rw [if_neg c5] at H
      have c5b0 : decide (97 ≤ (bt a0 x3_1)) = false := decide_eq_false c5
      clear c5
      by_cases c21 : (bt a0 x3_1) ≥ 65
      ·rw [if_pos c21] at H
       have c21b0 : decide (65 ≤ (bt a0 x3_1)) = true := decide_eq_true c21
       clear c21
       by_cases c22 : ((bt a0 x3_1) ≤ 90)
       ·rw [if_pos c22] at H
        have c22b0 : decide ((bt a0 x3_1) ≤ 90) = true := decide_eq_true c22
        clear c22
        have H' := Aside0.mk H
        clear H
        have p4 : 0 ≤ (x3_1 : Int) := of_decide_eq_true (by first | (with_reducible assumption) | assumption)
        have q4 : x3_1 < (a0.size : Int) := of_decide_eq_true (by first | (with_reducible assumption) | assumption)
        have hx4 := bt_at a0 x3_1
        replace p4 := eq_true p4
        replace q4 := eq_true q4
        go_wp2
        go_roundg k1
        case measure => have := HK1.out; omega
        case rel => exact ⟨(wrap64 (x3_1 + 1)), (by first | rfl | (simp; done) | (simp [*]; done)), H', ⟨by have := HK1.out; omega⟩, by repeat (first | exact Drawn0.refl _ | apply Drawn0.step)⟩
       ·rw [if_neg c22] at H
        have c22b0 : decide ((bt a0 x3_1) ≤ 90) = false := decide_eq_false c22
        clear c22
        by_cases c23 : (bt a0 x3_1) < 48
        ·rw [if_pos c23] at H
         have c23b0 : decide ((bt a0 x3_1) < 48) = true := decide_eq_true c23
         clear c23
         by_cases c24 : (bt a0 x3_1) = 43
         ·rw [if_pos c24] at H
          have c24b0 : ((bt a0 x3_1) == 43) = true := beq_iff_eq.mpr c24
          have c24b1 : ((bt a0 x3_1) != 43) = false := bne_eq_false_iff_eq.mpr c24
          clear c24
          have H' := Aside0.mk H
          clear H
          have p4 : 0 ≤ (x3_1 : Int) := of_decide_eq_true (by first | (with_reducible assumption) | assumption)
          have q4 : x3_1 < (a0.size : Int) := of_decide_eq_true (by first | (with_reducible assumption) | assumption)
          have hx4 := bt_at a0 x3_1
          replace p4 := eq_true p4
          replace q4 := eq_true q4
          go_wp2
          go_roundg k1
          case measure => have := HK1.out; omega
          case rel => exact ⟨(wrap64 (x3_1 + 1)), (by first | rfl | (simp; done) | (simp [*]; done)), H', ⟨by have := HK1.out; omega⟩, by repeat (first | exact Drawn0.refl _ | apply Drawn0.step)⟩
         ·rw [if_neg c24] at H
          have c24b0 : ((bt a0 x3_1) == 43) = false := beq_eq_false_iff_ne.mpr c24
          have c24b1 : ((bt a0 x3_1) != 43) = true := bne_iff_ne.mpr c24
          by_cases c25 : (bt a0 x3_1) = 45
          ·rw [if_pos c25] at H
           have c25b0 : ((bt a0 x3_1) == 45) = true := beq_iff_eq.mpr c25
           have c25b1 : ((bt a0 x3_1) != 45) = false := bne_eq_false_iff_eq.mpr c25
           clear c25
           have H' := Aside0.mk H
           clear H
           have p4 : 0 ≤ (x3_1 : Int) := of_decide_eq_true (by first | (with_reducible assumption) | assumption)
           have q4 : x3_1 < (a0.size : Int) := of_decide_eq_true (by first | (with_reducible assumption) | assumption)
           have hx4 := bt_at a0 x3_1
           replace p4 := eq_true p4
           replace q4 := eq_true q4
           go_wp2
           go_roundg k1
           case measure => have := HK1.out; omega
           case rel => exact ⟨(wrap64 (x3_1 + 1)), (by first | rfl | (simp; done) | (simp [*]; done)), H', ⟨by have := HK1.out; omega⟩, by repeat (first | exact Drawn0.refl _ | apply Drawn0.step)⟩
          ·rw [if_neg c25] at H
           have c25b0 : ((bt a0 x3_1) == 45) = false := beq_eq_false_iff_ne.mpr c25
           have c25b1 : ((bt a0 x3_1) != 45) = true := bne_iff_ne.mpr c25
           obtain rfl := Option.some.inj H
           have p4 : 0 ≤ (x3_1 : Int) := of_decide_eq_true (by first | (with_reducible assumption) | assumption)
           have q4 : x3_1 < (a0.size : Int) := of_decide_eq_true (by first | (with_reducible assumption) | assumption)
           have hx4 := bt_at a0 x3_1
           replace p4 := eq_true p4
           replace q4 := eq_true q4
           go_wp2
           go_ret
           exact ⟨by first | rfl | (simp; done) | (simp [*]; done), by repeat (first | exact Drawn0.refl _ | apply Drawn0.step)⟩
        ·rw [if_neg c23] at H
         have c23b0 : decide ((bt a0 x3_1) < 48) = false := decide_eq_false c23
         clear c23
         by_cases c26 : (bt a0 x3_1) > 57
         ·rw [if_pos c26] at H
          have c26b0 : decide (57 < (bt a0 x3_1)) = true := decide_eq_true c26
          clear c26
          by_cases c27 : (bt a0 x3_1) = 43
          ·rw [if_pos c27] at H
           have c27b0 : ((bt a0 x3_1) == 43) = true := beq_iff_eq.mpr c27
           have c27b1 : ((bt a0 x3_1) != 43) = false := bne_eq_false_iff_eq.mpr c27
           clear c27
           have H' := Aside0.mk H
           clear H
           have p4 : 0 ≤ (x3_1 : Int) := of_decide_eq_true (by first | (with_reducible assumption) | assumption)
           have q4 : x3_1 < (a0.size : Int) := of_decide_eq_true (by first | (with_reducible assumption) | assumption)
           have hx4 := bt_at a0 x3_1
           replace p4 := eq_true p4
           replace q4 := eq_true q4
           go_wp2
           go_roundg k1
           case measure => have := HK1.out; omega
           case rel => exact ⟨(wrap64 (x3_1 + 1)), (by first | rfl | (simp; done) | (simp [*]; done)), H', ⟨by have := HK1.out; omega⟩, by repeat (first | exact Drawn0.refl _ | apply Drawn0.step)⟩
          ·rw [if_neg c27] at H
           have c27b0 : ((bt a0 x3_1) == 43) = false := beq_eq_false_iff_ne.mpr c27
           have c27b1 : ((bt a0 x3_1) != 43) = true := bne_iff_ne.mpr c27
           by_cases c28 : (bt a0 x3_1) = 45
           ·rw [if_pos c28] at H
            have c28b0 : ((bt a0 x3_1) == 45) = true := beq_iff_eq.mpr c28
            have c28b1 : ((bt a0 x3_1) != 45) = false := bne_eq_false_iff_eq.mpr c28
            clear c28
            have H' := Aside0.mk H
            clear H
            have p4 : 0 ≤ (x3_1 : Int) := of_decide_eq_true (by first | (with_reducible assumption) | assumption)
            have q4 : x3_1 < (a0.size : Int) := of_decide_eq_true (by first | (with_reducible assumption) | assumption)
            have hx4 := bt_at a0 x3_1
            replace p4 := eq_true p4
            replace q4 := eq_true q4
            go_wp2
            go_roundg k1
            case measure => have := HK1.out; omega
            case rel => exact ⟨(wrap64 (x3_1 + 1)), (by first | rfl | (simp; done) | (simp [*]; done)), H', ⟨by have := HK1.out; omega⟩, by repeat (first | exact Drawn0.refl _ | apply Drawn0.step)⟩
           ·rw [if_neg c28] at H
            have c28b0 : ((bt a0 x3_1) == 45) = false := beq_eq_false_iff_ne.mpr c28
            have c28b1 : ((bt a0 x3_1) != 45) = true := bne_iff_ne.mpr c28
            obtain rfl := Option.some.inj H
            have p4 : 0 ≤ (x3_1 : Int) := of_decide_eq_true (by first | (with_reducible assumption) | assumption)
            have q4 : x3_1 < (a0.size : Int) := of_decide_eq_true (by first | (with_reducible assumption) | assumption)
            have hx4 := bt_at a0 x3_1
            replace p4 := eq_true p4
            replace q4 := eq_true q4
            go_wp2
            go_ret
            exact ⟨by first | rfl | (simp; done) | (simp [*]; done), by repeat (first | exact Drawn0.refl _ | apply Drawn0.step)⟩
         ·rw [if_neg c26] at H
          have c26b0 : decide (57 < (bt a0 x3_1)) = false := decide_eq_false c26
          clear c26
          have H' := Aside0.mk H
          clear H
          have p4 : 0 ≤ (x3_1 : Int) := of_decide_eq_true (by first | (with_reducible assumption) | assumption)
          have q4 : x3_1 < (a0.size : Int) := of_decide_eq_true (by first | (with_reducible assumption) | assumption)
          have hx4 := bt_at a0 x3_1
          replace p4 := eq_true p4
          replace q4 := eq_true q4
          go_wp2
          go_roundg k1
          case measure => have := HK1.out; omega
          case rel => exact ⟨(wrap64 (x3_1 + 1)), (by first | rfl | (simp; done) | (simp [*]; done)), H', ⟨by have := HK1.out; omega⟩, by repeat (first | exact Drawn0.refl _ | apply Drawn0.step)⟩
      ·rw [if_neg c21] at H
       have c21b0 : decide (65 ≤ (bt a0 x3_1)) = false := decide_eq_false c21
       clear c21
       by_cases c29 : (bt a0 x3_1) < 48
       ·rw [if_pos c29] at H
        have c29b0 : decide ((bt a0 x3_1) < 48) = true := decide_eq_true c29
        clear c29
        by_cases c30 : (bt a0 x3_1) = 43
        ·rw [if_pos c30] at H
         have c30b0 : ((bt a0 x3_1) == 43) = true := beq_iff_eq.mpr c30
         have c30b1 : ((bt a0 x3_1) != 43) = false := bne_eq_false_iff_eq.mpr c30
         clear c30
         have H' := Aside0.mk H
         clear H
         have p4 : 0 ≤ (x3_1 : Int) := of_decide_eq_true (by first | (with_reducible assumption) | assumption)
         have q4 : x3_1 < (a0.size : Int) := of_decide_eq_true (by first | (with_reducible assumption) | assumption)
         have hx4 := bt_at a0 x3_1
         replace p4 := eq_true p4
         replace q4 := eq_true q4
         go_wp2
         go_roundg k1
         case measure => have := HK1.out; omega
         case rel => exact ⟨(wrap64 (x3_1 + 1)), (by first | rfl | (simp; done) | (simp [*]; done)), H', ⟨by have := HK1.out; omega⟩, by repeat (first | exact Drawn0.refl _ | apply Drawn0.step)⟩
        ·rw [if_neg c30] at H
         have c30b0 : ((bt a0 x3_1) == 43) = false := beq_eq_false_iff_ne.mpr c30
         have c30b1 : ((bt a0 x3_1) != 43) = true := bne_iff_ne.mpr c30
         by_cases c31 : (bt a0 x3_1) = 45
         ·rw [if_pos c31] at H
          have c31b0 : ((bt a0 x3_1) == 45) = true := beq_iff_eq.mpr c31
          have c31b1 : ((bt a0 x3_1) != 45) = false := bne_eq_false_iff_eq.mpr c31
          clear c31
          have H' := Aside0.mk H
          clear H
          have p4 : 0 ≤ (x3_1 : Int) := of_decide_eq_true (by first | (with_reducible assumption) | assumption)
          have q4 : x3_1 < (a0.size : Int) := of_decide_eq_true (by first | (with_reducible assumption) | assumption)
          have hx4 := bt_at a0 x3_1
          replace p4 := eq_true p4
          replace q4 := eq_true q4
          go_wp2
          go_roundg k1
          case measure => have := HK1.out; omega
          case rel => exact ⟨(wrap64 (x3_1 + 1)), (by first | rfl | (simp; done) | (simp [*]; done)), H', ⟨by have := HK1.out; omega⟩, by repeat (first | exact Drawn0.refl _ | apply Drawn0.step)⟩
         ·rw [if_neg c31] at H
          have c31b0 : ((bt a0 x3_1) == 45) = false := beq_eq_false_iff_ne.mpr c31
          have c31b1 : ((bt a0 x3_1) != 45) = true := bne_iff_ne.mpr c31
          obtain rfl := Option.some.inj H
          have p4 : 0 ≤ (x3_1 : Int) := of_decide_eq_true (by first | (with_reducible assumption) | assumption)
          have q4 : x3_1 < (a0.size : Int) := of_decide_eq_true (by first | (with_reducible assumption) | assumption)
          have hx4 := bt_at a0 x3_1
          replace p4 := eq_true p4
          replace q4 := eq_true q4
          go_wp2
          go_ret
          exact ⟨by first | rfl | (simp; done) | (simp [*]; done), by repeat (first | exact Drawn0.refl _ | apply Drawn0.step)⟩
       ·rw [if_neg c29] at H
        have c29b0 : decide ((bt a0 x3_1) < 48) = false := decide_eq_false c29
        clear c29
        by_cases c32 : (bt a0 x3_1) > 57
        ·rw [if_pos c32] at H
         have c32b0 : decide (57 < (bt a0 x3_1)) = true := decide_eq_true c32
         clear c32
         by_cases c33 : (bt a0 x3_1) = 43
         ·rw [if_pos c33] at H
          have c33b0 : ((bt a0 x3_1) == 43) = true := beq_iff_eq.mpr c33
          have c33b1 : ((bt a0 x3_1) != 43) = false := bne_eq_false_iff_eq.mpr c33
          clear c33
          have H' := Aside0.mk H
          clear H
          have p4 : 0 ≤ (x3_1 : Int) := of_decide_eq_true (by first | (with_reducible assumption) | assumption)
          have q4 : x3_1 < (a0.size : Int) := of_decide_eq_true (by first | (with_reducible assumption) | assumption)
          have hx4 := bt_at a0 x3_1
          replace p4 := eq_true p4
          replace q4 := eq_true q4
          go_wp2
          go_roundg k1
          case measure => have := HK1.out; omega
          case rel => exact ⟨(wrap64 (x3_1 + 1)), (by first | rfl | (simp; done) | (simp [*]; done)), H', ⟨by have := HK1.out; omega⟩, by repeat (first | exact Drawn0.refl _ | apply Drawn0.step)⟩
         ·rw [if_neg c33] at H
          have c33b0 : ((bt a0 x3_1) == 43) = false := beq_eq_false_iff_ne.mpr c33
          have c33b1 : ((bt a0 x3_1) != 43) = true := bne_iff_ne.mpr c33
          by_cases c34 : (bt a0 x3_1) = 45
          ·rw [if_pos c34] at H
           have c34b0 : ((bt a0 x3_1) == 45) = true := beq_iff_eq.mpr c34
           have c34b1 : ((bt a0 x3_1) != 45) = false := bne_eq_false_iff_eq.mpr c34
           clear c34
           have H' := Aside0.mk H
           clear H
           have p4 : 0 ≤ (x3_1 : Int) := of_decide_eq_true (by first | (with_reducible assumption) | assumption)
           have q4 : x3_1 < (a0.size : Int) := of_decide_eq_true (by first | (with_reducible assumption) | assumption)
           have hx4 := bt_at a0 x3_1
           replace p4 := eq_true p4
           replace q4 := eq_true q4
           go_wp2
           go_roundg k1
           case measure => have := HK1.out; omega
           case rel => exact ⟨(wrap64 (x3_1 + 1)), (by first | rfl | (simp; done) | (simp [*]; done)), H', ⟨by have := HK1.out; omega⟩, by repeat (first | exact Drawn0.refl _ | apply Drawn0.step)⟩
          ·rw [if_neg c34] at H
           have c34b0 : ((bt a0 x3_1) == 45) = false := beq_eq_false_iff_ne.mpr c34
           have c34b1 : ((bt a0 x3_1) != 45) = true := bne_iff_ne.mpr c34
           obtain rfl := Option.some.inj H
           have p4 : 0 ≤ (x3_1 : Int) := of_decide_eq_true (by first | (with_reducible assumption) | assumption)
           have q4 : x3_1 < (a0.size : Int) := of_decide_eq_true (by first | (with_reducible assumption) | assumption)
           have hx4 := bt_at a0 x3_1
           replace p4 := eq_true p4
           replace q4 := eq_true q4
           go_wp2
           go_ret
           exact ⟨by first | rfl | (simp; done) | (simp [*]; done), by repeat (first | exact Drawn0.refl _ | apply Drawn0.step)⟩
        ·rw [if_neg c32] at H
         have c32b0 : decide (57 < (bt a0 x3_1)) = false := decide_eq_false c32
         clear c32
         have H' := Aside0.mk H
         clear H
         have p4 : 0 ≤ (x3_1 : Int) := of_decide_eq_true (by first | (with_reducible assumption) | assumption)
         have q4 : x3_1 < (a0.size : Int) := of_decide_eq_true (by first | (with_reducible assumption) | assumption)
         have hx4 := bt_at a0 x3_1
         replace p4 := eq_true p4
         replace q4 := eq_true q4
         go_wp2
         go_roundg k1
         case measure => have := HK1.out; omega
         case rel => exact ⟨(wrap64 (x3_1 + 1)), (by first | rfl | (simp; done) | (simp [*]; done)), H', ⟨by have := HK1.out; omega⟩, by repeat (first | exact Drawn0.refl _ | apply Drawn0.step)⟩
    ·rw [if_neg c3] at H
     exact absurd H (by simp)
   ·rw [if_neg c2] at H
    have c2b0 : decide (x3_1 < (a0.size : Int)) = false := decide_eq_false c2
    clear c2
    by_cases c35 : (a0.size : Int) ≥ 3
    ·rw [if_pos c35] at H
     have c35b0 : decide (3 ≤ (a0.size : Int)) = true := decide_eq_true c35
     have c35b1 : decide (3 ≤ a0.size) = true := decide_eq_true (by omega)
     clear c35
     obtain rfl := Option.some.inj H
     go_wp2
     go_ret
     exact ⟨by first | rfl | (simp; done) | (simp [*]; done), by repeat (first | exact Drawn0.refl _ | apply Drawn0.step)⟩
    ·rw [if_neg c35] at H
     have c35b0 : decide (3 ≤ (a0.size : Int)) = false := decide_eq_false c35
     have c35b1 : decide (3 ≤ a0.size) = false := decide_eq_false (by omega)
     clear c35
     obtain rfl := Option.some.inj H
     go_wp2
     go_ret
     exact ⟨by first | rfl | (simp; done) | (simp [*]; done), by repeat (first | exact Drawn0.refl _ | apply Drawn0.step)⟩
mutual
def epactref14_At.j0 : Nat → ByteArray → Int → Bool → Option (ByteArray × Bool)
 | 0, _, _, _ => none
 | k + 1, x0, x1, x15 => if x15 = true then (some ((⟨#[]⟩ : ByteArray), false)) else (epactref14_At.l0 k x0 x1 x1)
def epactref14_At.l0 : Nat → ByteArray → Int → Int → Option (ByteArray × Bool)
 | 0, _, _, _ => none
 | k + 1, x0, x1, x6 => if x6 < (x0.size : Int) then (if 0 ≤ x6 then (if (bt x0 x6) = 0 then (if 0 ≤ x1 then (if x1 ≤ x6 then (if x6 ≤ (x0.size : Int) then ((epactref14_Right.f k (x0.extract (x1 : Int).toNat (x6 : Int).toNat)).bind fun t101 => (if t101 = true then (some (x0.extract (x1 : Int).toNat (x6 : Int).toNat, true)) else (some ((⟨#[]⟩ : ByteArray), false)))) else (none)) else (none)) else (none)) else (epactref14_At.l0 k x0 x1 (wrap64 (x6 + 1)))) else (none)) else (some ((⟨#[]⟩ : ByteArray), false))
end
def epactref14_At.f (k : Nat) (a0 : ByteArray) (a1 : Int) : Option (ByteArray × Bool) := if a1 < 0 then (epactref14_At.j0 k a0 a1 true) else (epactref14_At.j0 k a0 a1 (decide (a1 ≥ (a0.size : Int))))
theorem epactref14_At.mono_l : ∀ k, (∀ y0 y1 y2, LeO (epactref14_At.j0 k y0 y1 y2) (epactref14_At.j0 (k + 1) y0 y1 y2)) ∧ (∀ y0 y1 y2, LeO (epactref14_At.l0 k y0 y1 y2) (epactref14_At.l0 (k + 1) y0 y1 y2))
 | 0 => ⟨fun _ _ _ r h => by simp [epactref14_At.j0] at h, fun _ _ _ r h => by simp [epactref14_At.l0] at h⟩
 | k + 1 => by
  obtain ⟨ih0, ih1⟩ := epactref14_At.mono_l k
  refine ⟨?_, ?_⟩
  ·intro y0 y1 y2
   unfold epactref14_At.j0
   repeat' first
   | (with_reducible exact ih0 _ _ _)
   | (with_reducible exact ih1 _ _ _)
   | (with_reducible exact epactref14_Right.mono _ _)
   | (with_reducible exact LeO.refl _)
   | (with_reducible exact LeO.none _)
   | (with_reducible refine LeO.ite ?_ ?_)
   | (with_reducible refine LeO.bind ?_ (fun _ => ?_))
   | exact ih0 _ _ _
   | exact ih1 _ _ _
   | exact epactref14_Right.mono _ _
   | exact LeO.none _
   | refine LeO.ite ?_ ?_
   | refine LeO.bind ?_ (fun _ => ?_)
  ·intro y0 y1 y2
   unfold epactref14_At.l0
   repeat' first
   | (with_reducible exact ih0 _ _ _)
   | (with_reducible exact ih1 _ _ _)
   | (with_reducible exact epactref14_Right.mono _ _)
   | (with_reducible exact LeO.refl _)
   | (with_reducible exact LeO.none _)
   | (with_reducible refine LeO.ite ?_ ?_)
   | (with_reducible refine LeO.bind ?_ (fun _ => ?_))
   | exact ih0 _ _ _
   | exact ih1 _ _ _
   | exact epactref14_Right.mono _ _
   | exact LeO.none _
   | refine LeO.ite ?_ ?_
   | refine LeO.bind ?_ (fun _ => ?_)
theorem epactref14_At.mono : ∀ a0 a1 k, LeO (epactref14_At.f k a0 a1) (epactref14_At.f (k + 1) a0 a1) := by
 intro a0 a1 k
 obtain ⟨ih0, ih1⟩ := epactref14_At.mono_l k
 unfold epactref14_At.f
 repeat' first
   | (with_reducible exact ih0 _ _ _)
   | (with_reducible exact ih1 _ _ _)
   | (with_reducible exact epactref14_Right.mono _ _)
   | (with_reducible exact LeO.refl _)
   | (with_reducible exact LeO.none _)
   | (with_reducible refine LeO.ite ?_ ?_)
   | (with_reducible refine LeO.bind ?_ (fun _ => ?_))
   | exact ih0 _ _ _
   | exact ih1 _ _ _
   | exact epactref14_Right.mono _ _
   | exact LeO.none _
   | refine LeO.ite ?_ ?_
   | refine LeO.bind ?_ (fun _ => ?_)
set_option maxHeartbeats 8000000 in
set_option maxRecDepth 100000 in
theorem epactref14_At.calls (k : Nat) (a0 : ByteArray) (a1 : Int) (r1 : ByteArray) (r2 : Bool) (w : World) (h : epactref14_At.f k a0 a1 = some (r1, r2)) :
  Calls Try.prog 36 #[.string a0, .int .i64 a1] w fun e w' => e = .returned (.tuple #[.string r1, .bool r2]) ∧ Drawn0 w w' := by
 have H : (if a1 < 0 then (epactref14_At.j0 k a0 a1 true) else (epactref14_At.j0 k a0 a1 (decide (a1 ≥ (a0.size : Int))))) = some (r1, r2) := h
 clear h
 have HC3 := Aside0.mk H
 clear H
 go_enter Try.func36, Try.ntmps36
 go_upto_region 1 with (fail)
 go_cut [15] (fun v15 wc => ∃ (kq : Nat) (x15_2 : Bool), v15 = .bool x15_2 ∧ Aside0 (epactref14_At.j0 kq a0 a1 x15_2 = some (r1, r2)) ∧ Aside0 (kq ≤ k) ∧ Drawn0 w wc)
 case first =>
  have H := HC3.out
  clear HC3
  by_cases c4 : a1 < 0
  ·rw [if_pos c4] at H
   have c4b0 : decide (a1 < 0) = true := decide_eq_true c4
   clear c4
   (first | rw [c4b0] | (simp only [i64_w, i32_w]; rw [c4b0]) | skip)
   have H' := Aside0.mk H
   clear H
   go_wp2
   go_meet
   case rel => exact ⟨_, (true), (by first | rfl | (simp; done) | (simp [*]; done)), H', ⟨by first | omega | exact Nat.le_refl _⟩, by repeat (first | exact Drawn0.refl _ | apply Drawn0.step)⟩
  ·rw [if_neg c4] at H
   have c4b0 : decide (a1 < 0) = false := decide_eq_false c4
   clear c4
   (first | rw [c4b0] | (simp only [i64_w, i32_w]; rw [c4b0]) | skip)
   have H' := Aside0.mk H
   clear H
   go_wp2
   go_meet
   case rel => exact ⟨_, (decide (a1 ≥ (a0.size : Int))), (by first | rfl | (simp; done) | (simp [*]; done)), H', ⟨by first | omega | exact Nat.le_refl _⟩, by repeat (first | exact Drawn0.refl _ | apply Drawn0.step)⟩
 case rest =>
  clear HC3
  try clear p2
  try clear c3
  try clear c4
  try clear c4b0
  obtain ⟨kq, x15_2, rfl, HA, HJ2, ⟨mc2, rfl⟩⟩ := hcut
  cases kq with
  | zero => exact absurd HA.out (by simp [epactref14_At.j0])
  | succ kj2 =>
   have H := HA.out
   clear HA
   simp only [epactref14_At.j0] at H
   by_cases c5 : x15_2 = true
   ·subst c5
    have H1 : (some ((⟨#[]⟩ : ByteArray), false)) = some (r1, r2) := by rw [if_pos rfl] at H; exact H
    clear H
    have H := H1
    clear H1
    simp only [Option.some.injEq, Prod.mk.injEq] at H
    obtain ⟨rfl, rfl⟩ := H
    go_wp2
    go_ret2
    exact ⟨by first | rfl | (simp; done) | (simp [*]; done), by repeat (first | exact Drawn0.refl _ | apply Drawn0.step)⟩
   ·replace c5 := Bool.eq_false_iff.mpr c5
    subst c5
    have H1 : (epactref14_At.l0 kj2 a0 a1 a1) = some (r1, r2) := by rw [if_neg (show ¬ (false = true) by decide)] at H; exact H
    clear H
    have H := H1
    clear H1
    have H' := Aside0.mk H
    clear H
    go_wp2
    go_loopg [6] kj2 (fun kq v6 w' => ∃ (x6_2 : Int), v6 = .int .i64 x6_2 ∧ Aside0 (epactref14_At.l0 kq a0 a1 x6_2 = some (r1, r2)) ∧ Aside0 (kq ≤ kj2) ∧ Drawn0 w w')
    case atStart => exact ⟨(a1), (by first | rfl | (simp; done) | (simp [*]; done)), H', ⟨Nat.le_refl _⟩, by repeat (first | exact Drawn0.refl _ | apply Drawn0.step)⟩
    case round =>
     clear H'
     try clear c2
     try clear p2
     try clear c3
     try clear c4
     try clear c4b0
     try clear c5
     try clear p2
     obtain ⟨x6_2, rfl, HA, HK2, ⟨m2, rfl⟩⟩ := hrel
     cases gk with
     | zero => exact absurd HA.out (by simp [epactref14_At.l0])
     | succ k2 =>
      have H := HA.out
      clear HA
      simp only [epactref14_At.l0] at H
      by_cases c6 : x6_2 < (a0.size : Int)
      ·rw [if_pos c6] at H
       have c6b0 : decide (x6_2 < (a0.size : Int)) = true := decide_eq_true c6
       clear c6
       by_cases c7 : 0 ≤ x6_2
       ·rw [if_pos c7] at H
        have c7b0 : decide (0 ≤ x6_2) = true := decide_eq_true c7
        clear c7
        by_cases c9 : (bt a0 x6_2) = 0
        ·rw [if_pos c9] at H
         have c9b0 : ((bt a0 x6_2) == 0) = true := beq_iff_eq.mpr c9
         have c9b1 : ((bt a0 x6_2) != 0) = false := bne_eq_false_iff_eq.mpr c9
         clear c9
         by_cases c10 : 0 ≤ a1
         ·rw [if_pos c10] at H
          have c10b0 := eq_true c10
          have c10b1 : decide (0 ≤ a1) = true := decide_eq_true c10
          clear c10
          by_cases c11 : a1 ≤ x6_2
          ·rw [if_pos c11] at H
           have c11b0 := eq_true c11
           have c11b1 : decide (a1 ≤ x6_2) = true := decide_eq_true c11
           clear c11
           by_cases c12 : x6_2 ≤ (a0.size : Int)
           ·rw [if_pos c12] at H
            have c12b0 := eq_true c12
            have c12b1 : decide (x6_2 ≤ (a0.size : Int)) = true := decide_eq_true c12
            clear c12
            replace H := Option.bind_eq_some_iff.mp H
            obtain ⟨t101, A130, H⟩ := H
            replace H : (if t101 = true then (some (a0.extract (a1 : Int).toNat (x6_2 : Int).toNat, true)) else (some ((⟨#[]⟩ : ByteArray), false))) = some (r1, r2) := H
            have A13 := Aside0.mk A130
            clear A130
            by_cases c14 : t101 = true
            ·subst c14
             have H1 : (some (a0.extract (a1 : Int).toNat (x6_2 : Int).toNat, true)) = some (r1, r2) := by rw [if_pos rfl] at H; exact H
             clear H
             have H := H1
             clear H1
             simp only [Option.some.injEq, Prod.mk.injEq] at H
             obtain ⟨rfl, rfl⟩ := H
             have p8 : 0 ≤ (x6_2 : Int) := of_decide_eq_true (by first | (with_reducible assumption) | assumption)
             have q8 : x6_2 < (a0.size : Int) := of_decide_eq_true (by first | (with_reducible assumption) | assumption)
             have hx8 := bt_at a0 x6_2
             replace p8 := eq_true p8
             replace q8 := eq_true q8
             go_wp2_with (first | ((with_reducible refine gate_callee (f := 41) rfl ?_); refine goesL_ (some 32) rfl rfl Try.func41 (by kernel_rfl) rfl #[.string (a0.extract (a1 : Int).toNat (x6_2 : Int).toNat)] rfl (by (try simp only [List.map_toArray, List.map_cons, List.map_nil]); first | done | rfl | (simp only [List.length_drop, List.length_take]; rfl)) ?_; (with_reducible refine (epactref14_Right.calls k2 (a0.extract (a1 : Int).toNat (x6_2 : Int).toNat) true _ A13.out).mono ?_); rintro e w' ⟨rfl, ⟨nd, rfl⟩⟩; refine ⟨_, rfl, ?_⟩))
             go_ret2
             exact ⟨by first | rfl | (simp; done) | (simp [*]; done), by repeat (first | exact Drawn0.refl _ | apply Drawn0.step)⟩
            ·replace c14 := Bool.eq_false_iff.mpr c14
             subst c14
             have H1 : (some ((⟨#[]⟩ : ByteArray), false)) = some (r1, r2) := by rw [if_neg (show ¬ (false = true) by decide)] at H; exact H
             clear H
             have H := H1
             clear H1
             simp only [Option.some.injEq, Prod.mk.injEq] at H
             obtain ⟨rfl, rfl⟩ := H
             have p8 : 0 ≤ (x6_2 : Int) := of_decide_eq_true (by first | (with_reducible assumption) | assumption)
             have q8 : x6_2 < (a0.size : Int) := of_decide_eq_true (by first | (with_reducible assumption) | assumption)
             have hx8 := bt_at a0 x6_2
             replace p8 := eq_true p8
             replace q8 := eq_true q8
             go_wp2_with (first | ((with_reducible refine gate_callee (f := 41) rfl ?_); refine goesL_ (some 32) rfl rfl Try.func41 (by kernel_rfl) rfl #[.string (a0.extract (a1 : Int).toNat (x6_2 : Int).toNat)] rfl (by (try simp only [List.map_toArray, List.map_cons, List.map_nil]); first | done | rfl | (simp only [List.length_drop, List.length_take]; rfl)) ?_; (with_reducible refine (epactref14_Right.calls k2 (a0.extract (a1 : Int).toNat (x6_2 : Int).toNat) false _ A13.out).mono ?_); rintro e w' ⟨rfl, ⟨nd, rfl⟩⟩; refine ⟨_, rfl, ?_⟩))
             go_ret2
             exact ⟨by first | rfl | (simp; done) | (simp [*]; done), by repeat (first | exact Drawn0.refl _ | apply Drawn0.step)⟩
           ·rw [if_neg c12] at H
            exact absurd H (by simp)
          ·rw [if_neg c11] at H
           exact absurd H (by simp)
         ·rw [if_neg c10] at H
          exact absurd H (by simp)
        ·rw [if_neg c9] at H
         have c9b0 : ((bt a0 x6_2) == 0) = false := beq_eq_false_iff_ne.mpr c9
         have c9b1 : ((bt a0 x6_2) != 0) = true := bne_iff_ne.mpr c9
         have H' := Aside0.mk H
         clear H
         have p8 : 0 ≤ (x6_2 : Int) := of_decide_eq_true (by first | (with_reducible assumption) | assumption)
         have q8 : x6_2 < (a0.size : Int) := of_decide_eq_true (by first | (with_reducible assumption) | assumption)
         have hx8 := bt_at a0 x6_2
         replace p8 := eq_true p8
         replace q8 := eq_true q8
         go_wp2
         go_roundg k2
         case measure => have := HJ2.out; have := HK2.out; omega
         case rel => exact ⟨(wrap64 (x6_2 + 1)), (by first | rfl | (simp; done) | (simp [*]; done)), H', ⟨by have := HJ2.out; have := HK2.out; omega⟩, by repeat (first | exact Drawn0.refl _ | apply Drawn0.step)⟩
       ·rw [if_neg c7] at H
        exact absurd H (by simp)
      ·rw [if_neg c6] at H
       have c6b0 : decide (x6_2 < (a0.size : Int)) = false := decide_eq_false c6
       clear c6
       simp only [Option.some.injEq, Prod.mk.injEq] at H
       obtain ⟨rfl, rfl⟩ := H
       go_wp2
       go_ret2
       exact ⟨by first | rfl | (simp; done) | (simp [*]; done), by repeat (first | exact Drawn0.refl _ | apply Drawn0.step)⟩
end Go.Proofs.Ytpgjcnjojfehjaa.PAt
namespace Go.Proofs.Ytpgjcnjojfehjaa.PPool
open Go.RowKit Go.Proofs.YtpgjcnjojfehjaaW.PrintWords Go.Proofs.YtpgjcnjojfehjaaW.PrintLast Go.Proofs.YtpgjcnjojfehjaaW.PrintMore
attribute [local go_sem] max2_int min2_int max_two min_two max_three min_three max_four min_four   -- for this text's walks alone
set_option linter.unusedVariables false
set_option linter.unusedSimpArgs false
def errW : Option Int → Value
 | none => .nilIface
 | some c => .iface 0 (.int .i64 c)
theorem errW_none : errW none = .nilIface := rfl
theorem errW_some (c : Int) : errW (some c) = .iface 0 (.int .i64 c) := rfl
theorem info3 : (Try.prog.info? 3).map (fun i => (i.zero, i.size, i.bytes)) = some (some (.int .i64 0), 1, 8) := by kernel_rfl
end Go.Proofs.Ytpgjcnjojfehjaa.PPool
namespace Go.Proofs.Ytpgjcnjojfehjaa.PPool
open Go.RowKit Go.Proofs.YtpgjcnjojfehjaaW.PrintWords Go.Proofs.YtpgjcnjojfehjaaW.PrintLast Go.Proofs.YtpgjcnjojfehjaaW.PrintMore
attribute [local go_sem] max2_int min2_int max_two min_two max_three min_three max_four min_four   -- for this text's walks alone
set_option linter.unusedVariables false
set_option linter.unusedSimpArgs false
def epactref14_Right.l0 : Nat → ByteArray → Int → Option (Bool)
 | 0, _, _ => none
 | k + 1, x0, x3 => if x3 < (x0.size : Int) then (if 0 ≤ x3 then (if (bt x0 x3) ≥ 97 then (if (bt x0 x3) ≤ 122 then (epactref14_Right.l0 k x0 (wrap64 (x3 + 1))) else (if (bt x0 x3) ≥ 65 then (if ((bt x0 x3) ≤ 90) then (epactref14_Right.l0 k x0 (wrap64 (x3 + 1))) else (if (bt x0 x3) < 48 then (if (bt x0 x3) = 43 then (epactref14_Right.l0 k x0 (wrap64 (x3 + 1))) else (if (bt x0 x3) = 45 then (epactref14_Right.l0 k x0 (wrap64 (x3 + 1))) else (some false))) else (if (bt x0 x3) > 57 then (if (bt x0 x3) = 43 then (epactref14_Right.l0 k x0 (wrap64 (x3 + 1))) else (if (bt x0 x3) = 45 then (epactref14_Right.l0 k x0 (wrap64 (x3 + 1))) else (some false))) else (epactref14_Right.l0 k x0 (wrap64 (x3 + 1)))))) else (if (bt x0 x3) < 48 then (if (bt x0 x3) = 43 then (epactref14_Right.l0 k x0 (wrap64 (x3 + 1))) else (if (bt x0 x3) = 45 then (epactref14_Right.l0 k x0 (wrap64 (x3 + 1))) else (some false))) else (if (bt x0 x3) > 57 then (if (bt x0 x3) = 43 then (epactref14_Right.l0 k x0 (wrap64 (x3 + 1))) else (if (bt x0 x3) = 45 then (epactref14_Right.l0 k x0 (wrap64 (x3 + 1))) else (some false))) else (epactref14_Right.l0 k x0 (wrap64 (x3 + 1))))))) else (if (bt x0 x3) ≥ 65 then (if ((bt x0 x3) ≤ 90) then (epactref14_Right.l0 k x0 (wrap64 (x3 + 1))) else (if (bt x0 x3) < 48 then (if (bt x0 x3) = 43 then (epactref14_Right.l0 k x0 (wrap64 (x3 + 1))) else (if (bt x0 x3) = 45 then (epactref14_Right.l0 k x0 (wrap64 (x3 + 1))) else (some false))) else (if (bt x0 x3) > 57 then (if (bt x0 x3) = 43 then (epactref14_Right.l0 k x0 (wrap64 (x3 + 1))) else (if (bt x0 x3) = 45 then (epactref14_Right.l0 k x0 (wrap64 (x3 + 1))) else (some false))) else (epactref14_Right.l0 k x0 (wrap64 (x3 + 1)))))) else (if (bt x0 x3) < 48 then (if (bt x0 x3) = 43 then (epactref14_Right.l0 k x0 (wrap64 (x3 + 1))) else (if (bt x0 x3) = 45 then (epactref14_Right.l0 k x0 (wrap64 (x3 + 1))) else (some false))) else (if (bt x0 x3) > 57 then (if (bt x0 x3) = 43 then (epactref14_Right.l0 k x0 (wrap64 (x3 + 1))) else (if (bt x0 x3) = 45 then (epactref14_Right.l0 k x0 (wrap64 (x3 + 1))) else (some false))) else (epactref14_Right.l0 k x0 (wrap64 (x3 + 1))))))) else (none)) else (if (x0.size : Int) ≥ 3 then (some (decide ((x0.size : Int) ≤ 16))) else (some false))
def epactref14_Right.f (k : Nat) (a0 : ByteArray) : Option (Bool) := epactref14_Right.l0 k a0 0
theorem epactref14_Right.mono_l : ∀ k, (∀ y0 y1, LeO (epactref14_Right.l0 k y0 y1) (epactref14_Right.l0 (k + 1) y0 y1))
 | 0 => fun _ _ r h => by simp [epactref14_Right.l0] at h
 | k + 1 => by
  have ih0 := epactref14_Right.mono_l k
  ·intro y0 y1
   unfold epactref14_Right.l0
   repeat' first
   | (with_reducible exact ih0 _ _)
   | (with_reducible exact LeO.refl _)
   | (with_reducible exact LeO.none _)
   | (with_reducible refine LeO.ite ?_ ?_)
   | (with_reducible refine LeO.bind ?_ (fun _ => ?_))
   | exact ih0 _ _
   | exact LeO.none _
   | refine LeO.ite ?_ ?_
   | refine LeO.bind ?_ (fun _ => ?_)
theorem epactref14_Right.mono : ∀ a0 k, LeO (epactref14_Right.f k a0) (epactref14_Right.f (k + 1) a0) := by
 intro a0 k
 have ih0 := epactref14_Right.mono_l k
 unfold epactref14_Right.f
 repeat' first
   | (with_reducible exact ih0 _ _)
   | (with_reducible exact LeO.refl _)
   | (with_reducible exact LeO.none _)
   | (with_reducible refine LeO.ite ?_ ?_)
   | (with_reducible refine LeO.bind ?_ (fun _ => ?_))
   | exact ih0 _ _
   | exact LeO.none _
   | refine LeO.ite ?_ ?_
   | refine LeO.bind ?_ (fun _ => ?_)
set_option maxHeartbeats 8000000 in
set_option maxRecDepth 100000 in
theorem epactref14_Right.calls (k : Nat) (a0 : ByteArray) (r : Bool) (w : World) (h : epactref14_Right.f k a0 = some r) :
  Calls Try.prog 41 #[.string a0] w fun e w' => e = .returned (.bool r) ∧ Drawn0 w w' := by
 have H : (epactref14_Right.l0 k a0 0) = some r := h
 clear h
 have H' := Aside0.mk H
 clear H
 go_enter Try.func41, Try.ntmps41
 go_wp2
 go_loopg [3] k (fun kq v3 w' => ∃ (x3_1 : Int), v3 = .int .i64 x3_1 ∧ Aside0 (epactref14_Right.l0 kq a0 x3_1 = some r) ∧ Aside0 (kq ≤ k) ∧ Drawn0 w w')
 case atStart => exact ⟨(0), (by first | rfl | (simp; done) | (simp [*]; done)), H', ⟨Nat.le_refl _⟩, by repeat (first | exact Drawn0.refl _ | apply Drawn0.step)⟩
 case round =>
  clear H'
  obtain ⟨x3_1, rfl, HA, HK1, ⟨m1, rfl⟩⟩ := hrel
  cases gk with
  | zero => exact absurd HA.out (by simp [epactref14_Right.l0])
  | succ k1 =>
   have H := HA.out
   clear HA
   simp only [epactref14_Right.l0] at H
   by_cases c2 : x3_1 < (a0.size : Int)
   ·rw [if_pos c2] at H
    have c2b0 : decide (x3_1 < (a0.size : Int)) = true := decide_eq_true c2
    clear c2
    by_cases c3 : 0 ≤ x3_1
    ·rw [if_pos c3] at H
     have c3b0 : decide (0 ≤ x3_1) = true := decide_eq_true c3
     clear c3
     by_cases c5 : (bt a0 x3_1) ≥ 97
     ·rw [if_pos c5] at H
      have c5b0 : decide (97 ≤ (bt a0 x3_1)) = true := decide_eq_true c5
      clear c5
      by_cases c6 : (bt a0 x3_1) ≤ 122
      ·rw [if_pos c6] at H
       have c6b0 : decide ((bt a0 x3_1) ≤ 122) = true := decide_eq_true c6
       clear c6
       have H' := Aside0.mk H
       clear H
       have p4 : 0 ≤ (x3_1 : Int) := of_decide_eq_true (by first | (with_reducible assumption) | assumption)
       have q4 : x3_1 < (a0.size : Int) := of_decide_eq_true (by first | (with_reducible assumption) | assumption)
       have hx4 := bt_at a0 x3_1
       replace p4 := eq_true p4
       replace q4 := eq_true q4
       go_wp2
       go_roundg k1
       case measure => have := HK1.out; omega
       case rel => exact ⟨(wrap64 (x3_1 + 1)), (by first | rfl | (simp; done) | (simp [*]; done)), H', ⟨by have := HK1.out; omega⟩, by repeat (first | exact Drawn0.refl _ | apply Drawn0.step)⟩
      ·rw [if_neg c6] at H
       have c6b0 : decide ((bt a0 x3_1) ≤ 122) = false := decide_eq_false c6
       clear c6
       by_cases c7 : (bt a0 x3_1) ≥ 65
       ·rw [if_pos c7] at H
        have c7b0 : decide (65 ≤ (bt a0 x3_1)) = true := decide_eq_true c7
        clear c7
        by_cases c8 : ((bt a0 x3_1) ≤ 90)
        ·rw [if_pos c8] at H
         have c8b0 : decide ((bt a0 x3_1) ≤ 90) = true := decide_eq_true c8
         clear c8
         have H' := Aside0.mk H
         clear H
         have p4 : 0 ≤ (x3_1 : Int) := of_decide_eq_true (by first | (with_reducible assumption) | assumption)
         have q4 : x3_1 < (a0.size : Int) := of_decide_eq_true (by first | (with_reducible assumption) | assumption)
         have hx4 := bt_at a0 x3_1
         replace p4 := eq_true p4
         replace q4 := eq_true q4
         go_wp2
         go_roundg k1
         case measure => have := HK1.out; omega
         case rel => exact ⟨(wrap64 (x3_1 + 1)), (by first | rfl | (simp; done) | (simp [*]; done)), H', ⟨by have := HK1.out; omega⟩, by repeat (first | exact Drawn0.refl _ | apply Drawn0.step)⟩
        ·rw [if_neg c8] at H
         have c8b0 : decide ((bt a0 x3_1) ≤ 90) = false := decide_eq_false c8
         clear c8
         by_cases c9 : (bt a0 x3_1) < 48
         ·rw [if_pos c9] at H
          have c9b0 : decide ((bt a0 x3_1) < 48) = true := decide_eq_true c9
          clear c9
          by_cases c10 : (bt a0 x3_1) = 43
          ·rw [if_pos c10] at H
           have c10b0 : ((bt a0 x3_1) == 43) = true := beq_iff_eq.mpr c10
           have c10b1 : ((bt a0 x3_1) != 43) = false := bne_eq_false_iff_eq.mpr c10
           clear c10
           have H' := Aside0.mk H
           clear H
           have p4 : 0 ≤ (x3_1 : Int) := of_decide_eq_true (by first | (with_reducible assumption) | assumption)
           have q4 : x3_1 < (a0.size : Int) := of_decide_eq_true (by first | (with_reducible assumption) | assumption)
           have hx4 := bt_at a0 x3_1
           replace p4 := eq_true p4
           replace q4 := eq_true q4
           go_wp2
           go_roundg k1
           case measure => have := HK1.out; omega
           case rel => exact ⟨(wrap64 (x3_1 + 1)), (by first | rfl | (simp; done) | (simp [*]; done)), H', ⟨by have := HK1.out; omega⟩, by repeat (first | exact Drawn0.refl _ | apply Drawn0.step)⟩
          ·rw [if_neg c10] at H
           have c10b0 : ((bt a0 x3_1) == 43) = false := beq_eq_false_iff_ne.mpr c10
           have c10b1 : ((bt a0 x3_1) != 43) = true := bne_iff_ne.mpr c10
           by_cases c11 : (bt a0 x3_1) = 45
           ·rw [if_pos c11] at H
            have c11b0 : ((bt a0 x3_1) == 45) = true := beq_iff_eq.mpr c11
            have c11b1 : ((bt a0 x3_1) != 45) = false := bne_eq_false_iff_eq.mpr c11
            clear c11
            have H' := Aside0.mk H
            clear H
            have p4 : 0 ≤ (x3_1 : Int) := of_decide_eq_true (by first | (with_reducible assumption) | assumption)
            have q4 : x3_1 < (a0.size : Int) := of_decide_eq_true (by first | (with_reducible assumption) | assumption)
            have hx4 := bt_at a0 x3_1
            replace p4 := eq_true p4
            replace q4 := eq_true q4
            go_wp2
            go_roundg k1
            case measure => have := HK1.out; omega
            case rel => exact ⟨(wrap64 (x3_1 + 1)), (by first | rfl | (simp; done) | (simp [*]; done)), H', ⟨by have := HK1.out; omega⟩, by repeat (first | exact Drawn0.refl _ | apply Drawn0.step)⟩
           ·rw [if_neg c11] at H
            have c11b0 : ((bt a0 x3_1) == 45) = false := beq_eq_false_iff_ne.mpr c11
            have c11b1 : ((bt a0 x3_1) != 45) = true := bne_iff_ne.mpr c11
            obtain rfl := Option.some.inj H
            have p4 : 0 ≤ (x3_1 : Int) := of_decide_eq_true (by first | (with_reducible assumption) | assumption)
            have q4 : x3_1 < (a0.size : Int) := of_decide_eq_true (by first | (with_reducible assumption) | assumption)
            have hx4 := bt_at a0 x3_1
            replace p4 := eq_true p4
            replace q4 := eq_true q4
            go_wp2
            go_ret
            exact ⟨by first | rfl | (simp; done) | (simp [*]; done), by repeat (first | exact Drawn0.refl _ | apply Drawn0.step)⟩
         ·rw [if_neg c9] at H
          have c9b0 : decide ((bt a0 x3_1) < 48) = false := decide_eq_false c9
          clear c9
          by_cases c12 : (bt a0 x3_1) > 57
          ·rw [if_pos c12] at H
           have c12b0 : decide (57 < (bt a0 x3_1)) = true := decide_eq_true c12
           clear c12
           by_cases c13 : (bt a0 x3_1) = 43
           ·rw [if_pos c13] at H
            have c13b0 : ((bt a0 x3_1) == 43) = true := beq_iff_eq.mpr c13
            have c13b1 : ((bt a0 x3_1) != 43) = false := bne_eq_false_iff_eq.mpr c13
            clear c13
            have H' := Aside0.mk H
            clear H
            have p4 : 0 ≤ (x3_1 : Int) := of_decide_eq_true (by first | (with_reducible assumption) | assumption)
            have q4 : x3_1 < (a0.size : Int) := of_decide_eq_true (by first | (with_reducible assumption) | assumption)
            have hx4 := bt_at a0 x3_1
            replace p4 := eq_true p4
            replace q4 := eq_true q4
            go_wp2
            go_roundg k1
            case measure => have := HK1.out; omega
            case rel => exact ⟨(wrap64 (x3_1 + 1)), (by first | rfl | (simp; done) | (simp [*]; done)), H', ⟨by have := HK1.out; omega⟩, by repeat (first | exact Drawn0.refl _ | apply Drawn0.step)⟩
           ·rw [if_neg c13] at H
            have c13b0 : ((bt a0 x3_1) == 43) = false := beq_eq_false_iff_ne.mpr c13
            have c13b1 : ((bt a0 x3_1) != 43) = true := bne_iff_ne.mpr c13
            by_cases c14 : (bt a0 x3_1) = 45
            ·rw [if_pos c14] at H
             have c14b0 : ((bt a0 x3_1) == 45) = true := beq_iff_eq.mpr c14
             have c14b1 : ((bt a0 x3_1) != 45) = false := bne_eq_false_iff_eq.mpr c14
             clear c14
             have H' := Aside0.mk H
             clear H
             have p4 : 0 ≤ (x3_1 : Int) := of_decide_eq_true (by first | (with_reducible assumption) | assumption)
             have q4 : x3_1 < (a0.size : Int) := of_decide_eq_true (by first | (with_reducible assumption) | assumption)
             have hx4 := bt_at a0 x3_1
             replace p4 := eq_true p4
             replace q4 := eq_true q4
             go_wp2
             go_roundg k1
             case measure => have := HK1.out; omega
             case rel => exact ⟨(wrap64 (x3_1 + 1)), (by first | rfl | (simp; done) | (simp [*]; done)), H', ⟨by have := HK1.out; omega⟩, by repeat (first | exact Drawn0.refl _ | apply Drawn0.step)⟩
            ·rw [if_neg c14] at H
             have c14b0 : ((bt a0 x3_1) == 45) = false := beq_eq_false_iff_ne.mpr c14
             have c14b1 : ((bt a0 x3_1) != 45) = true := bne_iff_ne.mpr c14
             obtain rfl := Option.some.inj H
             have p4 : 0 ≤ (x3_1 : Int) := of_decide_eq_true (by first | (with_reducible assumption) | assumption)
             have q4 : x3_1 < (a0.size : Int) := of_decide_eq_true (by first | (with_reducible assumption) | assumption)
             have hx4 := bt_at a0 x3_1
             replace p4 := eq_true p4
             replace q4 := eq_true q4
             go_wp2
             go_ret
             exact ⟨by first | rfl | (simp; done) | (simp [*]; done), by repeat (first | exact Drawn0.refl _ | apply Drawn0.step)⟩
          ·rw [if_neg c12] at H
           have c12b0 : decide (57 < (bt a0 x3_1)) = false := decide_eq_false c12
           clear c12
           have H' := Aside0.mk H
           clear H
           have p4 : 0 ≤ (x3_1 : Int) := of_decide_eq_true (by first | (with_reducible assumption) | assumption)
           have q4 : x3_1 < (a0.size : Int) := of_decide_eq_true (by first | (with_reducible assumption) | assumption)
           have hx4 := bt_at a0 x3_1
           replace p4 := eq_true p4
           replace q4 := eq_true q4
           go_wp2
           go_roundg k1
           case measure => have := HK1.out; omega
           case rel => exact ⟨(wrap64 (x3_1 + 1)), (by first | rfl | (simp; done) | (simp [*]; done)), H', ⟨by have := HK1.out; omega⟩, by repeat (first | exact Drawn0.refl _ | apply Drawn0.step)⟩
       ·rw [if_neg c7] at H
        have c7b0 : decide (65 ≤ (bt a0 x3_1)) = false := decide_eq_false c7
        clear c7
        by_cases c15 : (bt a0 x3_1) < 48
        ·rw [if_pos c15] at H
         have c15b0 : decide ((bt a0 x3_1) < 48) = true := decide_eq_true c15
         clear c15
         by_cases c16 : (bt a0 x3_1) = 43
         ·rw [if_pos c16] at H
          have c16b0 : ((bt a0 x3_1) == 43) = true := beq_iff_eq.mpr c16
          have c16b1 : ((bt a0 x3_1) != 43) = false := bne_eq_false_iff_eq.mpr c16
          clear c16
          have H' := Aside0.mk H
          clear H
          have p4 : 0 ≤ (x3_1 : Int) := of_decide_eq_true (by first | (with_reducible assumption) | assumption)
          have q4 : x3_1 < (a0.size : Int) := of_decide_eq_true (by first | (with_reducible assumption) | assumption)
          have hx4 := bt_at a0 x3_1
          replace p4 := eq_true p4
          replace q4 := eq_true q4
          go_wp2
          go_roundg k1
          case measure => have := HK1.out; omega
          case rel => exact ⟨(wrap64 (x3_1 + 1)), (by first | rfl | (simp; done) | (simp [*]; done)), H', ⟨by have := HK1.out; omega⟩, by repeat (first | exact Drawn0.refl _ | apply Drawn0.step)⟩
         ·rw [if_neg c16] at H
          have c16b0 : ((bt a0 x3_1) == 43) = false := beq_eq_false_iff_ne.mpr c16
          have c16b1 : ((bt a0 x3_1) != 43) = true := bne_iff_ne.mpr c16
          by_cases c17 : (bt a0 x3_1) = 45
          ·rw [if_pos c17] at H
           have c17b0 : ((bt a0 x3_1) == 45) = true := beq_iff_eq.mpr c17
           have c17b1 : ((bt a0 x3_1) != 45) = false := bne_eq_false_iff_eq.mpr c17
           clear c17
           have H' := Aside0.mk H
           clear H
           have p4 : 0 ≤ (x3_1 : Int) := of_decide_eq_true (by first | (with_reducible assumption) | assumption)
           have q4 : x3_1 < (a0.size : Int) := of_decide_eq_true (by first | (with_reducible assumption) | assumption)
           have hx4 := bt_at a0 x3_1
           replace p4 := eq_true p4
           replace q4 := eq_true q4
           go_wp2
           go_roundg k1
           case measure => have := HK1.out; omega
           case rel => exact ⟨(wrap64 (x3_1 + 1)), (by first | rfl | (simp; done) | (simp [*]; done)), H', ⟨by have := HK1.out; omega⟩, by repeat (first | exact Drawn0.refl _ | apply Drawn0.step)⟩
          ·rw [if_neg c17] at H
           have c17b0 : ((bt a0 x3_1) == 45) = false := beq_eq_false_iff_ne.mpr c17
           have c17b1 : ((bt a0 x3_1) != 45) = true := bne_iff_ne.mpr c17
           obtain rfl := Option.some.inj H
           have p4 : 0 ≤ (x3_1 : Int) := of_decide_eq_true (by first | (with_reducible assumption) | assumption)
           have q4 : x3_1 < (a0.size : Int) := of_decide_eq_true (by first | (with_reducible assumption) | assumption)
           have hx4 := bt_at a0 x3_1
           replace p4 := eq_true p4
           replace q4 := eq_true q4
           go_wp2
           go_ret
           exact ⟨by first | rfl | (simp; done) | (simp [*]; done), by repeat (first | exact Drawn0.refl _ | apply Drawn0.step)⟩
        ·rw [if_neg c15] at H
         have c15b0 : decide ((bt a0 x3_1) < 48) = false := decide_eq_false c15
         clear c15
         by_cases c18 : (bt a0 x3_1) > 57
         ·rw [if_pos c18] at H
          have c18b0 : decide (57 < (bt a0 x3_1)) = true := decide_eq_true c18
          clear c18
          by_cases c19 : (bt a0 x3_1) = 43
          ·rw [if_pos c19] at H
           have c19b0 : ((bt a0 x3_1) == 43) = true := beq_iff_eq.mpr c19
           have c19b1 : ((bt a0 x3_1) != 43) = false := bne_eq_false_iff_eq.mpr c19
           clear c19
           have H' := Aside0.mk H
           clear H
           have p4 : 0 ≤ (x3_1 : Int) := of_decide_eq_true (by first | (with_reducible assumption) | assumption)
           have q4 : x3_1 < (a0.size : Int) := of_decide_eq_true (by first | (with_reducible assumption) | assumption)
           have hx4 := bt_at a0 x3_1
           replace p4 := eq_true p4
           replace q4 := eq_true q4
           go_wp2
           go_roundg k1
           case measure => have := HK1.out; omega
           case rel => exact ⟨(wrap64 (x3_1 + 1)), (by first | rfl | (simp; done) | (simp [*]; done)), H', ⟨by have := HK1.out; omega⟩, by repeat (first | exact Drawn0.refl _ | apply Drawn0.step)⟩
          ·rw [if_neg c19] at H
           have c19b0 : ((bt a0 x3_1) == 43) = false := beq_eq_false_iff_ne.mpr c19
           have c19b1 : ((bt a0 x3_1) != 43) = true := bne_iff_ne.mpr c19
           by_cases c20 : (bt a0 x3_1) = 45
           ·rw [if_pos c20] at H
            have c20b0 : ((bt a0 x3_1) == 45) = true := beq_iff_eq.mpr c20
            have c20b1 : ((bt a0 x3_1) != 45) = false := bne_eq_false_iff_eq.mpr c20
            clear c20
            have H' := Aside0.mk H
            clear H
            have p4 : 0 ≤ (x3_1 : Int) := of_decide_eq_true (by first | (with_reducible assumption) | assumption)
            have q4 : x3_1 < (a0.size : Int) := of_decide_eq_true (by first | (with_reducible assumption) | assumption)
            have hx4 := bt_at a0 x3_1
            replace p4 := eq_true p4
            replace q4 := eq_true q4
            go_wp2
            go_roundg k1
            case measure => have := HK1.out; omega
            case rel => exact ⟨(wrap64 (x3_1 + 1)), (by first | rfl | (simp; done) | (simp [*]; done)), H', ⟨by have := HK1.out; omega⟩, by repeat (first | exact Drawn0.refl _ | apply Drawn0.step)⟩
           ·rw [if_neg c20] at H
            have c20b0 : ((bt a0 x3_1) == 45) = false := beq_eq_false_iff_ne.mpr c20
            have c20b1 : ((bt a0 x3_1) != 45) = true := bne_iff_ne.mpr c20
            obtain rfl := Option.some.inj H
            have p4 : 0 ≤ (x3_1 : Int) := of_decide_eq_true (by first | (with_reducible assumption) | assumption)
            have q4 : x3_1 < (a0.size : Int) := of_decide_eq_true (by first | (with_reducible assumption) | assumption)
            have hx4 := bt_at a0 x3_1
            replace p4 := eq_true p4
            replace q4 := eq_true q4
            go_wp2
            go_ret
            exact ⟨by first | rfl | (simp; done) | (simp [*]; done), by repeat (first | exact Drawn0.refl _ | apply Drawn0.step)⟩
         ·rw [if_neg c18] at H
          have c18b0 : decide (57 < (bt a0 x3_1)) = false := decide_eq_false c18
          clear c18
          have H' := Aside0.mk H
          clear H
          have p4 : 0 ≤ (x3_1 : Int) := of_decide_eq_true (by first | (with_reducible assumption) | assumption)
          have q4 : x3_1 < (a0.size : Int) := of_decide_eq_true (by first | (with_reducible assumption) | assumption)
          have hx4 := bt_at a0 x3_1
          replace p4 := eq_true p4
          replace q4 := eq_true q4
          go_wp2
          go_roundg k1
          case measure => have := HK1.out; omega
          case rel => exact ⟨(wrap64 (x3_1 + 1)), (by first | rfl | (simp; done) | (simp [*]; done)), H', ⟨by have := HK1.out; omega⟩, by repeat (first | exact Drawn0.refl _ | apply Drawn0.step)⟩
     ·rw [if_neg c5] at H
      have c5b0 : decide (97 ≤ (bt a0 x3_1)) = false := decide_eq_false c5
      clear c5
      by_cases c21 : (bt a0 x3_1) ≥ 65
      ·rw [if_pos c21] at H
       have c21b0 : decide (65 ≤ (bt a0 x3_1)) = true := decide_eq_true c21
       clear c21
       by_cases c22 : ((bt a0 x3_1) ≤ 90)
       ·rw [if_pos c22] at H
        have c22b0 : decide ((bt a0 x3_1) ≤ 90) = true := decide_eq_true c22
        clear c22
        have H' := Aside0.mk H
        clear H
        have p4 : 0 ≤ (x3_1 : Int) := of_decide_eq_true (by first | (with_reducible assumption) | assumption)
        have q4 : x3_1 < (a0.size : Int) := of_decide_eq_true (by first | (with_reducible assumption) | assumption)
        have hx4 := bt_at a0 x3_1
        replace p4 := eq_true p4
        replace q4 := eq_true q4
        go_wp2
        go_roundg k1
        case measure => have := HK1.out; omega
        case rel => exact ⟨(wrap64 (x3_1 + 1)), (by first | rfl | (simp; done) | (simp [*]; done)), H', ⟨by have := HK1.out; omega⟩, by repeat (first | exact Drawn0.refl _ | apply Drawn0.step)⟩
       ·rw [if_neg c22] at H
        have c22b0 : decide ((bt a0 x3_1) ≤ 90) = false := decide_eq_false c22
        clear c22
        by_cases c23 : (bt a0 x3_1) < 48
        ·rw [if_pos c23] at H
         have c23b0 : decide ((bt a0 x3_1) < 48) = true := decide_eq_true c23
         clear c23
         by_cases c24 : (bt a0 x3_1) = 43
         ·rw [if_pos c24] at H
          have c24b0 : ((bt a0 x3_1) == 43) = true := beq_iff_eq.mpr c24
          have c24b1 : ((bt a0 x3_1) != 43) = false := bne_eq_false_iff_eq.mpr c24
          clear c24
          have H' := Aside0.mk H
          clear H
          have p4 : 0 ≤ (x3_1 : Int) := of_decide_eq_true (by first | (with_reducible assumption) | assumption)
          have q4 : x3_1 < (a0.size : Int) := of_decide_eq_true (by first | (with_reducible assumption) | assumption)
          have hx4 := bt_at a0 x3_1
          replace p4 := eq_true p4
          replace q4 := eq_true q4
          go_wp2
          go_roundg k1
          case measure => have := HK1.out; omega
          case rel => exact ⟨(wrap64 (x3_1 + 1)), (by first | rfl | (simp; done) | (simp [*]; done)), H', ⟨by have := HK1.out; omega⟩, by repeat (first | exact Drawn0.refl _ | apply Drawn0.step)⟩
         ·rw [if_neg c24] at H
          have c24b0 : ((bt a0 x3_1) == 43) = false := beq_eq_false_iff_ne.mpr c24
          have c24b1 : ((bt a0 x3_1) != 43) = true := bne_iff_ne.mpr c24
          by_cases c25 : (bt a0 x3_1) = 45
          ·rw [if_pos c25] at H
           have c25b0 : ((bt a0 x3_1) == 45) = true := beq_iff_eq.mpr c25
           have c25b1 : ((bt a0 x3_1) != 45) = false := bne_eq_false_iff_eq.mpr c25
           clear c25
           have H' := Aside0.mk H
           clear H
           have p4 : 0 ≤ (x3_1 : Int) := of_decide_eq_true (by first | (with_reducible assumption) | assumption)
           have q4 : x3_1 < (a0.size : Int) := of_decide_eq_true (by first | (with_reducible assumption) | assumption)
           have hx4 := bt_at a0 x3_1
           replace p4 := eq_true p4
           replace q4 := eq_true q4
           go_wp2
           go_roundg k1
           case measure => have := HK1.out; omega
           case rel => exact ⟨(wrap64 (x3_1 + 1)), (by first | rfl | (simp; done) | (simp [*]; done)), H', ⟨by have := HK1.out; omega⟩, by repeat (first | exact Drawn0.refl _ | apply Drawn0.step)⟩
          ·rw [if_neg c25] at H
           have c25b0 : ((bt a0 x3_1) == 45) = false := beq_eq_false_iff_ne.mpr c25
           have c25b1 : ((bt a0 x3_1) != 45) = true := bne_iff_ne.mpr c25
           obtain rfl := Option.some.inj H
           have p4 : 0 ≤ (x3_1 : Int) := of_decide_eq_true (by first | (with_reducible assumption) | assumption)
           have q4 : x3_1 < (a0.size : Int) := of_decide_eq_true (by first | (with_reducible assumption) | assumption)
           have hx4 := bt_at a0 x3_1
           replace p4 := eq_true p4
           replace q4 := eq_true q4
           go_wp2
           go_ret
           exact ⟨by first | rfl | (simp; done) | (simp [*]; done), by repeat (first | exact Drawn0.refl _ | apply Drawn0.step)⟩
        ·rw [if_neg c23] at H
         have c23b0 : decide ((bt a0 x3_1) < 48) = false := decide_eq_false c23
         clear c23
         by_cases c26 : (bt a0 x3_1) > 57
         ·rw [if_pos c26] at H
          have c26b0 : decide (57 < (bt a0 x3_1)) = true := decide_eq_true c26
          clear c26
          by_cases c27 : (bt a0 x3_1) = 43
          ·rw [if_pos c27] at H
           have c27b0 : ((bt a0 x3_1) == 43) = true := beq_iff_eq.mpr c27
           have c27b1 : ((bt a0 x3_1) != 43) = false := bne_eq_false_iff_eq.mpr c27
           clear c27
           have H' := Aside0.mk H
           clear H
           have p4 : 0 ≤ (x3_1 : Int) := of_decide_eq_true (by first | (with_reducible assumption) | assumption)
           have q4 : x3_1 < (a0.size : Int) := of_decide_eq_true (by first | (with_reducible assumption) | assumption)
           have hx4 := bt_at a0 x3_1
           replace p4 := eq_true p4
           replace q4 := eq_true q4
           go_wp2
           go_roundg k1
           case measure => have := HK1.out; omega
           case rel => exact ⟨(wrap64 (x3_1 + 1)), (by first | rfl | (simp; done) | (simp [*]; done)), H', ⟨by have := HK1.out; omega⟩, by repeat (first | exact Drawn0.refl _ | apply Drawn0.step)⟩
          ·rw [if_neg c27] at H
           have c27b0 : ((bt a0 x3_1) == 43) = false := beq_eq_false_iff_ne.mpr c27
           have c27b1 : ((bt a0 x3_1) != 43) = true := bne_iff_ne.mpr c27
           by_cases c28 : (bt a0 x3_1) = 45
           ·rw [if_pos c28] at H
            have c28b0 : ((bt a0 x3_1) == 45) = true := beq_iff_eq.mpr c28
            have c28b1 : ((bt a0 x3_1) != 45) = false := bne_eq_false_iff_eq.mpr c28
            clear c28
            have H' := Aside0.mk H
            clear H
            have p4 : 0 ≤ (x3_1 : Int) := of_decide_eq_true (by first | (with_reducible assumption) | assumption)
            have q4 : x3_1 < (a0.size : Int) := of_decide_eq_true (by first | (with_reducible assumption) | assumption)
            have hx4 := bt_at a0 x3_1
            replace p4 := eq_true p4
            replace q4 := eq_true q4
            go_wp2
            go_roundg k1
            case measure => have := HK1.out; omega
            case rel => exact ⟨(wrap64 (x3_1 + 1)), (by first | rfl | (simp; done) | (simp [*]; done)), H', ⟨by have := HK1.out; omega⟩, by repeat (first | exact Drawn0.refl _ | apply Drawn0.step)⟩
           ·rw [if_neg c28] at H
            have c28b0 : ((bt a0 x3_1) == 45) = false := beq_eq_false_iff_ne.mpr c28
            have c28b1 : ((bt a0 x3_1) != 45) = true := bne_iff_ne.mpr c28
            obtain rfl := Option.some.inj H
            have p4 : 0 ≤ (x3_1 : Int) := of_decide_eq_true (by first | (with_reducible assumption) | assumption)
            have q4 : x3_1 < (a0.size : Int) := of_decide_eq_true (by first | (with_reducible assumption) | assumption)
            have hx4 := bt_at a0 x3_1
            replace p4 := eq_true p4
            replace q4 := eq_true q4
            go_wp2
            go_ret
            exact ⟨by first | rfl | (simp; done) | (simp [*]; done), by repeat (first | exact Drawn0.refl _ | apply Drawn0.step)⟩
         ·rw [if_neg c26] at H
          have c26b0 : decide (57 < (bt a0 x3_1)) = false := decide_eq_false c26
          clear c26
          have H' := Aside0.mk H
          clear H
          have p4 : 0 ≤ (x3_1 : Int) := of_decide_eq_true (by first | (with_reducible assumption) | assumption)
          have q4 : x3_1 < (a0.size : Int) := of_decide_eq_true (by first | (with_reducible assumption) | assumption)
          have hx4 := bt_at a0 x3_1
          replace p4 := eq_true p4
          replace q4 := eq_true q4
          go_wp2
          go_roundg k1
          case measure => have := HK1.out; omega
          case rel => exact ⟨(wrap64 (x3_1 + 1)), (by first | rfl | (simp; done) | (simp [*]; done)), H', ⟨by have := HK1.out; omega⟩, by repeat (first | exact Drawn0.refl _ | apply Drawn0.step)⟩
      ·rw [if_neg c21] at H
       have c21b0 : decide (65 ≤ (bt a0 x3_1)) = false := decide_eq_false c21
       clear c21
       by_cases c29 : (bt a0 x3_1) < 48
       ·rw [if_pos c29] at H
        have c29b0 : decide ((bt a0 x3_1) < 48) = true := decide_eq_true c29
        clear c29
        by_cases c30 : (bt a0 x3_1) = 43
        ·rw [if_pos c30] at H
         have c30b0 : ((bt a0 x3_1) == 43) = true := beq_iff_eq.mpr c30
         have c30b1 : ((bt a0 x3_1) != 43) = false := bne_eq_false_iff_eq.mpr c30
         clear c30
         have H' := Aside0.mk H
         clear H
         have p4 : 0 ≤ (x3_1 : Int) := of_decide_eq_true (by first | (with_reducible assumption) | assumption)
         have q4 : x3_1 < (a0.size : Int) := of_decide_eq_true (by first | (with_reducible assumption) | assumption)
         have hx4 := bt_at a0 x3_1
         replace p4 := eq_true p4
         replace q4 := eq_true q4
         go_wp2
         go_roundg k1
         case measure => have := HK1.out; omega
         case rel => exact ⟨(wrap64 (x3_1 + 1)), (by first | rfl | (simp; done) | (simp [*]; done)), H', ⟨by have := HK1.out; omega⟩, by repeat (first | exact Drawn0.refl _ | apply Drawn0.step)⟩
        ·rw [if_neg c30] at H
         have c30b0 : ((bt a0 x3_1) == 43) = false := beq_eq_false_iff_ne.mpr c30
         have c30b1 : ((bt a0 x3_1) != 43) = true := bne_iff_ne.mpr c30
         by_cases c31 : (bt a0 x3_1) = 45
         ·rw [if_pos c31] at H
          have c31b0 : ((bt a0 x3_1) == 45) = true := beq_iff_eq.mpr c31
          have c31b1 : ((bt a0 x3_1) != 45) = false := bne_eq_false_iff_eq.mpr c31
          clear c31
          have H' := Aside0.mk H
          clear H
          have p4 : 0 ≤ (x3_1 : Int) := of_decide_eq_true (by first | (with_reducible assumption) | assumption)
          have q4 : x3_1 < (a0.size : Int) := of_decide_eq_true (by first | (with_reducible assumption) | assumption)
          have hx4 := bt_at a0 x3_1
          replace p4 := eq_true p4
          replace q4 := eq_true q4
          go_wp2
          go_roundg k1
          case measure => have := HK1.out; omega
          case rel => exact ⟨(wrap64 (x3_1 + 1)), (by first | rfl | (simp; done) | (simp [*]; done)), H', ⟨by have := HK1.out; omega⟩, by repeat (first | exact Drawn0.refl _ | apply Drawn0.step)⟩
         ·rw [if_neg c31] at H
          have c31b0 : ((bt a0 x3_1) == 45) = false := beq_eq_false_iff_ne.mpr c31
          have c31b1 : ((bt a0 x3_1) != 45) = true := bne_iff_ne.mpr c31
          obtain rfl := Option.some.inj H
          have p4 : 0 ≤ (x3_1 : Int) := of_decide_eq_true (by first | (with_reducible assumption) | assumption)
          have q4 : x3_1 < (a0.size : Int) := of_decide_eq_true (by first | (with_reducible assumption) | assumption)
          have hx4 := bt_at a0 x3_1
          replace p4 := eq_true p4
          replace q4 := eq_true q4
          go_wp2
          go_ret
          exact ⟨by first | rfl | (simp; done) | (simp [*]; done), by repeat (first | exact Drawn0.refl _ | apply Drawn0.step)⟩
       ·rw [if_neg c29] at H
        have c29b0 : decide ((bt a0 x3_1) < 48) = false := decide_eq_false c29
        clear c29
        by_cases c32 : (bt a0 x3_1) > 57
        ·rw [if_pos c32] at H
         have c32b0 : decide (57 < (bt a0 x3_1)) = true := decide_eq_true c32
         clear c32
         by_cases c33 : (bt a0 x3_1) = 43
         ·rw [if_pos c33] at H
          have c33b0 : ((bt a0 x3_1) == 43) = true := beq_iff_eq.mpr c33
          have c33b1 : ((bt a0 x3_1) != 43) = false := bne_eq_false_iff_eq.mpr c33
          clear c33
          have H' := Aside0.mk H
          clear H
          have p4 : 0 ≤ (x3_1 : Int) := of_decide_eq_true (by first | (with_reducible assumption) | assumption)
          have q4 : x3_1 < (a0.size : Int) := of_decide_eq_true (by first | (with_reducible assumption) | assumption)
          have hx4 := bt_at a0 x3_1
          replace p4 := eq_true p4
          replace q4 := eq_true q4
          go_wp2
          go_roundg k1
          case measure => have := HK1.out; omega
          case rel => exact ⟨(wrap64 (x3_1 + 1)), (by first | rfl | (simp; done) | (simp [*]; done)), H', ⟨by have := HK1.out; omega⟩, by repeat (first | exact Drawn0.refl _ | apply Drawn0.step)⟩
         ·rw [if_neg c33] at H
          have c33b0 : ((bt a0 x3_1) == 43) = false := beq_eq_false_iff_ne.mpr c33
          have c33b1 : ((bt a0 x3_1) != 43) = true := bne_iff_ne.mpr c33
          by_cases c34 : (bt a0 x3_1) = 45
          ·rw [if_pos c34] at H
           have c34b0 : ((bt a0 x3_1) == 45) = true := beq_iff_eq.mpr c34
           have c34b1 : ((bt a0 x3_1) != 45) = false := bne_eq_false_iff_eq.mpr c34
           clear c34
           have H' := Aside0.mk H
           clear H
           have p4 : 0 ≤ (x3_1 : Int) := of_decide_eq_true (by first | (with_reducible assumption) | assumption)
           have q4 : x3_1 < (a0.size : Int) := of_decide_eq_true (by first | (with_reducible assumption) | assumption)
           have hx4 := bt_at a0 x3_1
           replace p4 := eq_true p4
           replace q4 := eq_true q4
           go_wp2
           go_roundg k1
           case measure => have := HK1.out; omega
           case rel => exact ⟨(wrap64 (x3_1 + 1)), (by first | rfl | (simp; done) | (simp [*]; done)), H', ⟨by have := HK1.out; omega⟩, by repeat (first | exact Drawn0.refl _ | apply Drawn0.step)⟩
          ·rw [if_neg c34] at H
           have c34b0 : ((bt a0 x3_1) == 45) = false := beq_eq_false_iff_ne.mpr c34
           have c34b1 : ((bt a0 x3_1) != 45) = true := bne_iff_ne.mpr c34
           obtain rfl := Option.some.inj H
           have p4 : 0 ≤ (x3_1 : Int) := of_decide_eq_true (by first | (with_reducible assumption) | assumption)
           have q4 : x3_1 < (a0.size : Int) := of_decide_eq_true (by first | (with_reducible assumption) | assumption)
           have hx4 := bt_at a0 x3_1
           replace p4 := eq_true p4
           replace q4 := eq_true q4
           go_wp2
           go_ret
           exact ⟨by first | rfl | (simp; done) | (simp [*]; done), by repeat (first | exact Drawn0.refl _ | apply Drawn0.step)⟩
        ·rw [if_neg c32] at H
         have c32b0 : decide (57 < (bt a0 x3_1)) = false := decide_eq_false c32
         clear c32
         have H' := Aside0.mk H
         clear H
         have p4 : 0 ≤ (x3_1 : Int) := of_decide_eq_true (by first | (with_reducible assumption) | assumption)
         have q4 : x3_1 < (a0.size : Int) := of_decide_eq_true (by first | (with_reducible assumption) | assumption)
         have hx4 := bt_at a0 x3_1
         replace p4 := eq_true p4
         replace q4 := eq_true q4
         go_wp2
         go_roundg k1
         case measure => have := HK1.out; omega
         case rel => exact ⟨(wrap64 (x3_1 + 1)), (by first | rfl | (simp; done) | (simp [*]; done)), H', ⟨by have := HK1.out; omega⟩, by repeat (first | exact Drawn0.refl _ | apply Drawn0.step)⟩
    ·rw [if_neg c3] at H
     exact absurd H (by simp)
   ·rw [if_neg c2] at H
    have c2b0 : decide (x3_1 < (a0.size : Int)) = false := decide_eq_false c2
    clear c2
    by_cases c35 : (a0.size : Int) ≥ 3
    ·rw [if_pos c35] at H
     have c35b0 : decide (3 ≤ (a0.size : Int)) = true := decide_eq_true c35
     have c35b1 : decide (3 ≤ a0.size) = true := decide_eq_true (by omega)
     clear c35
     obtain rfl := Option.some.inj H
     go_wp2
     go_ret
     exact ⟨by first | rfl | (simp; done) | (simp [*]; done), by repeat (first | exact Drawn0.refl _ | apply Drawn0.step)⟩
    ·rw [if_neg c35] at H
     have c35b0 : decide (3 ≤ (a0.size : Int)) = false := decide_eq_false c35
     have c35b1 : decide (3 ≤ a0.size) = false := decide_eq_false (by omega)
     clear c35
     obtain rfl := Option.some.inj H
     go_wp2
     go_ret
     exact ⟨by first | rfl | (simp; done) | (simp [*]; done), by repeat (first | exact Drawn0.refl _ | apply Drawn0.step)⟩
end Go.Proofs.Ytpgjcnjojfehjaa.PPool
namespace Go.Proofs.Ytpgjcnjojfehjaa.PPool
open Go.RowKit Go.Proofs.YtpgjcnjojfehjaaW.PrintWords Go.Proofs.YtpgjcnjojfehjaaW.PrintLast Go.Proofs.YtpgjcnjojfehjaaW.PrintMore
attribute [local go_sem] max2_int min2_int max_two min_two max_three min_three max_four min_four   -- for this text's walks alone
set_option linter.unusedVariables false
set_option linter.unusedSimpArgs false
mutual
def epactref14_Pool.l0 : Nat → List ByteArray → ByteArray → List Int → Int → Option (ByteArray × List Int × Bool)
 | 0, _, _, _, _ => none
 | k + 1, x0, x5, x6, x7 => if x7 < (x0.length : Int) then (if 0 ≤ x7 then ((epactref14_Right.f k (rdOf ByteArray.empty x0 x7)).bind fun t102 => (if t102 = true then (epactref14_Pool.l1 k x0 x5 x6 x7 (-1) 0) else (some ((⟨#[]⟩ : ByteArray), ([] : List Int), false)))) else (none)) else (if (x5.size : Int) > 256 then (some ((⟨#[]⟩ : ByteArray), ([] : List Int), false)) else (some (x5, x6, true)))
def epactref14_Pool.l1 : Nat → List ByteArray → ByteArray → List Int → Int → Int → Int → Option (ByteArray × List Int × Bool)
 | 0, _, _, _, _, _, _ => none
 | k + 1, x0, x5, x6, x7, x8, x9 => if x9 < x7 then (if 0 ≤ x9 then (if x9 < (x0.length : Int) then (if 0 ≤ x7 then (if x7 < (x0.length : Int) then (if (rdOf ByteArray.empty x0 x9).toList = (rdOf ByteArray.empty x0 x7).toList then (if x9 < (x6.length : Int) then (epactref14_Pool.l1 k x0 x5 x6 x7 (rd x6 x9) (wrap64 (x9 + 1))) else (none)) else (epactref14_Pool.l1 k x0 x5 x6 x7 x8 (wrap64 (x9 + 1)))) else (none)) else (none)) else (none)) else (none)) else (if x8 < 0 then (if 0 ≤ x7 then (if x7 < (x0.length : Int) then (if x5.size + (rdOf ByteArray.empty x0 x7).size ≤ 9223372036854775807 then (if (x5 ++ (rdOf ByteArray.empty x0 x7)).size + 1 ≤ 9223372036854775807 then (if x6.length < 17592186044416 then (epactref14_Pool.l0 k x0 ((x5 ++ (rdOf ByteArray.empty x0 x7)) ++ (⟨#[0]⟩ : ByteArray)) (x6 ++ [(x5.size : Int)]) (wrap64 (x7 + 1))) else (none)) else (none)) else (none)) else (none)) else (none)) else (if x6.length < 17592186044416 then (epactref14_Pool.l0 k x0 x5 (x6 ++ [x8]) (wrap64 (x7 + 1))) else (none)))
end
def epactref14_Pool.f (k : Nat) (l0 : List ByteArray) : Option (ByteArray × List Int × Bool) := epactref14_Pool.l0 k l0 (⟨#[]⟩ : ByteArray) ([] : List Int) 0
theorem epactref14_Pool.mono_l : ∀ k, (∀ y0 y1 y2 y3, LeO (epactref14_Pool.l0 k y0 y1 y2 y3) (epactref14_Pool.l0 (k + 1) y0 y1 y2 y3)) ∧ (∀ y0 y1 y2 y3 y4 y5, LeO (epactref14_Pool.l1 k y0 y1 y2 y3 y4 y5) (epactref14_Pool.l1 (k + 1) y0 y1 y2 y3 y4 y5))
 | 0 => ⟨fun _ _ _ _ r h => by simp [epactref14_Pool.l0] at h, fun _ _ _ _ _ _ r h => by simp [epactref14_Pool.l1] at h⟩
 | k + 1 => by
  obtain ⟨ih0, ih1⟩ := epactref14_Pool.mono_l k
  refine ⟨?_, ?_⟩
  ·intro y0 y1 y2 y3
   unfold epactref14_Pool.l0
   repeat' first
   | (with_reducible exact ih0 _ _ _ _)
   | (with_reducible exact ih1 _ _ _ _ _ _)
   | (with_reducible exact epactref14_Right.mono _ _)
   | (with_reducible exact LeO.refl _)
   | (with_reducible exact LeO.none _)
   | (with_reducible refine LeO.ite ?_ ?_)
   | (with_reducible refine LeO.bind ?_ (fun _ => ?_))
   | exact ih0 _ _ _ _
   | exact ih1 _ _ _ _ _ _
   | exact epactref14_Right.mono _ _
   | exact LeO.none _
   | refine LeO.ite ?_ ?_
   | refine LeO.bind ?_ (fun _ => ?_)
  ·intro y0 y1 y2 y3 y4 y5
   unfold epactref14_Pool.l1
   repeat' first
   | (with_reducible exact ih0 _ _ _ _)
   | (with_reducible exact ih1 _ _ _ _ _ _)
   | (with_reducible exact epactref14_Right.mono _ _)
   | (with_reducible exact LeO.refl _)
   | (with_reducible exact LeO.none _)
   | (with_reducible refine LeO.ite ?_ ?_)
   | (with_reducible refine LeO.bind ?_ (fun _ => ?_))
   | exact ih0 _ _ _ _
   | exact ih1 _ _ _ _ _ _
   | exact epactref14_Right.mono _ _
   | exact LeO.none _
   | refine LeO.ite ?_ ?_
   | refine LeO.bind ?_ (fun _ => ?_)
theorem epactref14_Pool.mono : ∀ a0 k, LeO (epactref14_Pool.f k a0) (epactref14_Pool.f (k + 1) a0) := by
 intro a0 k
 obtain ⟨ih0, ih1⟩ := epactref14_Pool.mono_l k
 unfold epactref14_Pool.f
 repeat' first
   | (with_reducible exact ih0 _ _ _ _)
   | (with_reducible exact ih1 _ _ _ _ _ _)
   | (with_reducible exact epactref14_Right.mono _ _)
   | (with_reducible exact LeO.refl _)
   | (with_reducible exact LeO.none _)
   | (with_reducible refine LeO.ite ?_ ?_)
   | (with_reducible refine LeO.bind ?_ (fun _ => ?_))
   | exact ih0 _ _ _ _
   | exact ih1 _ _ _ _ _ _
   | exact epactref14_Right.mono _ _
   | exact LeO.none _
   | refine LeO.ite ?_ ?_
   | refine LeO.bind ?_ (fun _ => ?_)
set_option maxHeartbeats 8000000 in
set_option maxRecDepth 100000 in
theorem epactref14_Pool.calls (k : Nat) (A0 : Option Addr) (c0 : Nat) (l0 : List ByteArray) (r1 : ByteArray) (r2 : List Int) (r3 : Bool) (w : World) (hr0 : Kd.C Kd.string w A0 l0.length l0) (hc0 : l0.length ≤ c0) (h : epactref14_Pool.f k l0 = some (r1, r2, r3)) :
  Calls Try.prog 20 #[.slice A0 l0.length c0] w fun e w' => ∃ v1_ : Value, e = .returned (.tuple #[.string r1, v1_, .bool r3]) ∧ Kd.R (Kd.int .i64) 3 w' w.heap.size (fun _ => True) v1_ r2 ∧ Below w.heap.size w w' := by
 have HR0 := Aside0.mk hr0
 have HC0 := Aside0.mk hc0
 clear hr0 hc0
 have HB := Aside0.mk (Below.refl w.heap.size w)
 have H : (epactref14_Pool.l0 k l0 (⟨#[]⟩ : ByteArray) ([] : List Int) 0) = some (r1, r2, r3) := h
 clear h
 have H' := Aside0.mk H
 clear H
 go_enter Try.func20, Try.ntmps20
 go_wp2
 repeat (go_quiet (fail); try go_wp2)
 go_loopg [5, 6, 7] k (fun kq v5 v6 v7 w' => ∃ (x5_1 : ByteArray) (x6_1 : List Int) (x7_1 : Int), v5 = .string x5_1 ∧ v7 = .int .i64 x7_1 ∧ Aside0 (epactref14_Pool.l0 kq l0 x5_1 x6_1 x7_1 = some (r1, r2, r3)) ∧ Aside0 (kq ≤ k) ∧ Aside0 (Kd.R (Kd.int .i64) 3 w' w.heap.size (fun _ => True) v6 x6_1) ∧ Aside0 (Below w.heap.size w w'))
 case atStart => exact ⟨((⟨#[]⟩ : ByteArray)), (([] : List Int)), (0), (by first | rfl | (simp; done) | (simp [*]; done)), (by first | rfl | (simp; done) | (simp [*]; done)), H', ⟨Nat.le_refl _⟩, ⟨by first | exact Kd.R_nil _ _ _ _ _ | exact Kd.N_nil _ _ _ _ _ | exact Kd.V_nil _ _ _ _ _ | exact Kd.Q_nil _ _ _ _ _ | exact Kd.S_nil _ _ _ _ _⟩, ⟨by repeat (first | (with_reducible first | exact HB.out | apply below_alloc | apply pw_below_drewN | apply below_drew1) | exact HB.out)⟩⟩
 case round =>
  clear H'
  obtain ⟨x5_1, x6_1, x7_1, rfl, rfl, HA, HK1, HO_6, HB⟩ := hrel
  cases gk with
  | zero => exact absurd HA.out (by simp [epactref14_Pool.l0])
  | succ k1 =>
   have H := HA.out
   clear HA
   simp only [epactref14_Pool.l0] at H
   by_cases c2 : x7_1 < (l0.length : Int)
   ·rw [if_pos c2] at H
    have c2b0 : decide (x7_1 < (l0.length : Int)) = true := decide_eq_true c2
    clear c2
    by_cases c3 : 0 ≤ x7_1
    ·rw [if_pos c3] at H
     have c3b0 : decide (0 ≤ x7_1) = true := decide_eq_true c3
     clear c3
     replace H := Option.bind_eq_some_iff.mp H
     obtain ⟨t102, A40, H⟩ := H
     replace H : (if t102 = true then (epactref14_Pool.l1 k1 l0 x5_1 x6_1 x7_1 (-1) 0) else (some ((⟨#[]⟩ : ByteArray), ([] : List Int), false))) = some (r1, r2, r3) := H
     have A4 := Aside0.mk A40
     clear A40
     by_cases c5 : t102 = true
     ·subst c5
      have H1 : (epactref14_Pool.l1 k1 l0 x5_1 x6_1 x7_1 (-1) 0) = some (r1, r2, r3) := by rw [if_pos rfl] at H; exact H
      clear H
      have H := H1
      clear H1
      have H' := Aside0.mk H
      clear H
      have p101 : 0 ≤ (x7_1 : Int) := of_decide_eq_true (by first | (with_reducible assumption) | assumption)
      have q101 : x7_1 < (l0.length : Int) := of_decide_eq_true (by first | (with_reducible assumption) | assumption)
      obtain ⟨ad101, e101, hx101_0⟩ := Kd.at_string HR0.out x7_1 p101 q101
      cases e101
      replace hx101_0 := (HB.out.cell (World.block_lt_of_cell? w _ hx101_0)).trans hx101_0
      replace p101 := eq_true p101
      replace q101 := eq_true q101
      go_wp2_with (first | (go_at_call 41; (with_reducible refine (epactref14_Right.calls k1 (rdOf ByteArray.empty l0 x7_1) true _ A4.out).mono ?_); rintro e w' ⟨rfl, ⟨nd, rfl⟩⟩; (try first | exact ⟨rfl, _, World.drewN_drewN _ _ _⟩ | exact ⟨rfl, _, Eq.trans (World.drewN_drewN _ _ _) (congrArg (World.drewN _) (Nat.add_assoc _ _ _))⟩)))
      repeat (go_quiet (first | (go_at_call 41; (with_reducible refine (epactref14_Right.calls k1 (rdOf ByteArray.empty l0 x7_1) true _ A4.out).mono ?_); rintro e w' ⟨rfl, ⟨nd, rfl⟩⟩; (try first | exact ⟨rfl, _, World.drewN_drewN _ _ _⟩ | exact ⟨rfl, _, Eq.trans (World.drewN_drewN _ _ _) (congrArg (World.drewN _) (Nat.add_assoc _ _ _))⟩))); try go_wp2_with (first | (go_at_call 41; (with_reducible refine (epactref14_Right.calls k1 (rdOf ByteArray.empty l0 x7_1) true _ A4.out).mono ?_); rintro e w' ⟨rfl, ⟨nd, rfl⟩⟩; (try first | exact ⟨rfl, _, World.drewN_drewN _ _ _⟩ | exact ⟨rfl, _, Eq.trans (World.drewN_drewN _ _ _) (congrArg (World.drewN _) (Nat.add_assoc _ _ _))⟩))))
      go_loopg [8, 9] k1 (fun kq v8 v9 w' => ∃ (x8_2 : Int) (x9_2 : Int), v8 = .int .i64 x8_2 ∧ v9 = .int .i64 x9_2 ∧ Aside0 (epactref14_Pool.l1 kq l0 x5_1 x6_1 x7_1 x8_2 x9_2 = some (r1, r2, r3)) ∧ Aside0 (kq ≤ k1) ∧ Aside0 (Kd.R (Kd.int .i64) 3 w' w.heap.size (fun _ => True) u6 x6_1) ∧ Aside0 (Below w.heap.size w w'))
      case atStart => exact ⟨((-1)), (0), (by first | rfl | (simp; done) | (simp [*]; done)), (by first | rfl | (simp; done) | (simp [*]; done)), H', ⟨Nat.le_refl _⟩, ⟨by (with_reducible repeat (first | apply Kd.R_alloc | apply Kd.R_drewN | apply Kd.R_drew)); exact HO_6.out⟩, ⟨by repeat (first | (with_reducible first | exact HB.out | apply below_alloc | apply pw_below_drewN | apply below_drew1) | exact HB.out)⟩⟩
      case round =>
       clear H'
       try clear p1
       try clear q1
       try clear hx1
       try clear c2
       try clear c2b0
       try clear p2
       try clear c3
       try clear c3b0
       try clear c5
       try clear hx101_0
       try clear p101
       try clear q101
       obtain ⟨x8_2, x9_2, rfl, rfl, HA, HK2, HO_6, HB⟩ := hrel
       cases gk with
       | zero => exact absurd HA.out (by simp [epactref14_Pool.l1])
       | succ k2 =>
        have H := HA.out
        clear HA
        simp only [epactref14_Pool.l1] at H
        by_cases c6 : x9_2 < x7_1
        ·rw [if_pos c6] at H
         have c6b0 : decide (x9_2 < x7_1) = true := decide_eq_true c6
         clear c6
         by_cases c7 : 0 ≤ x9_2
         ·rw [if_pos c7] at H
          have c7b0 : decide (0 ≤ x9_2) = true := decide_eq_true c7
          clear c7
          by_cases c8 : x9_2 < (l0.length : Int)
          ·rw [if_pos c8] at H
           have c8b0 : decide (x9_2 < (l0.length : Int)) = true := decide_eq_true c8
           clear c8
           by_cases c9 : 0 ≤ x7_1
           ·rw [if_pos c9] at H
            have c9b0 : decide (0 ≤ x7_1) = true := decide_eq_true c9
            clear c9
            by_cases c10 : x7_1 < (l0.length : Int)
            ·rw [if_pos c10] at H
             have c10b0 : decide (x7_1 < (l0.length : Int)) = true := decide_eq_true c10
             clear c10
             by_cases c11 : (rdOf ByteArray.empty l0 x9_2).toList = (rdOf ByteArray.empty l0 x7_1).toList
             ·rw [if_pos c11] at H
              have c11b0 : ((rdOf ByteArray.empty l0 x9_2).toList == (rdOf ByteArray.empty l0 x7_1).toList) = true := beq_iff_eq.mpr c11
              have c11b1 : ((rdOf ByteArray.empty l0 x9_2).toList != (rdOf ByteArray.empty l0 x7_1).toList) = false := bne_eq_false_iff_eq.mpr c11
              clear c11
              by_cases c12 : x9_2 < (x6_1.length : Int)
              ·rw [if_pos c12] at H
               have c12b0 : decide (x9_2 < (x6_1.length : Int)) = true := decide_eq_true c12
               clear c12
               have H' := Aside0.mk H
               clear H
               have p103 : 0 ≤ (x9_2 : Int) := of_decide_eq_true (by first | (with_reducible assumption) | assumption)
               have q103 : x9_2 < (l0.length : Int) := of_decide_eq_true (by first | (with_reducible assumption) | assumption)
               obtain ⟨ad103, e103, hx103_0⟩ := Kd.at_string HR0.out x9_2 p103 q103
               obtain rfl : ad101 = ad103 := (by injection e103)
               replace hx103_0 := (HB.out.cell (World.block_lt_of_cell? w _ hx103_0)).trans hx103_0
               replace p103 := eq_true p103
               replace q103 := eq_true q103
               have p104 : 0 ≤ (x7_1 : Int) := of_decide_eq_true (by first | (with_reducible assumption) | assumption)
               have q104 : x7_1 < (l0.length : Int) := of_decide_eq_true (by first | (with_reducible assumption) | assumption)
               obtain ⟨ad104, e104, hx104_0⟩ := Kd.at_string HR0.out x7_1 p104 q104
               obtain rfl : ad101 = ad104 := (by injection e104)
               replace hx104_0 := (HB.out.cell (World.block_lt_of_cell? w _ hx104_0)).trans hx104_0
               replace p104 := eq_true p104
               replace q104 := eq_true q104
               obtain ⟨Ao13, co13, eo13⟩ := Kd.R_slice HO_6.out
               subst eo13
               have p105 : 0 ≤ (x9_2 : Int) := of_decide_eq_true (by first | (with_reducible assumption) | assumption)
               have q105 : x9_2 < (x6_1.length : Int) := of_decide_eq_true (by first | (with_reducible assumption) | assumption)
               obtain ⟨ad105, e105, hx105_0⟩ := Kd.at_int (Kd.R_reads' HO_6.out).2.2 x9_2 p105 q105
               cases e105
               replace p105 := eq_true p105
               replace q105 := eq_true q105
               go_wp2
               repeat (go_quiet (fail); try go_wp2)
               go_roundg k2
               case measure => have := HK1.out; have := HK2.out; omega
               case rel => exact ⟨(rd x6_1 x9_2), (wrap64 (x9_2 + 1)), (by first | rfl | (simp; done) | (simp [*]; done)), (by first | rfl | (simp; done) | (simp [*]; done)), H', ⟨by have := HK1.out; have := HK2.out; omega⟩, ⟨by (with_reducible repeat (first | apply Kd.R_alloc | apply Kd.R_drewN | apply Kd.R_drew)); exact HO_6.out⟩, ⟨by repeat (first | (with_reducible first | exact HB.out | apply below_alloc | apply pw_below_drewN | apply below_drew1) | exact HB.out)⟩⟩
              ·rw [if_neg c12] at H
               exact absurd H (by simp)
             ·rw [if_neg c11] at H
              have c11b0 : ((rdOf ByteArray.empty l0 x9_2).toList == (rdOf ByteArray.empty l0 x7_1).toList) = false := beq_eq_false_iff_ne.mpr c11
              have c11b1 : ((rdOf ByteArray.empty l0 x9_2).toList != (rdOf ByteArray.empty l0 x7_1).toList) = true := bne_iff_ne.mpr c11
              have H' := Aside0.mk H
              clear H
              have p103 : 0 ≤ (x9_2 : Int) := of_decide_eq_true (by first | (with_reducible assumption) | assumption)
              have q103 : x9_2 < (l0.length : Int) := of_decide_eq_true (by first | (with_reducible assumption) | assumption)
              obtain ⟨ad103, e103, hx103_0⟩ := Kd.at_string HR0.out x9_2 p103 q103
              obtain rfl : ad101 = ad103 := (by injection e103)
              replace hx103_0 := (HB.out.cell (World.block_lt_of_cell? w _ hx103_0)).trans hx103_0
              replace p103 := eq_true p103
              replace q103 := eq_true q103
              have p104 : 0 ≤ (x7_1 : Int) := of_decide_eq_true (by first | (with_reducible assumption) | assumption)
              have q104 : x7_1 < (l0.length : Int) := of_decide_eq_true (by first | (with_reducible assumption) | assumption)
              obtain ⟨ad104, e104, hx104_0⟩ := Kd.at_string HR0.out x7_1 p104 q104
              obtain rfl : ad101 = ad104 := (by injection e104)
              replace hx104_0 := (HB.out.cell (World.block_lt_of_cell? w _ hx104_0)).trans hx104_0
              replace p104 := eq_true p104
              replace q104 := eq_true q104
              go_wp2
              repeat (go_quiet (fail); try go_wp2)
              go_roundg k2
              case measure => have := HK1.out; have := HK2.out; omega
              case rel => exact ⟨(x8_2), (wrap64 (x9_2 + 1)), (by first | rfl | (simp; done) | (simp [*]; done)), (by first | rfl | (simp; done) | (simp [*]; done)), H', ⟨by have := HK1.out; have := HK2.out; omega⟩, ⟨by (with_reducible repeat (first | apply Kd.R_alloc | apply Kd.R_drewN | apply Kd.R_drew)); exact HO_6.out⟩, ⟨by repeat (first | (with_reducible first | exact HB.out | apply below_alloc | apply pw_below_drewN | apply below_drew1) | exact HB.out)⟩⟩
            ·rw [if_neg c10] at H
             exact absurd H (by simp)
           ·rw [if_neg c9] at H
            exact absurd H (by simp)
          ·rw [if_neg c8] at H
           exact absurd H (by simp)
         ·rw [if_neg c7] at H
          exact absurd H (by simp)
        ·rw [if_neg c6] at H
         have c6b0 : decide (x9_2 < x7_1) = false := decide_eq_false c6
         clear c6
         by_cases c14 : x8_2 < 0
         ·rw [if_pos c14] at H
          have c14b0 : decide (x8_2 < 0) = true := decide_eq_true c14
          clear c14
          by_cases c15 : 0 ≤ x7_1
          ·rw [if_pos c15] at H
           have c15b0 : decide (0 ≤ x7_1) = true := decide_eq_true c15
           clear c15
           by_cases c16 : x7_1 < (l0.length : Int)
           ·rw [if_pos c16] at H
            have c16b0 : decide (x7_1 < (l0.length : Int)) = true := decide_eq_true c16
            clear c16
            by_cases c17 : x5_1.size + (rdOf ByteArray.empty l0 x7_1).size ≤ 9223372036854775807
            ·rw [if_pos c17] at H
             have c17b0 := eq_true c17
             have c17b1 : decide (x5_1.size + (rdOf ByteArray.empty l0 x7_1).size ≤ 9223372036854775807) = true := decide_eq_true c17
             try have c17b2 : (9223372036854775807 < x5_1.size + (rdOf ByteArray.empty l0 x7_1).size) = False := eq_false (Nat.not_lt.2 c17)
             by_cases c18 : (x5_1 ++ (rdOf ByteArray.empty l0 x7_1)).size + 1 ≤ 9223372036854775807
             ·rw [if_pos c18] at H
              have c18b0 := eq_true c18
              have c18b1 : decide ((x5_1 ++ (rdOf ByteArray.empty l0 x7_1)).size + 1 ≤ 9223372036854775807) = true := decide_eq_true c18
              try have c18b2 : (9223372036854775807 < (x5_1 ++ (rdOf ByteArray.empty l0 x7_1)).size + 1) = False := eq_false (Nat.not_lt.2 c18)
              have c18x : x5_1.size + (rdOf ByteArray.empty l0 x7_1).size + 1 ≤ 9223372036854775807 := by have h_ := c18; rw [ByteArray.size_append] at h_; exact h_
              have c18x0 := eq_true c18x
              have c18x1 : decide (x5_1.size + (rdOf ByteArray.empty l0 x7_1).size + 1 ≤ 9223372036854775807) = true := decide_eq_true c18x
              try have c18x2 : (9223372036854775807 < x5_1.size + (rdOf ByteArray.empty l0 x7_1).size + 1) = False := eq_false (Nat.not_lt.2 c18x)
              by_cases c19 : x6_1.length < 17592186044416
              ·rw [if_pos c19] at H
               have LMc19 := Aside0.mk c19
               clear c19
               obtain ⟨y107, hy107⟩ : ∃ y_ : List Int, y_ = (x6_1 ++ [(x5_1.size : Int)]) := ⟨_, rfl⟩
               replace H : (epactref14_Pool.l0 k2 l0 ((x5_1 ++ (rdOf ByteArray.empty l0 x7_1)) ++ (⟨#[0]⟩ : ByteArray)) y107 (wrap64 (x7_1 + 1))) = some (r1, r2, r3) := by first | (rw [hy107]; with_reducible exact H) | (have H2_ := (Option.bind_some _ _).symm.trans H; rw [hy107]; with_reducible exact H2_) | (have H2_ := (Option.bind_some _ _).symm.trans H; with_reducible exact H2_) | with_reducible exact H | (rw [hy107]; exact H) | exact H
               have Ny107 := Aside0.mk hy107
               clear hy107
               have H' := Aside0.mk H
               clear H
               have p106 : 0 ≤ (x7_1 : Int) := of_decide_eq_true (by first | (with_reducible assumption) | assumption)
               have q106 : x7_1 < (l0.length : Int) := of_decide_eq_true (by first | (with_reducible assumption) | assumption)
               obtain ⟨ad106, e106, hx106_0⟩ := Kd.at_string HR0.out x7_1 p106 q106
               obtain rfl : ad101 = ad106 := (by injection e106)
               replace hx106_0 := (HB.out.cell (World.block_lt_of_cell? w _ hx106_0)).trans hx106_0
               replace p106 := eq_true p106
               replace q106 := eq_true q106
               go_wp2_with (first | ((with_reducible refine gate_builtin (b := .append) (xs := #[.tmp 51, .tmp 53]) rfl ?_); at_builtin; refine Kd.R_append (Kd.int .i64) (w0 := w) w.heap.size rfl (.tmp 51) (.tmp 53) 51 3 (.int .i64 0) 8 rfl Try.underlying51 info3 rfl (by decide) (by omega) u6 x6_1 (x5_1.size : Int) [.int .i64 (x5_1.size : Int)] (fun _ => True) (fun _ => False) rfl rfl ?aP (fun _ hk => hk.elim) ?aF ?aO ?aB ?aS ?aL ?_; (case aP => exact rfl); (case aB => exact (by repeat (first | (with_reducible first | exact HB.out | apply below_alloc | apply pw_below_drewN | apply below_drew1) | exact HB.out))); (case aF => exact (fun _ _ => trivial)); (case aO => exact (by (with_reducible repeat (first | apply Kd.R_alloc | apply Kd.R_drewN | apply Kd.R_drew)); exact HO_6.out)); (case aS => exact (below_size (by repeat (first | (with_reducible first | exact HB.out | apply below_alloc | apply pw_below_drewN | apply below_drew1) | exact HB.out)))); (case aL => have := LMc19.out; omega); intro v108 w20 ho hb hg hat; rw [← Ny107.out] at ho; have n0_ := Aside0.mk (hb); have n1_ := Aside0.mk (ho); clear HB; clear HO_6; have HB := n0_; have HO109 := n1_; clear n0_ n1_; clear ho hb hg hat))
               repeat (go_quiet (first | ((with_reducible refine gate_builtin (b := .append) (xs := #[.tmp 51, .tmp 53]) rfl ?_); at_builtin; refine Kd.R_append (Kd.int .i64) (w0 := w) w.heap.size rfl (.tmp 51) (.tmp 53) 51 3 (.int .i64 0) 8 rfl Try.underlying51 info3 rfl (by decide) (by omega) u6 x6_1 (x5_1.size : Int) [.int .i64 (x5_1.size : Int)] (fun _ => True) (fun _ => False) rfl rfl ?aP (fun _ hk => hk.elim) ?aF ?aO ?aB ?aS ?aL ?_; (case aP => exact rfl); (case aB => exact (by repeat (first | (with_reducible first | exact HB.out | apply below_alloc | apply pw_below_drewN | apply below_drew1) | exact HB.out))); (case aF => exact (fun _ _ => trivial)); (case aO => exact (by (with_reducible repeat (first | apply Kd.R_alloc | apply Kd.R_drewN | apply Kd.R_drew)); exact HO_6.out)); (case aS => exact (below_size (by repeat (first | (with_reducible first | exact HB.out | apply below_alloc | apply pw_below_drewN | apply below_drew1) | exact HB.out)))); (case aL => have := LMc19.out; omega); intro v108 w20 ho hb hg hat; rw [← Ny107.out] at ho; have n0_ := Aside0.mk (hb); have n1_ := Aside0.mk (ho); clear HB; clear HO_6; have HB := n0_; have HO109 := n1_; clear n0_ n1_; clear ho hb hg hat)); try go_wp2_with (first | ((with_reducible refine gate_builtin (b := .append) (xs := #[.tmp 51, .tmp 53]) rfl ?_); at_builtin; refine Kd.R_append (Kd.int .i64) (w0 := w) w.heap.size rfl (.tmp 51) (.tmp 53) 51 3 (.int .i64 0) 8 rfl Try.underlying51 info3 rfl (by decide) (by omega) u6 x6_1 (x5_1.size : Int) [.int .i64 (x5_1.size : Int)] (fun _ => True) (fun _ => False) rfl rfl ?aP (fun _ hk => hk.elim) ?aF ?aO ?aB ?aS ?aL ?_; (case aP => exact rfl); (case aB => exact (by repeat (first | (with_reducible first | exact HB.out | apply below_alloc | apply pw_below_drewN | apply below_drew1) | exact HB.out))); (case aF => exact (fun _ _ => trivial)); (case aO => exact (by (with_reducible repeat (first | apply Kd.R_alloc | apply Kd.R_drewN | apply Kd.R_drew)); exact HO_6.out)); (case aS => exact (below_size (by repeat (first | (with_reducible first | exact HB.out | apply below_alloc | apply pw_below_drewN | apply below_drew1) | exact HB.out)))); (case aL => have := LMc19.out; omega); intro v108 w20 ho hb hg hat; rw [← Ny107.out] at ho; have n0_ := Aside0.mk (hb); have n1_ := Aside0.mk (ho); clear HB; clear HO_6; have HB := n0_; have HO109 := n1_; clear n0_ n1_; clear ho hb hg hat)))
               go_roundg k2
               case measure => have := HK1.out; have := HK2.out; omega
               case rel => exact ⟨((x5_1 ++ (rdOf ByteArray.empty l0 x7_1)) ++ (⟨#[0]⟩ : ByteArray)), (y107), (wrap64 (x7_1 + 1)), (by first | rfl | (simp; done) | (simp [*]; done)), (by first | rfl | (simp; done) | (simp [*]; done)), H', ⟨by have := HK1.out; have := HK2.out; omega⟩, ⟨by (with_reducible repeat (first | apply Kd.R_alloc | apply Kd.R_drewN | apply Kd.R_drew)); exact HO109.out⟩, ⟨by repeat (first | (with_reducible first | exact HB.out | apply below_alloc | apply pw_below_drewN | apply below_drew1) | exact HB.out)⟩⟩
              ·rw [if_neg c19] at H
               exact absurd H (by simp)
             ·rw [if_neg c18] at H
              exact absurd H (by simp)
            ·rw [if_neg c17] at H
             exact absurd H (by simp)
           ·rw [if_neg c16] at H
            exact absurd H (by simp)
          ·rw [if_neg c15] at H
           exact absurd H (by simp)
         ·rw [if_neg c14] at H
          have c14b0 : decide (x8_2 < 0) = false := decide_eq_false c14
          clear c14
          by_cases c21 : x6_1.length < 17592186044416
          ·rw [if_pos c21] at H
           have LMc21 := Aside0.mk c21
           clear c21
           obtain ⟨y110, hy110⟩ : ∃ y_ : List Int, y_ = (x6_1 ++ [x8_2]) := ⟨_, rfl⟩
           replace H : (epactref14_Pool.l0 k2 l0 x5_1 y110 (wrap64 (x7_1 + 1))) = some (r1, r2, r3) := by first | (rw [hy110]; with_reducible exact H) | (have H2_ := (Option.bind_some _ _).symm.trans H; rw [hy110]; with_reducible exact H2_) | (have H2_ := (Option.bind_some _ _).symm.trans H; with_reducible exact H2_) | with_reducible exact H | (rw [hy110]; exact H) | exact H
           have Ny110 := Aside0.mk hy110
           clear hy110
           have H' := Aside0.mk H
           clear H
           go_wp2_with (first | ((with_reducible refine gate_builtin (b := .append) (xs := #[.tmp 51, .tmp 53]) rfl ?_); at_builtin; refine Kd.R_append (Kd.int .i64) (w0 := w) w.heap.size rfl (.tmp 51) (.tmp 53) 51 3 (.int .i64 0) 8 rfl Try.underlying51 info3 rfl (by decide) (by omega) u6 x6_1 x8_2 [.int .i64 x8_2] (fun _ => True) (fun _ => False) rfl rfl ?aP (fun _ hk => hk.elim) ?aF ?aO ?aB ?aS ?aL ?_; (case aP => exact rfl); (case aB => exact (by repeat (first | (with_reducible first | exact HB.out | apply below_alloc | apply pw_below_drewN | apply below_drew1) | exact HB.out))); (case aF => exact (fun _ _ => trivial)); (case aO => exact (by (with_reducible repeat (first | apply Kd.R_alloc | apply Kd.R_drewN | apply Kd.R_drew)); exact HO_6.out)); (case aS => exact (below_size (by repeat (first | (with_reducible first | exact HB.out | apply below_alloc | apply pw_below_drewN | apply below_drew1) | exact HB.out)))); (case aL => have := LMc21.out; omega); intro v111 w22 ho hb hg hat; rw [← Ny110.out] at ho; have n0_ := Aside0.mk (hb); have n1_ := Aside0.mk (ho); clear HB; clear HO_6; have HB := n0_; have HO112 := n1_; clear n0_ n1_; clear ho hb hg hat))
           repeat (go_quiet (first | ((with_reducible refine gate_builtin (b := .append) (xs := #[.tmp 51, .tmp 53]) rfl ?_); at_builtin; refine Kd.R_append (Kd.int .i64) (w0 := w) w.heap.size rfl (.tmp 51) (.tmp 53) 51 3 (.int .i64 0) 8 rfl Try.underlying51 info3 rfl (by decide) (by omega) u6 x6_1 x8_2 [.int .i64 x8_2] (fun _ => True) (fun _ => False) rfl rfl ?aP (fun _ hk => hk.elim) ?aF ?aO ?aB ?aS ?aL ?_; (case aP => exact rfl); (case aB => exact (by repeat (first | (with_reducible first | exact HB.out | apply below_alloc | apply pw_below_drewN | apply below_drew1) | exact HB.out))); (case aF => exact (fun _ _ => trivial)); (case aO => exact (by (with_reducible repeat (first | apply Kd.R_alloc | apply Kd.R_drewN | apply Kd.R_drew)); exact HO_6.out)); (case aS => exact (below_size (by repeat (first | (with_reducible first | exact HB.out | apply below_alloc | apply pw_below_drewN | apply below_drew1) | exact HB.out)))); (case aL => have := LMc21.out; omega); intro v111 w22 ho hb hg hat; rw [← Ny110.out] at ho; have n0_ := Aside0.mk (hb); have n1_ := Aside0.mk (ho); clear HB; clear HO_6; have HB := n0_; have HO112 := n1_; clear n0_ n1_; clear ho hb hg hat)); try go_wp2_with (first | ((with_reducible refine gate_builtin (b := .append) (xs := #[.tmp 51, .tmp 53]) rfl ?_); at_builtin; refine Kd.R_append (Kd.int .i64) (w0 := w) w.heap.size rfl (.tmp 51) (.tmp 53) 51 3 (.int .i64 0) 8 rfl Try.underlying51 info3 rfl (by decide) (by omega) u6 x6_1 x8_2 [.int .i64 x8_2] (fun _ => True) (fun _ => False) rfl rfl ?aP (fun _ hk => hk.elim) ?aF ?aO ?aB ?aS ?aL ?_; (case aP => exact rfl); (case aB => exact (by repeat (first | (with_reducible first | exact HB.out | apply below_alloc | apply pw_below_drewN | apply below_drew1) | exact HB.out))); (case aF => exact (fun _ _ => trivial)); (case aO => exact (by (with_reducible repeat (first | apply Kd.R_alloc | apply Kd.R_drewN | apply Kd.R_drew)); exact HO_6.out)); (case aS => exact (below_size (by repeat (first | (with_reducible first | exact HB.out | apply below_alloc | apply pw_below_drewN | apply below_drew1) | exact HB.out)))); (case aL => have := LMc21.out; omega); intro v111 w22 ho hb hg hat; rw [← Ny110.out] at ho; have n0_ := Aside0.mk (hb); have n1_ := Aside0.mk (ho); clear HB; clear HO_6; have HB := n0_; have HO112 := n1_; clear n0_ n1_; clear ho hb hg hat)))
           go_roundg k2
           case measure => have := HK1.out; have := HK2.out; omega
           case rel => exact ⟨(x5_1), (y110), (wrap64 (x7_1 + 1)), (by first | rfl | (simp; done) | (simp [*]; done)), (by first | rfl | (simp; done) | (simp [*]; done)), H', ⟨by have := HK1.out; have := HK2.out; omega⟩, ⟨by (with_reducible repeat (first | apply Kd.R_alloc | apply Kd.R_drewN | apply Kd.R_drew)); exact HO112.out⟩, ⟨by repeat (first | (with_reducible first | exact HB.out | apply below_alloc | apply pw_below_drewN | apply below_drew1) | exact HB.out)⟩⟩
          ·rw [if_neg c21] at H
           exact absurd H (by simp)
     ·replace c5 := Bool.eq_false_iff.mpr c5
      subst c5
      have H1 : (some ((⟨#[]⟩ : ByteArray), ([] : List Int), false)) = some (r1, r2, r3) := by rw [if_neg (show ¬ (false = true) by decide)] at H; exact H
      clear H
      have H := H1
      clear H1
      simp only [Option.some.injEq, Prod.mk.injEq] at H
      obtain ⟨rfl, rfl, rfl⟩ := H
      have p101 : 0 ≤ (x7_1 : Int) := of_decide_eq_true (by first | (with_reducible assumption) | assumption)
      have q101 : x7_1 < (l0.length : Int) := of_decide_eq_true (by first | (with_reducible assumption) | assumption)
      obtain ⟨ad101, e101, hx101_0⟩ := Kd.at_string HR0.out x7_1 p101 q101
      cases e101
      replace hx101_0 := (HB.out.cell (World.block_lt_of_cell? w _ hx101_0)).trans hx101_0
      replace p101 := eq_true p101
      replace q101 := eq_true q101
      go_wp2_with (first | (go_at_call 41; (with_reducible refine (epactref14_Right.calls k1 (rdOf ByteArray.empty l0 x7_1) false _ A4.out).mono ?_); rintro e w' ⟨rfl, ⟨nd, rfl⟩⟩; (try first | exact ⟨rfl, _, World.drewN_drewN _ _ _⟩ | exact ⟨rfl, _, Eq.trans (World.drewN_drewN _ _ _) (congrArg (World.drewN _) (Nat.add_assoc _ _ _))⟩)))
      repeat (go_quiet (first | (go_at_call 41; (with_reducible refine (epactref14_Right.calls k1 (rdOf ByteArray.empty l0 x7_1) false _ A4.out).mono ?_); rintro e w' ⟨rfl, ⟨nd, rfl⟩⟩; (try first | exact ⟨rfl, _, World.drewN_drewN _ _ _⟩ | exact ⟨rfl, _, Eq.trans (World.drewN_drewN _ _ _) (congrArg (World.drewN _) (Nat.add_assoc _ _ _))⟩))); try go_wp2_with (first | (go_at_call 41; (with_reducible refine (epactref14_Right.calls k1 (rdOf ByteArray.empty l0 x7_1) false _ A4.out).mono ?_); rintro e w' ⟨rfl, ⟨nd, rfl⟩⟩; (try first | exact ⟨rfl, _, World.drewN_drewN _ _ _⟩ | exact ⟨rfl, _, Eq.trans (World.drewN_drewN _ _ _) (congrArg (World.drewN _) (Nat.add_assoc _ _ _))⟩))))
      go_ret3
      exact ⟨_, by first | rfl | (simp [errW_none, errW_some] <;> rfl) | (simp [*, errW_none, errW_some] <;> rfl), by first | exact Kd.R_nil _ _ _ _ _ | exact Kd.N_nil _ _ _ _ _ | exact Kd.V_nil _ _ _ _ _ | exact Kd.Q_nil _ _ _ _ _ | exact Kd.S_nil _ _ _ _ _, by repeat (first | (with_reducible first | exact HB.out | apply below_alloc | apply pw_below_drewN | apply below_drew1) | exact HB.out)⟩
    ·rw [if_neg c3] at H
     exact absurd H (by simp)
   ·rw [if_neg c2] at H
    have c2b0 : decide (x7_1 < (l0.length : Int)) = false := decide_eq_false c2
    clear c2
    by_cases c23 : (x5_1.size : Int) > 256
    ·rw [if_pos c23] at H
     have c23b0 : decide (256 < (x5_1.size : Int)) = true := decide_eq_true c23
     have c23b1 : decide (256 < x5_1.size) = true := decide_eq_true (by omega)
     clear c23
     simp only [Option.some.injEq, Prod.mk.injEq] at H
     obtain ⟨rfl, rfl, rfl⟩ := H
     go_wp2
     repeat (go_quiet (fail); try go_wp2)
     go_ret3
     exact ⟨_, by first | rfl | (simp [errW_none, errW_some] <;> rfl) | (simp [*, errW_none, errW_some] <;> rfl), by first | exact Kd.R_nil _ _ _ _ _ | exact Kd.N_nil _ _ _ _ _ | exact Kd.V_nil _ _ _ _ _ | exact Kd.Q_nil _ _ _ _ _ | exact Kd.S_nil _ _ _ _ _, by repeat (first | (with_reducible first | exact HB.out | apply below_alloc | apply pw_below_drewN | apply below_drew1) | exact HB.out)⟩
    ·rw [if_neg c23] at H
     have c23b0 : decide (256 < (x5_1.size : Int)) = false := decide_eq_false c23
     have c23b1 : decide (256 < x5_1.size) = false := decide_eq_false (by omega)
     clear c23
     simp only [Option.some.injEq, Prod.mk.injEq] at H
     obtain ⟨rfl, rfl, rfl⟩ := H
     go_wp2
     repeat (go_quiet (fail); try go_wp2)
     go_ret3
     exact ⟨_, by first | rfl | (simp [errW_none, errW_some] <;> rfl) | (simp [*, errW_none, errW_some] <;> rfl), by (with_reducible repeat (first | apply Kd.R_alloc | apply Kd.R_drewN | apply Kd.R_drew)); exact HO_6.out, by repeat (first | (with_reducible first | exact HB.out | apply below_alloc | apply pw_below_drewN | apply below_drew1) | exact HB.out)⟩
end Go.Proofs.Ytpgjcnjojfehjaa.PPool
