/- Arrays by value: what a walk asks of them; no condition. -/
import Derived.Test.YtncbhlionllpmaaNtA
import Derived.Deep.WholeRow
namespace Go.Proofs.Ytncbhlionllpmaa.Nt
open Go.RowKit Go.Proofs.YtncbhlionllpmaaW.PrintWords Go.Proofs.YtncbhlionllpmaaW.PrintLast Go.Proofs.YtncbhlionllpmaaW.PrintMore

def arrV (k : IntKind) (L : List Int) : Value := .agg (L.map (Value.int k)).toArray
def arrC (k : IntKind) (L : List Int) : Array Value := (L.map (Value.int k)).toArray
theorem arrC_size (k : IntKind) (L : List Int) : (arrC k L).size = L.length := by simp [arrC]
theorem arrC_at {k : IntKind} {L : List Int} {i : Nat} (h : i < L.length) : (arrC k L)[i]? = some (.int k (L.getD i 0)) := by
  simp [arrC, List.getD, h]
theorem arrC_set (k : IntKind) (L : List Int) (i : Nat) (x : Int) : (arrC k L).setIfInBounds i (.int k x) = arrC k (L.set i x) := by
  simp [arrC, List.map_set]
theorem arrC_one (k : IntKind) (L : List Int) : (arrC k L).all (·.oneCell') = true := by
  rw [Array.all_eq_true_iff_forall_mem]
  intro v hv
  simp [arrC] at hv
  obtain ⟨x, _, rfl⟩ := hv
  rfl
theorem run_index_arr {P : Program} {t e : TypeId} {n : Nat} {cs : Array Value} {k : Nat} {v : Value} (hu : ∀ W, (underlying t).run P W = .ok (.array n e) W) (hs : ∀ W, (sizeOf e).run P W = .ok 1 W) (ha : ∀ W, (isAgg e).run P W = .ok false W) (hk : k < n) (hv : cs[k]? = some v) :
    ∀ W, (Instr.index t (.agg cs) (.int .i64 (k : Int))).run P W = .ok v W := by
  intro W
  simp [Instr.index, go_sem, asIntOf, hu, hk, hs, ha, part, hv]
section
variable {P : Program} {ops : Array Oper} {rest : List Oper} {o : Oper} {a : Act} {Q : Exit → Act → World → Prop}
theorem load_event {W : World} (hgd : o.guard = none) {N : Tmp} (_hd : o.dst = some N) {t tt e : TypeId} {p : Operand} {g n : Nat} {cs : Array Value} (ho : o.op = .load t p) (hp : a.eval p = .pointer (some ⟨g, 0, none⟩)) (hb : W.heap[g]? = some (.cells cs tt (0, 0)))
    (hu : P.underlying t = some (.array n e)) (hi : (P.info? t).map (·.size) = some cs.size) (h : wpList P ops Q rest (a.put o.dst (.agg cs)) W) : wpList P ops Q (o :: rest) a W := by
  refine Kd.event_run hgd (v := .agg cs) (w1 := W) ?_ h
  have hr := run_loadVar_row (P := P) W g tt t cs (0, 0) _ hb hu rfl hi
  have h2 : (Instr.loadAt t (.pointer (some ⟨g, 0, none⟩))).run P W = .ok (.agg cs) W := by
    simp only [Instr.loadAt, Instr.sureAddr, Sem.run_bind, Sem.run_pure, Result.andThen]
    exact hr
  unfold execOp
  rw [ho]
  simp only [Sem.run_bind, hp, h2, Sem.run_pure, Result.andThen]
theorem storeAll_event {W : World} (hgd : o.guard = none) (hN : o.dst = none) {t tt : TypeId} {p v : Operand} {g : Nat} {old cs : Array Value} (ho : o.op = .store t p v) (hp : a.eval p = .pointer (some ⟨g, 0, none⟩)) (hv : a.eval v = .agg cs) (hb : W.heap[g]? = some (.cells old tt (0, 0)))
    (hi : (P.info? t).map (·.size) = some cs.size) (hs : old.size = cs.size) (h1 : cs.all (·.oneCell') = true) (h : wpList P ops Q rest a (W.setRow g cs)) : wpList P ops Q (o :: rest) a W := by
  have hr := run_storeVar_row (P := P) W g tt t old cs hb hi hs h1
  have hrun : (execOp a.eval o).run P W = .ok .skip (W.setRow g cs) := by
    have h2 : (Instr.storeAt t (.pointer (some ⟨g, 0, none⟩)) (.agg cs)).run P W = .ok () (W.setRow g cs) := by
      simp only [Instr.storeAt, Instr.sureAddr, Sem.run_bind, Sem.run_pure, Result.andThen]
      exact hr
    unfold execOp
    rw [ho]
    simp only [Sem.run_bind, hp, hv, h2, Sem.run_pure, Result.andThen]
  refine wpList_plain hgd fun K hK => ?_
  unfold Oper.wp
  rw [hrun]
  show K (a.put o.dst undef) _
  rw [hN]
  exact hK _ _ h
theorem make_event {W : World} (hgd : o.guard = none) {N : Tmp} (_hd : o.dst = some N) {cs : Array Value} {t : TypeId} {n : Nat}
    (hrun : (execOp a.eval o).run P W = .ok (.value (.slice (some ⟨W.heap.size, 0, none⟩) n n)) (W.alloc (.cells cs t (0, 0))))
    (h : ∀ g, g = W.heap.size → ∀ w1, w1.heap[g]? = some (.cells cs t (0, 0)) → Below W.heap.size W w1 → wpList P ops Q rest (a.put o.dst (.slice (some ⟨g, 0, none⟩) n n)) w1) : wpList P ops Q (o :: rest) a W :=
  Kd.event_run hgd hrun (h _ rfl _ (blk_new W _) (below_alloc (Below.refl _ _) _))
end
def strC (L : List ByteArray) : Array Value := (L.map Value.string).toArray
theorem strC_at {L : List ByteArray} {i : Nat} (h : i < L.length) : (strC L)[i]? = some (.string (L.getD i ByteArray.empty)) := by
  simp [strC, List.getD, h]
theorem strC_set (L : List ByteArray) (i : Nat) (x : ByteArray) : (strC L).setIfInBounds i (.string x) = strC (L.set i x) := by
  simp [strC, List.map_set]
end Go.Proofs.Ytncbhlionllpmaa.Nt
