/- An array of whole numbers that is handed in: its numbers; no condition. -/
import Derived.Test.YtncbhlionllpmaaRows
import Derived.OpenShut
import Derived.Lib.SmallJoins
namespace Go.Proofs.Ytncbhlionllpmaa.Nt
open Go.Joins Go.ChangeShapes Go.WideShapes Go.RowKit Go.Deep
def numOf : Value → Int
  | .int _ x => x
  | _ => 0
theorem open_arr {H : Type} {enc : TypeId × Value → H} {P : Program} {w : World} {base : Nat} {spare : Nat → Bool} {held : Bool} {r : Reach} {b0 : Nat} {t e : TypeId} {n : Nat} {k : IntKind} {v : Value} {d : DataW H} {p : List MemPlace}
    (ht : P.underlying t = some (.array n e)) (he : P.underlying e = some (.int k)) (hc : P.cellsOf e = 1) (hC : P.cellsOf t = n)
    (hv : Value.okWide P w r b0 t v) (h : DataW.Trod enc P w base spare held t v d p) :
    ∃ L : List Int, v = .agg (L.map (Value.int k)).toArray ∧ L.length = n ∧ ∀ i < n, (Lit.int k (L.getD i 0)).wf = true := by
  obtain ⟨cs, rfl, hsz, _⟩ : ∃ cs, v = .agg cs ∧ cs.size = P.cellsOf t ∧ Row.okWide P w r b0 t cs := by
    simpa [Value.okWide, ht] using hv
  rw [hC] at hsz
  obtain ⟨fuel, hf⟩ := h
  obtain ⟨ys, m, _, hx, _, hl, hel⟩ := DataW.trod_array ht hf
  have key : ∀ i, i < n → ∃ x : Int, cs.toList[i]? = some (.int k x) ∧ (Lit.int k x).wf = true := by
    intro i hi
    have h1 := hel i hi
    rw [hc, Nat.mul_one, List.getElem?_eq_getElem (by omega)] at h1
    obtain ⟨x, hx1, _, hw⟩ := DataW.trod_int he h1
    refine ⟨x, ?_, hw⟩
    have h2 := congrArg (·[0]?) hx1
    simpa [Value.cells, List.getElem?_take, List.getElem?_drop] using h2
  have hlen : cs.toList.length = n := by rw [Array.length_toList]; exact hsz
  refine ⟨cs.toList.map numOf, ?_, by rw [List.length_map, hlen], fun i hi => ?_⟩
  · congr 1
    apply Array.toList_inj.mp
    show cs.toList = (cs.toList.map numOf).map (Value.int k)
    rw [List.map_map]
    refine List.ext_getElem? fun i => ?_
    rw [List.getElem?_map]
    rcases Nat.lt_or_ge i n with h | h
    · obtain ⟨x, hx, _⟩ := key i h
      rw [hx]; rfl
    · rw [List.getElem?_eq_none (by omega)]; rfl
  · obtain ⟨x, hx, hw⟩ := key i hi
    have : (cs.toList.map numOf).getD i 0 = x := by simp only [List.getD, List.getElem?_map, hx]; rfl
    rw [this]
    exact hw
end Go.Proofs.Ytncbhlionllpmaa.Nt
