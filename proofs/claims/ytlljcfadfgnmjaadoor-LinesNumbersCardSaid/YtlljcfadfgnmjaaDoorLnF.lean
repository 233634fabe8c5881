/- The contracts of lines in one word; condition: sizes; for Cut and Split that internal/bytealg.MaxLen holds some number. -/
import Derived.Test.YtlljcfadfgnmjaaDoorLnE
namespace Go.Proofs.YtlljcfadfgnmjaaDoor.Ln
open Go.RowKit Go.Proofs.YtlljcfadfgnmjaaDoorW.PrintWords Go.Proofs.YtlljcfadfgnmjaaDoorW.PrintLast Go.Proofs.YtlljcfadfgnmjaaDoorW.PrintMore

theorem max_of_shaped {W : World} (h : W.ShapedOpen Tryd.prog) : MaxIs W := Tryd.laysM219.s1_3 W h
def ifB {α : Type} (b : Bool) (x : α) : Option α := match b with
  | true => some x
  | false => none
theorem ifB_some {α : Type} {b : Bool} {x y : α} (h : ifB b x = some y) : b = true ∧ x = y := by
  unfold ifB at h
  cases b with
  | true => injection h with h; exact ⟨rfl, h⟩
  | false => cases h
def numF (s : ByteArray) : Option (Int × Bool) := ifB (decide (s.size ≤ 9223372036854775807)) (numN s)
theorem number_is (a0 : ByteArray) (r1 : Int) (r2 : Bool) (w : World) (h : numF a0 = some (r1, r2)) :
    Calls Tryd.prog 11 #[.string a0] w fun e w' => e = .returned (.tuple #[.int .i64 r1, .bool r2]) ∧ Below w.heap.size w w' := by
  obtain ⟨hb, he⟩ := ifB_some h
  have h2 := number_calls a0 w (of_decide_eq_true hb)
  rw [he] at h2
  exact h2
def wordsN (s : ByteArray) : List ByteArray := wordsR s (s ++ ⟨#[32]⟩) (s.size + 1) 0 (-1) []
def wordsF (s : ByteArray) : Option (List ByteArray) := ifB (decide (s.size + 1 ≤ 8796093022208)) (wordsN s)
theorem words_is (a0 : ByteArray) (r : List ByteArray) (w : World) (h : wordsF a0 = some r) :
    Calls Tryd.prog 18 #[.string a0] w fun e w' => ∃ v0_ : Value, e = .returned v0_ ∧ Kd.R Kd.string 9 w' w.heap.size (fun _ => True) v0_ r ∧ Below w.heap.size w w' := by
  obtain ⟨hb, he⟩ := ifB_some h
  have h2 := words_calls a0 w (of_decide_eq_true hb)
  rw [show wordsR a0 (a0 ++ ⟨#[32]⟩) (a0.size + 1) 0 (-1) [] = r from he] at h2
  exact h2
def cutF (s at_ : ByteArray) : Option (ByteArray × ByteArray × Bool) := ifB (decide (s.size < 4294967281)) (cutN s at_)
theorem cut_is (a0 a1 r1 r2 : ByteArray) (r3 : Bool) (w : World) (hmax : MaxIs w) (h : cutF a0 a1 = some (r1, r2, r3)) :
    Calls Tryd.prog 13 #[.string a0, .string a1] w fun e w' => e = .returned (.tuple #[.string r1, .string r2, .bool r3]) ∧ Below w.heap.size w w' := by
  obtain ⟨hb, he⟩ := ifB_some h
  exact cut_calls a0 a1 r1 r2 r3 w hmax (of_decide_eq_true hb) he
def splitF (s : ByteArray) : Option (List ByteArray) := ifB (decide (s.size < 4294967281)) (splitN s)
theorem split_is (a0 : ByteArray) (r : List ByteArray) (w : World) (hmax : MaxIs w) (h : splitF a0 = some r) :
    Calls Tryd.prog 16 #[.string a0] w fun e w' => ∃ v0_ : Value, e = .returned v0_ ∧ Kd.R Kd.string 9 w' w.heap.size (fun _ => True) v0_ r ∧ Below w.heap.size w w' := by
  obtain ⟨hb, he⟩ := ifB_some h
  have h2 := split_calls a0 w hmax (of_decide_eq_true hb)
  rw [he] at h2
  exact h2
def foldF (s : ByteArray) : Option ByteArray := ifB (decide (s.size ≤ 9223372036854775807)) (foldS s)
theorem fold_is (a0 : ByteArray) (r : ByteArray) (w : World) (h : foldF a0 = some r) :
    Calls Tryd.prog 20 #[.string a0] w fun e w' => e = .returned (.string r) ∧ Below w.heap.size w w' := by
  obtain ⟨hb, he⟩ := ifB_some h
  have h2 := fold_calls a0 w (of_decide_eq_true hb)
  rw [he] at h2
  exact h2
end Go.Proofs.YtlljcfadfgnmjaaDoor.Ln
