/- Rows of calls (two numbers each): how they are read; rows of two types apart; no condition. -/
import Derived.Test.YtidfaolepgpggaaOctFails
import Derived.Deep.RegionHeld3
namespace Go.Proofs.Ytidfaolepgpggaa.Oct
open Go.RowKit Go.Proofs.YtidfaolepgpggaaW.PrintWords Go.Proofs.YtidfaolepgpggaaW.PrintLast Go.Proofs.YtidfaolepgpggaaW.PrintMore

def kAct : Kd (Int × Int) := Kd.pair (Kd.int .i64) (Kd.int .i64)
theorem info32 : (Try.prog.info? 32).map (fun i => (i.zero, i.size, i.bytes)) = some (some (.agg #[.int .i64 0, .int .i64 0]), 2, 16) := by kernel_rfl
theorem act_at {w : World} {A : Option Addr} {n : Nat} {l : List (Int × Int)} (h : kAct.C w A n l) (i : Nat) (hi : i < l.length) :
    ∃ ad, A = some ad ∧ w.cell? (ad.add (i * 2)) = some (.int .i64 (l[i]).1) ∧ w.cell? ⟨(ad.add (i * 2)).block, (ad.add (i * 2)).off + 1, none⟩ = some (.int .i64 (l[i]).2) := by
  obtain ⟨ad, e, hc⟩ := h.2.2 (by have := h.1; omega)
  obtain ⟨c, hs, hr, hcell⟩ := hc i l[i] (List.getElem?_eq_getElem hi)
  obtain ⟨c1, c2, rfl, h1, h2⟩ := hr
  have e1 : c1 = [.int .i64 (l[i]).1] := h1
  have e2 : c2 = [.int .i64 (l[i]).2] := h2
  subst e1 e2
  exact ⟨ad, e, hcell 0 _ rfl, by rw [← add_field ad (i * 2) 1 (by omega)]; exact hcell 1 _ rfl⟩
theorem R_other {α β : Type} {d : Kd α} {d' : Kd β} {e e' base base' : Nat} {ok ok' : Nat → Prop} {w w1 : World} {v v' : Value} {xs : List α} {ys : List β} (h : d.R e w base ok v xs) (h' : d'.R e' w base' ok' v' ys) (ht : ∀ q, q ∈ e :: d.E → q ≠ e') (hg : w.grownBy w1 v'.ownBlock) : d.R e w1 base ok v xs := by
  refine Kd.R_mono (Kd.R_step (Kd.R_bound h) (fun k hk hlt => hg.block k hlt ?_)) (fun _ hk => hk.1)
  intro he
  obtain ⟨_, _, _, q, hq, cells, hc⟩ := hk
  obtain ⟨inner, ho⟩ := Kd.R_own h'
  obtain ⟨cells', hc'⟩ := own_typed ho k he.symm
  rw [hc] at hc'
  injection hc' with hc'
  injection hc' with _ hc'
  exact ht q hq hc'
theorem put_at {A : Option Addr} {c : Nat} {l : List Int} {n size : Int} {w : World} {r : List Int} {b : Bool} (hp : putS l n size = (r, b)) (hr : Kd.C (Kd.int .u8) w A l.length l) (hl : l.length ≤ 140737488355320) :
    Calls Try.prog 10 #[.slice A l.length c, .int .i64 n, .int .i64 size] w fun e w' => ∃ A1 c1, e = .returned (.tuple #[.slice A1 r.length c1, .bool b]) ∧ Kd.R (Kd.int .u8) 5 w' w.heap.size (fun _ => True) (.slice A1 r.length c1) r ∧ Below w.heap.size w w' :=
  (put_calls A c l n size w hr hl).mono fun e w' ⟨v, he, hv, hb⟩ => by
    rw [hp] at he hv
    obtain ⟨A1, c1, rfl, hc, hr⟩ := Kd.R_reads hv
    exact ⟨A1, c1, he, hv, hb⟩
/-- A row of bytes is read still, and all that was there stays. -/
def Hold (wr w' : World) (A : Option Addr) (l : List Int) : Prop := Kd.C (Kd.int .u8) w' A l.length l ∧ Below wr.heap.size wr w'
theorem Hold.start {w : World} {A : Option Addr} {l : List Int} (h : Kd.C (Kd.int .u8) w A l.length l) : Hold w w.drew A l := ⟨Kd.C_drew h, below_drew (Below.refl _ _)⟩
theorem Hold.drew {wr w : World} {A : Option Addr} {l : List Int} (h : Hold wr w A l) : Hold wr w.drew A l := ⟨Kd.C_drew h.1, below_drew h.2⟩
theorem Hold.next {wr w w2 : World} {A : Option Addr} {l : List Int} (h : Hold wr w A l) (hb : Below w.heap.size w w2) : Hold wr w2 A l := ⟨Kd.C_below h.1 hb, below_step h.2 hb⟩
theorem cell_next {w w2 : World} {a : Addr} {v : Value} (h : w.cell? a = some v) (hb : Below w.heap.size w w2) : w2.cell? a = some v := (hb.cell (World.block_lt_of_cell? w a h)).trans h
end Go.Proofs.Ytidfaolepgpggaa.Oct
