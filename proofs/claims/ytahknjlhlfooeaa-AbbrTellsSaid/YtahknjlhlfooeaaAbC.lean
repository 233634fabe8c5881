/- abbr.Pool: names in a pool: the walk (a map, strings that grow); condition: at most 1000 names. -/
import Derived.Test.YtahknjlhlfooeaaAbB
import Derived.Maps.OwnSet
import Derived.Carry
namespace Go.Proofs.Ytahknjlhlfooeaa.Ab
open Go.RowKit Go.Proofs.YtahknjlhlfooeaaW.PrintWords Go.Proofs.YtahknjlhlfooeaaW.PrintLast Go.Proofs.YtahknjlhlfooeaaW.PrintMore

def look : List (ByteArray × Int) → ByteArray → Option Int
  | [], _ => none
  | (s, k) :: r, t => if s = t then some k else look r t
/-- Names in a pool: the pool, which names it has and where, and where each begins; none: a name is wrong. -/
def poolS : List ByteArray → ByteArray → List (ByteArray × Int) → List Int → Option (ByteArray × List Int)
  | [], p, _, at_ => some (p, at_)
  | s :: r, p, had, at_ => match rightN s with
    | false => none
    | true => match look had s with
      | some k => poolS r p had (at_ ++ [k])
      | none => poolS r (p ++ (s ++ ⟨#[0]⟩)) ((s, p.size) :: had) (at_ ++ [(p.size : Int)])
def poolE : Option (ByteArray × List Int) → ByteArray × List Int × Bool
  | none => (⟨#[]⟩, [], false)
  | some (p, at_) => match decide (p.size > 256) with
    | true => (⟨#[]⟩, [], false)
    | false => (p, at_, true)
def poolT (l : List ByteArray) : ByteArray × List Int × Bool := poolE (poolS l ⟨#[]⟩ [] [])
/-- What the map holds. -/
def MapIs (D : DataW Unit) (had : List (ByteArray × Int)) : Prop := ∀ s : ByteArray, Maps.has D (.string s.data.toList) = (look had s).isSome ∧ ∀ k, look had s = some k → ∀ z, D.atKey (.string s.data.toList) z = .lit (.int .i64 k)
theorem law9 : Go.Maps.Keyed Try.prog 9 := Go.Maps.string_keyed Try.underlying9
theorem zero3 (w : World) : (zeroValue 3).run Try.prog w = .ok (.int .i64 0) w := by kernel_rfl
theorem info3 : (Try.prog.info? 3).map (fun i => (i.zero, i.size, i.bytes)) = some (some (.int .i64 0), 1, 8) := by kernel_rfl
theorem right_size {s : ByteArray} (h : rightN s = true) : 3 ≤ s.size ∧ s.size ≤ 16 := by
  unfold rightN at h
  rw [Bool.and_eq_true, decide_eq_true_eq] at h
  exact h.1
theorem mapIs_nil : MapIs (.map []) [] := fun s => ⟨rfl, fun k h => by cases h⟩
theorem key_ne {s t : ByteArray} (h : s ≠ t) : Lit.string s.data.toList ≠ Lit.string t.data.toList := fun e => h (by
  injection e with e
  cases s; cases t
  simp only at e
  congr
  exact Array.toList_inj.mp e)
theorem keyLit {l : List UInt8} : WideAt.IsKeyLit (.string l) := by first | trivial | exact ⟨_, rfl⟩ | simp [WideAt.IsKeyLit]
theorem mapIs_put {D : DataW Unit} {had : List (ByteArray × Int)} (h : MapIs D had) (hm : Maps.IsMap D) (t : ByteArray) (n : Int) : MapIs (D.put (.string t.data.toList) (.lit (.int .i64 n))) ((t, n) :: had) := fun s => by
  by_cases hs : t = s
  · subst hs
    have hl : look ((t, n) :: had) t = some n := if_pos rfl
    rw [hl]
    refine ⟨Maps.has_put_same hm keyLit _, fun k hk z => ?_⟩
    injection hk with hk
    subst hk
    exact Maps.atKey_put_same hm keyLit _ z
  · have hl : look ((t, n) :: had) s = look had s := if_neg hs
    rw [hl]
    have hne := key_ne (fun e => hs e.symm)
    refine ⟨(Maps.has_put_other hne _).trans (h s).1, fun k hk z => ?_⟩
    exact (Maps.atKey_put_other hne _ z).trans ((h s).2 k hk z)
set_option maxHeartbeats 4000000 in
theorem pool_walk (A : Option Addr) (c : Nat) (l : List ByteArray) (w : World) (hr : Kd.C Kd.string w A l.length l) (hl : l.length ≤ 1000) (hs : ∀ s ∈ l, s.size ≤ 9223372036854775807) :
    Calls Try.prog 8 #[.slice A l.length c] w fun e w' => ∃ v1, e = .returned (.tuple #[.string (poolT l).1, v1, .bool (poolT l).2.2]) ∧ Kd.R (Kd.int .i64) 3 w' w.heap.size (fun _ => True) v1 (poolT l).2.1 ∧ Below w.heap.size w w' := by
  have HR := Aside0.mk hr
  have HS := Aside0.mk hs
  have hmm := @run_makeMap Try.prog
  obtain ⟨res, hres⟩ : ∃ res, poolS l ⟨#[]⟩ [] [] = res := ⟨_, rfl⟩
  have hT : poolT l = poolE res := congrArg poolE hres
  rw [hT]
  have HRES := Aside0.mk hres
  clear hr hs hT hres
  go_enter Try.func8, Try.ntmps8
  go_wp2
  go_loopw [2, 3, 13] (fun p q i wr => ∃ (k : Nat) (ps : ByteArray) (D : DataW Unit) (had : List (ByteArray × Int)) (ats : List Int), k ≤ l.length ∧ p = .string ps ∧ i = .int .i64 k ∧ Aside0 (ps.size ≤ 17 * k) ∧ Aside0 (ats.length = k) ∧ Aside0 (poolS (l.drop k) ps had ats = res) ∧ Aside0 (wr.ownsMap Try.prog 9 (plainElem Try.prog 3) w.heap.size k D) ∧ Aside0 (MapIs D had) ∧ Aside0 (Kd.R (Kd.int .i64) 3 wr w.heap.size (fun b => b ≠ w.heap.size) q ats) ∧ Aside0 (Below w.heap.size w wr)) (fun _ _ i _ => l.length - (intOf i).toNat)
  case atStart => exact ⟨0, ⟨#[]⟩, .map [], [], [], by omega, rfl, rfl, ⟨by decide⟩, ⟨rfl⟩, ⟨by simpa using HRES.out⟩, ⟨World.ownsMap_made w Try.prog 9 _⟩, ⟨mapIs_nil⟩, ⟨Kd.R_nil _ _ _ _ _⟩, ⟨below_alloc (Below.refl _ _) _⟩⟩
  case round =>
    obtain ⟨k, ps, D, had, ats, hk, rfl, rfl, HZ, HL, HSP, HMP, HIS, HO, HBr⟩ := hrel
    by_cases hlt : k < l.length
    · obtain ⟨ad, rfl, hcell⟩ := Kd.at_string (Kd.C_below HR.out HBr.out) (k : Int) (by omega) (by omega)
      have hx : rdOf ByteArray.empty l (k : Int) = l[k] := by unfold rdOf; simp [List.getD, hlt]
      rw [hx, Int.toNat_natCast] at hcell
      have HD : Aside0 (l.drop k = l[k] :: l.drop (k + 1)) := ⟨List.drop_eq_getElem_cons hlt⟩
      have HZS := HS.out l[k] (List.getElem_mem hlt)
      generalize l[k] = s at *
      clear hx
      go_wp2_with fail
      refine (right_calls s _ HZS).mono ?_
      rintro e w1 ⟨rfl, hb1⟩
      have HB1 := Aside0.mk (below_then HBr.out HBr.out.size hb1)
      have HM1 := Aside0.mk (HMP.out.kept (grown_of_below hb1 none) (by simp))
      have HO1 := Aside0.mk (Kd.R_below HO.out hb1)
      clear hb1 HBr HMP HO
      cases hq : rightN s with
      | false =>
        have HN : Aside0 (res = none) := ⟨by rw [← HSP.out, HD.out]; unfold poolS; rw [hq]⟩
        clear hq
        have HN' := HN.out
        subst HN'
        go_wp2
        go_ret3
        exact ⟨_, rfl, Kd.R_nil _ _ _ _ _, HB1.out⟩
      | true =>
        have HZ16 := (right_size hq).2
        have hkey := WideMaps.keyOf_string_mk (P := Try.prog) Try.underlying9 (s := s) (by unfold maxLen; omega)
        cases hlk : look had s with
        | some kk =>
          have hhit : Maps.has D (.string s.data.toList) = true := by rw [(HIS.out s).1, hlk]; rfl
          have hat0 := (HIS.out s).2 kk hlk (.lit (.int .i64 0))
          have HN : Aside0 (poolS (l.drop (k + 1)) ps had (ats ++ [kk]) = res) := ⟨by rw [← HSP.out, HD.out]; conv => { rhs; unfold poolS }; rw [hq, hlk]⟩
          clear hq hlk
          go_wp2_with (first
            | (at_lookup; refine wpList_lookup_own_ok_int _ rfl _ _ 35 rfl 9 3 .i64 law9 Try.underlying35 Try.underlying3 (zero3 _) w.heap.size k D rfl HM1.out _ _ rfl hkey ?_; intro cc hat hwc; rw [hhit]; obtain rfl : kk = cc := by (rw [hat0] at hat; injection hat with hat; injection hat))
            | ((with_reducible refine gate_builtin (b := .append) (xs := #[.tmp 37, .tmp 39]) rfl ?_); at_builtin; refine Kd.R_append (Kd.int .i64) (w0 := w) w.heap.size rfl (.tmp 37) (.tmp 39) 24 3 (.int .i64 0) 8 rfl Try.underlying24 info3 rfl (by decide) (by omega) u3 ats kk [.int .i64 kk] (fun b => b ≠ w.heap.size) (fun _ => False) rfl rfl ?aP (fun _ hk => hk.elim) ?aF ?aO ?aB ?aS ?aL ?_; (case aP => exact rfl); (case aB => exact HB1.out); (case aF => exact (fun b hb => by have := HM1.out.lt; omega)); (case aO => exact HO1.out); (case aS => exact below_size HB1.out); (case aL => have := HL.out; omega); intro v4 w4 ho hb hg hat4))
          have HN1 : Aside0 (some w.heap.size ≠ u3.ownBlock) := ⟨fun e => HO1.out.1 _ e.symm rfl⟩
          have HM4 := Aside0.mk ((HM1.out.kept hg HN1.out).mono (Nat.le_succ k))
          have HO4 := Aside0.mk ho
          have HB4 := Aside0.mk hb
          have HL4 : Aside0 ((ats ++ [kk]).length = k + 1) := ⟨by have := HL.out; simp; omega⟩
          clear ho hb hg hat4
          go_wp2
          exact ⟨⟨k + 1, ps, D, had, ats ++ [kk], by omega, rfl, by go_num, ⟨by have := HZ.out; omega⟩, HL4, HN, HM4, HIS, HO4, HB4⟩, by simp [intOf]; omega⟩
        | none =>
          have HPS : Aside0 (ps.size ≤ 17000) := ⟨by have := HZ.out; omega⟩
          have HWF : Aside0 ((Lit.int .i64 (ps.size : Int)).wf = true) := ⟨by have := HPS.out; simp [Lit.wf, IntKind.min, IntKind.max, IntKind.signed, IntKind.bits]; omega⟩
          have hz1 : s.size + 1 ≤ 9223372036854775807 := by omega
          have hz2 : ps.size + (s ++ ⟨#[0]⟩ : ByteArray).size ≤ 9223372036854775807 := by rw [ByteArray.size_append]; have := HPS.out; have : (⟨#[0]⟩ : ByteArray).size = 1 := rfl; omega
          have hmiss : Maps.has D (.string s.data.toList) = false := by rw [(HIS.out s).1, hlk]; rfl
          have HN : Aside0 (poolS (l.drop (k + 1)) (ps ++ (s ++ ⟨#[0]⟩)) ((s, ps.size) :: had) (ats ++ [(ps.size : Int)]) = res) := ⟨by rw [← HSP.out, HD.out]; conv => { rhs; unfold poolS }; rw [hq, hlk]⟩
          clear hq hlk
          go_wp2_with (first
            | (at_lookup; refine wpList_lookup_own_ok_int _ rfl _ _ 35 rfl 9 3 .i64 law9 Try.underlying35 Try.underlying3 (zero3 _) w.heap.size k D rfl HM1.out _ _ rfl hkey ?_; intro cc hat hwc; rw [hmiss])
            | (at_mapUpdate; refine wpList_mapUpdate_own _ rfl _ _ _ 35 rfl 9 3 law9 Try.underlying35 _ w.heap.size k D rfl HM1.out (by unfold maxLen; omega) _ _ (.string s.data.toList) rfl rfl hkey (.lit (.int .i64 ps.size)) [] (plainElem_int Try.underlying3 HWF.out) ?_; intro w3 hm3 hg3; have HM3 := Aside0.mk hm3; have HB3 : Aside0 (Below w.heap.size w w3) := ⟨pw_below_grown HB1.out _ HB1.out.size hg3 (fun b e => by injection e with e; omega)⟩; have HO3 := Aside0.mk (Kd.R_grown HO1.out hg3 (fun b hb e => hb (by injection e))); clear hm3 hg3)
            | ((with_reducible refine gate_builtin (b := .append) (xs := #[.tmp 37, .tmp 39]) rfl ?_); at_builtin; refine Kd.R_append (Kd.int .i64) (w0 := w) w.heap.size rfl (.tmp 37) (.tmp 39) 24 3 (.int .i64 0) 8 rfl Try.underlying24 info3 rfl (by decide) (by omega) u3 ats (ps.size : Int) [.int .i64 (ps.size : Int)] (fun b => b ≠ w.heap.size) (fun _ => False) rfl rfl ?aP (fun _ hk => hk.elim) ?aF ?aO ?aB ?aS ?aL ?_; (case aP => exact rfl); (case aB => exact HB3.out); (case aF => exact (fun b hb => by have := HM3.out.lt; omega)); (case aO => exact HO3.out); (case aS => exact below_size HB3.out); (case aL => have := HL.out; omega); intro v4 w4 ho hb hg hat4))
          have HN3 : Aside0 (some w.heap.size ≠ u3.ownBlock) := ⟨fun e => HO3.out.1 _ e.symm rfl⟩
          have HM4 := Aside0.mk (HM3.out.kept hg HN3.out)
          have HO4 := Aside0.mk ho
          have HB4 := Aside0.mk hb
          have HL4 : Aside0 ((ats ++ [(ps.size : Int)]).length = k + 1) := ⟨by have := HL.out; simp; omega⟩
          clear ho hb hg hat4
          go_wp2
          exact ⟨⟨k + 1, _, _, _, _, by omega, rfl, by go_num, ⟨by rw [ByteArray.size_append, ByteArray.size_append]; have := HZ.out; have : (⟨#[0]⟩ : ByteArray).size = 1 := rfl; omega⟩, HL4, HN, HM4, ⟨mapIs_put HIS.out (HM1.out.isMap) s ps.size⟩, HO4, HB4⟩, by simp [intOf]; omega⟩
    · have hke : k = l.length := by omega
      have HN : Aside0 (res = some (ps, ats)) := ⟨by rw [← HSP.out, List.drop_of_length_le (by omega)]; rfl⟩
      clear HSP HRES
      have HN' := HN.out
      subst HN'
      clear HN
      by_cases h256 : ps.size > 256
      · have hE : poolE (some (ps, ats)) = (⟨#[]⟩, [], false) := by simp only [poolE, decide_eq_true h256]
        go_wp2
        go_ret3
        rw [hE]
        exact ⟨_, rfl, Kd.R_nil _ _ _ _ _, HBr.out⟩
      · have hE : poolE (some (ps, ats)) = (ps, ats, true) := by simp only [poolE, decide_eq_false h256]
        go_wp2
        go_ret3
        rw [hE]
        exact ⟨_, rfl, Kd.R_mono HO.out (fun _ _ => trivial), HBr.out⟩
/-- Pool, in one word. -/
def poolF (l : List ByteArray) : Option (ByteArray × List Int × Bool) := match decide (l.length ≤ 1000) && l.all (fun s => decide (s.size ≤ 9223372036854775807)) with
  | true => some (poolT l)
  | false => none
theorem pool_calls (A0 : Option Addr) (c0 : Nat) (l0 : List ByteArray) (r1 : ByteArray) (r2 : List Int) (r3 : Bool) (w : World) (hr0 : Kd.C Kd.string w A0 l0.length l0) (h : poolF l0 = some (r1, r2, r3)) :
    Calls Try.prog 8 #[.slice A0 l0.length c0] w fun e w' => ∃ v1_ : Value, e = .returned (.tuple #[.string r1, v1_, .bool r3]) ∧ Kd.R (Kd.int .i64) 3 w' w.heap.size (fun _ => True) v1_ r2 ∧ Below w.heap.size w w' := by
  unfold poolF at h
  cases hg : (decide (l0.length ≤ 1000) && l0.all (fun s => decide (s.size ≤ 9223372036854775807))) with
  | false => rw [hg] at h; cases h
  | true =>
    rw [hg] at h
    injection h with h
    rw [Bool.and_eq_true, decide_eq_true_eq] at hg
    have h2 := pool_walk A0 c0 l0 w hr0 hg.1 (fun s hs => of_decide_eq_true (List.all_eq_true.1 hg.2 s hs))
    rw [h] at h2
    exact h2
/-- At, in one word. -/
def atF (pool : ByteArray) (at_ : Int) : Option (ByteArray × Bool) := match decide (pool.size ≤ 9223372036854775807) with
  | true => some (atN pool at_)
  | false => none
theorem at_is (a0 : ByteArray) (a1 : Int) (r1 : ByteArray) (r2 : Bool) (w : World) (h : atF a0 a1 = some (r1, r2)) :
    Calls Try.prog 10 #[.string a0, .int .i64 a1] w fun e w' => e = .returned (.tuple #[.string r1, .bool r2]) ∧ Below w.heap.size w w' := by
  unfold atF at h
  by_cases hs : a0.size ≤ 9223372036854775807
  · rw [decide_eq_true hs] at h
    injection h with h
    exact at_calls a0 a1 r1 r2 w hs h
  · rw [decide_eq_false hs] at h
    cases h
/-- Right, in one word. -/
def rightF (s : ByteArray) : Option Bool := match decide (s.size ≤ 9223372036854775807) with
  | true => some (rightN s)
  | false => none
theorem right_is (a0 : ByteArray) (r : Bool) (w : World) (h : rightF a0 = some r) :
    Calls Try.prog 13 #[.string a0] w fun e w' => e = .returned (.bool r) ∧ Below w.heap.size w w' := by
  unfold rightF at h
  by_cases hs : a0.size ≤ 9223372036854775807
  · rw [decide_eq_true hs] at h
    injection h with h
    subst h
    exact right_calls a0 w hs
  · rw [decide_eq_false hs] at h
    cases h
end Go.Proofs.Ytahknjlhlfooeaa.Ab
