/- Towards TopSources; no condition. Texts laid together, without what none of them names (wip/block/prune.py): Sq8, Sq9, Sz1, Sz2, Sz3, Sz4, Sz5, Sz6, Sz7, Su1, Su3, Su2, Su4, Su5, Su6, Sv0, Sv1, Sv2, Sv3, Sv4, Sv5. -/
import Derived.Test.YthjldemjipnmdaaGreatDoorV3
import Derived.Lib.ItoaLen
import Derived.WalkSpells
import Derived.RegionTactic
import Derived.KernelRfl
import Derived.Lib.BufferWrite
import Derived.Lib.AppendStr
namespace Go.Proofs.YthjldemjipnmdaaGreatDoor.Sx
open Go.RowKit
set_option maxRecDepth 100000
def t0L : Tbl := ⟨[], false, 0⟩
def ls0 : LSt := ⟨t0L, 0, false, []⟩
def runL : LSt → Nat → List LRow → LSt × Int × Int
 | st, _, [] => (st, 0, 0)
 | st, k, r :: l => if (lineF st ((k : Int) + 1) r).2 = 0 then runL (lineF st ((k : Int) + 1) r).1 (k + 1) l else ((lineF st ((k : Int) + 1) r).1, (k : Int) + 1, (lineF st ((k : Int) + 1) r).2)
theorem runL_nil (st : LSt) (k : Nat) : runL st k [] = (st, 0, 0) := rfl
theorem runL_cons (st : LSt) (k : Nat) (r : LRow) (l : List LRow) : runL st k (r :: l) = if (lineF st ((k : Int) + 1) r).2 = 0 then runL (lineF st ((k : Int) + 1) r).1 (k + 1) l else ((lineF st ((k : Int) + 1) r).1, (k : Int) + 1, (lineF st ((k : Int) + 1) r).2) := rfl
structure LInv (rs : List LRow) (k : Nat) (st : LSt) : Prop where
 at_ : ∀ p ∈ st.at_, 1 ≤ p.2 ∧ p.2 ≤ (k : Int) ∧ (rs.getD (p.2.toNat - 1) row0).kind = p.1 ∧ (rs.getD (p.2.toNat - 1) row0).right = true
 off : 0 ≤ st.off ∧ st.off ≤ 9223372036854775807
 rt : Rt st.tbl
 has : st.tbl.has = false
theorem add_rt (t : Tbl) (x : Lp) (h : Rt t) (hh : t.has = false) : Rt (addF t x).1 ∧ (addF t x).1.has = false := by
 unfold addF
 split
 ·exact ⟨h, hh⟩
 ·rename_i hc
  refine ⟨rt_of ?_, hh⟩
  unfold rightB
  exact decide_eq_true (Decidable.not_not.1 hc)
theorem data_inv (st : LSt) (n off : Int) (ho : 0 ≤ off ∧ off ≤ 9223372036854775807) (h1 : 0 ≤ st.off ∧ st.off ≤ 9223372036854775807) (h2 : Rt st.tbl) (h3 : st.tbl.has = false) : (0 ≤ (dataF st n off).1.off ∧ (dataF st n off).1.off ≤ 9223372036854775807) ∧ Rt (dataF st n off).1.tbl ∧ (dataF st n off).1.tbl.has = false := by
 unfold dataF
 split
 ·exact ⟨h1, h2, h3⟩
 ·split
  ·exact ⟨ho, h2, h3⟩
  ·split
   ·exact ⟨h1, h2, h3⟩
   ·split
    ·exact ⟨h1, h2, h3⟩
    ·exact ⟨ho, add_rt _ _ h2 h3⟩
theorem line_inv {rs : List LRow} {k : Nat} {st : LSt} {n : Nat} (h : LInv rs k st) (hp : RowP n (rs.getD k row0)) : LInv rs (k + 1) (lineF st ((k : Int) + 1) (rs.getD k row0)).1 := by
 have hat : ∀ p ∈ st.at_, 1 ≤ p.2 ∧ p.2 ≤ ((k + 1 : Nat) : Int) ∧ (rs.getD (p.2.toNat - 1) row0).kind = p.1 ∧ (rs.getD (p.2.toNat - 1) row0).right = true := fun p hp => by
  obtain ⟨a, b, c⟩ := h.at_ p hp
  exact ⟨a, by omega, c⟩
 have hsame : LInv rs (k + 1) st := ⟨hat, h.off, h.rt, h.has⟩
 unfold lineF
 split
 ·exact hsame
 ·rename_i hr
  split
  ·split
   ·exact hsame
   ·refine ⟨fun p hpm => ?_, h.off, h.rt, h.has⟩
    rcases List.mem_append.1 hpm with e | e
    ·exact hat p e
    ·rw [List.mem_singleton.1 e]
     simp only
     rw [show ((k : Int) + 1).toNat - 1 = k by omega]
     refine ⟨by omega, by omega, rfl, ?_⟩
     cases hb : (rs.getD k row0).right with
     | true => rfl
     | false => exact absurd hb hr
  ·split
   ·rename_i hk
    have hr' : (rs.getD k row0).right = true := by
     cases hb : (rs.getD k row0).right with
     | true => rfl
     | false => exact absurd hb hr
    have hd := hp.data hr' hk
    have hv := data_inv st ((rs.getD k row0).nums.getD 0 0) ((rs.getD k row0).nums.getD 1 0) hd.2.2 h.off h.rt h.has
    exact ⟨by rw [dataF_at]; exact hat, hv.1, hv.2.1, hv.2.2⟩
   ·exact hsame
def tblX (st : LSt) (rs : List LRow) : Tbl := if 0 < atF st.at_ kExp then { st.tbl with has := true, exp := (rs.getD ((atF st.at_ kExp).toNat - 1) row0).nums.getD 0 0 - 2208988800 } else st.tbl
def wantH (st : LSt) (s : ByteArray) : Nat → Int := (hashV (restOf ((splitF s).getD ((atF st.at_ kHash).toNat - 1) ByteArray.empty))).1
def gotH (rs : List LRow) : Nat → Int := wo (hashedD rs) 20
def endL (st : LSt) (s : ByteArray) : Tbl × Int × Int :=
 if st.begun = false then (t0L, ((rowsF s).length : Int) + 1, 2)
 else if 0 < atF st.at_ kExp ∧ rightB (tblX st (rowsF s)) = false then (t0L, atF st.at_ kExp, 9)
 else if 0 < atF st.at_ kHash ∧ eqH (wantH st s) (gotH (rowsF s)) = false then (t0L, atF st.at_ kHash, 3)
 else (tblX st (rowsF s), 0, 0)
def listF (s : ByteArray) : Tbl × Int × Int := if (runL ls0 0 (rowsF s)).2.2 = 0 then endL (runL ls0 0 (rowsF s)).1 s else (t0L, (runL ls0 0 (rowsF s)).2)
abbrev faultA (line code : Int) : AV := .agg (L2 (I line) (I code))
theorem t0_sub : Sub (.agg zT) (tblA t0L) := Sub.agg (SubL.cons imOf_nil (SubL.refl _))
theorem wrongL_ac (line code : Int) : AC Tryz.prog 44 (L2 (I line) (I code)) (.tup (L2 (.agg zT) (faultA line code))) := by
 refine AC.enter Tryz.func44 Tryz.ntmps44 rfl rfl rfl (fun F hX => ?_)
 repeat' (first | refine stp tab_ok rfl (by first | exact sideN | exact sideT (by omega)) ?_ | refine gT rfl rfl (by omega) ?_ | refine gF rfl rfl (by omega) ?_ | refine gNT rfl rfl (by omega) ?_ | refine gNF rfl rfl (by omega) ?_ | fail)
 repeat' (first | refine stp tab_ok rfl (by first | exact sideN | exact sideT (by omega)) ?_ | refine gT rfl rfl (by omega) ?_ | refine gF rfl rfl (by omega) ?_ | refine gNT rfl rfl (by omega) ?_ | refine gNF rfl rfl (by omega) ?_ | refine gS rfl rfl (fun _ => ?_) (fun _ => ?_) | refine gNS rfl rfl (fun _ => ?_) (fun _ => ?_) | refine gBS rfl rfl (fun _ => ?_) (fun _ => ?_) | refine gBN rfl rfl (fun _ => ?_) (fun _ => ?_) | refine good_ret tab_ok hX rfl (Sub.of_eq ?_) | refine good_end tab_ok hX rfl (Sub.of_eq ?_) | fail)
 rfl
theorem drop_getD (rs : List LRow) (k : Nat) (h : k < rs.length) : rs.drop k = rs.getD k row0 :: rs.drop (k + 1) := by
 rw [List.drop_eq_getElem_cons h]
 congr 1
 simp [List.getD, h]
set_option maxHeartbeats 2000000 in
theorem parseL_ac (s : ByteArray) (hs : s.size ≤ 7000) : AC Tryz.prog 21 (L1 (S s)) (.tup (L2 (tblA (listF s).1) (faultA (listF s).2.1 (listF s).2.2))) := by
 have hrs := rows_ac s (by omega)
 have hrp := rows_p s
 have hrl := rowsF_len s
 refine AC.enter Tryz.func21 Tryz.ntmps21 rfl rfl rfl (fun F hX => ?_)
 repeat' (first | refine stp tab_ok rfl (by first | exact sideN | exact sideT (by omega)) ?_ | refine gT rfl rfl (by omega) ?_ | refine gF rfl rfl (by omega) ?_ | refine gNT rfl rfl (by omega) ?_ | refine gNF rfl rfl (by omega) ?_ | fail)
 refine good_by rfl (ok_makeMap 14 102 rfl) rfl ?_
 repeat' (first | refine stp tab_ok rfl (by first | exact sideN | exact sideT (by omega)) ?_ | refine gT rfl rfl (by omega) ?_ | refine gF rfl rfl (by omega) ?_ | refine gNT rfl rfl (by omega) ?_ | refine gNF rfl rfl (by omega) ?_ | fail)
 refine good_call rfl rfl rfl rfl rfl ent45 (hrs) rfl ?_
 repeat' (first | refine stp tab_ok rfl (by first | exact sideN | exact sideT (by omega)) ?_ | refine gT rfl rfl (by omega) ?_ | refine gF rfl rfl (by omega) ?_ | refine gNT rfl rfl (by omega) ?_ | refine gNF rfl rfl (by omega) ?_ | fail)
 refine good_swap 5 2005 rfl (swap0 hX) ?_
 refine good_swap 14 2014 rfl (swap0 hX) ?_
 refine good_swap 2 2002 rfl (swap0 hX) ?_
 refine good_swap 3 2003 rfl (swap0 hX) ?_
 have hL : listF s = if (runL ls0 0 (rowsF s)).2.2 = 0 then endL (runL ls0 0 (rowsF s)).1 s else (t0L, (runL ls0 0 (rowsF s)).2) := rfl
 have hE : ∀ st, endL st s = if st.begun = false then (t0L, ((rowsF s).length : Int) + 1, 2) else if 0 < atF st.at_ kExp ∧ rightB (tblX st (rowsF s)) = false then (t0L, atF st.at_ kExp, 9) else if 0 < atF st.at_ kHash ∧ eqH (wantH st s) (gotH (rowsF s)) = false then (t0L, atF st.at_ kHash, 3) else (tblX st (rowsF s), 0, 0) := fun st => rfl
 have hhd := hashedF_ac s hs
 have hrv : rowsF s = (splitF s).map readF := rfl
 generalize rowsF s = rs at *
 generalize listF s = res at *
 refine good_rounds (fun x : Nat × LSt => [(6, rowsA rs), (18, rowsA rs), (19, I rs.length), (20, I x.1), (4, .fn 44 .nil), (5, .ptr 2005 0), (2, .ptr 2002 0), (3, .ptr 2003 0), (0, S s)]) (fun x : Nat × LSt => lstH x.2) (fun x : Nat × LSt => rs.length - x.1) (fun x : Nat × LSt => x.1 ≤ rs.length ∧ LInv rs x.1 x.2 ∧ runL x.2 x.1 (rs.drop x.1) = runL ls0 0 rs) (0, ls0) ⟨Nat.zero_le _, ⟨fun p hp => (by cases hp), by decide, rt_of rfl, rfl⟩, rfl⟩ (Wk.mk ⟨Sub.of_eq rfl, Sub.of_eq rfl, Sub.of_eq rfl, Sub.of_eq rfl, Sub.of_eq rfl, Sub.of_eq rfl, Sub.of_eq rfl, Sub.of_eq rfl, Sub.of_eq rfl, trivial⟩ ⟨⟨_, rfl, SubO.box (SubL.cons imOf_nil (SubL.refl _))⟩, ⟨_, rfl, SubO.raw rfl⟩, ⟨_, rfl, SubO.refl _⟩, ⟨_, rfl, SubO.refl _⟩, trivial⟩ rfl rfl (pin0 hX)) (fun x hx => ?_)
 obtain ⟨k, st⟩ := x
 obtain ⟨hk, hi, hrun⟩ := hx
 simp only at hk hi hrun ⊢
 have hM : ∀ p ∈ st.at_, 0 < p.2 := fun p hp => by have := (hi.at_ p hp).1; omega
 have htl := rt_len hi.rt
 by_cases hlt : k < rs.length
 ·obtain ⟨hrk, _⟩ := hrp k hlt
  have hnext := line_inv hi hrk
  rw [drop_getD rs k hlt, runL_cons] at hrun
  repeat' (first | refine stp tab_ok rfl (by first | exact sideN | exact sideT (by omega)) ?_ | refine gT rfl rfl (by omega) ?_ | refine gF rfl rfl (by omega) ?_ | refine gNT rfl rfl (by omega) ?_ | refine gNF rfl rfl (by omega) ?_ | fail)
  simp only [Int.toNat_natCast]
  repeat' (first | refine stp tab_ok rfl (by first | exact sideN | exact sideT (by omega)) ?_ | refine gT rfl rfl (by omega) ?_ | refine gF rfl rfl (by omega) ?_ | refine gNT rfl rfl (by omega) ?_ | refine gNF rfl rfl (by omega) ?_ | fail)
  refine good_weak (t' := [(26, I ((k : Int) + 1)), (27, .agg (rowL (rs.getD k row0))), (7, I k), (6, rowsA rs), (18, rowsA rs), (19, I rs.length), (20, I k), (4, .fn 44 .nil), (5, .ptr 2005 0), (2, .ptr 2002 0), (3, .ptr 2003 0), (0, S s)]) (h' := lstH st) (Wk.mk ⟨Sub.of_eq rfl, Sub.of_eq rfl, Sub.of_eq rfl, Sub.of_eq rfl, Sub.of_eq rfl, Sub.of_eq rfl, Sub.of_eq rfl, Sub.of_eq rfl, Sub.of_eq rfl, Sub.of_eq rfl, Sub.of_eq rfl, Sub.of_eq rfl, trivial⟩ ⟨⟨_, rfl, SubO.refl _⟩, ⟨_, rfl, SubO.refl _⟩, ⟨_, rfl, SubO.refl _⟩, ⟨_, rfl, SubO.refl _⟩, trivial⟩ rfl rfl (pin0 hX)) ?_
  refine good_callH rfl rfl rfl rfl ent46 (line_hc st (rs.getD k row0) ((k : Int) + 1) hM hrk.data hi.off (by omega)) rfl ?_
  generalize lineF st ((k : Int) + 1) (rs.getD k row0) = q at *
  by_cases he : q.2 = 0
  ·rw [if_pos he] at hrun
   repeat' (first | refine stp tab_ok rfl (by first | exact sideN | exact sideT (by omega)) ?_ | refine gT rfl rfl (by omega) ?_ | refine gF rfl rfl (by omega) ?_ | refine gNT rfl rfl (by omega) ?_ | refine gNF rfl rfl (by omega) ?_ | fail)
   exact good_again (k + 1, q.1) ⟨by omega, hnext, hrun⟩ (by simp only; omega) (Wk.mk ⟨Sub.of_eq rfl, Sub.of_eq rfl, Sub.of_eq rfl, Sub.of_eq rfl, Sub.of_eq rfl, Sub.of_eq rfl, Sub.of_eq rfl, Sub.of_eq rfl, Sub.of_eq rfl, trivial⟩ ⟨⟨_, rfl, SubO.refl _⟩, ⟨_, rfl, SubO.refl _⟩, ⟨_, rfl, SubO.refl _⟩, ⟨_, rfl, SubO.refl _⟩, trivial⟩ rfl rfl (pin0 hX))
  ·rw [if_neg he] at hrun
   repeat' (first | refine stp tab_ok rfl (by first | exact sideN | exact sideT (by omega)) ?_ | refine gT rfl rfl (by omega) ?_ | refine gF rfl rfl (by omega) ?_ | refine gNT rfl rfl (by omega) ?_ | refine gNF rfl rfl (by omega) ?_ | fail)
   refine good_call rfl rfl rfl rfl rfl ent44 (wrongL_ac ((k : Int) + 1) q.2) rfl ?_
   repeat' (first | refine stp tab_ok rfl (by first | exact sideN | exact sideT (by omega)) ?_ | refine gT rfl rfl (by omega) ?_ | refine gF rfl rfl (by omega) ?_ | refine gNT rfl rfl (by omega) ?_ | refine gNF rfl rfl (by omega) ?_ | fail)
   rw [hL, ← hrun, if_neg he]
   exact good_ret tab_ok hX rfl (Sub.tup (SubL.cons t0_sub (SubL.refl _)))
 ·obtain rfl : k = rs.length := by omega
  rw [List.drop_length, runL_nil] at hrun
  rw [hL, ← hrun, if_pos rfl, hE]
  simp only
  cases hbg : st.begun with
  | false =>
   rw [if_pos rfl]
   obtain ⟨tbl, off, begun, at_⟩ := st
   simp only at hbg
   subst hbg
   repeat' (first | refine stp tab_ok rfl (by first | exact sideN | exact sideT (by omega)) ?_ | refine gT rfl rfl (by omega) ?_ | refine gF rfl rfl (by omega) ?_ | refine gNT rfl rfl (by omega) ?_ | refine gNF rfl rfl (by omega) ?_ | fail)
   refine good_call rfl rfl rfl rfl rfl ent44 (wrongL_ac ((rs.length : Int) + 1) 2) rfl ?_
   repeat' (first | refine stp tab_ok rfl (by first | exact sideN | exact sideT (by omega)) ?_ | refine gT rfl rfl (by omega) ?_ | refine gF rfl rfl (by omega) ?_ | refine gNT rfl rfl (by omega) ?_ | refine gNF rfl rfl (by omega) ?_ | fail)
   exact good_ret tab_ok hX rfl (Sub.tup (SubL.cons t0_sub (SubL.refl _)))
  | true =>
   rw [if_neg (by decide)]
   obtain ⟨⟨leaps, has, exp⟩, off, begun, at_⟩ := st
   simp only at hbg
   subst hbg
   have hhas : has = false := hi.has
   subst hhas
   generalize hst : (⟨⟨leaps, false, exp⟩, off, true, at_⟩ : LSt) = st at *
   have e1 : st.tbl = ⟨leaps, false, exp⟩ := by rw [← hst]
   have e2 : lstL st = .cons (leapsA leaps) (.cons (B false) (.cons (I exp) (.cons (I off) (.cons (B true) (.cons (.own 2014) .nil))))) := by rw [← hst]; rfl
   unfold lstH
   rw [e2]
   repeat' (first | refine stp tab_ok rfl (by first | exact sideN | exact sideT (by omega)) ?_ | refine gT rfl rfl (by omega) ?_ | refine gF rfl rfl (by omega) ?_ | refine gNT rfl rfl (by omega) ?_ | refine gNF rfl rfl (by omega) ?_ | fail)
   rcases at_cases st.at_ kExp hM with ⟨hf, ha⟩ | ⟨i, n, hf, ha, hn, hmem⟩
   ·refine good_by rfl (ok_lookup 102 9 3 2014 _ _ false (mapEs st.at_).toArray st.at_.length (.string kExp) (.int .i64 0) .string none rfl rfl rfl und102 ((tab_ok 9 _ rfl).string rfl) trivial hf zero3) rfl ?_
    have hX0 : tblX st rs = ⟨leaps, false, exp⟩ := by unfold tblX; rw [if_neg (by omega), e1]
    rw [if_neg (fun h => by omega), hX0]
    repeat' (first | refine stp tab_ok rfl (by first | exact sideN | exact sideT (by omega)) ?_ | refine gT rfl rfl (by omega) ?_ | refine gF rfl rfl (by omega) ?_ | refine gNT rfl rfl (by omega) ?_ | refine gNF rfl rfl (by omega) ?_ | fail)
    rcases at_cases st.at_ kHash hM with ⟨hf, hb⟩ | ⟨j, m, hf, hb, hm, hmem⟩
    ·refine good_by rfl (ok_lookup 102 9 3 2014 _ _ false (mapEs st.at_).toArray st.at_.length (.string kHash) (.int .i64 0) .string none rfl rfl rfl und102 ((tab_ok 9 _ rfl).string rfl) trivial hf zero3) rfl ?_
     rw [if_neg (fun h => by omega)]
     repeat' (first | refine stp tab_ok rfl (by first | exact sideN | exact sideT (by omega)) ?_ | refine gT rfl rfl (by omega) ?_ | refine gF rfl rfl (by omega) ?_ | refine gNT rfl rfl (by omega) ?_ | refine gNF rfl rfl (by omega) ?_ | fail)
     exact good_ret tab_ok hX rfl (Sub.of_eq (by rfl))
    ·refine good_by rfl (ok_lookup 102 9 3 2014 _ _ false (mapEs st.at_).toArray st.at_.length (.string kHash) (.int .i64 0) .string (some (j, .int .i64 m)) rfl rfl rfl und102 ((tab_ok 9 _ rfl).string rfl) trivial hf zero3) rfl ?_
     have hq := hi.at_ _ hmem
     simp only at hq
     obtain ⟨w1, w2, w3, w4⟩ := hq
     have hjl : m.toNat - 1 < rs.length := by omega
     have hsl : m.toNat - 1 < (splitF s).length := by rw [hrv, List.length_map] at hjl; exact hjl
     have h2 : 2 ≤ ((splitF s).getD (m.toNat - 1) ByteArray.empty).size := read_hash _ (by rw [← (hrp _ hjl).2]; exact w3)
     have h3 := (split_size s).2 _ (getD_mem hsl)
     have hrest : (restOf ((splitF s).getD (m.toNat - 1) ByteArray.empty)).size ≤ 1000000 := by unfold restOf; rw [ByteArray.size_extract]; omega
     have hW : wantH st s = (hashV (restOf ((splitF s).getD (m.toNat - 1) ByteArray.empty))).1 := by unfold wantH; rw [hb]
     have hlen : rs.length = (splitF s).length := by rw [hrv, List.length_map]
     repeat' (first | refine stp tab_ok rfl (by first | exact sideN | exact sideT (by omega)) ?_ | refine gT rfl rfl (by omega) ?_ | refine gF rfl rfl (by omega) ?_ | refine gNT rfl rfl (by omega) ?_ | refine gNF rfl rfl (by omega) ?_ | fail)
     refine good_call rfl rfl rfl rfl rfl ent49 (split_ac s (by omega)) rfl ?_
     repeat' (first | refine stp tab_ok rfl (by first | exact sideN | exact sideT (by omega)) ?_ | refine gT rfl rfl (by omega) ?_ | refine gF rfl rfl (by omega) ?_ | refine gNT rfl rfl (by omega) ?_ | refine gNF rfl rfl (by omega) ?_ | fail)
     rw [show (m - 1).toNat = m.toNat - 1 by omega]
     repeat' (first | refine stp tab_ok rfl (by first | exact sideN | exact sideT (by omega)) ?_ | refine gT rfl rfl (by omega) ?_ | refine gF rfl rfl (by omega) ?_ | refine gNT rfl rfl (by omega) ?_ | refine gNF rfl rfl (by omega) ?_ | fail)
     refine good_call rfl rfl rfl rfl rfl ent48 (hash_ac (restOf ((splitF s).getD (m.toNat - 1) ByteArray.empty)) hrest) rfl ?_
     repeat' (first | refine stp tab_ok rfl (by first | exact sideN | exact sideT (by omega)) ?_ | refine gT rfl rfl (by omega) ?_ | refine gF rfl rfl (by omega) ?_ | refine gNT rfl rfl (by omega) ?_ | refine gNF rfl rfl (by omega) ?_ | fail)
     refine dg_start ?_
     repeat' (first | refine dgp tab_ok rfl (by first | exact sideN | exact sideT (by omega)) ?_ | fail)
     refine dg_call rfl rfl rfl rfl rfl ent50 (hhd) rfl ?_
     repeat' (first | refine dgp tab_ok rfl (by first | exact sideN | exact sideT (by omega)) ?_ | fail)
     refine dg_call rfl rfl rfl rfl rfl ent31 (shaWords_ac (hashedD rs) (fun i => wrap8_bd _)) rfl ?_
     refine dg_by rfl (fun _ => ok_neH _ _ _ (hashV (restOf ((splitF s).getD (m.toNat - 1) ByteArray.empty))).1 (gotH rs) rfl rfl) rfl ?_
     refine dg_end mixed rfl ?_
     rw [hW]
     cases heq : eqH (hashV (restOf ((splitF s).getD (m.toNat - 1) ByteArray.empty))).1 (gotH rs) with
     | true =>
      rw [if_neg (fun h => by cases h.2)]
      repeat' (first | refine stp tab_ok rfl (by first | exact sideN | exact sideT (by omega)) ?_ | refine gT rfl rfl (by omega) ?_ | refine gF rfl rfl (by omega) ?_ | refine gNT rfl rfl (by omega) ?_ | refine gNF rfl rfl (by omega) ?_ | fail)
      exact good_ret tab_ok hX rfl (Sub.of_eq (by rfl))
     | false =>
      rw [if_pos ⟨by omega, rfl⟩]
      repeat' (first | refine stp tab_ok rfl (by first | exact sideN | exact sideT (by omega)) ?_ | refine gT rfl rfl (by omega) ?_ | refine gF rfl rfl (by omega) ?_ | refine gNT rfl rfl (by omega) ?_ | refine gNF rfl rfl (by omega) ?_ | fail)
      refine good_call rfl rfl rfl rfl rfl ent44 (wrongL_ac m 3) rfl ?_
      repeat' (first | refine stp tab_ok rfl (by first | exact sideN | exact sideT (by omega)) ?_ | refine gT rfl rfl (by omega) ?_ | refine gF rfl rfl (by omega) ?_ | refine gNT rfl rfl (by omega) ?_ | refine gNF rfl rfl (by omega) ?_ | fail)
      exact good_ret tab_ok hX rfl (Sub.tup (SubL.cons t0_sub (SubL.cons (Sub.of_eq (by rw [hb])) (SubL.refl _))))
   ·refine good_by rfl (ok_lookup 102 9 3 2014 _ _ false (mapEs st.at_).toArray st.at_.length (.string kExp) (.int .i64 0) .string (some (i, .int .i64 n)) rfl rfl rfl und102 ((tab_ok 9 _ rfl).string rfl) trivial hf zero3) rfl ?_
    have hq := hi.at_ _ hmem
    simp only at hq
    obtain ⟨v1, v2, v3, v4⟩ := hq
    have hil : n.toNat - 1 < rs.length := by omega
    obtain ⟨x1, x2⟩ := (hrp _ hil).1.exp v4 v3
    have hX1 : tblX st rs = ⟨leaps, true, (rs.getD (n.toNat - 1) row0).nums.getD 0 0 - 2208988800⟩ := by unfold tblX; rw [if_pos (by omega), e1, ha]
    have hll : leaps.length ≤ 200 := by rw [e1] at htl; exact htl
    rw [hX1]
    repeat' (first | refine stp tab_ok rfl (by first | exact sideN | exact sideT (by omega)) ?_ | refine gT rfl rfl (by omega) ?_ | refine gF rfl rfl (by omega) ?_ | refine gNT rfl rfl (by omega) ?_ | refine gNF rfl rfl (by omega) ?_ | fail)
    rw [show (n - 1).toNat = n.toNat - 1 by omega]
    repeat' (first | refine stp tab_ok rfl (by first | exact sideN | exact sideT (by omega)) ?_ | refine gT rfl rfl (by omega) ?_ | refine gF rfl rfl (by omega) ?_ | refine gNT rfl rfl (by omega) ?_ | refine gNF rfl rfl (by omega) ?_ | fail)
    refine good_call rfl rfl rfl rfl rfl ent47 (posix_ac ((rs.getD (n.toNat - 1) row0).nums.getD 0 0) x2) rfl ?_
    repeat' (first | refine stp tab_ok rfl (by first | exact sideN | exact sideT (by omega)) ?_ | refine gT rfl rfl (by omega) ?_ | refine gF rfl rfl (by omega) ?_ | refine gNT rfl rfl (by omega) ?_ | refine gNF rfl rfl (by omega) ?_ | fail)
    refine good_call rfl rfl rfl rfl rfl ent26 (right_ac ⟨leaps, true, (rs.getD (n.toNat - 1) row0).nums.getD 0 0 - 2208988800⟩ (by simp only; omega)) rfl ?_
    cases hrb : rightB ⟨leaps, true, (rs.getD (n.toNat - 1) row0).nums.getD 0 0 - 2208988800⟩ with
    | false =>
     rw [if_pos ⟨by omega, rfl⟩]
     repeat' (first | refine stp tab_ok rfl (by first | exact sideN | exact sideT (by omega)) ?_ | refine gT rfl rfl (by omega) ?_ | refine gF rfl rfl (by omega) ?_ | refine gNT rfl rfl (by omega) ?_ | refine gNF rfl rfl (by omega) ?_ | fail)
     refine good_call rfl rfl rfl rfl rfl ent44 (wrongL_ac n 9) rfl ?_
     repeat' (first | refine stp tab_ok rfl (by first | exact sideN | exact sideT (by omega)) ?_ | refine gT rfl rfl (by omega) ?_ | refine gF rfl rfl (by omega) ?_ | refine gNT rfl rfl (by omega) ?_ | refine gNF rfl rfl (by omega) ?_ | fail)
     exact good_ret tab_ok hX rfl (Sub.tup (SubL.cons t0_sub (SubL.cons (Sub.of_eq (by rw [ha])) (SubL.refl _))))
    | true =>
     rw [if_neg (fun h => by cases h.2)]
     repeat' (first | refine stp tab_ok rfl (by first | exact sideN | exact sideT (by omega)) ?_ | refine gT rfl rfl (by omega) ?_ | refine gF rfl rfl (by omega) ?_ | refine gNT rfl rfl (by omega) ?_ | refine gNF rfl rfl (by omega) ?_ | fail)
     rcases at_cases st.at_ kHash hM with ⟨hf, hb⟩ | ⟨j, m, hf, hb, hm, hmem⟩
     ·refine good_by rfl (ok_lookup 102 9 3 2014 _ _ false (mapEs st.at_).toArray st.at_.length (.string kHash) (.int .i64 0) .string none rfl rfl rfl und102 ((tab_ok 9 _ rfl).string rfl) trivial hf zero3) rfl ?_
      rw [if_neg (fun h => by omega)]
      repeat' (first | refine stp tab_ok rfl (by first | exact sideN | exact sideT (by omega)) ?_ | refine gT rfl rfl (by omega) ?_ | refine gF rfl rfl (by omega) ?_ | refine gNT rfl rfl (by omega) ?_ | refine gNF rfl rfl (by omega) ?_ | fail)
      exact good_ret tab_ok hX rfl (Sub.of_eq (by rfl))
     ·refine good_by rfl (ok_lookup 102 9 3 2014 _ _ false (mapEs st.at_).toArray st.at_.length (.string kHash) (.int .i64 0) .string (some (j, .int .i64 m)) rfl rfl rfl und102 ((tab_ok 9 _ rfl).string rfl) trivial hf zero3) rfl ?_
      have hq := hi.at_ _ hmem
      simp only at hq
      obtain ⟨w1, w2, w3, w4⟩ := hq
      have hjl : m.toNat - 1 < rs.length := by omega
      have hsl : m.toNat - 1 < (splitF s).length := by rw [hrv, List.length_map] at hjl; exact hjl
      have h2 : 2 ≤ ((splitF s).getD (m.toNat - 1) ByteArray.empty).size := read_hash _ (by rw [← (hrp _ hjl).2]; exact w3)
      have h3 := (split_size s).2 _ (getD_mem hsl)
      have hrest : (restOf ((splitF s).getD (m.toNat - 1) ByteArray.empty)).size ≤ 1000000 := by unfold restOf; rw [ByteArray.size_extract]; omega
      have hW : wantH st s = (hashV (restOf ((splitF s).getD (m.toNat - 1) ByteArray.empty))).1 := by unfold wantH; rw [hb]
      have hlen : rs.length = (splitF s).length := by rw [hrv, List.length_map]
      repeat' (first | refine stp tab_ok rfl (by first | exact sideN | exact sideT (by omega)) ?_ | refine gT rfl rfl (by omega) ?_ | refine gF rfl rfl (by omega) ?_ | refine gNT rfl rfl (by omega) ?_ | refine gNF rfl rfl (by omega) ?_ | fail)
      refine good_call rfl rfl rfl rfl rfl ent49 (split_ac s (by omega)) rfl ?_
      repeat' (first | refine stp tab_ok rfl (by first | exact sideN | exact sideT (by omega)) ?_ | refine gT rfl rfl (by omega) ?_ | refine gF rfl rfl (by omega) ?_ | refine gNT rfl rfl (by omega) ?_ | refine gNF rfl rfl (by omega) ?_ | fail)
      rw [show (m - 1).toNat = m.toNat - 1 by omega]
      repeat' (first | refine stp tab_ok rfl (by first | exact sideN | exact sideT (by omega)) ?_ | refine gT rfl rfl (by omega) ?_ | refine gF rfl rfl (by omega) ?_ | refine gNT rfl rfl (by omega) ?_ | refine gNF rfl rfl (by omega) ?_ | fail)
      refine good_call rfl rfl rfl rfl rfl ent48 (hash_ac (restOf ((splitF s).getD (m.toNat - 1) ByteArray.empty)) hrest) rfl ?_
      repeat' (first | refine stp tab_ok rfl (by first | exact sideN | exact sideT (by omega)) ?_ | refine gT rfl rfl (by omega) ?_ | refine gF rfl rfl (by omega) ?_ | refine gNT rfl rfl (by omega) ?_ | refine gNF rfl rfl (by omega) ?_ | fail)
      refine dg_start ?_
      repeat' (first | refine dgp tab_ok rfl (by first | exact sideN | exact sideT (by omega)) ?_ | fail)
      refine dg_call rfl rfl rfl rfl rfl ent50 (hhd) rfl ?_
      repeat' (first | refine dgp tab_ok rfl (by first | exact sideN | exact sideT (by omega)) ?_ | fail)
      refine dg_call rfl rfl rfl rfl rfl ent31 (shaWords_ac (hashedD rs) (fun i => wrap8_bd _)) rfl ?_
      refine dg_by rfl (fun _ => ok_neH _ _ _ (hashV (restOf ((splitF s).getD (m.toNat - 1) ByteArray.empty))).1 (gotH rs) rfl rfl) rfl ?_
      refine dg_end mixed rfl ?_
      rw [hW]
      cases heq : eqH (hashV (restOf ((splitF s).getD (m.toNat - 1) ByteArray.empty))).1 (gotH rs) with
      | true =>
       rw [if_neg (fun h => by cases h.2)]
       repeat' (first | refine stp tab_ok rfl (by first | exact sideN | exact sideT (by omega)) ?_ | refine gT rfl rfl (by omega) ?_ | refine gF rfl rfl (by omega) ?_ | refine gNT rfl rfl (by omega) ?_ | refine gNF rfl rfl (by omega) ?_ | fail)
       exact good_ret tab_ok hX rfl (Sub.of_eq (by rfl))
      | false =>
       rw [if_pos ⟨by omega, rfl⟩]
       repeat' (first | refine stp tab_ok rfl (by first | exact sideN | exact sideT (by omega)) ?_ | refine gT rfl rfl (by omega) ?_ | refine gF rfl rfl (by omega) ?_ | refine gNT rfl rfl (by omega) ?_ | refine gNF rfl rfl (by omega) ?_ | fail)
       refine good_call rfl rfl rfl rfl rfl ent44 (wrongL_ac m 3) rfl ?_
       repeat' (first | refine stp tab_ok rfl (by first | exact sideN | exact sideT (by omega)) ?_ | refine gT rfl rfl (by omega) ?_ | refine gF rfl rfl (by omega) ?_ | refine gNT rfl rfl (by omega) ?_ | refine gNF rfl rfl (by omega) ?_ | fail)
       exact good_ret tab_ok hX rfl (Sub.tup (SubL.cons t0_sub (SubL.cons (Sub.of_eq (by rw [hb])) (SubL.refl _))))
end Go.Proofs.YthjldemjipnmdaaGreatDoor.Sx
namespace Go.Proofs.YthjldemjipnmdaaGreatDoor.Sx
open Go.RowKit
set_option maxRecDepth 100000
theorem hashT_ac (s : ByteArray) (hs : s.size ≤ 7000) : AC Tryz.prog 32 (L1 (S s)) (digA (hashedD (rowsF s))) := by
 have h1 := rows_ac s (by omega)
 have h2 := hashedF_ac s hs
 refine AC.enter Tryz.func32 Tryz.ntmps32 rfl rfl rfl (fun F hX => ?_)
 repeat' (first | refine stp tab_ok rfl (by first | exact sideN | exact sideT (by omega)) ?_ | refine gT rfl rfl (by omega) ?_ | refine gF rfl rfl (by omega) ?_ | refine gNT rfl rfl (by omega) ?_ | refine gNF rfl rfl (by omega) ?_ | fail)
 refine good_call rfl rfl rfl rfl rfl ent45 (h1) rfl ?_
 repeat' (first | refine stp tab_ok rfl (by first | exact sideN | exact sideT (by omega)) ?_ | refine gT rfl rfl (by omega) ?_ | refine gF rfl rfl (by omega) ?_ | refine gNT rfl rfl (by omega) ?_ | refine gNF rfl rfl (by omega) ?_ | fail)
 refine good_call rfl rfl rfl rfl rfl ent50 (h2) rfl ?_
 repeat' (first | refine stp tab_ok rfl (by first | exact sideN | exact sideT (by omega)) ?_ | refine gT rfl rfl (by omega) ?_ | refine gF rfl rfl (by omega) ?_ | refine gNT rfl rfl (by omega) ?_ | refine gNF rfl rfl (by omega) ?_ | fail)
 repeat' (first | refine stp tab_ok rfl (by first | exact sideN | exact sideT (by omega)) ?_ | refine gT rfl rfl (by omega) ?_ | refine gF rfl rfl (by omega) ?_ | refine gNT rfl rfl (by omega) ?_ | refine gNF rfl rfl (by omega) ?_ | refine gS rfl rfl (fun _ => ?_) (fun _ => ?_) | refine gNS rfl rfl (fun _ => ?_) (fun _ => ?_) | refine gBS rfl rfl (fun _ => ?_) (fun _ => ?_) | refine gBN rfl rfl (fun _ => ?_) (fun _ => ?_) | refine good_ret tab_ok hX rfl (Sub.of_eq ?_) | refine good_end tab_ok hX rfl (Sub.of_eq ?_) | fail)
 rfl
def itoB (n : Int) : ByteArray := ⟨(Lib.itoa n).toArray⟩
def tab1 : ByteArray := ⟨#[9]⟩
theorem itoB_size (n : Int) (h : -9223372036854775808 ≤ n ∧ n ≤ 9223372036854775807) : (itoB n).size ≤ 21 := by
 have := Lib.itoa_length_le n h.1 h.2
 show (Lib.itoa n).toArray.size ≤ 21
 rw [List.size_toArray]
 exact this
theorem nDigits_le : ∀ (k u : Nat), u < 10 ^ (k + 1) → Lib.nDigits u ≤ k + 1
 | 0, u, h => by
  rw [Lib.nDigits_small (by simpa using h)]
  omega
 | k + 1, u, h => by
  by_cases h1 : u < 10
  ·rw [Lib.nDigits_small h1]; omega
  ·rw [Lib.nDigits_big h1]
   have := nDigits_le k (u / 10) (by rw [Nat.pow_succ] at h; omega)
   omega
theorem itoB_nat (n : Int) (k : Nat) (h0 : 0 ≤ n) (h : n < ((10 ^ (k + 1) : Nat) : Int)) : (itoB n).size ≤ k + 1 := by
 obtain ⟨u, rfl⟩ : ∃ u : Nat, n = u := ⟨n.toNat, by omega⟩
 show (Lib.itoa u).toArray.size ≤ _
 rw [List.size_toArray, Lib.itoa_nonneg, Lib.decDigits_length]
 exact nDigits_le k u (by omega)
theorem itoB_off (n : Int) (h : -1000 ≤ n ∧ n ≤ 1000) : (itoB n).size ≤ 5 := by
 by_cases h0 : 0 ≤ n
 ·have := itoB_nat n 3 h0 (by omega)
  omega
 ·obtain ⟨u, rfl⟩ : ∃ u : Nat, n = -(u : Int) := ⟨n.natAbs, by omega⟩
  show (Lib.itoa _).toArray.size ≤ _
  rw [List.size_toArray, Lib.itoa_neg u (by omega), List.length_cons, Lib.decDigits_length]
  have := nDigits_le 3 u (by omega)
  omega
def pairLine (p off : Int) : ByteArray := (itoB (p + 2208988800) ++ tab1) ++ itoB off
def pairS (p off : Int) : ByteArray := pairLine p off ++ lf1
theorem pairS_size (p off : Int) (hp : 0 ≤ p ∧ p ≤ 260000000000) (ho : -1000 ≤ off ∧ off ≤ 1000) : (pairS p off).size ≤ 19 := by
 have h1 := itoB_nat (p + 2208988800) 11 (by omega) (by omega)
 have h2 := itoB_off off ho
 unfold pairS pairLine
 rw [ByteArray.size_append, ByteArray.size_append, ByteArray.size_append]
 show _ + 1 + _ + 1 ≤ 19
 omega
theorem pair_ac (p off : Int) (hp : 0 ≤ p ∧ p ≤ 9000000000000000000) (ho : -1000 ≤ off ∧ off ≤ 1000) : AC Tryz.prog 29 (L2 (I p) (I off)) (S (pairS p off)) := by
 have h1 := itoB_size (p + 2208988800) (by omega)
 have h2 := itoB_size off (by omega)
 have e1 : ∀ n, (⟨(Lib.itoa n).toArray⟩ : ByteArray) = itoB n := fun _ => rfl
 refine AC.enter Tryz.func29 Tryz.ntmps29 rfl rfl rfl (fun F hX => ?_)
 repeat' (first | refine stp tab_ok rfl (by first | exact sideN | exact sideT (by omega)) ?_ | refine gT rfl rfl (by omega) ?_ | refine gF rfl rfl (by omega) ?_ | refine gNT rfl rfl (by omega) ?_ | refine gNF rfl rfl (by omega) ?_ | fail)
 refine good_call rfl rfl rfl rfl rfl ent28 (ntp_ac p hp) rfl ?_
 repeat' (first | refine stp tab_ok rfl (by first | exact sideN | exact sideT (by omega)) ?_ | refine gT rfl rfl (by omega) ?_ | refine gF rfl rfl (by omega) ?_ | refine gNT rfl rfl (by omega) ?_ | refine gNF rfl rfl (by omega) ?_ | fail)
 refine good_call rfl rfl rfl rfl rfl ent27 (itoa_ac (p + 2208988800) (by omega)) rfl ?_
 rw [e1]
 refine stp tab_ok rfl (sideT (by show (itoB _).size + 1 ≤ _; omega)) ?_
 repeat' (first | refine stp tab_ok rfl (by first | exact sideN | exact sideT (by omega)) ?_ | refine gT rfl rfl (by omega) ?_ | refine gF rfl rfl (by omega) ?_ | refine gNT rfl rfl (by omega) ?_ | refine gNF rfl rfl (by omega) ?_ | fail)
 refine good_call rfl rfl rfl rfl rfl ent27 (itoa_ac off (by omega)) rfl ?_
 rw [e1]
 refine stp tab_ok rfl (sideT (by rw [ByteArray.size_append]; show (itoB _).size + 1 + (itoB _).size ≤ _; omega)) ?_
 refine stp tab_ok rfl (sideT (by rw [ByteArray.size_append, ByteArray.size_append]; show (itoB _).size + 1 + (itoB _).size + 1 ≤ _; omega)) ?_
 repeat' (first | refine stp tab_ok rfl (by first | exact sideN | exact sideT (by omega)) ?_ | refine gT rfl rfl (by omega) ?_ | refine gF rfl rfl (by omega) ?_ | refine gNT rfl rfl (by omega) ?_ | refine gNF rfl rfl (by omega) ?_ | refine gS rfl rfl (fun _ => ?_) (fun _ => ?_) | refine gNS rfl rfl (fun _ => ?_) (fun _ => ?_) | refine gBS rfl rfl (fun _ => ?_) (fun _ => ?_) | refine gBN rfl rfl (fun _ => ?_) (fun _ => ?_) | refine good_ret tab_ok hX rfl (Sub.of_eq ?_) | refine good_end tab_ok hX rfl (Sub.of_eq ?_) | fail)
 rfl
def headS (t : Tbl) (when : Int) : ByteArray := match t.has with
 | true => ((⟨#[35, 36, 9]⟩ ++ itoB when) ++ lf1) ++ ((⟨#[35, 64, 9]⟩ ++ itoB (t.exp + 2208988800)) ++ lf1)
 | false => (⟨#[35, 36, 9]⟩ ++ itoB when) ++ lf1
def bodyL : List Lp → Int → ByteArray → Option ByteArray
 | [], _, s => some s
 | x :: l, off, s => if off + x.step < 0 then none else bodyL l (off + x.step) (s ++ pairS ((x.day + 1) * 86400) (off + x.step))
def hashLine (s : ByteArray) : ByteArray := (((s ++ kHash) ++ tab1) ++ textH (wo (hashedD (rowsF s)) 20)) ++ lf1
def textLF (t : Tbl) (when : Int) : ByteArray × Bool := if when < 0 then (⟨#[]⟩, false) else match bodyL t.leaps 10 (headS t when ++ pairS 63072000 10) with
 | some s => (hashLine s, true)
 | none => (⟨#[]⟩, false)
theorem textH_size (h : Nat → Int) : (textH h).size = 44 := by
 have e : ∀ k, k < 5 → (wordT h k).data.toList.length = 8 := by
  intro k hk
  have h1 : (hexT h).size = 40 := strF_size _ _
  have h2 : (wordT h k).size = 8 := by
   unfold wordT
   rw [ByteArray.size_extract, h1]
   omega
  exact h2
 have hb : blank1.data.toList.length = 1 := rfl
 show ((Lib.join [(wordT h 0).data.toList, (wordT h 1).data.toList, (wordT h 2).data.toList, (wordT h 3).data.toList, (wordT h 4).data.toList] blank1.data.toList).toArray).size = 44
 rw [List.size_toArray, join5_len, e 0 (by omega), e 1 (by omega), e 2 (by omega), e 3 (by omega), e 4 (by omega), hb]
theorem headS_size (t : Tbl) (when : Int) (hw : 0 ≤ when ∧ when ≤ 9223372036854775807) (he : t.has = true → 0 ≤ t.exp ∧ t.exp ≤ 9000000000000000000) : (headS t when).size ≤ 100 := by
 have h1 := itoB_size when (by omega)
 unfold headS
 cases h : t.has with
 | true =>
  have he := he h
  have h2 := itoB_size (t.exp + 2208988800) (by omega)
  simp only [ByteArray.size_append]
  show 3 + _ + 1 + (3 + _ + 1) ≤ 100
  omega
 | false =>
  simp only [ByteArray.size_append]
  show 3 + _ + 1 ≤ 100
  omega
def offAt (l : List Lp) : Nat → Int
 | 0 => 10
 | i + 1 => offAt l i + (l.getD i lp0).step
theorem offAt_bd {l : List Lp} (hL : ∀ i, i < l.length → RtL l i) : ∀ i, i ≤ l.length → 10 - (i : Int) ≤ offAt l i ∧ offAt l i ≤ 10 + (i : Int)
 | 0, _ => by show (10 : Int) - 0 ≤ 10 ∧ (10 : Int) ≤ 10 + 0; omega
 | i + 1, h => by
  have h1 := offAt_bd hL i (by omega)
  have h2 := (hL i (by omega)).step
  show _ ≤ offAt l i + _ ∧ offAt l i + _ ≤ _
  omega
theorem drop_lp (l : List Lp) (k : Nat) (h : k < l.length) : l.drop k = l.getD k lp0 :: l.drop (k + 1) := by
 rw [List.drop_eq_getElem_cons h]
 congr 1
 simp [List.getD, h]
theorem bodyL_nil (off : Int) (s : ByteArray) : bodyL [] off s = some s := rfl
theorem bodyL_cons (x : Lp) (l : List Lp) (off : Int) (s : ByteArray) : bodyL (x :: l) off s = if off + x.step < 0 then none else bodyL l (off + x.step) (s ++ pairS ((x.day + 1) * 86400) (off + x.step)) := rfl
set_option maxHeartbeats 1000000 in
theorem textL_ac (t : Tbl) (when : Int) (hr : Rt t) (hroll : ∀ i, i < t.leaps.length → (t.leaps.getD i lp0).roll = false) (hw : -9223372036854775808 ≤ when ∧ when ≤ 9223372036854775807) : AC Tryz.prog 10 (L2 (tblA t) (I when)) (.tup (L2 (S (textLF t when).1) (B (textLF t when).2))) := by
 have hL := chkL_none hr.none
 have hn := rt_len hr
 have hrb : rightB t = true := rt_iff.2 hr
 have hexp : t.has = true → 0 ≤ t.exp ∧ t.exp ≤ 253402300799 := fun h => by have := hr.yes h; omega
 have e1 : ∀ n, (⟨(Lib.itoa n).toArray⟩ : ByteArray) = itoB n := fun _ => rfl
 unfold textLF
 refine AC.enter Tryz.func10 Tryz.ntmps10 rfl rfl rfl (fun F hX => ?_)
 repeat' (first | refine stp tab_ok rfl (by first | exact sideN | exact sideT (by omega)) ?_ | refine gT rfl rfl (by omega) ?_ | refine gF rfl rfl (by omega) ?_ | refine gNT rfl rfl (by omega) ?_ | refine gNF rfl rfl (by omega) ?_ | fail)
 refine good_call rfl rfl rfl rfl rfl ent26 (right_ac t (by omega)) rfl ?_
 rw [hrb]
 by_cases h0 : when < 0
 ·rw [if_pos h0]
  repeat' (first | refine stp tab_ok rfl (by first | exact sideN | exact sideT (by omega)) ?_ | refine gT rfl rfl (by omega) ?_ | refine gF rfl rfl (by omega) ?_ | refine gNT rfl rfl (by omega) ?_ | refine gNF rfl rfl (by omega) ?_ | fail)
  repeat' (first | refine stp tab_ok rfl (by first | exact sideN | exact sideT (by omega)) ?_ | refine gT rfl rfl (by omega) ?_ | refine gF rfl rfl (by omega) ?_ | refine gNT rfl rfl (by omega) ?_ | refine gNF rfl rfl (by omega) ?_ | refine gS rfl rfl (fun _ => ?_) (fun _ => ?_) | refine gNS rfl rfl (fun _ => ?_) (fun _ => ?_) | refine gBS rfl rfl (fun _ => ?_) (fun _ => ?_) | refine gBN rfl rfl (fun _ => ?_) (fun _ => ?_) | refine good_ret tab_ok hX rfl (Sub.of_eq ?_) | refine good_end tab_ok hX rfl (Sub.of_eq ?_) | fail)
  rfl
 ·rw [if_neg h0]
  have hsz := headS_size t when (by omega) (fun h => by have := hexp h; omega)
  have hi1 := itoB_size when hw
  have hp0 := pairS_size 63072000 10 (by omega) (by omega)
  repeat' (first | refine stp tab_ok rfl (by first | exact sideN | exact sideT (by omega)) ?_ | refine gT rfl rfl (by omega) ?_ | refine gF rfl rfl (by omega) ?_ | refine gNT rfl rfl (by omega) ?_ | refine gNF rfl rfl (by omega) ?_ | fail)
  refine good_call rfl rfl rfl rfl rfl ent27 (itoa_ac when hw) rfl ?_
  rw [e1]
  refine stp tab_ok rfl (sideT (by show 3 + (itoB _).size ≤ _; omega)) ?_
  refine stp tab_ok rfl (sideT (by rw [ByteArray.size_append]; show 3 + (itoB _).size + 1 ≤ _; omega)) ?_
  obtain ⟨leaps, has, exp⟩ := t
  simp only at hL hn hroll hexp ⊢
  obtain ⟨R, hR⟩ : ∃ R, bodyL leaps 10 (headS ⟨leaps, has, exp⟩ when ++ pairS 63072000 10) = R := ⟨_, rfl⟩
  rw [hR]
  cases has with
  | false =>
   repeat' (first | refine stp tab_ok rfl (by first | exact sideN | exact sideT (by omega)) ?_ | refine gT rfl rfl (by omega) ?_ | refine gF rfl rfl (by omega) ?_ | refine gNT rfl rfl (by omega) ?_ | refine gNF rfl rfl (by omega) ?_ | fail)
   refine good_call rfl rfl rfl rfl rfl ent29 (pair_ac 63072000 10 (by omega) (by omega)) rfl ?_
   refine stp tab_ok rfl (sideT (by show (headS ⟨leaps, false, exp⟩ when).size + _ ≤ _; omega)) ?_
   repeat' (first | refine stp tab_ok rfl (by first | exact sideN | exact sideT (by omega)) ?_ | refine gT rfl rfl (by omega) ?_ | refine gF rfl rfl (by omega) ?_ | refine gNT rfl rfl (by omega) ?_ | refine gNF rfl rfl (by omega) ?_ | fail)
   refine good_rounds (fun x : Nat × ByteArray => [(42, leapsA leaps), (43, I leaps.length), (44, I x.1), (6, S x.2), (9, I (offAt leaps x.1))]) (fun _ => []) (fun x : Nat × ByteArray => leaps.length - x.1) (fun x : Nat × ByteArray => x.1 ≤ leaps.length ∧ x.2.size ≤ 119 + 19 * x.1 ∧ bodyL (leaps.drop x.1) (offAt leaps x.1) x.2 = R) (0, headS ⟨leaps, false, exp⟩ when ++ pairS 63072000 10) ⟨Nat.zero_le _, by rw [ByteArray.size_append]; omega, hR⟩ (Wk.mk ⟨Sub.of_eq rfl, Sub.of_eq rfl, Sub.of_eq rfl, Sub.of_eq rfl, Sub.of_eq rfl, trivial⟩ trivial rfl rfl (pin0 hX)) (fun x hx => ?_)
   obtain ⟨i, s⟩ := x
   obtain ⟨hi, hs, hb⟩ := hx
   simp only at hi hs hb ⊢
   have hob := offAt_bd hL i hi
   by_cases hlt : i < leaps.length
   ·have hro := hroll i hlt
    have hst := (hL i hlt).step
    have hdy := (hL i hlt).day
    rw [drop_lp leaps i hlt, bodyL_cons] at hb
    repeat' (first | refine stp tab_ok rfl (by first | exact sideN | exact sideT (by omega)) ?_ | refine gT rfl rfl (by omega) ?_ | refine gF rfl rfl (by omega) ?_ | refine gNT rfl rfl (by omega) ?_ | refine gNF rfl rfl (by omega) ?_ | fail)
    simp only [Int.toNat_natCast]
    repeat' (first | refine stp tab_ok rfl (by first | exact sideN | exact sideT (by omega)) ?_ | refine gT rfl rfl (by omega) ?_ | refine gF rfl rfl (by omega) ?_ | refine gNT rfl rfl (by omega) ?_ | refine gNF rfl rfl (by omega) ?_ | fail)
    rw [hro]
    have hoff : offAt leaps (i + 1) = offAt leaps i + (leaps.getD i lp0).step := rfl
    by_cases hneg : offAt leaps i + (leaps.getD i lp0).step < 0
    ·rw [if_pos hneg] at hb
     rw [← hb]
     repeat' (first | refine stp tab_ok rfl (by first | exact sideN | exact sideT (by omega)) ?_ | refine gT rfl rfl (by omega) ?_ | refine gF rfl rfl (by omega) ?_ | refine gNT rfl rfl (by omega) ?_ | refine gNF rfl rfl (by omega) ?_ | fail)
     repeat' (first | refine stp tab_ok rfl (by first | exact sideN | exact sideT (by omega)) ?_ | refine gT rfl rfl (by omega) ?_ | refine gF rfl rfl (by omega) ?_ | refine gNT rfl rfl (by omega) ?_ | refine gNF rfl rfl (by omega) ?_ | refine gS rfl rfl (fun _ => ?_) (fun _ => ?_) | refine gNS rfl rfl (fun _ => ?_) (fun _ => ?_) | refine gBS rfl rfl (fun _ => ?_) (fun _ => ?_) | refine gBN rfl rfl (fun _ => ?_) (fun _ => ?_) | refine good_ret tab_ok hX rfl (Sub.of_eq ?_) | refine good_end tab_ok hX rfl (Sub.of_eq ?_) | fail)
     rfl
    ·rw [if_neg hneg] at hb
     have hps := pairS_size (((leaps.getD i lp0).day + 1) * 86400) (offAt leaps i + (leaps.getD i lp0).step) (by omega) (by omega)
     repeat' (first | refine stp tab_ok rfl (by first | exact sideN | exact sideT (by omega)) ?_ | refine gT rfl rfl (by omega) ?_ | refine gF rfl rfl (by omega) ?_ | refine gNT rfl rfl (by omega) ?_ | refine gNF rfl rfl (by omega) ?_ | fail)
     refine good_call rfl rfl rfl rfl rfl ent29 (pair_ac (((leaps.getD i lp0).day + 1) * 86400) (offAt leaps i + (leaps.getD i lp0).step) (by omega) (by omega)) rfl ?_
     refine stp tab_ok rfl (sideT (by omega)) ?_
     repeat' (first | refine stp tab_ok rfl (by first | exact sideN | exact sideT (by omega)) ?_ | refine gT rfl rfl (by omega) ?_ | refine gF rfl rfl (by omega) ?_ | refine gNT rfl rfl (by omega) ?_ | refine gNF rfl rfl (by omega) ?_ | fail)
     exact good_again (i + 1, s ++ pairS (((leaps.getD i lp0).day + 1) * 86400) (offAt leaps i + (leaps.getD i lp0).step)) ⟨by omega, by rw [ByteArray.size_append]; simp only; omega, hb⟩ (by simp only; omega) (Wk.mk ⟨Sub.of_eq rfl, Sub.of_eq rfl, Sub.of_eq rfl, Sub.of_eq rfl, Sub.of_eq rfl, trivial⟩ trivial rfl rfl (pin0 hX))
   ·obtain rfl : i = leaps.length := by omega
    rw [List.drop_length, bodyL_nil] at hb
    rw [← hb]
    have hk : kHash.size = 2 := rfl
    have htb : tab1.size = 1 := rfl
    have hlf : lf1.size = 1 := rfl
    have hth := textH_size (wo (hashedD (rowsF s)) 20)
    repeat' (first | refine stp tab_ok rfl (by first | exact sideN | exact sideT (by omega)) ?_ | refine gT rfl rfl (by omega) ?_ | refine gF rfl rfl (by omega) ?_ | refine gNT rfl rfl (by omega) ?_ | refine gNF rfl rfl (by omega) ?_ | fail)
    refine stp tab_ok rfl (sideT (by show s.size + kHash.size ≤ _; omega)) ?_
    refine stp tab_ok rfl (sideT (by show (s ++ kHash).size + tab1.size ≤ _; rw [ByteArray.size_append]; omega)) ?_
    repeat' (first | refine stp tab_ok rfl (by first | exact sideN | exact sideT (by omega)) ?_ | refine gT rfl rfl (by omega) ?_ | refine gF rfl rfl (by omega) ?_ | refine gNT rfl rfl (by omega) ?_ | refine gNF rfl rfl (by omega) ?_ | fail)
    refine good_call rfl rfl rfl rfl rfl ent32 (hashT_ac s (by omega)) rfl ?_
    refine good_call rfl rfl rfl rfl rfl ent31 (shaWords_ac (hashedD (rowsF s)) (fun i => wrap8_bd _)) rfl ?_
    refine good_call rfl rfl rfl rfl rfl ent30 (ntpText_ac (wo (hashedD (rowsF s)) 20)) rfl ?_
    refine stp tab_ok rfl (sideT (by show ((s ++ kHash) ++ tab1).size + _ ≤ _; rw [ByteArray.size_append, ByteArray.size_append]; omega)) ?_
    refine stp tab_ok rfl (sideT (by show (((s ++ kHash) ++ tab1) ++ textH (wo (hashedD (rowsF s)) 20)).size + lf1.size ≤ _; rw [ByteArray.size_append, ByteArray.size_append, ByteArray.size_append]; omega)) ?_
    repeat' (first | refine stp tab_ok rfl (by first | exact sideN | exact sideT (by omega)) ?_ | refine gT rfl rfl (by omega) ?_ | refine gF rfl rfl (by omega) ?_ | refine gNT rfl rfl (by omega) ?_ | refine gNF rfl rfl (by omega) ?_ | refine gS rfl rfl (fun _ => ?_) (fun _ => ?_) | refine gNS rfl rfl (fun _ => ?_) (fun _ => ?_) | refine gBS rfl rfl (fun _ => ?_) (fun _ => ?_) | refine gBN rfl rfl (fun _ => ?_) (fun _ => ?_) | refine good_ret tab_ok hX rfl (Sub.of_eq ?_) | refine good_end tab_ok hX rfl (Sub.of_eq ?_) | fail)
    rfl
  | true =>
   have hexp' := hexp rfl
   have hi2 := itoB_size (exp + 2208988800) (by omega)
   have hsz2 : headS ⟨leaps, true, exp⟩ when = ((⟨#[35, 36, 9]⟩ ++ itoB when) ++ lf1) ++ ((⟨#[35, 64, 9]⟩ ++ itoB (exp + 2208988800)) ++ lf1) := rfl
   repeat' (first | refine stp tab_ok rfl (by first | exact sideN | exact sideT (by omega)) ?_ | refine gT rfl rfl (by omega) ?_ | refine gF rfl rfl (by omega) ?_ | refine gNT rfl rfl (by omega) ?_ | refine gNF rfl rfl (by omega) ?_ | fail)
   refine good_call rfl rfl rfl rfl rfl ent28 (ntp_ac exp (by omega)) rfl ?_
   repeat' (first | refine stp tab_ok rfl (by first | exact sideN | exact sideT (by omega)) ?_ | refine gT rfl rfl (by omega) ?_ | refine gF rfl rfl (by omega) ?_ | refine gNT rfl rfl (by omega) ?_ | refine gNF rfl rfl (by omega) ?_ | fail)
   refine good_call rfl rfl rfl rfl rfl ent27 (itoa_ac (exp + 2208988800) (by omega)) rfl ?_
   rw [e1]
   refine stp tab_ok rfl (sideT (by show 3 + (itoB _).size ≤ _; omega)) ?_
   refine stp tab_ok rfl (sideT (by rw [ByteArray.size_append]; show 3 + (itoB _).size + 1 ≤ _; omega)) ?_
   refine stp tab_ok rfl (sideT (by simp only [ByteArray.size_append]; show 3 + (itoB _).size + 1 + (3 + (itoB _).size + 1) ≤ _; omega)) ?_
   repeat' (first | refine stp tab_ok rfl (by first | exact sideN | exact sideT (by omega)) ?_ | refine gT rfl rfl (by omega) ?_ | refine gF rfl rfl (by omega) ?_ | refine gNT rfl rfl (by omega) ?_ | refine gNF rfl rfl (by omega) ?_ | fail)
   refine good_call rfl rfl rfl rfl rfl ent29 (pair_ac 63072000 10 (by omega) (by omega)) rfl ?_
   refine stp tab_ok rfl (sideT (by show (headS ⟨leaps, true, exp⟩ when).size + _ ≤ _; omega)) ?_
   repeat' (first | refine stp tab_ok rfl (by first | exact sideN | exact sideT (by omega)) ?_ | refine gT rfl rfl (by omega) ?_ | refine gF rfl rfl (by omega) ?_ | refine gNT rfl rfl (by omega) ?_ | refine gNF rfl rfl (by omega) ?_ | fail)
   refine good_rounds (fun x : Nat × ByteArray => [(42, leapsA leaps), (43, I leaps.length), (44, I x.1), (6, S x.2), (9, I (offAt leaps x.1))]) (fun _ => []) (fun x : Nat × ByteArray => leaps.length - x.1) (fun x : Nat × ByteArray => x.1 ≤ leaps.length ∧ x.2.size ≤ 119 + 19 * x.1 ∧ bodyL (leaps.drop x.1) (offAt leaps x.1) x.2 = R) (0, headS ⟨leaps, true, exp⟩ when ++ pairS 63072000 10) ⟨Nat.zero_le _, by rw [ByteArray.size_append]; omega, hR⟩ (Wk.mk ⟨Sub.of_eq rfl, Sub.of_eq rfl, Sub.of_eq rfl, Sub.of_eq rfl, Sub.of_eq rfl, trivial⟩ trivial rfl rfl (pin0 hX)) (fun x hx => ?_)
   obtain ⟨i, s⟩ := x
   obtain ⟨hi, hs, hb⟩ := hx
   simp only at hi hs hb ⊢
   have hob := offAt_bd hL i hi
   by_cases hlt : i < leaps.length
   ·have hro := hroll i hlt
    have hst := (hL i hlt).step
    have hdy := (hL i hlt).day
    rw [drop_lp leaps i hlt, bodyL_cons] at hb
    repeat' (first | refine stp tab_ok rfl (by first | exact sideN | exact sideT (by omega)) ?_ | refine gT rfl rfl (by omega) ?_ | refine gF rfl rfl (by omega) ?_ | refine gNT rfl rfl (by omega) ?_ | refine gNF rfl rfl (by omega) ?_ | fail)
    simp only [Int.toNat_natCast]
    repeat' (first | refine stp tab_ok rfl (by first | exact sideN | exact sideT (by omega)) ?_ | refine gT rfl rfl (by omega) ?_ | refine gF rfl rfl (by omega) ?_ | refine gNT rfl rfl (by omega) ?_ | refine gNF rfl rfl (by omega) ?_ | fail)
    rw [hro]
    have hoff : offAt leaps (i + 1) = offAt leaps i + (leaps.getD i lp0).step := rfl
    by_cases hneg : offAt leaps i + (leaps.getD i lp0).step < 0
    ·rw [if_pos hneg] at hb
     rw [← hb]
     repeat' (first | refine stp tab_ok rfl (by first | exact sideN | exact sideT (by omega)) ?_ | refine gT rfl rfl (by omega) ?_ | refine gF rfl rfl (by omega) ?_ | refine gNT rfl rfl (by omega) ?_ | refine gNF rfl rfl (by omega) ?_ | fail)
     repeat' (first | refine stp tab_ok rfl (by first | exact sideN | exact sideT (by omega)) ?_ | refine gT rfl rfl (by omega) ?_ | refine gF rfl rfl (by omega) ?_ | refine gNT rfl rfl (by omega) ?_ | refine gNF rfl rfl (by omega) ?_ | refine gS rfl rfl (fun _ => ?_) (fun _ => ?_) | refine gNS rfl rfl (fun _ => ?_) (fun _ => ?_) | refine gBS rfl rfl (fun _ => ?_) (fun _ => ?_) | refine gBN rfl rfl (fun _ => ?_) (fun _ => ?_) | refine good_ret tab_ok hX rfl (Sub.of_eq ?_) | refine good_end tab_ok hX rfl (Sub.of_eq ?_) | fail)
     rfl
    ·rw [if_neg hneg] at hb
     have hps := pairS_size (((leaps.getD i lp0).day + 1) * 86400) (offAt leaps i + (leaps.getD i lp0).step) (by omega) (by omega)
     repeat' (first | refine stp tab_ok rfl (by first | exact sideN | exact sideT (by omega)) ?_ | refine gT rfl rfl (by omega) ?_ | refine gF rfl rfl (by omega) ?_ | refine gNT rfl rfl (by omega) ?_ | refine gNF rfl rfl (by omega) ?_ | fail)
     refine good_call rfl rfl rfl rfl rfl ent29 (pair_ac (((leaps.getD i lp0).day + 1) * 86400) (offAt leaps i + (leaps.getD i lp0).step) (by omega) (by omega)) rfl ?_
     refine stp tab_ok rfl (sideT (by omega)) ?_
     repeat' (first | refine stp tab_ok rfl (by first | exact sideN | exact sideT (by omega)) ?_ | refine gT rfl rfl (by omega) ?_ | refine gF rfl rfl (by omega) ?_ | refine gNT rfl rfl (by omega) ?_ | refine gNF rfl rfl (by omega) ?_ | fail)
     exact good_again (i + 1, s ++ pairS (((leaps.getD i lp0).day + 1) * 86400) (offAt leaps i + (leaps.getD i lp0).step)) ⟨by omega, by rw [ByteArray.size_append]; simp only; omega, hb⟩ (by simp only; omega) (Wk.mk ⟨Sub.of_eq rfl, Sub.of_eq rfl, Sub.of_eq rfl, Sub.of_eq rfl, Sub.of_eq rfl, trivial⟩ trivial rfl rfl (pin0 hX))
   ·obtain rfl : i = leaps.length := by omega
    rw [List.drop_length, bodyL_nil] at hb
    rw [← hb]
    have hk : kHash.size = 2 := rfl
    have htb : tab1.size = 1 := rfl
    have hlf : lf1.size = 1 := rfl
    have hth := textH_size (wo (hashedD (rowsF s)) 20)
    repeat' (first | refine stp tab_ok rfl (by first | exact sideN | exact sideT (by omega)) ?_ | refine gT rfl rfl (by omega) ?_ | refine gF rfl rfl (by omega) ?_ | refine gNT rfl rfl (by omega) ?_ | refine gNF rfl rfl (by omega) ?_ | fail)
    refine stp tab_ok rfl (sideT (by show s.size + kHash.size ≤ _; omega)) ?_
    refine stp tab_ok rfl (sideT (by show (s ++ kHash).size + tab1.size ≤ _; rw [ByteArray.size_append]; omega)) ?_
    repeat' (first | refine stp tab_ok rfl (by first | exact sideN | exact sideT (by omega)) ?_ | refine gT rfl rfl (by omega) ?_ | refine gF rfl rfl (by omega) ?_ | refine gNT rfl rfl (by omega) ?_ | refine gNF rfl rfl (by omega) ?_ | fail)
    refine good_call rfl rfl rfl rfl rfl ent32 (hashT_ac s (by omega)) rfl ?_
    refine good_call rfl rfl rfl rfl rfl ent31 (shaWords_ac (hashedD (rowsF s)) (fun i => wrap8_bd _)) rfl ?_
    refine good_call rfl rfl rfl rfl rfl ent30 (ntpText_ac (wo (hashedD (rowsF s)) 20)) rfl ?_
    refine stp tab_ok rfl (sideT (by show ((s ++ kHash) ++ tab1).size + _ ≤ _; rw [ByteArray.size_append, ByteArray.size_append]; omega)) ?_
    refine stp tab_ok rfl (sideT (by show (((s ++ kHash) ++ tab1) ++ textH (wo (hashedD (rowsF s)) 20)).size + lf1.size ≤ _; rw [ByteArray.size_append, ByteArray.size_append, ByteArray.size_append]; omega)) ?_
    repeat' (first | refine stp tab_ok rfl (by first | exact sideN | exact sideT (by omega)) ?_ | refine gT rfl rfl (by omega) ?_ | refine gF rfl rfl (by omega) ?_ | refine gNT rfl rfl (by omega) ?_ | refine gNF rfl rfl (by omega) ?_ | refine gS rfl rfl (fun _ => ?_) (fun _ => ?_) | refine gNS rfl rfl (fun _ => ?_) (fun _ => ?_) | refine gBS rfl rfl (fun _ => ?_) (fun _ => ?_) | refine gBN rfl rfl (fun _ => ?_) (fun _ => ?_) | refine good_ret tab_ok hX rfl (Sub.of_eq ?_) | refine good_end tab_ok hX rfl (Sub.of_eq ?_) | fail)
    rfl
end Go.Proofs.YthjldemjipnmdaaGreatDoor.Sx
namespace Go.Proofs.YthjldemjipnmdaaGreatDoor.Sx
open Go.RowKit
set_option maxRecDepth 100000
def monthsL : List ByteArray := [⟨#[106, 97, 110, 117, 97, 114, 121]⟩, ⟨#[102, 101, 98, 114, 117, 97, 114, 121]⟩, ⟨#[109, 97, 114, 99, 104]⟩, ⟨#[97, 112, 114, 105, 108]⟩, ⟨#[109, 97, 121]⟩, ⟨#[106, 117, 110, 101]⟩, ⟨#[106, 117, 108, 121]⟩, ⟨#[97, 117, 103, 117, 115, 116]⟩, ⟨#[115, 101, 112, 116, 101, 109, 98, 101, 114]⟩, ⟨#[111, 99, 116, 111, 98, 101, 114]⟩, ⟨#[110, 111, 118, 101, 109, 98, 101, 114]⟩, ⟨#[100, 101, 99, 101, 109, 98, 101, 114]⟩]
def monthB (k : Nat) : ByteArray := monthsL.getD k ByteArray.empty
theorem names_ac : AC Tryz.prog 73 .nil (.agg (alOf 12 (fun k => S (monthB k)))) := by
 refine AC.enter Tryz.func73 Tryz.ntmps73 rfl rfl rfl (fun F hX => ?_)
 repeat' (first | refine stp tab_ok rfl (by first | exact sideN | exact sideT (by omega)) ?_ | refine gT rfl rfl (by omega) ?_ | refine gF rfl rfl (by omega) ?_ | refine gNT rfl rfl (by omega) ?_ | refine gNF rfl rfl (by omega) ?_ | fail)
 repeat' (first | refine stp tab_ok rfl (by first | exact sideN | exact sideT (by omega)) ?_ | refine gT rfl rfl (by omega) ?_ | refine gF rfl rfl (by omega) ?_ | refine gNT rfl rfl (by omega) ?_ | refine gNF rfl rfl (by omega) ?_ | refine gS rfl rfl (fun _ => ?_) (fun _ => ?_) | refine gNS rfl rfl (fun _ => ?_) (fun _ => ?_) | refine gBS rfl rfl (fun _ => ?_) (fun _ => ?_) | refine gBN rfl rfl (fun _ => ?_) (fun _ => ?_) | refine good_ret tab_ok hX rfl (Sub.of_eq ?_) | refine good_end tab_ok hX rfl (Sub.of_eq ?_) | fail)
 rfl
def monthAt (f : ByteArray) : Nat → Nat → Option Nat
 | 0, _ => none
 | n + 1, k => if 2 < f.size ∧ Lib.hasPrefix (monthB k).data.toList f.data.toList = true then some (k + 1) else monthAt f n (k + 1)
def monthF (s : ByteArray) : Option Nat := monthAt (foldF s) 12 0
theorem monthAt_succ (f : ByteArray) (n k : Nat) : monthAt f (n + 1) k = if 2 < f.size ∧ Lib.hasPrefix (monthB k).data.toList f.data.toList = true then some (k + 1) else monthAt f n (k + 1) := rfl
theorem month_ac (s : ByteArray) (hs : s.size ≤ 1000000) : AC Tryz.prog 206 (L1 (S s)) (.tup (L2 (I (numR (monthF s)).1) (B (numR (monthF s)).2))) := by
 have hf := fold_ac s hs
 unfold monthF
 generalize foldF s = f at *
 obtain ⟨res, hres⟩ : ∃ res, monthAt f 12 0 = res := ⟨_, rfl⟩
 rw [hres]
 refine AC.enter Tryz.func206 Tryz.ntmps206 rfl rfl rfl (fun F hX => ?_)
 repeat' (first | refine stp tab_ok rfl (by first | exact sideN | exact sideT (by omega)) ?_ | refine gT rfl rfl (by omega) ?_ | refine gF rfl rfl (by omega) ?_ | refine gNT rfl rfl (by omega) ?_ | refine gNF rfl rfl (by omega) ?_ | fail)
 refine good_call rfl rfl rfl rfl rfl ent153 (hf) rfl ?_
 repeat' (first | refine stp tab_ok rfl (by first | exact sideN | exact sideT (by omega)) ?_ | refine gT rfl rfl (by omega) ?_ | refine gF rfl rfl (by omega) ?_ | refine gNT rfl rfl (by omega) ?_ | refine gNF rfl rfl (by omega) ?_ | fail)
 refine good_call rfl rfl rfl rfl rfl ent73 (names_ac) rfl ?_
 repeat' (first | refine stp tab_ok rfl (by first | exact sideN | exact sideT (by omega)) ?_ | refine gT rfl rfl (by omega) ?_ | refine gF rfl rfl (by omega) ?_ | refine gNT rfl rfl (by omega) ?_ | refine gNF rfl rfl (by omega) ?_ | fail)
 refine good_rounds (fun k : Nat => [(9, .agg (alOf 12 (fun k => S (monthB k)))), (10, I k), (4, S f)]) (fun _ => []) (fun k : Nat => 12 - k) (fun k : Nat => k ≤ 12 ∧ monthAt f (12 - k) k = res) 0 ⟨Nat.zero_le _, hres⟩ (Wk.mk ⟨Sub.of_eq rfl, Sub.of_eq rfl, Sub.of_eq rfl, trivial⟩ trivial rfl rfl (pin0 hX)) (fun k hk => ?_)
 obtain ⟨hk, hm⟩ := hk
 by_cases hlt : k < 12
 ·rw [show 12 - k = (12 - (k + 1)) + 1 by omega, monthAt_succ] at hm
  repeat' (first | refine stp tab_ok rfl (by first | exact sideN | exact sideT (by omega)) ?_ | refine gT rfl rfl (by omega) ?_ | refine gF rfl rfl (by omega) ?_ | refine gNT rfl rfl (by omega) ?_ | refine gNF rfl rfl (by omega) ?_ | fail)
  refine good_by rfl (ok_idxAt 146 _ _ 12 9 (fun k => S (monthB k)) .i64 _ k _ _ rfl rfl rfl (tab_ok 146 _ rfl) rfl (tab_ok 9 _ rfl) rfl rfl hlt) rfl ?_
  repeat' (first | refine stp tab_ok rfl (by first | exact sideN | exact sideT (by omega)) ?_ | refine gT rfl rfl (by omega) ?_ | refine gF rfl rfl (by omega) ?_ | refine gNT rfl rfl (by omega) ?_ | refine gNF rfl rfl (by omega) ?_ | fail)
  by_cases h2 : 2 < f.size
  ·repeat' (first | refine stp tab_ok rfl (by first | exact sideN | exact sideT (by omega)) ?_ | refine gT rfl rfl (by omega) ?_ | refine gF rfl rfl (by omega) ?_ | refine gNT rfl rfl (by omega) ?_ | refine gNF rfl rfl (by omega) ?_ | fail)
   refine good_callG rfl rfl rfl rfl rfl rfl rfl rfl rfl ent146 (hasPrefix_ac (monthB k) f) rfl ?_
   cases hp : Lib.hasPrefix (monthB k).data.toList f.data.toList with
   | true =>
    rw [if_pos ⟨h2, hp⟩] at hm
    rw [← hm]
    repeat' (first | refine stp tab_ok rfl (by first | exact sideN | exact sideT (by omega)) ?_ | refine gT rfl rfl (by omega) ?_ | refine gF rfl rfl (by omega) ?_ | refine gNT rfl rfl (by omega) ?_ | refine gNF rfl rfl (by omega) ?_ | fail)
    repeat' (first | refine stp tab_ok rfl (by first | exact sideN | exact sideT (by omega)) ?_ | refine gT rfl rfl (by omega) ?_ | refine gF rfl rfl (by omega) ?_ | refine gNT rfl rfl (by omega) ?_ | refine gNF rfl rfl (by omega) ?_ | refine gS rfl rfl (fun _ => ?_) (fun _ => ?_) | refine gNS rfl rfl (fun _ => ?_) (fun _ => ?_) | refine gBS rfl rfl (fun _ => ?_) (fun _ => ?_) | refine gBN rfl rfl (fun _ => ?_) (fun _ => ?_) | refine good_ret tab_ok hX rfl (Sub.of_eq ?_) | refine good_end tab_ok hX rfl (Sub.of_eq ?_) | fail)
    rfl
   | false =>
    rw [if_neg (fun h => by rw [hp] at h; cases h.2)] at hm
    repeat' (first | refine stp tab_ok rfl (by first | exact sideN | exact sideT (by omega)) ?_ | refine gT rfl rfl (by omega) ?_ | refine gF rfl rfl (by omega) ?_ | refine gNT rfl rfl (by omega) ?_ | refine gNF rfl rfl (by omega) ?_ | fail)
    exact good_again (k + 1) ⟨by omega, hm⟩ (by omega) (Wk.mk ⟨Sub.of_eq rfl, Sub.of_eq rfl, Sub.of_eq rfl, trivial⟩ trivial rfl rfl (pin0 hX))
  ·rw [if_neg (fun h => h2 h.1)] at hm
   repeat' (first | refine stp tab_ok rfl (by first | exact sideN | exact sideT (by omega)) ?_ | refine gT rfl rfl (by omega) ?_ | refine gF rfl rfl (by omega) ?_ | refine gNT rfl rfl (by omega) ?_ | refine gNF rfl rfl (by omega) ?_ | fail)
   exact good_again (k + 1) ⟨by omega, hm⟩ (by omega) (Wk.mk ⟨Sub.of_eq rfl, Sub.of_eq rfl, Sub.of_eq rfl, trivial⟩ trivial rfl rfl (pin0 hX))
 ·obtain rfl : k = 12 := by omega
  have : res = none := by rw [← hm]; rfl
  rw [this]
  repeat' (first | refine stp tab_ok rfl (by first | exact sideN | exact sideT (by omega)) ?_ | refine gT rfl rfl (by omega) ?_ | refine gF rfl rfl (by omega) ?_ | refine gNT rfl rfl (by omega) ?_ | refine gNF rfl rfl (by omega) ?_ | fail)
  repeat' (first | refine stp tab_ok rfl (by first | exact sideN | exact sideT (by omega)) ?_ | refine gT rfl rfl (by omega) ?_ | refine gF rfl rfl (by omega) ?_ | refine gNT rfl rfl (by omega) ?_ | refine gNF rfl rfl (by omega) ?_ | refine gS rfl rfl (fun _ => ?_) (fun _ => ?_) | refine gNS rfl rfl (fun _ => ?_) (fun _ => ?_) | refine gBS rfl rfl (fun _ => ?_) (fun _ => ?_) | refine gBN rfl rfl (fun _ => ?_) (fun _ => ?_) | refine good_ret tab_ok hX rfl (Sub.of_eq ?_) | refine good_end tab_ok hX rfl (Sub.of_eq ?_) | fail)
  rfl
def colon1 : ByteArray := ⟨#[58]⟩
def piecesC (s : ByteArray) : List ByteArray := Lib.splitB colon1 0 (min 3 (s.size + 1) - 1) s
def clkOk (ps : List ByteArray) : Nat → Bool
 | 0 => true
 | k + 1 => clkOk ps k && (wOk (ps.getD k ByteArray.empty) && decide ((ps.getD k ByteArray.empty).size ≤ 2))
def clockZ (s : ByteArray) : Int × Bool := if (piecesC s).length = 3 ∧ clkOk (piecesC s) 3 = true then secondF (wNum ((piecesC s).getD 0 ByteArray.empty)) (wNum ((piecesC s).getD 1 ByteArray.empty)) (wNum ((piecesC s).getD 2 ByteArray.empty)) else (0, false)
def zw (ps : List ByteArray) (k q : Nat) : Int := if q < k then wNum (ps.getD q ByteArray.empty) else 0
theorem zw_step (ps : List ByteArray) (k : Nat) : alOf 3 (fun q => if q = k then I (wNum (ps.getD k ByteArray.empty)) else I (zw ps k q)) = alOf 3 (fun q => I (zw ps (k + 1) q)) := by
 refine alOf_congr fun q hq => ?_
 unfold zw
 by_cases h : q = k
 ·subst h
  rw [if_pos rfl, if_pos (Nat.lt_succ_self _)]
 ·rw [if_neg h]
  by_cases h2 : q < k
  ·rw [if_pos h2, if_pos (by omega)]
  ·rw [if_neg h2, if_neg (by omega)]
theorem clkOk_no {ps : List ByteArray} {k : Nat} (h : (wOk (ps.getD k ByteArray.empty) && decide ((ps.getD k ByteArray.empty).size ≤ 2)) = false) : ∀ {n : Nat}, k < n → clkOk ps n = false
 | 0, hn => by omega
 | n + 1, hn => by
  unfold clkOk
  by_cases e : k = n
  ·subst e; rw [h, Bool.and_false]
  ·rw [clkOk_no h (show k < n by omega), Bool.false_and]
theorem wNum_small (w : ByteArray) (h : w.size ≤ 2) : 0 ≤ wNum w ∧ wNum w ≤ 1000 := by
 have hb := wNum_bd w
 refine ⟨hb.1, ?_⟩
 unfold wNum
 cases hn : numN w with
 | none => decide
 | some n =>
  unfold numN at hn
  split at hn
  ·cases hn
  ·have hl : w.data.toList.length ≤ 2 := h
   show (n : Int) ≤ 1000
   match hw : w.data.toList, hl with
   | [], _ => rw [hw, numS_nil] at hn; cases hn; omega
   | [a], _ =>
    rw [hw, numS_cons] at hn
    split at hn
    ·rw [numS_nil] at hn; cases hn; omega
    ·cases hn
   | [a, b], _ =>
    rw [hw, numS_cons] at hn
    split at hn
    ·rw [numS_cons] at hn
     split at hn
     ·rw [numS_nil] at hn; cases hn; omega
     ·cases hn
    ·cases hn
   | _ :: _ :: _ :: _, hl => simp at hl
theorem clk_small {ps : List ByteArray} : ∀ {n k : Nat}, clkOk ps n = true → k < n → (ps.getD k ByteArray.empty).size ≤ 2
 | 0, _, _, h => by omega
 | n + 1, k, h, hk => by
  unfold clkOk at h
  rw [Bool.and_eq_true, Bool.and_eq_true, decide_eq_true_eq] at h
  by_cases e : k = n
  ·rw [e]; exact h.2.2
  ·exact clk_small h.1 (by omega)
theorem clockZ_ac (s : ByteArray) (hs : s.size ≤ 1000000) : AC Tryz.prog 207 (L1 (S s)) (.tup (L2 (I (clockZ s).1) (B (clockZ s).2))) := by
 have hsp := splitN_ac s colon1 3 (by omega) (by decide) (by omega)
 have hle := Lib.splitB_length_le colon1 0 (min 3 (s.size + 1) - 1) s
 have hsz := splitB_size colon1 (min 3 (s.size + 1) - 1) s
 have hZ : clockZ s = if (piecesC s).length = 3 ∧ clkOk (piecesC s) 3 = true then secondF (wNum ((piecesC s).getD 0 ByteArray.empty)) (wNum ((piecesC s).getD 1 ByteArray.empty)) (wNum ((piecesC s).getD 2 ByteArray.empty)) else (0, false) := rfl
 rw [hZ]
 clear hZ
 change AC _ _ _ (.im 1 (piecesC s).length (strEls (piecesC s))) at hsp
 change (piecesC s).length ≤ _ at hle
 change ∀ p ∈ piecesC s, _ at hsz
 generalize piecesC s = ps at *
 refine AC.enter Tryz.func207 Tryz.ntmps207 rfl rfl rfl (fun F hX => ?_)
 repeat' (first | refine stp tab_ok rfl (by first | exact sideN | exact sideT (by omega)) ?_ | refine gT rfl rfl (by omega) ?_ | refine gF rfl rfl (by omega) ?_ | refine gNT rfl rfl (by omega) ?_ | refine gNF rfl rfl (by omega) ?_ | fail)
 refine good_call rfl rfl rfl rfl rfl ent236 (hsp) rfl ?_
 repeat' (first | refine stp tab_ok rfl (by first | exact sideN | exact sideT (by omega)) ?_ | refine gT rfl rfl (by omega) ?_ | refine gF rfl rfl (by omega) ?_ | refine gNT rfl rfl (by omega) ?_ | refine gNF rfl rfl (by omega) ?_ | fail)
 by_cases h3 : ps.length = 3
 ·repeat' (first | refine stp tab_ok rfl (by first | exact sideN | exact sideT (by omega)) ?_ | refine gT rfl rfl (by omega) ?_ | refine gF rfl rfl (by omega) ?_ | refine gNT rfl rfl (by omega) ?_ | refine gNF rfl rfl (by omega) ?_ | fail)
  refine good_rounds (fun k : Nat => [(15, strA ps), (16, I ps.length), (17, I k), (4, .ptr 4 0)]) (fun k : Nat => [(4, .box 309 (alOf 3 (fun q => I (zw ps k q))))]) (fun k : Nat => 3 - k) (fun k : Nat => k ≤ 3 ∧ clkOk ps k = true) 0 ⟨Nat.zero_le _, rfl⟩ (Wk.mk ⟨Sub.of_eq rfl, Sub.of_eq rfl, Sub.of_eq rfl, Sub.of_eq rfl, trivial⟩ ⟨⟨_, rfl, SubO.refl _⟩, trivial⟩ rfl rfl (pin0 hX)) (fun k hk => ?_)
  obtain ⟨hk, hok⟩ := hk
  by_cases hlt : k < 3
  ·have hpz := hsz _ (getD_mem (show k < ps.length by omega))
   repeat' (first | refine stp tab_ok rfl (by first | exact sideN | exact sideT (by omega)) ?_ | refine gT rfl rfl (by omega) ?_ | refine gF rfl rfl (by omega) ?_ | refine gNT rfl rfl (by omega) ?_ | refine gNF rfl rfl (by omega) ?_ | fail)
   simp only [Int.toNat_natCast]
   repeat' (first | refine stp tab_ok rfl (by first | exact sideN | exact sideT (by omega)) ?_ | refine gT rfl rfl (by omega) ?_ | refine gF rfl rfl (by omega) ?_ | refine gNT rfl rfl (by omega) ?_ | refine gNF rfl rfl (by omega) ?_ | fail)
   refine good_call rfl rfl rfl rfl rfl ent194 (lnum_ac (ps.getD k ByteArray.empty) (by omega)) rfl ?_
   repeat' (first | refine stp tab_ok rfl (by first | exact sideN | exact sideT (by omega)) ?_ | refine gT rfl rfl (by omega) ?_ | refine gF rfl rfl (by omega) ?_ | refine gNT rfl rfl (by omega) ?_ | refine gNF rfl rfl (by omega) ?_ | fail)
   have e2 : (numR (numN (ps.getD k ByteArray.empty))).2 = wOk (ps.getD k ByteArray.empty) := rfl
   have e1 : (numR (numN (ps.getD k ByteArray.empty))).1 = wNum (ps.getD k ByteArray.empty) := rfl
   rw [e1, e2]
   cases hw : wOk (ps.getD k ByteArray.empty) with
   | true =>
    by_cases h2 : (ps.getD k ByteArray.empty).size ≤ 2
    ·repeat' (first | refine stp tab_ok rfl (by first | exact sideN | exact sideT (by omega)) ?_ | refine gT rfl rfl (by omega) ?_ | refine gF rfl rfl (by omega) ?_ | refine gNT rfl rfl (by omega) ?_ | refine gNF rfl rfl (by omega) ?_ | fail)
     refine good_by rfl (ok_storeAt 3 _ _ 4 _ k 309 3 _ _ _ rfl (show 0 + _ * 1 = _ by omega) rfl rfl rfl rfl (tab_ok 3 _ rfl) rfl (by omega)) rfl ?_
     repeat' (first | refine stp tab_ok rfl (by first | exact sideN | exact sideT (by omega)) ?_ | refine gT rfl rfl (by omega) ?_ | refine gF rfl rfl (by omega) ?_ | refine gNT rfl rfl (by omega) ?_ | refine gNF rfl rfl (by omega) ?_ | fail)
     exact good_again (k + 1) ⟨by omega, by unfold clkOk; rw [hok, hw, decide_eq_true h2]; rfl⟩ (by omega) (Wk.mk ⟨Sub.of_eq rfl, Sub.of_eq rfl, Sub.of_eq rfl, Sub.of_eq rfl, trivial⟩ ⟨⟨_, rfl, SubO.box (subL_of (zw_step ps k))⟩, trivial⟩ rfl rfl (pin0 hX))
    ·rw [if_neg (fun e => by rw [clkOk_no (by rw [hw, decide_eq_false h2]; rfl) hlt] at e; cases e.2)]
     repeat' (first | refine stp tab_ok rfl (by first | exact sideN | exact sideT (by omega)) ?_ | refine gT rfl rfl (by omega) ?_ | refine gF rfl rfl (by omega) ?_ | refine gNT rfl rfl (by omega) ?_ | refine gNF rfl rfl (by omega) ?_ | fail)
     repeat' (first | refine stp tab_ok rfl (by first | exact sideN | exact sideT (by omega)) ?_ | refine gT rfl rfl (by omega) ?_ | refine gF rfl rfl (by omega) ?_ | refine gNT rfl rfl (by omega) ?_ | refine gNF rfl rfl (by omega) ?_ | refine gS rfl rfl (fun _ => ?_) (fun _ => ?_) | refine gNS rfl rfl (fun _ => ?_) (fun _ => ?_) | refine gBS rfl rfl (fun _ => ?_) (fun _ => ?_) | refine gBN rfl rfl (fun _ => ?_) (fun _ => ?_) | refine good_ret tab_ok hX rfl (Sub.of_eq ?_) | refine good_end tab_ok hX rfl (Sub.of_eq ?_) | fail)
     rfl
   | false =>
    rw [if_neg (fun e => by rw [clkOk_no (by rw [hw]; rfl) hlt] at e; cases e.2)]
    repeat' (first | refine stp tab_ok rfl (by first | exact sideN | exact sideT (by omega)) ?_ | refine gT rfl rfl (by omega) ?_ | refine gF rfl rfl (by omega) ?_ | refine gNT rfl rfl (by omega) ?_ | refine gNF rfl rfl (by omega) ?_ | fail)
    repeat' (first | refine stp tab_ok rfl (by first | exact sideN | exact sideT (by omega)) ?_ | refine gT rfl rfl (by omega) ?_ | refine gF rfl rfl (by omega) ?_ | refine gNT rfl rfl (by omega) ?_ | refine gNF rfl rfl (by omega) ?_ | refine gS rfl rfl (fun _ => ?_) (fun _ => ?_) | refine gNS rfl rfl (fun _ => ?_) (fun _ => ?_) | refine gBS rfl rfl (fun _ => ?_) (fun _ => ?_) | refine gBN rfl rfl (fun _ => ?_) (fun _ => ?_) | refine good_ret tab_ok hX rfl (Sub.of_eq ?_) | refine good_end tab_ok hX rfl (Sub.of_eq ?_) | fail)
    rfl
  ·obtain rfl : k = 3 := by omega
   rw [if_pos ⟨h3, hok⟩]
   have b0 := wNum_small _ (clk_small hok (show 0 < 3 by omega))
   have b1 := wNum_small _ (clk_small hok (show 1 < 3 by omega))
   have b2 := wNum_small _ (clk_small hok (show 2 < 3 by omega))
   repeat' (first | refine stp tab_ok rfl (by first | exact sideN | exact sideT (by omega)) ?_ | refine gT rfl rfl (by omega) ?_ | refine gF rfl rfl (by omega) ?_ | refine gNT rfl rfl (by omega) ?_ | refine gNF rfl rfl (by omega) ?_ | fail)
   refine good_call rfl rfl rfl rfl rfl ent237 (second_ac (wNum (ps.getD 0 ByteArray.empty)) (wNum (ps.getD 1 ByteArray.empty)) (wNum (ps.getD 2 ByteArray.empty)) b0 b1 b2) rfl ?_
   repeat' (first | refine stp tab_ok rfl (by first | exact sideN | exact sideT (by omega)) ?_ | refine gT rfl rfl (by omega) ?_ | refine gF rfl rfl (by omega) ?_ | refine gNT rfl rfl (by omega) ?_ | refine gNF rfl rfl (by omega) ?_ | refine gS rfl rfl (fun _ => ?_) (fun _ => ?_) | refine gNS rfl rfl (fun _ => ?_) (fun _ => ?_) | refine gBS rfl rfl (fun _ => ?_) (fun _ => ?_) | refine gBN rfl rfl (fun _ => ?_) (fun _ => ?_) | refine good_ret tab_ok hX rfl (Sub.of_eq ?_) | refine good_end tab_ok hX rfl (Sub.of_eq ?_) | fail)
   rfl
 ·rw [if_neg (fun e => h3 e.1)]
  repeat' (first | refine stp tab_ok rfl (by first | exact sideN | exact sideT (by omega)) ?_ | refine gT rfl rfl (by omega) ?_ | refine gF rfl rfl (by omega) ?_ | refine gNT rfl rfl (by omega) ?_ | refine gNF rfl rfl (by omega) ?_ | fail)
  repeat' (first | refine stp tab_ok rfl (by first | exact sideN | exact sideT (by omega)) ?_ | refine gT rfl rfl (by omega) ?_ | refine gF rfl rfl (by omega) ?_ | refine gNT rfl rfl (by omega) ?_ | refine gNF rfl rfl (by omega) ?_ | refine gS rfl rfl (fun _ => ?_) (fun _ => ?_) | refine gNS rfl rfl (fun _ => ?_) (fun _ => ?_) | refine gBS rfl rfl (fun _ => ?_) (fun _ => ?_) | refine gBN rfl rfl (fun _ => ?_) (fun _ => ?_) | refine good_ret tab_ok hX rfl (Sub.of_eq ?_) | refine good_end tab_ok hX rfl (Sub.of_eq ?_) | fail)
  rfl
def kRolling : ByteArray := ⟨#[114, 111, 108, 108, 105, 110, 103]⟩
def kStat : ByteArray := ⟨#[115, 116, 97, 116, 105, 111, 110, 97, 114, 121]⟩
def rollF (s : ByteArray) : Bool × Bool := (Lib.hasPrefix kRolling.data.toList (foldF s).data.toList, Lib.hasPrefix kRolling.data.toList (foldF s).data.toList || Lib.hasPrefix kStat.data.toList (foldF s).data.toList)
theorem roll_ac (s : ByteArray) (hs : s.size ≤ 1000000) : AC Tryz.prog 155 (L1 (S s)) (.tup (L2 (B (rollF s).1) (B (rollF s).2))) := by
 have hf := fold_ac s hs
 unfold rollF
 generalize foldF s = f at *
 refine AC.enter Tryz.func155 Tryz.ntmps155 rfl rfl rfl (fun F hX => ?_)
 repeat' (first | refine stp tab_ok rfl (by first | exact sideN | exact sideT (by omega)) ?_ | refine gT rfl rfl (by omega) ?_ | refine gF rfl rfl (by omega) ?_ | refine gNT rfl rfl (by omega) ?_ | refine gNF rfl rfl (by omega) ?_ | fail)
 refine good_call rfl rfl rfl rfl rfl ent153 (hf) rfl ?_
 repeat' (first | refine stp tab_ok rfl (by first | exact sideN | exact sideT (by omega)) ?_ | refine gT rfl rfl (by omega) ?_ | refine gF rfl rfl (by omega) ?_ | refine gNT rfl rfl (by omega) ?_ | refine gNF rfl rfl (by omega) ?_ | fail)
 refine good_call rfl rfl rfl rfl rfl ent146 (hasPrefix_ac kRolling f) rfl ?_
 cases h : Lib.hasPrefix kRolling.data.toList f.data.toList with
 | true =>
  repeat' (first | refine stp tab_ok rfl (by first | exact sideN | exact sideT (by omega)) ?_ | refine gT rfl rfl (by omega) ?_ | refine gF rfl rfl (by omega) ?_ | refine gNT rfl rfl (by omega) ?_ | refine gNF rfl rfl (by omega) ?_ | fail)
  repeat' (first | refine stp tab_ok rfl (by first | exact sideN | exact sideT (by omega)) ?_ | refine gT rfl rfl (by omega) ?_ | refine gF rfl rfl (by omega) ?_ | refine gNT rfl rfl (by omega) ?_ | refine gNF rfl rfl (by omega) ?_ | refine gS rfl rfl (fun _ => ?_) (fun _ => ?_) | refine gNS rfl rfl (fun _ => ?_) (fun _ => ?_) | refine gBS rfl rfl (fun _ => ?_) (fun _ => ?_) | refine gBN rfl rfl (fun _ => ?_) (fun _ => ?_) | refine good_ret tab_ok hX rfl (Sub.of_eq ?_) | refine good_end tab_ok hX rfl (Sub.of_eq ?_) | fail)
  rfl
 | false =>
  repeat' (first | refine stp tab_ok rfl (by first | exact sideN | exact sideT (by omega)) ?_ | refine gT rfl rfl (by omega) ?_ | refine gF rfl rfl (by omega) ?_ | refine gNT rfl rfl (by omega) ?_ | refine gNF rfl rfl (by omega) ?_ | fail)
  refine good_callG rfl rfl rfl rfl rfl rfl rfl rfl rfl ent146 (hasPrefix_ac kStat f) rfl ?_
  repeat' (first | refine stp tab_ok rfl (by first | exact sideN | exact sideT (by omega)) ?_ | refine gT rfl rfl (by omega) ?_ | refine gF rfl rfl (by omega) ?_ | refine gNT rfl rfl (by omega) ?_ | refine gNF rfl rfl (by omega) ?_ | refine gS rfl rfl (fun _ => ?_) (fun _ => ?_) | refine gNS rfl rfl (fun _ => ?_) (fun _ => ?_) | refine gBS rfl rfl (fun _ => ?_) (fun _ => ?_) | refine gBN rfl rfl (fun _ => ?_) (fun _ => ?_) | refine good_ret tab_ok hX rfl (Sub.of_eq ?_) | refine good_end tab_ok hX rfl (Sub.of_eq ?_) | fail)
  rfl
end Go.Proofs.YthjldemjipnmdaaGreatDoor.Sx
namespace Go.Proofs.YthjldemjipnmdaaGreatDoor.Sx
open Go.RowKit
set_option maxRecDepth 100000
structure ZRow where
 kind : Int
 y : Int
 m : Int
 d : Int
 sec : Int
 sign : ByteArray
 roll : Bool
def zrL (r : ZRow) : AL := .cons (I r.kind) (.cons (I r.y) (.cons (I r.m) (.cons (I r.d) (.cons (I r.sec) (.cons (S r.sign) (.cons (B r.roll) .nil))))))
def mNum (s : ByteArray) : Int := (numR (monthF s)).1
def mOk (s : ByteArray) : Bool := (numR (monthF s)).2
def wat (ws : List ByteArray) (k : Nat) : ByteArray := ws.getD k ByteArray.empty
def dateZ (kind : Int) (ws : List ByteArray) : ZRow × Bool := (⟨kind, wNum (wat ws 1), mNum (wat ws 2), wNum (wat ws 3), (clockZ (wat ws 4)).1, ⟨#[]⟩, false⟩, wOk (wat ws 1) && (mOk (wat ws 2) && (wOk (wat ws 3) && (clockZ (wat ws 4)).2)))
theorem dateZ_ac (kind : Int) (ws : List ByteArray) (hl : 5 ≤ ws.length) (hs : ∀ p ∈ ws, p.size ≤ 1000000) : AC Tryz.prog 154 (L2 (I kind) (strA ws)) (.tup (L2 (.agg (zrL (dateZ kind ws).1)) (B (dateZ kind ws).2))) := by
 have h1 := lnum_ac (wat ws 1) (hs _ (getD_mem (by omega)))
 have h2 := month_ac (wat ws 2) (hs _ (getD_mem (by omega)))
 have h3 := lnum_ac (wat ws 3) (hs _ (getD_mem (by omega)))
 have h4 := clockZ_ac (wat ws 4) (hs _ (getD_mem (by omega)))
 unfold dateZ wNum mNum wOk mOk
 generalize numR (numN (wat ws 1)) = q1 at *
 generalize numR (monthF (wat ws 2)) = q2 at *
 generalize numR (numN (wat ws 3)) = q3 at *
 generalize clockZ (wat ws 4) = q4 at *
 obtain ⟨a1, b1⟩ := q1
 obtain ⟨a2, b2⟩ := q2
 obtain ⟨a3, b3⟩ := q3
 obtain ⟨a4, b4⟩ := q4
 refine AC.enter Tryz.func154 Tryz.ntmps154 rfl rfl rfl (fun F hX => ?_)
 repeat' (first | refine stp tab_ok rfl (by first | exact sideN | exact sideT (by omega)) ?_ | refine gT rfl rfl (by omega) ?_ | refine gF rfl rfl (by omega) ?_ | refine gNT rfl rfl (by omega) ?_ | refine gNF rfl rfl (by omega) ?_ | fail)
 refine good_call rfl rfl rfl rfl rfl ent194 (h1) rfl ?_
 repeat' (first | refine stp tab_ok rfl (by first | exact sideN | exact sideT (by omega)) ?_ | refine gT rfl rfl (by omega) ?_ | refine gF rfl rfl (by omega) ?_ | refine gNT rfl rfl (by omega) ?_ | refine gNF rfl rfl (by omega) ?_ | fail)
 refine good_call rfl rfl rfl rfl rfl ent206 (h2) rfl ?_
 repeat' (first | refine stp tab_ok rfl (by first | exact sideN | exact sideT (by omega)) ?_ | refine gT rfl rfl (by omega) ?_ | refine gF rfl rfl (by omega) ?_ | refine gNT rfl rfl (by omega) ?_ | refine gNF rfl rfl (by omega) ?_ | fail)
 refine good_call rfl rfl rfl rfl rfl ent194 (h3) rfl ?_
 repeat' (first | refine stp tab_ok rfl (by first | exact sideN | exact sideT (by omega)) ?_ | refine gT rfl rfl (by omega) ?_ | refine gF rfl rfl (by omega) ?_ | refine gNT rfl rfl (by omega) ?_ | refine gNF rfl rfl (by omega) ?_ | fail)
 refine good_call rfl rfl rfl rfl rfl ent207 (h4) rfl ?_
 repeat' (first | refine stp tab_ok rfl (by first | exact sideN | exact sideT (by omega)) ?_ | refine gT rfl rfl (by omega) ?_ | refine gF rfl rfl (by omega) ?_ | refine gNT rfl rfl (by omega) ?_ | refine gNF rfl rfl (by omega) ?_ | fail)
 cases b1 <;> cases b2 <;> cases b3 <;> (
  repeat' (first | refine stp tab_ok rfl (by first | exact sideN | exact sideT (by omega)) ?_ | refine gT rfl rfl (by omega) ?_ | refine gF rfl rfl (by omega) ?_ | refine gNT rfl rfl (by omega) ?_ | refine gNF rfl rfl (by omega) ?_ | fail)
  repeat' (first | refine stp tab_ok rfl (by first | exact sideN | exact sideT (by omega)) ?_ | refine gT rfl rfl (by omega) ?_ | refine gF rfl rfl (by omega) ?_ | refine gNT rfl rfl (by omega) ?_ | refine gNF rfl rfl (by omega) ?_ | refine gS rfl rfl (fun _ => ?_) (fun _ => ?_) | refine gNS rfl rfl (fun _ => ?_) (fun _ => ?_) | refine gBS rfl rfl (fun _ => ?_) (fun _ => ?_) | refine gBN rfl rfl (fun _ => ?_) (fun _ => ?_) | refine good_ret tab_ok hX rfl (Sub.of_eq ?_) | refine good_end tab_ok hX rfl (Sub.of_eq ?_) | fail)
  rfl)
def kLeap : ByteArray := ⟨#[108, 101, 97, 112]⟩
def kExpires : ByteArray := ⟨#[101, 120, 112, 105, 114, 101, 115]⟩
def plus1 : ByteArray := ⟨#[43]⟩
def minus1 : ByteArray := ⟨#[45]⟩
def zr0 : ZRow := ⟨0, 0, 0, 0, 0, ⟨#[]⟩, false⟩
def leapRow (ws : List ByteArray) : ZRow := { (dateZ 0 ws).1 with sign := wat ws 5, roll := (rollF (wat ws 6)).1 }
def readZ (ws : List ByteArray) : ZRow × Bool :=
 if foldF (wat ws 0) = kLeap ∧ ws.length = 7 then (leapRow ws, if wat ws 5 = plus1 ∨ wat ws 5 = minus1 then (dateZ 0 ws).2 && (rollF (wat ws 6)).2 else false)
 else if foldF (wat ws 0) = kExpires ∧ ws.length = 5 then dateZ 1 ws
 else (zr0, false)
theorem readZ_ac (ws : List ByteArray) (hl : 1 ≤ ws.length) (hs : ∀ p ∈ ws, p.size ≤ 1000000) : AC Tryz.prog 102 (L1 (strA ws)) (.tup (L2 (.agg (zrL (readZ ws).1)) (B (readZ ws).2))) := by
 have hf := fold_ac (wat ws 0) (hs _ (getD_mem (by omega)))
 unfold readZ leapRow
 generalize foldF (wat ws 0) = f at *
 refine AC.enter Tryz.func102 Tryz.ntmps102 rfl rfl rfl (fun F hX => ?_)
 repeat' (first | refine stp tab_ok rfl (by first | exact sideN | exact sideT (by omega)) ?_ | refine gT rfl rfl (by omega) ?_ | refine gF rfl rfl (by omega) ?_ | refine gNT rfl rfl (by omega) ?_ | refine gNF rfl rfl (by omega) ?_ | fail)
 refine good_call rfl rfl rfl rfl rfl ent153 (hf) rfl ?_
 repeat' (first | refine stp tab_ok rfl (by first | exact sideN | exact sideT (by omega)) ?_ | refine gT rfl rfl (by omega) ?_ | refine gF rfl rfl (by omega) ?_ | refine gNT rfl rfl (by omega) ?_ | refine gNF rfl rfl (by omega) ?_ | fail)
 by_cases h7 : f = kLeap ∧ ws.length = 7
 ·rw [if_pos h7]
  obtain ⟨rfl, h7⟩ := h7
  have hd := dateZ_ac 0 ws (by omega) hs
  have hr := roll_ac (wat ws 6) (hs _ (getD_mem (by omega)))
  generalize rollF (wat ws 6) = q at *
  generalize dateZ 0 ws = dz at *
  obtain ⟨⟨kind, y, m, d, sec, sign, roll⟩, ok⟩ := dz
  obtain ⟨qi, qo⟩ := q
  repeat' (first | refine stp tab_ok rfl (by first | exact sideN | exact sideT (by omega)) ?_ | refine gT rfl rfl (by omega) ?_ | refine gF rfl rfl (by omega) ?_ | refine gNT rfl rfl (by omega) ?_ | refine gNF rfl rfl (by omega) ?_ | fail)
  refine good_call rfl rfl rfl rfl rfl ent154 (hd) rfl ?_
  repeat' (first | refine stp tab_ok rfl (by first | exact sideN | exact sideT (by omega)) ?_ | refine gT rfl rfl (by omega) ?_ | refine gF rfl rfl (by omega) ?_ | refine gNT rfl rfl (by omega) ?_ | refine gNF rfl rfl (by omega) ?_ | fail)
  refine good_call rfl rfl rfl rfl rfl ent155 (hr) rfl ?_
  repeat' (first | refine stp tab_ok rfl (by first | exact sideN | exact sideT (by omega)) ?_ | refine gT rfl rfl (by omega) ?_ | refine gF rfl rfl (by omega) ?_ | refine gNT rfl rfl (by omega) ?_ | refine gNF rfl rfl (by omega) ?_ | fail)
  by_cases hp : wat ws 5 = plus1
  ·rw [if_pos (.inl hp)]
   refine gT rfl rfl hp ?_
   repeat' (first | refine stp tab_ok rfl (by first | exact sideN | exact sideT (by omega)) ?_ | refine gT rfl rfl (by omega) ?_ | refine gF rfl rfl (by omega) ?_ | refine gNT rfl rfl (by omega) ?_ | refine gNF rfl rfl (by omega) ?_ | fail)
   cases ok <;> (
    repeat' (first | refine stp tab_ok rfl (by first | exact sideN | exact sideT (by omega)) ?_ | refine gT rfl rfl (by omega) ?_ | refine gF rfl rfl (by omega) ?_ | refine gNT rfl rfl (by omega) ?_ | refine gNF rfl rfl (by omega) ?_ | fail)
    repeat' (first | refine stp tab_ok rfl (by first | exact sideN | exact sideT (by omega)) ?_ | refine gT rfl rfl (by omega) ?_ | refine gF rfl rfl (by omega) ?_ | refine gNT rfl rfl (by omega) ?_ | refine gNF rfl rfl (by omega) ?_ | refine gS rfl rfl (fun _ => ?_) (fun _ => ?_) | refine gNS rfl rfl (fun _ => ?_) (fun _ => ?_) | refine gBS rfl rfl (fun _ => ?_) (fun _ => ?_) | refine gBN rfl rfl (fun _ => ?_) (fun _ => ?_) | refine good_ret tab_ok hX rfl (Sub.of_eq ?_) | refine good_end tab_ok hX rfl (Sub.of_eq ?_) | fail)
    rfl)
  ·refine gF rfl rfl hp ?_
   repeat' (first | refine stp tab_ok rfl (by first | exact sideN | exact sideT (by omega)) ?_ | refine gT rfl rfl (by omega) ?_ | refine gF rfl rfl (by omega) ?_ | refine gNT rfl rfl (by omega) ?_ | refine gNF rfl rfl (by omega) ?_ | fail)
   by_cases hm : wat ws 5 = minus1
   ·rw [if_pos (.inr hm)]
    refine gT rfl rfl hm ?_
    repeat' (first | refine stp tab_ok rfl (by first | exact sideN | exact sideT (by omega)) ?_ | refine gT rfl rfl (by omega) ?_ | refine gF rfl rfl (by omega) ?_ | refine gNT rfl rfl (by omega) ?_ | refine gNF rfl rfl (by omega) ?_ | fail)
    cases ok <;> (
     repeat' (first | refine stp tab_ok rfl (by first | exact sideN | exact sideT (by omega)) ?_ | refine gT rfl rfl (by omega) ?_ | refine gF rfl rfl (by omega) ?_ | refine gNT rfl rfl (by omega) ?_ | refine gNF rfl rfl (by omega) ?_ | fail)
     repeat' (first | refine stp tab_ok rfl (by first | exact sideN | exact sideT (by omega)) ?_ | refine gT rfl rfl (by omega) ?_ | refine gF rfl rfl (by omega) ?_ | refine gNT rfl rfl (by omega) ?_ | refine gNF rfl rfl (by omega) ?_ | refine gS rfl rfl (fun _ => ?_) (fun _ => ?_) | refine gNS rfl rfl (fun _ => ?_) (fun _ => ?_) | refine gBS rfl rfl (fun _ => ?_) (fun _ => ?_) | refine gBN rfl rfl (fun _ => ?_) (fun _ => ?_) | refine good_ret tab_ok hX rfl (Sub.of_eq ?_) | refine good_end tab_ok hX rfl (Sub.of_eq ?_) | fail)
     rfl)
   ·rw [if_neg (fun h => by rcases h with h | h; exact hp h; exact hm h)]
    refine gF rfl rfl hm ?_
    repeat' (first | refine stp tab_ok rfl (by first | exact sideN | exact sideT (by omega)) ?_ | refine gT rfl rfl (by omega) ?_ | refine gF rfl rfl (by omega) ?_ | refine gNT rfl rfl (by omega) ?_ | refine gNF rfl rfl (by omega) ?_ | fail)
    repeat' (first | refine stp tab_ok rfl (by first | exact sideN | exact sideT (by omega)) ?_ | refine gT rfl rfl (by omega) ?_ | refine gF rfl rfl (by omega) ?_ | refine gNT rfl rfl (by omega) ?_ | refine gNF rfl rfl (by omega) ?_ | refine gS rfl rfl (fun _ => ?_) (fun _ => ?_) | refine gNS rfl rfl (fun _ => ?_) (fun _ => ?_) | refine gBS rfl rfl (fun _ => ?_) (fun _ => ?_) | refine gBN rfl rfl (fun _ => ?_) (fun _ => ?_) | refine good_ret tab_ok hX rfl (Sub.of_eq ?_) | refine good_end tab_ok hX rfl (Sub.of_eq ?_) | fail)
    rfl
 ·by_cases hk : f = kLeap
  ·rw [if_neg h7]
   have hl7 : ws.length ≠ 7 := fun e => h7 ⟨hk, e⟩
   have he : ¬ f = kExpires := fun e => absurd (hk.symm.trans e) (by decide)
   rw [if_neg (fun h => he h.1)]
   refine gT rfl rfl hk ?_
   repeat' (first | refine stp tab_ok rfl (by first | exact sideN | exact sideT (by omega)) ?_ | refine gT rfl rfl (by omega) ?_ | refine gF rfl rfl (by omega) ?_ | refine gNT rfl rfl (by omega) ?_ | refine gNF rfl rfl (by omega) ?_ | fail)
   refine gF rfl rfl he ?_
   repeat' (first | refine stp tab_ok rfl (by first | exact sideN | exact sideT (by omega)) ?_ | refine gT rfl rfl (by omega) ?_ | refine gF rfl rfl (by omega) ?_ | refine gNT rfl rfl (by omega) ?_ | refine gNF rfl rfl (by omega) ?_ | fail)
   repeat' (first | refine stp tab_ok rfl (by first | exact sideN | exact sideT (by omega)) ?_ | refine gT rfl rfl (by omega) ?_ | refine gF rfl rfl (by omega) ?_ | refine gNT rfl rfl (by omega) ?_ | refine gNF rfl rfl (by omega) ?_ | refine gS rfl rfl (fun _ => ?_) (fun _ => ?_) | refine gNS rfl rfl (fun _ => ?_) (fun _ => ?_) | refine gBS rfl rfl (fun _ => ?_) (fun _ => ?_) | refine gBN rfl rfl (fun _ => ?_) (fun _ => ?_) | refine good_ret tab_ok hX rfl (Sub.of_eq ?_) | refine good_end tab_ok hX rfl (Sub.of_eq ?_) | fail)
   rfl
  ·rw [if_neg h7]
   refine gF rfl rfl hk ?_
   repeat' (first | refine stp tab_ok rfl (by first | exact sideN | exact sideT (by omega)) ?_ | refine gT rfl rfl (by omega) ?_ | refine gF rfl rfl (by omega) ?_ | refine gNT rfl rfl (by omega) ?_ | refine gNF rfl rfl (by omega) ?_ | fail)
   by_cases he : f = kExpires
   ·refine gT rfl rfl he ?_
    repeat' (first | refine stp tab_ok rfl (by first | exact sideN | exact sideT (by omega)) ?_ | refine gT rfl rfl (by omega) ?_ | refine gF rfl rfl (by omega) ?_ | refine gNT rfl rfl (by omega) ?_ | refine gNF rfl rfl (by omega) ?_ | fail)
    by_cases h5 : ws.length = 5
    ·rw [if_pos ⟨he, h5⟩]
     have hd := dateZ_ac 1 ws (by omega) hs
     generalize dateZ 1 ws = dz at *
     obtain ⟨⟨kind, y, m, d, sec, sign, roll⟩, ok⟩ := dz
     repeat' (first | refine stp tab_ok rfl (by first | exact sideN | exact sideT (by omega)) ?_ | refine gT rfl rfl (by omega) ?_ | refine gF rfl rfl (by omega) ?_ | refine gNT rfl rfl (by omega) ?_ | refine gNF rfl rfl (by omega) ?_ | fail)
     refine good_call rfl rfl rfl rfl rfl ent154 (hd) rfl ?_
     repeat' (first | refine stp tab_ok rfl (by first | exact sideN | exact sideT (by omega)) ?_ | refine gT rfl rfl (by omega) ?_ | refine gF rfl rfl (by omega) ?_ | refine gNT rfl rfl (by omega) ?_ | refine gNF rfl rfl (by omega) ?_ | fail)
     repeat' (first | refine stp tab_ok rfl (by first | exact sideN | exact sideT (by omega)) ?_ | refine gT rfl rfl (by omega) ?_ | refine gF rfl rfl (by omega) ?_ | refine gNT rfl rfl (by omega) ?_ | refine gNF rfl rfl (by omega) ?_ | refine gS rfl rfl (fun _ => ?_) (fun _ => ?_) | refine gNS rfl rfl (fun _ => ?_) (fun _ => ?_) | refine gBS rfl rfl (fun _ => ?_) (fun _ => ?_) | refine gBN rfl rfl (fun _ => ?_) (fun _ => ?_) | refine good_ret tab_ok hX rfl (Sub.of_eq ?_) | refine good_end tab_ok hX rfl (Sub.of_eq ?_) | fail)
     rfl
    ·rw [if_neg (fun h => h5 h.2)]
     repeat' (first | refine stp tab_ok rfl (by first | exact sideN | exact sideT (by omega)) ?_ | refine gT rfl rfl (by omega) ?_ | refine gF rfl rfl (by omega) ?_ | refine gNT rfl rfl (by omega) ?_ | refine gNF rfl rfl (by omega) ?_ | fail)
     repeat' (first | refine stp tab_ok rfl (by first | exact sideN | exact sideT (by omega)) ?_ | refine gT rfl rfl (by omega) ?_ | refine gF rfl rfl (by omega) ?_ | refine gNT rfl rfl (by omega) ?_ | refine gNF rfl rfl (by omega) ?_ | refine gS rfl rfl (fun _ => ?_) (fun _ => ?_) | refine gNS rfl rfl (fun _ => ?_) (fun _ => ?_) | refine gBS rfl rfl (fun _ => ?_) (fun _ => ?_) | refine gBN rfl rfl (fun _ => ?_) (fun _ => ?_) | refine good_ret tab_ok hX rfl (Sub.of_eq ?_) | refine good_end tab_ok hX rfl (Sub.of_eq ?_) | fail)
     rfl
   ·rw [if_neg (fun h => he h.1)]
    refine gF rfl rfl he ?_
    repeat' (first | refine stp tab_ok rfl (by first | exact sideN | exact sideT (by omega)) ?_ | refine gT rfl rfl (by omega) ?_ | refine gF rfl rfl (by omega) ?_ | refine gNT rfl rfl (by omega) ?_ | refine gNF rfl rfl (by omega) ?_ | fail)
    repeat' (first | refine stp tab_ok rfl (by first | exact sideN | exact sideT (by omega)) ?_ | refine gT rfl rfl (by omega) ?_ | refine gF rfl rfl (by omega) ?_ | refine gNT rfl rfl (by omega) ?_ | refine gNF rfl rfl (by omega) ?_ | refine gS rfl rfl (fun _ => ?_) (fun _ => ?_) | refine gNS rfl rfl (fun _ => ?_) (fun _ => ?_) | refine gBS rfl rfl (fun _ => ?_) (fun _ => ?_) | refine gBN rfl rfl (fun _ => ?_) (fun _ => ?_) | refine good_ret tab_ok hX rfl (Sub.of_eq ?_) | refine good_end tab_ok hX rfl (Sub.of_eq ?_) | fail)
    rfl
structure ZSrc where
 tbl : Tbl
 at_ : Int
 until_ : Int
def zsL (s : ZSrc) : AL := .cons (leapsA s.tbl.leaps) (.cons (B s.tbl.has) (.cons (I s.tbl.exp) (.cons (I s.at_) (.cons (I s.until_) .nil))))
end Go.Proofs.YthjldemjipnmdaaGreatDoor.Sx
namespace Go.Proofs.YthjldemjipnmdaaGreatDoor.Sx
open Go.RowKit
set_option maxRecDepth 100000
def leapZ (s : ZSrc) (r : ZRow) (n : Int) : ZSrc × Int :=
 if r.sign = plus1 ∧ r.sec = 86400 then ({ s with tbl := (addF s.tbl ⟨n, 1, r.roll⟩).1 }, (addF s.tbl ⟨n, 1, r.roll⟩).2)
 else if r.sign = minus1 ∧ r.sec = 86399 then ({ s with tbl := (addF s.tbl ⟨n, -1, r.roll⟩).1 }, (addF s.tbl ⟨n, -1, r.roll⟩).2)
 else (s, 6)
theorem leapZ_bc (s : ZSrc) (r : ZRow) (n : Int) (hl : s.tbl.leaps.length ≤ 90000) : BC Tryz.prog 104 117 (zsL s) (L2 (.agg (zrL r)) (I n)) (I (leapZ s r n).2) (zsL (leapZ s r n).1) := by
 obtain ⟨⟨leaps, has, exp⟩, at_, until_⟩ := s
 obtain ⟨kind, y, m, d, sec, sign, roll⟩ := r
 simp only at hl
 unfold leapZ
 simp only
 have hx := add_ac ⟨leaps, has, exp⟩ ⟨n, 1, roll⟩ hl
 have hy := add_ac ⟨leaps, has, exp⟩ ⟨n, -1, roll⟩ hl
 generalize addF ⟨leaps, has, exp⟩ ⟨n, 1, roll⟩ = q1 at *
 generalize addF ⟨leaps, has, exp⟩ ⟨n, -1, roll⟩ = q2 at *
 obtain ⟨⟨l1, h1, e1⟩, c1⟩ := q1
 obtain ⟨⟨l2, h2, e2⟩, c2⟩ := q2
 refine BC.enter 900 Tryz.func104 Tryz.ntmps104 rfl rfl rfl (fun F b hX hb => ?_)
 repeat' (first | refine stp tab_ok rfl (by first | exact sideN | exact sideT (by omega)) ?_ | refine gT rfl rfl (by omega) ?_ | refine gF rfl rfl (by omega) ?_ | refine gNT rfl rfl (by omega) ?_ | refine gNF rfl rfl (by omega) ?_ | fail)
 by_cases hp : sign = plus1
 ·have hm : ¬ sign = minus1 := fun e => absurd (hp.symm.trans e) (by decide)
  refine gT rfl rfl hp ?_
  repeat' (first | refine stp tab_ok rfl (by first | exact sideN | exact sideT (by omega)) ?_ | refine gT rfl rfl (by omega) ?_ | refine gF rfl rfl (by omega) ?_ | refine gNT rfl rfl (by omega) ?_ | refine gNF rfl rfl (by omega) ?_ | fail)
  by_cases hs : sec = 86400
  ·rw [if_pos ⟨hp, hs⟩]
   repeat' (first | refine stp tab_ok rfl (by first | exact sideN | exact sideT (by omega)) ?_ | refine gT rfl rfl (by omega) ?_ | refine gF rfl rfl (by omega) ?_ | refine gNT rfl rfl (by omega) ?_ | refine gNF rfl rfl (by omega) ?_ | fail)
   refine dg_start ?_
   repeat' (first | refine dgp tab_ok rfl (by first | exact sideN | exact sideT (by omega)) ?_ | fail)
   refine dg_call rfl rfl rfl rfl rfl ent147 (hx) rfl ?_
   repeat' (first | refine dgp tab_ok rfl (by first | exact sideN | exact sideT (by omega)) ?_ | fail)
   refine dg_end mixed rfl ?_
   repeat' (first | refine stp tab_ok rfl (by first | exact sideN | exact sideT (by omega)) ?_ | refine gT rfl rfl (by omega) ?_ | refine gF rfl rfl (by omega) ?_ | refine gNT rfl rfl (by omega) ?_ | refine gNF rfl rfl (by omega) ?_ | fail)
   exact good_retB tab_ok hX rfl rfl (Sub.refl _) (SubL.refl _)
  ·rw [if_neg (fun h => hs h.2), if_neg (fun h => hm h.1)]
   repeat' (first | refine stp tab_ok rfl (by first | exact sideN | exact sideT (by omega)) ?_ | refine gT rfl rfl (by omega) ?_ | refine gF rfl rfl (by omega) ?_ | refine gNT rfl rfl (by omega) ?_ | refine gNF rfl rfl (by omega) ?_ | fail)
   refine gF rfl rfl hm ?_
   repeat' (first | refine stp tab_ok rfl (by first | exact sideN | exact sideT (by omega)) ?_ | refine gT rfl rfl (by omega) ?_ | refine gF rfl rfl (by omega) ?_ | refine gNT rfl rfl (by omega) ?_ | refine gNF rfl rfl (by omega) ?_ | fail)
   exact good_retB tab_ok hX rfl rfl (Sub.refl _) (SubL.refl _)
 ·rw [if_neg (fun h => hp h.1)]
  refine gF rfl rfl hp ?_
  repeat' (first | refine stp tab_ok rfl (by first | exact sideN | exact sideT (by omega)) ?_ | refine gT rfl rfl (by omega) ?_ | refine gF rfl rfl (by omega) ?_ | refine gNT rfl rfl (by omega) ?_ | refine gNF rfl rfl (by omega) ?_ | fail)
  by_cases hm : sign = minus1
  ·refine gT rfl rfl hm ?_
   repeat' (first | refine stp tab_ok rfl (by first | exact sideN | exact sideT (by omega)) ?_ | refine gT rfl rfl (by omega) ?_ | refine gF rfl rfl (by omega) ?_ | refine gNT rfl rfl (by omega) ?_ | refine gNF rfl rfl (by omega) ?_ | fail)
   by_cases hs : sec = 86399
   ·rw [if_pos ⟨hm, hs⟩]
    repeat' (first | refine stp tab_ok rfl (by first | exact sideN | exact sideT (by omega)) ?_ | refine gT rfl rfl (by omega) ?_ | refine gF rfl rfl (by omega) ?_ | refine gNT rfl rfl (by omega) ?_ | refine gNF rfl rfl (by omega) ?_ | fail)
    refine dg_start ?_
    repeat' (first | refine dgp tab_ok rfl (by first | exact sideN | exact sideT (by omega)) ?_ | fail)
    refine dg_call rfl rfl rfl rfl rfl ent147 (hy) rfl ?_
    repeat' (first | refine dgp tab_ok rfl (by first | exact sideN | exact sideT (by omega)) ?_ | fail)
    refine dg_end mixed rfl ?_
    repeat' (first | refine stp tab_ok rfl (by first | exact sideN | exact sideT (by omega)) ?_ | refine gT rfl rfl (by omega) ?_ | refine gF rfl rfl (by omega) ?_ | refine gNT rfl rfl (by omega) ?_ | refine gNF rfl rfl (by omega) ?_ | fail)
    exact good_retB tab_ok hX rfl rfl (Sub.refl _) (SubL.refl _)
   ·rw [if_neg (fun h => hs h.2)]
    repeat' (first | refine stp tab_ok rfl (by first | exact sideN | exact sideT (by omega)) ?_ | refine gT rfl rfl (by omega) ?_ | refine gF rfl rfl (by omega) ?_ | refine gNT rfl rfl (by omega) ?_ | refine gNF rfl rfl (by omega) ?_ | fail)
    exact good_retB tab_ok hX rfl rfl (Sub.refl _) (SubL.refl _)
  ·rw [if_neg (fun h => hm h.1)]
   refine gF rfl rfl hm ?_
   repeat' (first | refine stp tab_ok rfl (by first | exact sideN | exact sideT (by omega)) ?_ | refine gT rfl rfl (by omega) ?_ | refine gF rfl rfl (by omega) ?_ | refine gNT rfl rfl (by omega) ?_ | refine gNF rfl rfl (by omega) ?_ | fail)
   exact good_retB tab_ok hX rfl rfl (Sub.refl _) (SubL.refl _)
def lineZ (s : ZSrc) (no : Int) (ws : List ByteArray) : ZSrc × Int :=
 if (readZ ws).2 = false ∨ ((readZ ws).1.kind = 1 ∧ 0 < s.at_) then (s, 2)
 else if ¬ validD (readZ ws).1.y (readZ ws).1.m (readZ ws).1.d then (s, 9)
 else if (readZ ws).1.kind = 0 then leapZ s (readZ ws).1 (numD (readZ ws).1.y (readZ ws).1.m (readZ ws).1.d)
 else if (readZ ws).1.sec = 86400 then (s, 9)
 else ({ s with at_ := no, until_ := numD (readZ ws).1.y (readZ ws).1.m (readZ ws).1.d * 86400 + (readZ ws).1.sec }, 0)
theorem numD_bd {y m d : Int} (h : validD y m d) : -800000 ≤ numD y m d ∧ numD y m d ≤ 4000000 := by
 unfold validD at h
 have hc := cum_bd y m (by omega)
 have hl := lastD_bd (y := y) h.2.1
 unfold numD firstY
 omega
theorem clockZ_bd (s : ByteArray) (_h : (clockZ s).2 = true) : -1000000000 ≤ (clockZ s).1 ∧ (clockZ s).1 ≤ 86400 := by
 unfold clockZ
 split
 ·rename_i hc
  have hw := fun k hk => wNum_small _ (clk_small hc.2 (k := k) hk)
  have h0 := hw 0 (by decide)
  have h1 := hw 1 (by decide)
  have h2 := hw 2 (by decide)
  unfold secondF at *
  split
  ·decide
  ·split
   ·simp only
    omega
   ·decide
 ·decide
theorem readZ_bd (ws : List ByteArray) (h : (readZ ws).2 = true) : ((readZ ws).1.kind = 0 ∨ (readZ ws).1.kind = 1) ∧ -1000000000 ≤ (readZ ws).1.sec ∧ (readZ ws).1.sec ≤ 86400 := by
 have hd : ∀ k, (dateZ k ws).2 = true → -1000000000 ≤ (dateZ k ws).1.sec ∧ (dateZ k ws).1.sec ≤ 86400 := fun k hk => by
  unfold dateZ at *
  simp only [Bool.and_eq_true] at hk
  exact clockZ_bd _ hk.2.2.2
 unfold readZ at *
 split
 ·rename_i hc
  rw [if_pos hc] at h
  simp only at h ⊢
  split at h
  ·rw [Bool.and_eq_true] at h
   exact ⟨.inl rfl, hd 0 h.1⟩
  ·cases h
 ·rename_i hc
  rw [if_neg hc] at h
  split at h
  ·rename_i h2
   rw [if_pos h2]
   exact ⟨.inr rfl, hd 1 h⟩
  ·cases h
theorem lineZ_bc (s : ZSrc) (no : Int) (ws : List ByteArray) (hw : 1 ≤ ws.length) (hs : ∀ p ∈ ws, p.size ≤ 1000000) (hl : s.tbl.leaps.length ≤ 90000) : BC Tryz.prog 53 117 (zsL s) (L2 (I no) (strA ws)) (I (lineZ s no ws).2) (zsL (lineZ s no ws).1) := by
 have hr := readZ_ac ws hw hs
 have hb := readZ_bd ws
 unfold lineZ
 generalize readZ ws = q at *
 obtain ⟨r, ok⟩ := q
 refine BC.enter 900 Tryz.func53 Tryz.ntmps53 rfl rfl rfl (fun F b hX hb => ?_)
 repeat' (first | refine stp tab_ok rfl (by first | exact sideN | exact sideT (by omega)) ?_ | refine gT rfl rfl (by omega) ?_ | refine gF rfl rfl (by omega) ?_ | refine gNT rfl rfl (by omega) ?_ | refine gNF rfl rfl (by omega) ?_ | fail)
 refine good_call rfl rfl rfl rfl rfl ent102 (hr) rfl ?_
 repeat' (first | refine stp tab_ok rfl (by first | exact sideN | exact sideT (by omega)) ?_ | refine gT rfl rfl (by omega) ?_ | refine gF rfl rfl (by omega) ?_ | refine gNT rfl rfl (by omega) ?_ | refine gNF rfl rfl (by omega) ?_ | fail)
 have hz := fun n => leapZ_bc s r n hl
 obtain ⟨kind, y, m, d, sec, sign, roll⟩ := r
 simp only at hb ⊢
 obtain ⟨⟨leaps, has, exp⟩, at_, until_⟩ := s
 by_cases hv : validD y m d
 ·have hnb := numD_bd hv
  refine good_call rfl rfl rfl rfl rfl ent103 (number_ac y m d hv) rfl ?_
  generalize numD y m d = n at *
  repeat' (first | refine stp tab_ok rfl (by first | exact sideN | exact sideT (by omega)) ?_ | refine gT rfl rfl (by omega) ?_ | refine gF rfl rfl (by omega) ?_ | refine gNT rfl rfl (by omega) ?_ | refine gNF rfl rfl (by omega) ?_ | fail)
  cases ok with
  | false =>
   rw [if_pos (.inl rfl)]
   repeat' (first | refine stp tab_ok rfl (by first | exact sideN | exact sideT (by omega)) ?_ | refine gT rfl rfl (by omega) ?_ | refine gF rfl rfl (by omega) ?_ | refine gNT rfl rfl (by omega) ?_ | refine gNF rfl rfl (by omega) ?_ | fail)
   exact good_retB tab_ok hX rfl rfl (Sub.refl _) (SubL.refl _)
  | true =>
   obtain ⟨hk, hs⟩ := hb rfl
   have hzz := hz n
   rcases hk with rfl | rfl
   ·rw [if_neg (fun h => h.elim (fun h => by cases h) (fun h => absurd h.1 (by decide))), if_neg (fun h => h hv), if_pos rfl]
    repeat' (first | refine stp tab_ok rfl (by first | exact sideN | exact sideT (by omega)) ?_ | refine gT rfl rfl (by omega) ?_ | refine gF rfl rfl (by omega) ?_ | refine gNT rfl rfl (by omega) ?_ | refine gNF rfl rfl (by omega) ?_ | fail)
    refine good_callB rfl rfl rfl rfl rfl rfl rfl ent104 (hzz) rfl ?_
    repeat' (first | refine stp tab_ok rfl (by first | exact sideN | exact sideT (by omega)) ?_ | refine gT rfl rfl (by omega) ?_ | refine gF rfl rfl (by omega) ?_ | refine gNT rfl rfl (by omega) ?_ | refine gNF rfl rfl (by omega) ?_ | fail)
    exact good_retB tab_ok hX rfl rfl (Sub.refl _) (SubL.refl _)
   ·by_cases ha : 0 < at_
    ·rw [if_pos (.inr ⟨rfl, ha⟩)]
     repeat' (first | refine stp tab_ok rfl (by first | exact sideN | exact sideT (by omega)) ?_ | refine gT rfl rfl (by omega) ?_ | refine gF rfl rfl (by omega) ?_ | refine gNT rfl rfl (by omega) ?_ | refine gNF rfl rfl (by omega) ?_ | fail)
     exact good_retB tab_ok hX rfl rfl (Sub.refl _) (SubL.refl _)
    ·rw [if_neg (fun h => h.elim (fun h => by cases h) (fun h => ha h.2)), if_neg (fun h => h hv), if_neg (by decide)]
     repeat' (first | refine stp tab_ok rfl (by first | exact sideN | exact sideT (by omega)) ?_ | refine gT rfl rfl (by omega) ?_ | refine gF rfl rfl (by omega) ?_ | refine gNT rfl rfl (by omega) ?_ | refine gNF rfl rfl (by omega) ?_ | fail)
     by_cases he : sec = 86400
     ·rw [if_pos he]
      repeat' (first | refine stp tab_ok rfl (by first | exact sideN | exact sideT (by omega)) ?_ | refine gT rfl rfl (by omega) ?_ | refine gF rfl rfl (by omega) ?_ | refine gNT rfl rfl (by omega) ?_ | refine gNF rfl rfl (by omega) ?_ | fail)
      exact good_retB tab_ok hX rfl rfl (Sub.refl _) (SubL.refl _)
     ·rw [if_neg he]
      repeat' (first | refine stp tab_ok rfl (by first | exact sideN | exact sideT (by omega)) ?_ | refine gT rfl rfl (by omega) ?_ | refine gF rfl rfl (by omega) ?_ | refine gNT rfl rfl (by omega) ?_ | refine gNF rfl rfl (by omega) ?_ | fail)
      refine dg_start ?_
      repeat' (first | refine dgp tab_ok rfl (by first | exact sideN | exact sideT (by omega)) ?_ | fail)
      refine dg_end mixed rfl ?_
      repeat' (first | refine stp tab_ok rfl (by first | exact sideN | exact sideT (by omega)) ?_ | refine gT rfl rfl (by omega) ?_ | refine gF rfl rfl (by omega) ?_ | refine gNT rfl rfl (by omega) ?_ | refine gNF rfl rfl (by omega) ?_ | fail)
      exact good_retB tab_ok hX rfl rfl (Sub.refl _) (SubL.refl _)
 ·refine good_call rfl rfl rfl rfl rfl ent103 (number_no y m d hv) rfl ?_
  repeat' (first | refine stp tab_ok rfl (by first | exact sideN | exact sideT (by omega)) ?_ | refine gT rfl rfl (by omega) ?_ | refine gF rfl rfl (by omega) ?_ | refine gNT rfl rfl (by omega) ?_ | refine gNF rfl rfl (by omega) ?_ | fail)
  cases ok with
  | false =>
   rw [if_pos (.inl rfl)]
   repeat' (first | refine stp tab_ok rfl (by first | exact sideN | exact sideT (by omega)) ?_ | refine gT rfl rfl (by omega) ?_ | refine gF rfl rfl (by omega) ?_ | refine gNT rfl rfl (by omega) ?_ | refine gNF rfl rfl (by omega) ?_ | fail)
   exact good_retB tab_ok hX rfl rfl (Sub.refl _) (SubL.refl _)
  | true =>
   obtain ⟨hk, hs⟩ := hb rfl
   by_cases ha : kind = 1 ∧ 0 < at_
   ·rw [if_pos (.inr ha)]
    obtain ⟨rfl, ha⟩ := ha
    repeat' (first | refine stp tab_ok rfl (by first | exact sideN | exact sideT (by omega)) ?_ | refine gT rfl rfl (by omega) ?_ | refine gF rfl rfl (by omega) ?_ | refine gNT rfl rfl (by omega) ?_ | refine gNF rfl rfl (by omega) ?_ | fail)
    exact good_retB tab_ok hX rfl rfl (Sub.refl _) (SubL.refl _)
   ·rw [if_neg (fun h => h.elim (fun h => by cases h) (fun h => ha h)), if_pos hv]
    rcases hk with rfl | rfl
    ·repeat' (first | refine stp tab_ok rfl (by first | exact sideN | exact sideT (by omega)) ?_ | refine gT rfl rfl (by omega) ?_ | refine gF rfl rfl (by omega) ?_ | refine gNT rfl rfl (by omega) ?_ | refine gNF rfl rfl (by omega) ?_ | fail)
     exact good_retB tab_ok hX rfl rfl (Sub.refl _) (SubL.refl _)
    ·have ha' : ¬ 0 < at_ := fun h => ha ⟨rfl, h⟩
     repeat' (first | refine stp tab_ok rfl (by first | exact sideN | exact sideT (by omega)) ?_ | refine gT rfl rfl (by omega) ?_ | refine gF rfl rfl (by omega) ?_ | refine gNT rfl rfl (by omega) ?_ | refine gNF rfl rfl (by omega) ?_ | fail)
     exact good_retB tab_ok hX rfl rfl (Sub.refl _) (SubL.refl _)
def sharp : ByteArray := ⟨#[35]⟩
def cutS (x : ByteArray) : ByteArray := ⟨(Lib.cut x.data.toList sharp.data.toList).1.toArray⟩
def lineW (x : ByteArray) : List ByteArray := wordsF (cutS x)
def zs0 : ZSrc := ⟨t0L, 0, 0⟩
def runZ : ZSrc → Nat → List ByteArray → ZSrc × Int × Int
 | s, _, [] => (s, 0, 0)
 | s, k, x :: l => if lineW x = [] then runZ s (k + 1) l else if (lineZ s ((k : Int) + 1) (lineW x)).2 = 0 then runZ (lineZ s ((k : Int) + 1) (lineW x)).1 (k + 1) l else ((lineZ s ((k : Int) + 1) (lineW x)).1, (k : Int) + 1, (lineZ s ((k : Int) + 1) (lineW x)).2)
theorem runZ_nil (s : ZSrc) (k : Nat) : runZ s k [] = (s, 0, 0) := rfl
theorem runZ_cons (s : ZSrc) (k : Nat) (x : ByteArray) (l : List ByteArray) : runZ s k (x :: l) = if lineW x = [] then runZ s (k + 1) l else if (lineZ s ((k : Int) + 1) (lineW x)).2 = 0 then runZ (lineZ s ((k : Int) + 1) (lineW x)).1 (k + 1) l else ((lineZ s ((k : Int) + 1) (lineW x)).1, (k : Int) + 1, (lineZ s ((k : Int) + 1) (lineW x)).2) := rfl
def endZ (s : ZSrc) : Tbl × Int × Int :=
 if 0 < s.at_ then (if rightB { s.tbl with has := true, exp := s.until_ } = true then ({ s.tbl with has := true, exp := s.until_ }, 0, 0) else (t0L, s.at_, 9)) else (s.tbl, 0, 0)
def parseZF (s : ByteArray) : Tbl × Int × Int := if (runZ zs0 0 (splitF s)).2.2 = 0 then endZ (runZ zs0 0 (splitF s)).1 else (t0L, (runZ zs0 0 (splitF s)).2)
end Go.Proofs.YthjldemjipnmdaaGreatDoor.Sx
namespace Go.Proofs.YthjldemjipnmdaaGreatDoor.Sx
open Go.RowKit
set_option maxRecDepth 100000
structure ZInv (s : ZSrc) : Prop where
 rt : Rt s.tbl
 has : s.tbl.has = false
theorem lineZ_inv {s : ZSrc} (hi : ZInv s) (no : Int) (ws : List ByteArray) : ZInv (lineZ s no ws).1 := by
 have ha := fun x => add_rt s.tbl x hi.rt hi.has
 unfold lineZ
 split
 ·exact hi
 ·split
  ·exact hi
  ·split
   ·unfold leapZ
    split
    ·exact ⟨(ha _).1, (ha _).2⟩
    ·split
     ·exact ⟨(ha _).1, (ha _).2⟩
     ·exact hi
   ·split
    ·exact hi
    ·exact ⟨hi.rt, hi.has⟩
theorem lineW_p (x : ByteArray) (n : Nat) (hx : x.size ≤ n) : ∀ p ∈ lineW x, p.size ≤ n := fun p hp => by
 have h1 := words_le _ p hp
 have h2 : (cutS x).size ≤ x.size := cut1_le _ _
 omega
theorem strs_drop (rs : List ByteArray) (k : Nat) (h : k < rs.length) : rs.drop k = rs.getD k ByteArray.empty :: rs.drop (k + 1) := by
 rw [List.drop_eq_getElem_cons h]
 congr 1
 simp [List.getD, h]
def fltA (a b : Int) : AL := .cons (I a) (.cons (I b) .nil)
set_option maxHeartbeats 2000000 in
theorem parseZ_ac (s : ByteArray) (hs : s.size ≤ 7000) : AC Tryz.prog 22 (L1 (S s)) (.tup (L2 (tblA (parseZF s).1) (faultA (parseZF s).2.1 (parseZF s).2.2))) := by
 have hsp := split_ac s (by omega)
 have hsz := split_size s
 unfold parseZF
 generalize splitF s = rs at *
 refine AC.enter Tryz.func22 Tryz.ntmps22 rfl rfl rfl (fun F hX => ?_)
 repeat' (first | refine stp tab_ok rfl (by first | exact sideN | exact sideT (by omega)) ?_ | refine gT rfl rfl (by omega) ?_ | refine gF rfl rfl (by omega) ?_ | refine gNT rfl rfl (by omega) ?_ | refine gNF rfl rfl (by omega) ?_ | fail)
 refine good_scope 0 rfl (fun _ _ _ => False) ?_ (fun _ _ _ h => h.elim)
 repeat' (first | refine stp tab_ok rfl (by first | exact sideN | exact sideT (by omega)) ?_ | refine gT rfl rfl (by omega) ?_ | refine gF rfl rfl (by omega) ?_ | refine gNT rfl rfl (by omega) ?_ | refine gNF rfl rfl (by omega) ?_ | fail)
 refine good_call rfl rfl rfl rfl rfl ent49 (hsp) rfl ?_
 repeat' (first | refine stp tab_ok rfl (by first | exact sideN | exact sideT (by omega)) ?_ | refine gT rfl rfl (by omega) ?_ | refine gF rfl rfl (by omega) ?_ | refine gNT rfl rfl (by omega) ?_ | refine gNF rfl rfl (by omega) ?_ | fail)
 refine good_swap 2 2002 rfl (swap0 hX) ?_
 refine good_swap 3 2003 rfl (swap0 hX) ?_
 refine good_swap 4 2004 rfl (swap0 hX) ?_
 refine good_rounds (fun x : Nat × ZSrc => [(10, .im 1 rs.length (strEls rs)), (11, I rs.length), (12, I x.1), (2, .ptr 2002 0), (3, .ptr 2003 0), (4, .ptr 2004 0)]) (fun x : Nat × ZSrc => [(2002, .box 25 zT), (2003, .box 28 (fltA 0 0)), (2004, .box 117 (zsL x.2))]) (fun x : Nat × ZSrc => rs.length - x.1) (fun x : Nat × ZSrc => x.1 ≤ rs.length ∧ ZInv x.2 ∧ runZ x.2 x.1 (rs.drop x.1) = runZ zs0 0 rs) (0, zs0) ⟨Nat.zero_le _, ⟨rt_of rfl, rfl⟩, rfl⟩ (Wk.mk ⟨Sub.of_eq rfl, Sub.of_eq rfl, Sub.of_eq rfl, Sub.of_eq rfl, Sub.of_eq rfl, Sub.of_eq rfl, trivial⟩ ⟨⟨_, rfl, SubO.refl _⟩, ⟨_, rfl, SubO.refl _⟩, ⟨_, rfl, SubO.box (SubL.cons imOf_nil (SubL.refl _))⟩, trivial⟩ rfl rfl (pin0 hX)) (fun x hx => ?_)
 obtain ⟨k, st⟩ := x
 obtain ⟨hk, hi, hrun⟩ := hx
 simp only at hk hi hrun ⊢
 have htl := rt_len hi.rt
 by_cases hlt : k < rs.length
 ·have hxs : (rs.getD k ByteArray.empty).size ≤ 7000 := Nat.le_trans (hsz.2 _ (getD_mem hlt)) hs
  rw [strs_drop rs k hlt, runZ_cons] at hrun
  repeat' (first | refine stp tab_ok rfl (by first | exact sideN | exact sideT (by omega)) ?_ | refine gT rfl rfl (by omega) ?_ | refine gF rfl rfl (by omega) ?_ | refine gNT rfl rfl (by omega) ?_ | refine gNF rfl rfl (by omega) ?_ | fail)
  simp only [Int.toNat_natCast]
  repeat' (first | refine stp tab_ok rfl (by first | exact sideN | exact sideT (by omega)) ?_ | refine gT rfl rfl (by omega) ?_ | refine gF rfl rfl (by omega) ?_ | refine gNT rfl rfl (by omega) ?_ | refine gNF rfl rfl (by omega) ?_ | fail)
  generalize rs.getD k ByteArray.empty = x at *
  have hcs : (cutS x).size ≤ x.size := cut1_le _ _
  refine good_call rfl rfl rfl rfl rfl ent51 (cut_ac x sharp (by omega)) rfl ?_
  repeat' (first | refine stp tab_ok rfl (by first | exact sideN | exact sideT (by omega)) ?_ | refine gT rfl rfl (by omega) ?_ | refine gF rfl rfl (by omega) ?_ | refine gNT rfl rfl (by omega) ?_ | refine gNF rfl rfl (by omega) ?_ | fail)
  refine good_call rfl rfl rfl rfl rfl ent52 (words_ac (cutS x) (by omega)) rfl ?_
  have hwp := lineW_p x 7000 hxs
  have hwe : wordsF (cutS x) = lineW x := rfl
  rw [hwe]
  generalize lineW x = ws at *
  repeat' (first | refine stp tab_ok rfl (by first | exact sideN | exact sideT (by omega)) ?_ | refine gT rfl rfl (by omega) ?_ | refine gF rfl rfl (by omega) ?_ | refine gNT rfl rfl (by omega) ?_ | refine gNF rfl rfl (by omega) ?_ | fail)
  by_cases hw : ws = []
  ·rw [if_pos hw] at hrun
   have hl0 : ws.length = 0 := by rw [hw]; rfl
   repeat' (first | refine stp tab_ok rfl (by first | exact sideN | exact sideT (by omega)) ?_ | refine gT rfl rfl (by omega) ?_ | refine gF rfl rfl (by omega) ?_ | refine gNT rfl rfl (by omega) ?_ | refine gNF rfl rfl (by omega) ?_ | fail)
   exact good_again (k + 1, st) ⟨by omega, hi, hrun⟩ (by simp only; omega) (Wk.mk ⟨Sub.of_eq rfl, Sub.of_eq rfl, Sub.of_eq rfl, Sub.of_eq rfl, Sub.of_eq rfl, Sub.of_eq rfl, trivial⟩ ⟨⟨_, rfl, SubO.refl _⟩, ⟨_, rfl, SubO.refl _⟩, ⟨_, rfl, SubO.refl _⟩, trivial⟩ rfl rfl (pin0 hX))
  ·rw [if_neg hw] at hrun
   have hl0 : 1 ≤ ws.length := by
    cases ws with
    | nil => exact absurd rfl hw
    | cons a l => simp
   have hline := lineZ_bc st ((k : Int) + 1) ws hl0 (fun p hp => Nat.le_trans (hwp p hp) (by omega)) (by omega)
   have hnext := lineZ_inv hi ((k : Int) + 1) ws
   generalize lineZ st ((k : Int) + 1) ws = q at *
   obtain ⟨st', c⟩ := q
   simp only at hrun hnext
   repeat' (first | refine stp tab_ok rfl (by first | exact sideN | exact sideT (by omega)) ?_ | refine gT rfl rfl (by omega) ?_ | refine gF rfl rfl (by omega) ?_ | refine gNT rfl rfl (by omega) ?_ | refine gNF rfl rfl (by omega) ?_ | fail)
   refine good_callB rfl rfl rfl rfl rfl rfl rfl ent53 (hline) rfl ?_
   by_cases hc : c = 0
   ·rw [if_pos hc] at hrun
    repeat' (first | refine stp tab_ok rfl (by first | exact sideN | exact sideT (by omega)) ?_ | refine gT rfl rfl (by omega) ?_ | refine gF rfl rfl (by omega) ?_ | refine gNT rfl rfl (by omega) ?_ | refine gNF rfl rfl (by omega) ?_ | fail)
    exact good_again (k + 1, st') ⟨by omega, hnext, hrun⟩ (by simp only; omega) (Wk.mk ⟨Sub.of_eq rfl, Sub.of_eq rfl, Sub.of_eq rfl, Sub.of_eq rfl, Sub.of_eq rfl, Sub.of_eq rfl, trivial⟩ ⟨⟨_, rfl, SubO.refl _⟩, ⟨_, rfl, SubO.refl _⟩, ⟨_, rfl, SubO.refl _⟩, trivial⟩ rfl rfl (pin0 hX))
   ·rw [if_neg hc] at hrun
    repeat' (first | refine stp tab_ok rfl (by first | exact sideN | exact sideT (by omega)) ?_ | refine gT rfl rfl (by omega) ?_ | refine gF rfl rfl (by omega) ?_ | refine gNT rfl rfl (by omega) ?_ | refine gNF rfl rfl (by omega) ?_ | fail)
    rw [← hrun, if_neg hc]
    exact good_ret tab_ok hX rfl (Sub.tup (SubL.cons t0_sub (SubL.refl _)))
 ·obtain rfl : k = rs.length := by omega
  rw [List.drop_length, runZ_nil] at hrun
  rw [← hrun, if_pos rfl]
  have hhas := hi.has
  obtain ⟨⟨leaps, has, exp⟩, at_, until_⟩ := st
  simp only at hhas htl
  subst hhas
  unfold endZ
  simp only
  repeat' (first | refine stp tab_ok rfl (by first | exact sideN | exact sideT (by omega)) ?_ | refine gT rfl rfl (by omega) ?_ | refine gF rfl rfl (by omega) ?_ | refine gNT rfl rfl (by omega) ?_ | refine gNF rfl rfl (by omega) ?_ | fail)
  by_cases ha : 0 < at_
  ·rw [if_pos ha]
   have hrt := right_ac ⟨leaps, true, until_⟩ (by simp only; omega)
   generalize rightB ⟨leaps, true, until_⟩ = rb at *
   repeat' (first | refine stp tab_ok rfl (by first | exact sideN | exact sideT (by omega)) ?_ | refine gT rfl rfl (by omega) ?_ | refine gF rfl rfl (by omega) ?_ | refine gNT rfl rfl (by omega) ?_ | refine gNF rfl rfl (by omega) ?_ | fail)
   refine good_call rfl rfl rfl rfl rfl ent26 (hrt) rfl ?_
   cases rb with
   | false =>
    rw [if_neg (by decide)]
    repeat' (first | refine stp tab_ok rfl (by first | exact sideN | exact sideT (by omega)) ?_ | refine gT rfl rfl (by omega) ?_ | refine gF rfl rfl (by omega) ?_ | refine gNT rfl rfl (by omega) ?_ | refine gNF rfl rfl (by omega) ?_ | fail)
    refine dg_start ?_
    repeat' (first | refine dgp tab_ok rfl (by first | exact sideN | exact sideT (by omega)) ?_ | fail)
    refine dg_end mixed rfl ?_
    repeat' (first | refine stp tab_ok rfl (by first | exact sideN | exact sideT (by omega)) ?_ | refine gT rfl rfl (by omega) ?_ | refine gF rfl rfl (by omega) ?_ | refine gNT rfl rfl (by omega) ?_ | refine gNF rfl rfl (by omega) ?_ | fail)
    exact good_ret tab_ok hX rfl (Sub.tup (SubL.cons t0_sub (SubL.refl _)))
   | true =>
    rw [if_pos rfl]
    repeat' (first | refine stp tab_ok rfl (by first | exact sideN | exact sideT (by omega)) ?_ | refine gT rfl rfl (by omega) ?_ | refine gF rfl rfl (by omega) ?_ | refine gNT rfl rfl (by omega) ?_ | refine gNF rfl rfl (by omega) ?_ | fail)
    exact good_ret tab_ok hX rfl (Sub.of_eq rfl)
  ·rw [if_neg ha]
   repeat' (first | refine stp tab_ok rfl (by first | exact sideN | exact sideT (by omega)) ?_ | refine gT rfl rfl (by omega) ?_ | refine gF rfl rfl (by omega) ?_ | refine gNT rfl rfl (by omega) ?_ | refine gNF rfl rfl (by omega) ?_ | fail)
   exact good_ret tab_ok hX rfl (Sub.of_eq rfl)
end Go.Proofs.YthjldemjipnmdaaGreatDoor.Sx
namespace Go.Proofs.YthjldemjipnmdaaGreatDoor.Sx
open Go.RowKit
set_option maxRecDepth 100000
def capB (p : ByteArray) : ByteArray := strF p.size (fun i => if i = 0 then byteAt p 0 - 32 else byteAt p i)
def mon3 (m : Int) : ByteArray := (monthB (m - 1).toNat).extract 0 3
theorem mon3_p (m : Int) (h : 1 ≤ m ∧ m ≤ 12) : (monthB (m - 1).toNat).size ≥ 3 ∧ (mon3 m).size = 3 ∧ 97 ≤ byteAt (mon3 m) 0 := by
 obtain h : m = 1 ∨ m = 2 ∨ m = 3 ∨ m = 4 ∨ m = 5 ∨ m = 6 ∨ m = 7 ∨ m = 8 ∨ m = 9 ∨ m = 10 ∨ m = 11 ∨ m = 12 := by omega
 rcases h with rfl | rfl | rfl | rfl | rfl | rfl | rfl | rfl | rfl | rfl | rfl | rfl <;> decide
def wordsZ (kind : ByteArray) (d : Int) (rest : List ByteArray) : List ByteArray := [kind, itoB (dateY d), capB (mon3 (dateM d)), itoB (dateD d)] ++ rest
def joinT (ws : List ByteArray) : ByteArray := ⟨(Lib.join (ws.map (·.data.toList)) tab1.data.toList).toArray⟩
def writeZ (kind : ByteArray) (d : Int) (rest : List ByteArray) : ByteArray := joinT (wordsZ kind d rest) ++ lf1
theorem join_one (a x : List UInt8) : Lib.join [a] x = a := by simp [Lib.join, List.intercalate]
theorem join_cons (a b x : List UInt8) (l : List (List UInt8)) : Lib.join (a :: b :: l) x = a ++ (x ++ Lib.join (b :: l) x) := by
 simp [Lib.join, List.intercalate, List.intersperse]
theorem join_le (x : List UInt8) (n : Nat) : ∀ (l : List (List UInt8)), (∀ p ∈ l, p.length ≤ n) → (Lib.join l x).length ≤ l.length * (n + x.length)
 | [], _ => Nat.zero_le _
 | [a], h => by
  rw [join_one]
  have := h a (by simp)
  simp only [List.length_cons, List.length_nil]
  omega
 | a :: b :: l, h => by
  have h1 := h a (by simp)
  have h2 := join_le x n (b :: l) (fun p hp => h p (List.mem_cons_of_mem _ hp))
  rw [join_cons, List.length_append, List.length_append, List.length_cons (a := a), Nat.add_mul, Nat.one_mul]
  omega
theorem catStr (a b : List ByteArray) (n : Nat) (f g : Nat → AL) (hf : ∀ i, i < a.length → f i = strEls a i) (hn : n = b.length) (hg : ∀ i, i < n → g i = strEls b i) : ∀ i, i < a.length + n → catF a.length f g i = strEls (a ++ b) i := by
 intro i hi
 unfold catF strEls
 by_cases h : i < a.length
 ·rw [if_pos h, hf i h]
  unfold strEls
  simp [List.getD, List.getElem?_append_left h]
 ·rw [if_neg h, hg _ (by omega)]
  unfold strEls
  simp [List.getD, List.getElem?_append_right (Nat.not_lt.1 h)]
theorem writeZ_ac (kind : ByteArray) (d : Int) (rest : List ByteArray) (n : Nat) (els : Nat → AL) (hn : n = rest.length) (he : ∀ i, i < n → els i = strEls rest i) (hr : rest.length ≤ 3) (hd : -719162 ≤ d ∧ d ≤ 2932896) (hk : kind.size ≤ 20) (hs : ∀ p ∈ rest, p.size ≤ 20) : AC Tryz.prog 33 (L3 (S kind) (I d) (.im 1 n els)) (S (writeZ kind d rest)) := by
 have hdt := date_ac d hd (date_pre d)
 obtain ⟨b1, b2, b3, b4⟩ := date_is d hd
 have hb3 := lastD_bd (y := dateY d) b2
 have hm := mon3_p _ b2
 unfold writeZ wordsZ
 generalize dateY d = y at *
 generalize dateM d = m at *
 generalize dateD d = d' at *
 refine AC.enter Tryz.func33 Tryz.ntmps33 rfl rfl rfl (fun F hX => ?_)
 repeat' (first | refine stp tab_ok rfl (by first | exact sideN | exact sideT (by omega)) ?_ | refine gT rfl rfl (by omega) ?_ | refine gF rfl rfl (by omega) ?_ | refine gNT rfl rfl (by omega) ?_ | refine gNF rfl rfl (by omega) ?_ | fail)
 refine good_call rfl rfl rfl rfl rfl ent72 (hdt) rfl ?_
 repeat' (first | refine stp tab_ok rfl (by first | exact sideN | exact sideT (by omega)) ?_ | refine gT rfl rfl (by omega) ?_ | refine gF rfl rfl (by omega) ?_ | refine gNT rfl rfl (by omega) ?_ | refine gNF rfl rfl (by omega) ?_ | fail)
 refine good_call rfl rfl rfl rfl rfl ent73 (names_ac) rfl ?_
 repeat' (first | refine stp tab_ok rfl (by first | exact sideN | exact sideT (by omega)) ?_ | refine gT rfl rfl (by omega) ?_ | refine gF rfl rfl (by omega) ?_ | refine gNT rfl rfl (by omega) ?_ | refine gNF rfl rfl (by omega) ?_ | fail)
 refine good_by rfl (ok_idxAt 146 _ _ 12 9 (fun k => S (monthB k)) .i64 _ (m - 1).toNat _ _ rfl rfl (by omega) (tab_ok 146 _ rfl) rfl (tab_ok 9 _ rfl) rfl rfl (by omega)) rfl ?_
 refine stp tab_ok rfl (sideT (by omega)) ?_
 have e3 : (monthB (m - 1).toNat).extract (Int.toNat 0) (Int.toNat 3) = mon3 m := rfl
 rw [e3]
 generalize mon3 m = q at *
 obtain ⟨_, hq, hb0⟩ := hm
 have hbq := byteAt_bd q 0
 refine good_by rfl (ok_strOwn 25 _ _ _ q _ _ _ _ rfl (tab_ok _ _ rfl) rfl (tab_ok _ _ rfl) rfl (tab_ok _ _ rfl) rfl (by omega) rfl) rfl ?_
 repeat' (first | refine stp tab_ok rfl (by first | exact sideN | exact sideT (by omega)) ?_ | refine gT rfl rfl (by omega) ?_ | refine gF rfl rfl (by omega) ?_ | refine gNT rfl rfl (by omega) ?_ | refine gNF rfl rfl (by omega) ?_ | fail)
 refine good_freeze 25 rfl ?_
 refine dg_start ?_
 repeat' (first | refine dgp tab_ok rfl (by first | exact sideN | exact sideT (by omega)) ?_ | fail)
 refine dg_call rfl rfl rfl rfl rfl ent27 (itoa_ac y (by omega)) rfl ?_
 repeat' (first | refine dgp tab_ok rfl (by first | exact sideN | exact sideT (by omega)) ?_ | fail)
 refine dg_by rfl (fun h => ok_bytesStr _ _ _ q.size _ (fun i => if i = 0 then byteAt q 0 - 32 else byteAt q i) _ _ _ _ rfl (fun i hi => ?_) (tab_ok _ _ rfl) rfl (tab_ok _ _ rfl) rfl (tab_ok _ _ rfl) rfl) rfl ?_
 ·by_cases h0 : i = 0
  ·subst h0
   exact congrArg (fun v => AL.cons (AV.val (.int .u8 v)) .nil) (w8 rfl (by show 0 ≤ byteAt q 0 - 32 ∧ _; omega))
  ·show (if i = 0 then _ else byteEls q i) = _
   rw [if_neg h0]
   simp only [if_neg h0]
   rfl
 repeat' (first | refine dgp tab_ok rfl (by first | exact sideN | exact sideT (by omega)) ?_ | fail)
 refine dg_call rfl rfl rfl rfl rfl ent27 (itoa_ac d' (by omega)) rfl ?_
 repeat' (first | refine dgp tab_ok rfl (by first | exact sideN | exact sideT (by omega)) ?_ | fail)
 refine dg_end mixed rfl ?_
 refine good_freeze 40 rfl ?_
 repeat' (first | refine stp tab_ok rfl (by first | exact sideN | exact sideT (by omega)) ?_ | refine gT rfl rfl (by omega) ?_ | refine gF rfl rfl (by omega) ?_ | refine gNT rfl rfl (by omega) ?_ | refine gNF rfl rfl (by omega) ?_ | fail)
 have e1 : ∀ n, (⟨(Lib.itoa n).toArray⟩ : ByteArray) = itoB n := fun _ => rfl
 simp only [e1]
 have hW : ∀ p ∈ [kind, itoB y, capB q, itoB d'] ++ rest, p.size ≤ 21 := by
  intro p hp
  simp only [List.cons_append, List.nil_append, List.mem_cons] at hp
  rcases hp with rfl | rfl | rfl | rfl | hp
  ·omega
  ·exact itoB_size _ (by omega)
  ·show (strF q.size _).size ≤ 21
   rw [strF_size]
   omega
  ·exact itoB_size _ (by omega)
  ·have := hs p hp
   omega
 have hlen : ([kind, itoB y, capB q, itoB d'] ++ rest).length = 4 + n := by
  simp only [List.cons_append, List.nil_append, List.length_cons]
  omega
 have hcat := catStr [kind, itoB y, capB q, itoB d'] rest n (elsOf [.cons (S kind) .nil, .cons (S (itoB y)) .nil, .cons (S (capB q)) .nil, .cons (S (itoB d')) .nil]) els (fun i hi => by
  have h4 : i = 0 ∨ i = 1 ∨ i = 2 ∨ i = 3 := by simp only [List.length_cons, List.length_nil] at hi; omega
  rcases h4 with rfl | rfl | rfl | rfl <;> rfl) hn he
 generalize [kind, itoB y, capB q, itoB d'] ++ rest = ws at *
 have hjl : (Lib.join (ws.map (·.data.toList)) tab1.data.toList).length ≤ 1000 := by
  have h1 := join_le tab1.data.toList 21 (ws.map (·.data.toList)) (fun p hp => by
   obtain ⟨q', hq', rfl⟩ := List.mem_map.1 hp
   exact hW q' hq')
  rw [List.length_map, hlen] at h1
  have h2 : tab1.data.toList.length = 1 := rfl
  rw [h2] at h1
  omega
 refine good_call rfl rfl rfl rfl rfl ent71 (join_ac ws tab1 (4 + n) _ hlen.symm hcat (by omega) (by omega)) rfl ?_
 have hj : (joinT ws).size ≤ 1000 := by
  show ((Lib.join (ws.map (·.data.toList)) tab1.data.toList).toArray).size ≤ _
  rw [List.size_toArray]
  exact hjl
 have e5 : (⟨(Lib.join (ws.map (·.data.toList)) tab1.data.toList).toArray⟩ : ByteArray) = joinT ws := rfl
 rw [e5]
 refine stp tab_ok rfl (sideT (by show (joinT ws).size + 1 ≤ _; omega)) ?_
 repeat' (first | refine stp tab_ok rfl (by first | exact sideN | exact sideT (by omega)) ?_ | refine gT rfl rfl (by omega) ?_ | refine gF rfl rfl (by omega) ?_ | refine gNT rfl rfl (by omega) ?_ | refine gNF rfl rfl (by omega) ?_ | refine gS rfl rfl (fun _ => ?_) (fun _ => ?_) | refine gNS rfl rfl (fun _ => ?_) (fun _ => ?_) | refine gBS rfl rfl (fun _ => ?_) (fun _ => ?_) | refine gBN rfl rfl (fun _ => ?_) (fun _ => ?_) | refine good_ret tab_ok hX rfl (Sub.of_eq ?_) | refine good_end tab_ok hX rfl (Sub.of_eq ?_) | fail)
 rfl
end Go.Proofs.YthjldemjipnmdaaGreatDoor.Sx
namespace Go.Proofs.YthjldemjipnmdaaGreatDoor.Sx
open Go.RowKit
set_option maxRecDepth 100000
theorem vrl_one {w : World} {x : AV} {r : Rho} {M : Cond} {V : Value} (h : VR w x r M V) : VRL w (.cons x .nil) false r M [V] := by
 unfold VRL
 refine ⟨fun e => (by cases e), h, ?_⟩
 unfold VRL
 trivial
theorem AC.wc {P : Program} {f : FuncId} {pre : AL} {T sz n : Nat} {els : Nat → AL} {res : AV} (A : AC P f (appL pre (.cons (.im sz n els) .nil)) res) : WC P f pre T sz n els res := by
 intro w M V Vs hM hV _ hro hpre
 obtain ⟨xs, ho, hx⟩ := hro
 have hdn : ∀ k, k < w.heap.size → ¬ (M k ∨ blk V = some k) → w.heap[k]? = w.heap[k]? ∧ ¬ M k := fun k _ h => ⟨rfl, fun hm => h (.inl hm)⟩
 have h1 := VRL.mono (Nat.le_refl _) hdn pre (fun _ _ h => h) hpre
 have h2 : VR w (.im sz n els) r0 M V := by
  unfold VR
  rcases ho.2 with ⟨rfl, hn⟩ | ⟨b, cap, cur, T0, fz, rfl, _, h2, h3, _, _, h6⟩
  ·exact .inl ⟨hn, rfl⟩
  ·refine .inr ⟨b, 0, cap, rfl, h3, (Array.getElem?_eq_some_iff.1 h2).1, (hV b rfl).1, fun i hi => ?_⟩
   obtain ⟨Us, a1, a2, a3⟩ := hx i hi
   refine ⟨Us, fun j U hj => ?_, a2, VRL.mono (Nat.le_refl _) hdn _ (fun _ _ h => h) a3⟩
   have hx := a1 j U hj
   rw [← h6, List.getElem?_take] at hx
   split at hx
   ·rw [cell_of_row w b _ cur T0 fz h2]
    simpa using hx
   ·cases hx
 refine (A w M (Vs ++ [V]) hM (VRL.app h1 (vrl_one h2))).mono ?_
 rintro _ w' ⟨V', rfl, hv, hb⟩
 exact ⟨V', rfl, hv, hb.os, hb.tape, hb.output, hb.size, fun k hk _ => hb.block k hk⟩
def wLeap : ByteArray := ⟨#[76, 101, 97, 112]⟩
def wExpires : ByteArray := ⟨#[69, 120, 112, 105, 114, 101, 115]⟩
def at60 : ByteArray := ⟨#[50, 51, 58, 53, 57, 58, 54, 48]⟩
def at59 : ByteArray := ⟨#[50, 51, 58, 53, 57, 58, 53, 57]⟩
def letS : ByteArray := ⟨#[83]⟩
def letR : ByteArray := ⟨#[82]⟩
def restZ (x : Lp) : List ByteArray := [if x.step < 0 then at59 else at60, if x.step < 0 then minus1 else plus1, if x.roll = true then letR else letS]
def leapT (x : Lp) : ByteArray := writeZ wLeap x.day (restZ x)
def bodyZ : List Lp → ByteArray → ByteArray
 | [], s => s
 | x :: l, s => bodyZ l (s ++ leapT x)
def clockT (n : Int) : ByteArray := (stampF (n / 86400) (n % 86400)).extract 11 19
theorem stampF_size (d sec : Int) : (stampF d sec).size = 20 := by
 unfold stampF
 rw [ByteArray.size_append, strF_size]
 rfl
def textZF (t : Tbl) : ByteArray := match t.has with
 | true => bodyZ t.leaps ⟨#[]⟩ ++ writeZ wExpires (t.exp / 86400) [clockT t.exp]
 | false => bodyZ t.leaps ⟨#[]⟩
theorem bodyZ_nil (s : ByteArray) : bodyZ [] s = s := rfl
theorem bodyZ_cons (x : Lp) (l : List Lp) (s : ByteArray) : bodyZ (x :: l) s = bodyZ l (s ++ leapT x) := rfl
theorem writeZ_size (kind : ByteArray) (d : Int) (rest : List ByteArray) (hr : rest.length ≤ 3) (hd : -719162 ≤ d ∧ d ≤ 2932896) (hk : kind.size ≤ 20) (hs : ∀ p ∈ rest, p.size ≤ 20) : (writeZ kind d rest).size ≤ 170 := by
 obtain ⟨b1, b2, b3, b4⟩ := date_is d hd
 have hb3 := lastD_bd (y := dateY d) b2
 have hm := mon3_p _ b2
 have hW : ∀ p ∈ wordsZ kind d rest, p.size ≤ 21 := by
  intro p hp
  unfold wordsZ at hp
  simp only [List.cons_append, List.nil_append, List.mem_cons] at hp
  rcases hp with rfl | rfl | rfl | rfl | hp
  ·omega
  ·exact itoB_size _ (by omega)
  ·show (strF (mon3 (dateM d)).size _).size ≤ 21
   rw [strF_size]
   omega
  ·exact itoB_size _ (by omega)
  ·have := hs p hp
   omega
 have h1 := join_le tab1.data.toList 21 ((wordsZ kind d rest).map (·.data.toList)) (fun p hp => by
  obtain ⟨q', hq', rfl⟩ := List.mem_map.1 hp
  exact hW q' hq')
 have h2 : tab1.data.toList.length = 1 := rfl
 have h3 : (wordsZ kind d rest).length = 4 + rest.length := by
  unfold wordsZ
  simp only [List.cons_append, List.nil_append, List.length_cons]
  omega
 rw [List.length_map, h2, h3] at h1
 unfold writeZ
 rw [ByteArray.size_append]
 have h4 : (joinT (wordsZ kind d rest)).size = (Lib.join ((wordsZ kind d rest).map (·.data.toList)) tab1.data.toList).length := by
  show ((Lib.join _ _).toArray).size = _
  rw [List.size_toArray]
 have h5 : lf1.size = 1 := rfl
 omega
theorem restZ_p (x : Lp) : ∀ p ∈ restZ x, p.size ≤ 20 := by
 intro p hp
 simp only [restZ, List.mem_cons, List.not_mem_nil, or_false] at hp
 rcases hp with rfl | rfl | rfl <;> split <;> decide
set_option maxHeartbeats 1000000 in
theorem textZ_ac (t : Tbl) (hr : Rt t) : AC Tryz.prog 11 (L1 (tblA t)) (.tup (L2 (S (textZF t)) (B true))) := by
 have hL := chkL_none hr.none
 have hn := rt_len hr
 have hrb : rightB t = true := rt_iff.2 hr
 have hexp : t.has = true → 0 ≤ t.exp ∧ t.exp ≤ 253402300799 := fun h => by have := hr.yes h; omega
 refine AC.enter Tryz.func11 Tryz.ntmps11 rfl rfl rfl (fun F hX => ?_)
 repeat' (first | refine stp tab_ok rfl (by first | exact sideN | exact sideT (by omega)) ?_ | refine gT rfl rfl (by omega) ?_ | refine gF rfl rfl (by omega) ?_ | refine gNT rfl rfl (by omega) ?_ | refine gNF rfl rfl (by omega) ?_ | fail)
 refine good_call rfl rfl rfl rfl rfl ent26 (right_ac t (by omega)) rfl ?_
 rw [hrb]
 repeat' (first | refine stp tab_ok rfl (by first | exact sideN | exact sideT (by omega)) ?_ | refine gT rfl rfl (by omega) ?_ | refine gF rfl rfl (by omega) ?_ | refine gNT rfl rfl (by omega) ?_ | refine gNF rfl rfl (by omega) ?_ | fail)
 obtain ⟨leaps, has, exp⟩ := t
 simp only at hL hn hexp ⊢
 refine good_swap 1 1001 rfl (swap0 hX) ?_
 refine good_rounds (fun x : Nat × ByteArray => [(15, leapsA leaps), (16, I leaps.length), (17, I x.1), (2, S x.2), (1, .ptr 1001 0)]) (fun _ => [(1001, .box 25 (.cons (leapsA leaps) (.cons (B has) (.cons (I exp) .nil))))]) (fun x : Nat × ByteArray => leaps.length - x.1) (fun x : Nat × ByteArray => x.1 ≤ leaps.length ∧ x.2.size ≤ 170 * x.1 ∧ bodyZ (leaps.drop x.1) x.2 = bodyZ leaps ⟨#[]⟩) (0, ⟨#[]⟩) ⟨Nat.zero_le _, Nat.zero_le _, rfl⟩ (Wk.mk ⟨Sub.of_eq rfl, Sub.of_eq rfl, Sub.of_eq rfl, Sub.of_eq rfl, Sub.of_eq rfl, trivial⟩ ⟨⟨_, rfl, SubO.refl _⟩, trivial⟩ rfl rfl (pin0 hX)) (fun x hx => ?_)
 obtain ⟨i, s⟩ := x
 obtain ⟨hi, hs, hb⟩ := hx
 simp only at hi hs hb ⊢
 by_cases hlt : i < leaps.length
 ·have hst := (hL i hlt).step
  have hdy := (hL i hlt).day
  rw [drop_lp leaps i hlt, bodyZ_cons] at hb
  repeat' (first | refine stp tab_ok rfl (by first | exact sideN | exact sideT (by omega)) ?_ | refine gT rfl rfl (by omega) ?_ | refine gF rfl rfl (by omega) ?_ | refine gNT rfl rfl (by omega) ?_ | refine gNF rfl rfl (by omega) ?_ | fail)
  simp only [Int.toNat_natCast]
  obtain ⟨x, ex⟩ : ∃ x, leaps.getD i lp0 = x := ⟨_, rfl⟩
  simp only [ex] at hst hdy hb ⊢
  have hsz : (leapT x).size ≤ 170 := writeZ_size wLeap x.day (restZ x) (Nat.le_refl _) (by omega) (by decide) (restZ_p _)
  have hw := writeZ_ac wLeap x.day (restZ x)
  have hlr : (restZ x).length = 3 := rfl
  have hup : s.size + (leapT x).size ≤ 100000 := by omega
  rcases hst with e | e
  ·cases hro : x.roll with
   | false =>
    have hrest : restZ x = [at60, plus1, letS] := by
     unfold restZ
     rw [if_neg (show ¬ x.step < 0 by omega), if_neg (show ¬ x.step < 0 by omega), hro]
     rfl
    repeat' (first | refine stp tab_ok rfl (by first | exact sideN | exact sideT (by omega)) ?_ | refine gT rfl rfl (by omega) ?_ | refine gF rfl rfl (by omega) ?_ | refine gNT rfl rfl (by omega) ?_ | refine gNF rfl rfl (by omega) ?_ | fail)
    refine good_freeze 32 rfl ?_
    refine good_call rfl rfl rfl rfl rfl ent33 (hw 3 _ rfl (fun i hi => by rw [hrest]; rcases (show i = 0 ∨ i = 1 ∨ i = 2 by omega) with rfl | rfl | rfl <;> rfl) (by rw [hlr]; omega) (by omega) (by decide) (restZ_p _)) rfl ?_
    refine stp tab_ok rfl (sideT (by exact Nat.le_trans hup (by decide))) ?_
    repeat' (first | refine stp tab_ok rfl (by first | exact sideN | exact sideT (by omega)) ?_ | refine gT rfl rfl (by omega) ?_ | refine gF rfl rfl (by omega) ?_ | refine gNT rfl rfl (by omega) ?_ | refine gNF rfl rfl (by omega) ?_ | fail)
    exact good_again (i + 1, s ++ leapT x) ⟨by omega, by simp only [ByteArray.size_append]; omega, hb⟩ (by simp only; omega) (Wk.mk ⟨Sub.of_eq rfl, Sub.of_eq rfl, Sub.of_eq rfl, Sub.of_eq rfl, Sub.of_eq rfl, trivial⟩ ⟨⟨_, rfl, SubO.refl _⟩, trivial⟩ rfl rfl (pin0 hX))
   | true =>
    have hrest : restZ x = [at60, plus1, letR] := by
     unfold restZ
     rw [if_neg (show ¬ x.step < 0 by omega), if_neg (show ¬ x.step < 0 by omega), hro]
     rfl
    repeat' (first | refine stp tab_ok rfl (by first | exact sideN | exact sideT (by omega)) ?_ | refine gT rfl rfl (by omega) ?_ | refine gF rfl rfl (by omega) ?_ | refine gNT rfl rfl (by omega) ?_ | refine gNF rfl rfl (by omega) ?_ | fail)
    refine good_freeze 32 rfl ?_
    refine good_call rfl rfl rfl rfl rfl ent33 (hw 3 _ rfl (fun i hi => by rw [hrest]; rcases (show i = 0 ∨ i = 1 ∨ i = 2 by omega) with rfl | rfl | rfl <;> rfl) (by rw [hlr]; omega) (by omega) (by decide) (restZ_p _)) rfl ?_
    refine stp tab_ok rfl (sideT (by exact Nat.le_trans hup (by decide))) ?_
    repeat' (first | refine stp tab_ok rfl (by first | exact sideN | exact sideT (by omega)) ?_ | refine gT rfl rfl (by omega) ?_ | refine gF rfl rfl (by omega) ?_ | refine gNT rfl rfl (by omega) ?_ | refine gNF rfl rfl (by omega) ?_ | fail)
    exact good_again (i + 1, s ++ leapT x) ⟨by omega, by simp only [ByteArray.size_append]; omega, hb⟩ (by simp only; omega) (Wk.mk ⟨Sub.of_eq rfl, Sub.of_eq rfl, Sub.of_eq rfl, Sub.of_eq rfl, Sub.of_eq rfl, trivial⟩ ⟨⟨_, rfl, SubO.refl _⟩, trivial⟩ rfl rfl (pin0 hX))
  ·cases hro : x.roll with
   | false =>
    have hrest : restZ x = [at59, minus1, letS] := by
     unfold restZ
     rw [if_pos (show x.step < 0 by omega), if_pos (show x.step < 0 by omega), hro]
     rfl
    repeat' (first | refine stp tab_ok rfl (by first | exact sideN | exact sideT (by omega)) ?_ | refine gT rfl rfl (by omega) ?_ | refine gF rfl rfl (by omega) ?_ | refine gNT rfl rfl (by omega) ?_ | refine gNF rfl rfl (by omega) ?_ | fail)
    refine good_freeze 32 rfl ?_
    refine good_call rfl rfl rfl rfl rfl ent33 (hw 3 _ rfl (fun i hi => by rw [hrest]; rcases (show i = 0 ∨ i = 1 ∨ i = 2 by omega) with rfl | rfl | rfl <;> rfl) (by rw [hlr]; omega) (by omega) (by decide) (restZ_p _)) rfl ?_
    refine stp tab_ok rfl (sideT (by exact Nat.le_trans hup (by decide))) ?_
    repeat' (first | refine stp tab_ok rfl (by first | exact sideN | exact sideT (by omega)) ?_ | refine gT rfl rfl (by omega) ?_ | refine gF rfl rfl (by omega) ?_ | refine gNT rfl rfl (by omega) ?_ | refine gNF rfl rfl (by omega) ?_ | fail)
    exact good_again (i + 1, s ++ leapT x) ⟨by omega, by simp only [ByteArray.size_append]; omega, hb⟩ (by simp only; omega) (Wk.mk ⟨Sub.of_eq rfl, Sub.of_eq rfl, Sub.of_eq rfl, Sub.of_eq rfl, Sub.of_eq rfl, trivial⟩ ⟨⟨_, rfl, SubO.refl _⟩, trivial⟩ rfl rfl (pin0 hX))
   | true =>
    have hrest : restZ x = [at59, minus1, letR] := by
     unfold restZ
     rw [if_pos (show x.step < 0 by omega), if_pos (show x.step < 0 by omega), hro]
     rfl
    repeat' (first | refine stp tab_ok rfl (by first | exact sideN | exact sideT (by omega)) ?_ | refine gT rfl rfl (by omega) ?_ | refine gF rfl rfl (by omega) ?_ | refine gNT rfl rfl (by omega) ?_ | refine gNF rfl rfl (by omega) ?_ | fail)
    refine good_freeze 32 rfl ?_
    refine good_call rfl rfl rfl rfl rfl ent33 (hw 3 _ rfl (fun i hi => by rw [hrest]; rcases (show i = 0 ∨ i = 1 ∨ i = 2 by omega) with rfl | rfl | rfl <;> rfl) (by rw [hlr]; omega) (by omega) (by decide) (restZ_p _)) rfl ?_
    refine stp tab_ok rfl (sideT (by exact Nat.le_trans hup (by decide))) ?_
    repeat' (first | refine stp tab_ok rfl (by first | exact sideN | exact sideT (by omega)) ?_ | refine gT rfl rfl (by omega) ?_ | refine gF rfl rfl (by omega) ?_ | refine gNT rfl rfl (by omega) ?_ | refine gNF rfl rfl (by omega) ?_ | fail)
    exact good_again (i + 1, s ++ leapT x) ⟨by omega, by simp only [ByteArray.size_append]; omega, hb⟩ (by simp only; omega) (Wk.mk ⟨Sub.of_eq rfl, Sub.of_eq rfl, Sub.of_eq rfl, Sub.of_eq rfl, Sub.of_eq rfl, trivial⟩ ⟨⟨_, rfl, SubO.refl _⟩, trivial⟩ rfl rfl (pin0 hX))
 ·obtain rfl : i = leaps.length := by omega
  rw [List.drop_length, bodyZ_nil] at hb
  unfold textZF
  cases has with
  | false =>
   simp only
   rw [← hb]
   repeat' (first | refine stp tab_ok rfl (by first | exact sideN | exact sideT (by omega)) ?_ | refine gT rfl rfl (by omega) ?_ | refine gF rfl rfl (by omega) ?_ | refine gNT rfl rfl (by omega) ?_ | refine gNF rfl rfl (by omega) ?_ | fail)
   repeat' (first | refine stp tab_ok rfl (by first | exact sideN | exact sideT (by omega)) ?_ | refine gT rfl rfl (by omega) ?_ | refine gF rfl rfl (by omega) ?_ | refine gNT rfl rfl (by omega) ?_ | refine gNF rfl rfl (by omega) ?_ | refine gS rfl rfl (fun _ => ?_) (fun _ => ?_) | refine gNS rfl rfl (fun _ => ?_) (fun _ => ?_) | refine gBS rfl rfl (fun _ => ?_) (fun _ => ?_) | refine gBN rfl rfl (fun _ => ?_) (fun _ => ?_) | refine good_ret tab_ok hX rfl (Sub.of_eq ?_) | refine good_end tab_ok hX rfl (Sub.of_eq ?_) | fail)
   rfl
  | true =>
   simp only
   rw [← hb]
   have he := hexp rfl
   repeat' (first | refine stp tab_ok rfl (by first | exact sideN | exact sideT (by omega)) ?_ | refine gT rfl rfl (by omega) ?_ | refine gF rfl rfl (by omega) ?_ | refine gNT rfl rfl (by omega) ?_ | refine gNF rfl rfl (by omega) ?_ | fail)
   refine good_call rfl rfl rfl rfl rfl ent34 (text_ac (exp / 86400) (exp % 86400) (by omega) (by omega)) rfl ?_
   repeat' (first | refine stp tab_ok rfl (by first | exact sideN | exact sideT (by omega)) ?_ | refine gT rfl rfl (by omega) ?_ | refine gF rfl rfl (by omega) ?_ | refine gNT rfl rfl (by omega) ?_ | refine gNF rfl rfl (by omega) ?_ | fail)
   have hst : (stampF (exp / 86400) (exp % 86400)).size = 20 := stampF_size _ _
   have hct : (clockT exp).size = 8 := by unfold clockT; rw [ByteArray.size_extract, hst]; rfl
   have hpm : ∀ p ∈ [clockT exp], p.size ≤ 20 := fun p hp => by rw [List.mem_singleton.1 hp]; omega
   have he1 : ∀ i, i < 1 → elsOf [.cons (S (clockT exp)) .nil] i = strEls [clockT exp] i := fun i hi => by
    obtain rfl : i = 0 := Nat.lt_one_iff.1 hi
    rfl
   have hw := AC.wc (T := 9) (pre := L2 (S wExpires) (I (exp / 86400))) (writeZ_ac wExpires (exp / 86400) [clockT exp] 1 (elsOf [.cons (S (clockT exp)) .nil]) rfl he1 (Nat.le_of_ble_eq_true rfl) (by omega) (by decide) hpm)
   have hwz := writeZ_size wExpires (exp / 86400) [clockT exp] (Nat.le_of_ble_eq_true rfl) (by omega) (by decide) hpm
   refine dg_start ?_
   repeat' (first | refine dgp tab_ok rfl (by first | exact sideN | exact sideT (by omega)) ?_ | fail)
   refine dg_callW rfl rfl rfl rfl rfl rfl rfl ent33 (hw) rfl rfl ?_
   refine dgp tab_ok rfl (sideT (by omega)) ?_
   repeat' (first | refine dgp tab_ok rfl (by first | exact sideN | exact sideT (by omega)) ?_ | fail)
   refine dg_end mixed rfl ?_
   repeat' (first | refine stp tab_ok rfl (by first | exact sideN | exact sideT (by omega)) ?_ | refine gT rfl rfl (by omega) ?_ | refine gF rfl rfl (by omega) ?_ | refine gNT rfl rfl (by omega) ?_ | refine gNF rfl rfl (by omega) ?_ | fail)
   repeat' (first | refine stp tab_ok rfl (by first | exact sideN | exact sideT (by omega)) ?_ | refine gT rfl rfl (by omega) ?_ | refine gF rfl rfl (by omega) ?_ | refine gNT rfl rfl (by omega) ?_ | refine gNF rfl rfl (by omega) ?_ | refine gS rfl rfl (fun _ => ?_) (fun _ => ?_) | refine gNS rfl rfl (fun _ => ?_) (fun _ => ?_) | refine gBS rfl rfl (fun _ => ?_) (fun _ => ?_) | refine gBN rfl rfl (fun _ => ?_) (fun _ => ?_) | refine good_ret tab_ok hX rfl (Sub.of_eq ?_) | refine good_end tab_ok hX rfl (Sub.of_eq ?_) | fail)
   rfl
end Go.Proofs.YthjldemjipnmdaaGreatDoor.Sx
namespace Go.Proofs.YthjldemjipnmdaaGreatDoor.Sx
open Go.RowKit Go.MapKept
set_option maxRecDepth 100000
section
variable {P : Program} {F : Fr} {t : Tm} {h h' : Hp} {d : Option Tmp} {ty : TypeId} {ps : String} {af : Array Edge} {gd : Option (Nat × Bool)}
def fnV (f : Nat) : Value := .func (.func f) #[] #[]
theorem ok_insertF (T kt et g f : Nat) (x ix : Operand) (es : Array MapEntry) (clock : Nat) (key : Value) (dsc : TypeDesc) (hx : ev t x = .own g) (hg : getH h g = some (.raw (.map es clock))) (hi : ev t ix = .val key)
  (hm : P.underlying T = some (.map kt et)) (hd : P.underlying kt = some dsc) (hk : IsKey dsc key) (hf : Instr.findNow dsc key es.toList 0 = some none) :
  OpWp P F ⟨none, .insert T x ix (.func f), ty, ps, af, gd⟩ t h .any ((g, .raw (.map (es.push { key := key, val := fnV f, born := clock }) (clock + 1))) :: h) :=
 OpWp.skip fun r ac w hr ht => by
  have hx' := VR_ev ht x
  rw [hx] at hx'
  obtain ⟨b, he, hrg, hh⟩ := raw_map hr hg hx'
  obtain ⟨q1, q2⟩ := heap_set (o' := putE es clock key (fnV f) none) hh
  obtain ⟨k1, k2⟩ := hr.set (w' := { w with heap := w.heap.setIfInBounds b (putE es clock key (fnV f) none) }) hg rfl hrg (b := b) rfl rfl rfl rfl (by simp) (fun k _ hne => q2 k hne)
   (o' := .raw (putE es clock key (fnV f) none)) (fun _ => ⟨b, rfl, q1, fun _ => rfl⟩)
  refine ⟨_, r, ?_, k1, k2⟩
  have hrun := run_update (v := fnV f) hm hd hk hh hf (fun i u e => by cases e)
  have hfn : ac.eval (.func f) = fnV f := rfl
  simp only [execOp, he, VR_val ht hi, hfn, Sem.run_bind, hrun, Result.andThen, Sem.run_pure]
theorem ok_lookupF (T kt et g f i : Nat) (x ix : Operand) (es : Array MapEntry) (clock : Nat) (key : Value) (dsc : TypeDesc) (hx : ev t x = .own g) (hg : getH h g = some (.raw (.map es clock))) (hi : ev t ix = .val key)
  (hm : P.underlying T = some (.map kt et)) (hd : P.underlying kt = some dsc) (hk : IsKey dsc key) (hf : Instr.findNow dsc key es.toList 0 = some (some (i, fnV f))) :
  OpWp P F ⟨d, .lookup T x ix true, ty, ps, af, gd⟩ t h (.tup (L2 (.fn f .nil) (B true))) h :=
 OpWp.pure fun r ac w hr ht => by
  have hx' := VR_ev ht x
  rw [hx] at hx'
  obtain ⟨b, he, _, hh⟩ := raw_map hr hg hx'
  refine ⟨.tuple #[fnV f, .bool true], ?_, ?_⟩
  ·simp only [execOp, Instr.lookup, he, VR_val ht hi, Sem.run_bind, run_underlying hm, Result.andThen, Go.MapKept.run_getObj_map hh, Sem.run_pure, run_checkKey hd hk, run_findKey hd hf]
   rfl
  ·unfold VR
   refine ⟨_, rfl, ?_⟩
   unfold VRL
   refine ⟨fun e => (by cases e), ?_, ?_⟩
   ·unfold VR
    exact ⟨#[], rfl, by unfold VRL; trivial⟩
   ·unfold VRL
    refine ⟨fun e => (by cases e), vr_val, ?_⟩
    unfold VRL
    trivial
end
theorem und72 : Tryz.prog.underlying 72 = some (.map 3 70) := by kernel_rfl
theorem info70 : (Tryz.prog.info? 70).map (fun i => i.zero) = some (some .nilFunc) := by kernel_rfl
theorem zero70 (w : World) : (zeroValue 70).run Tryz.prog w = .ok .nilFunc w := by
 have h := info70
 cases hi : Tryz.prog.info? 70 with
 | none => rw [hi] at h; cases h
 | some i =>
  rw [hi] at h
  simp only [Option.map_some, Option.some.injEq] at h
  simp [zeroValue, typeInfo, hi, h]
def tableF (kind : Int) (s : ByteArray) : Tbl × Int × Int := if kind = 1 then listF s else if kind = 2 then parseZF s else (t0L, 0, 1)
theorem tableC_ac (kind : Int) (s : ByteArray) (hs : s.size ≤ 7000) : AC Tryz.prog 6 (L2 (I kind) (S s)) (.tup (L2 (tblA (tableF kind s).1) (faultA (tableF kind s).2.1 (tableF kind s).2.2))) := by
 have hl := parseL_ac s hs
 have hz := parseZ_ac s hs
 unfold tableF
 generalize listF s = q1 at *
 generalize parseZF s = q2 at *
 obtain ⟨⟨l1, b1, e1⟩, n1, c1⟩ := q1
 obtain ⟨⟨l2, b2, e2⟩, n2, c2⟩ := q2
 refine AC.enter Tryz.func6 Tryz.ntmps6 rfl rfl rfl (fun F hX => ?_)
 repeat' (first | refine stp tab_ok rfl (by first | exact sideN | exact sideT (by omega)) ?_ | refine gT rfl rfl (by omega) ?_ | refine gF rfl rfl (by omega) ?_ | refine gNT rfl rfl (by omega) ?_ | refine gNF rfl rfl (by omega) ?_ | fail)
 refine good_by rfl (ok_makeMap 9 72 rfl) rfl ?_
 refine good_by rfl (ok_insertF 72 3 70 9 21 _ _ _ _ (.int .i64 1) _ rfl rfl rfl und72 ((tab_ok 3 _ rfl).int rfl) rfl rfl) rfl ?_
 refine good_by rfl (ok_insertF 72 3 70 9 22 _ _ _ _ (.int .i64 2) _ rfl rfl rfl und72 ((tab_ok 3 _ rfl).int rfl) rfl rfl) rfl ?_
 repeat' (first | refine stp tab_ok rfl (by first | exact sideN | exact sideT (by omega)) ?_ | refine gT rfl rfl (by omega) ?_ | refine gF rfl rfl (by omega) ?_ | refine gNT rfl rfl (by omega) ?_ | refine gNF rfl rfl (by omega) ?_ | fail)
 by_cases h1 : kind = 1
 ·subst h1
  refine good_by rfl (ok_lookupF 72 3 70 9 21 0 _ _ _ _ (.int .i64 1) _ rfl rfl rfl und72 ((tab_ok 3 _ rfl).int rfl) rfl rfl) rfl ?_
  repeat' (first | refine stp tab_ok rfl (by first | exact sideN | exact sideT (by omega)) ?_ | refine gT rfl rfl (by omega) ?_ | refine gF rfl rfl (by omega) ?_ | refine gNT rfl rfl (by omega) ?_ | refine gNF rfl rfl (by omega) ?_ | fail)
  refine good_call rfl rfl rfl rfl rfl ent21 (hl) rfl ?_
  repeat' (first | refine stp tab_ok rfl (by first | exact sideN | exact sideT (by omega)) ?_ | refine gT rfl rfl (by omega) ?_ | refine gF rfl rfl (by omega) ?_ | refine gNT rfl rfl (by omega) ?_ | refine gNF rfl rfl (by omega) ?_ | fail)
  repeat' (first | refine stp tab_ok rfl (by first | exact sideN | exact sideT (by omega)) ?_ | refine gT rfl rfl (by omega) ?_ | refine gF rfl rfl (by omega) ?_ | refine gNT rfl rfl (by omega) ?_ | refine gNF rfl rfl (by omega) ?_ | refine gS rfl rfl (fun _ => ?_) (fun _ => ?_) | refine gNS rfl rfl (fun _ => ?_) (fun _ => ?_) | refine gBS rfl rfl (fun _ => ?_) (fun _ => ?_) | refine gBN rfl rfl (fun _ => ?_) (fun _ => ?_) | refine good_ret tab_ok hX rfl (Sub.of_eq ?_) | refine good_end tab_ok hX rfl (Sub.of_eq ?_) | fail)
  rfl
 ·by_cases h2 : kind = 2
  ·subst h2
   refine good_by rfl (ok_lookupF 72 3 70 9 22 1 _ _ _ _ (.int .i64 2) _ rfl rfl rfl und72 ((tab_ok 3 _ rfl).int rfl) rfl rfl) rfl ?_
   repeat' (first | refine stp tab_ok rfl (by first | exact sideN | exact sideT (by omega)) ?_ | refine gT rfl rfl (by omega) ?_ | refine gF rfl rfl (by omega) ?_ | refine gNT rfl rfl (by omega) ?_ | refine gNF rfl rfl (by omega) ?_ | fail)
   refine good_call rfl rfl rfl rfl rfl ent22 (hz) rfl ?_
   repeat' (first | refine stp tab_ok rfl (by first | exact sideN | exact sideT (by omega)) ?_ | refine gT rfl rfl (by omega) ?_ | refine gF rfl rfl (by omega) ?_ | refine gNT rfl rfl (by omega) ?_ | refine gNF rfl rfl (by omega) ?_ | fail)
   repeat' (first | refine stp tab_ok rfl (by first | exact sideN | exact sideT (by omega)) ?_ | refine gT rfl rfl (by omega) ?_ | refine gF rfl rfl (by omega) ?_ | refine gNT rfl rfl (by omega) ?_ | refine gNF rfl rfl (by omega) ?_ | refine gS rfl rfl (fun _ => ?_) (fun _ => ?_) | refine gNS rfl rfl (fun _ => ?_) (fun _ => ?_) | refine gBS rfl rfl (fun _ => ?_) (fun _ => ?_) | refine gBN rfl rfl (fun _ => ?_) (fun _ => ?_) | refine good_ret tab_ok hX rfl (Sub.of_eq ?_) | refine good_end tab_ok hX rfl (Sub.of_eq ?_) | fail)
   rfl
  ·refine good_by rfl (ok_lookup 72 3 70 9 _ _ true _ _ (.int .i64 kind) .nilFunc (.int .i64) none rfl rfl rfl und72 ((tab_ok 3 _ rfl).int rfl) rfl ?_ zero70) rfl ?_
   ·have e1 : (kind == 1) = false := beq_false_of_ne h1
    have e2 : (kind == 2) = false := beq_false_of_ne h2
    simp [Instr.findNow, Instr.sameNow]
    rw [e1, e2]
   rw [if_neg h1, if_neg h2]
   repeat' (first | refine stp tab_ok rfl (by first | exact sideN | exact sideT (by omega)) ?_ | refine gT rfl rfl (by omega) ?_ | refine gF rfl rfl (by omega) ?_ | refine gNT rfl rfl (by omega) ?_ | refine gNF rfl rfl (by omega) ?_ | fail)
   exact good_ret tab_ok hX rfl (Sub.tup (SubL.cons t0_sub (SubL.refl _)))
end Go.Proofs.YthjldemjipnmdaaGreatDoor.Sx
namespace Go.Proofs.YthjldemjipnmdaaGreatDoor.Sx
open Go.RowKit Go.MapKept
set_option maxRecDepth 100000
def utcB : ByteArray := ⟨#[85, 84, 67]⟩
def pool1 : ByteArray := ⟨#[85, 84, 67, 0]⟩
abbrev R4 (c : Int) : AV := .val (.int .i32 c)
theorem dec1 : Utf8.decode utcB 0 = (85, 1) := by decide
theorem dec2 : Utf8.decode utcB 1 = (84, 1) := by decide
theorem dec3 : Utf8.decode utcB 2 = (67, 1) := by decide
theorem dec4 : Utf8.decode utc0 0 = (85, 1) := by decide
theorem dec5 : Utf8.decode utc0 1 = (84, 1) := by decide
theorem dec6 : Utf8.decode utc0 2 = (67, 1) := by decide
theorem dec7 : Utf8.decode utc0 3 = (48, 1) := by decide
theorem good_ac (c : Int) (h : 65 ≤ c ∧ c ≤ 90) : AC Tryz.prog 214 (L1 (R4 c)) (B true) := by
 refine AC.enter Tryz.func214 Tryz.ntmps214 rfl rfl rfl (fun F hX => ?_)
 repeat' (first | refine stp tab_ok rfl (by first | exact sideN | exact sideT (by omega)) ?_ | refine gT rfl rfl (by omega) ?_ | refine gF rfl rfl (by omega) ?_ | refine gNT rfl rfl (by omega) ?_ | refine gNF rfl rfl (by omega) ?_ | fail)
 repeat' (first | refine stp tab_ok rfl (by first | exact sideN | exact sideT (by omega)) ?_ | refine gT rfl rfl (by omega) ?_ | refine gF rfl rfl (by omega) ?_ | refine gNT rfl rfl (by omega) ?_ | refine gNF rfl rfl (by omega) ?_ | refine gS rfl rfl (fun _ => ?_) (fun _ => ?_) | refine gNS rfl rfl (fun _ => ?_) (fun _ => ?_) | refine gBS rfl rfl (fun _ => ?_) (fun _ => ?_) | refine gBN rfl rfl (fun _ => ?_) (fun _ => ?_) | refine good_ret tab_ok hX rfl (Sub.of_eq ?_) | refine good_end tab_ok hX rfl (Sub.of_eq ?_) | fail)
 rfl
theorem good1_ac (c : Int) (h : 65 ≤ c ∧ c ≤ 90) : AC Tryz.prog 213 (L1 (R4 c)) (B false) := by
 refine AC.enter Tryz.func213 Tryz.ntmps213 rfl rfl rfl (fun F hX => ?_)
 repeat' (first | refine stp tab_ok rfl (by first | exact sideN | exact sideT (by omega)) ?_ | refine gT rfl rfl (by omega) ?_ | refine gF rfl rfl (by omega) ?_ | refine gNT rfl rfl (by omega) ?_ | refine gNF rfl rfl (by omega) ?_ | fail)
 refine good_call rfl rfl rfl rfl rfl ent214 (good_ac c h) rfl ?_
 repeat' (first | refine stp tab_ok rfl (by first | exact sideN | exact sideT (by omega)) ?_ | refine gT rfl rfl (by omega) ?_ | refine gF rfl rfl (by omega) ?_ | refine gNT rfl rfl (by omega) ?_ | refine gNF rfl rfl (by omega) ?_ | fail)
 repeat' (first | refine stp tab_ok rfl (by first | exact sideN | exact sideT (by omega)) ?_ | refine gT rfl rfl (by omega) ?_ | refine gF rfl rfl (by omega) ?_ | refine gNT rfl rfl (by omega) ?_ | refine gNF rfl rfl (by omega) ?_ | refine gS rfl rfl (fun _ => ?_) (fun _ => ?_) | refine gNS rfl rfl (fun _ => ?_) (fun _ => ?_) | refine gBS rfl rfl (fun _ => ?_) (fun _ => ?_) | refine gBN rfl rfl (fun _ => ?_) (fun _ => ?_) | refine good_ret tab_ok hX rfl (Sub.of_eq ?_) | refine good_end tab_ok hX rfl (Sub.of_eq ?_) | fail)
 rfl
theorem plain_ac (c : Int) (h : 65 ≤ c ∧ c ≤ 90) : AC Tryz.prog 243 (L1 (R4 c)) (B true) := by
 have e : decide (c ≤ 90) = true := decide_eq_true h.2
 refine AC.enter Tryz.func243 Tryz.ntmps243 rfl rfl rfl (fun F hX => ?_)
 repeat' (first | refine stp tab_ok rfl (by first | exact sideN | exact sideT (by omega)) ?_ | refine gT rfl rfl (by omega) ?_ | refine gF rfl rfl (by omega) ?_ | refine gNT rfl rfl (by omega) ?_ | refine gNF rfl rfl (by omega) ?_ | fail)
 rw [e]
 repeat' (first | refine stp tab_ok rfl (by first | exact sideN | exact sideT (by omega)) ?_ | refine gT rfl rfl (by omega) ?_ | refine gF rfl rfl (by omega) ?_ | refine gNT rfl rfl (by omega) ?_ | refine gNF rfl rfl (by omega) ?_ | refine gS rfl rfl (fun _ => ?_) (fun _ => ?_) | refine gNS rfl rfl (fun _ => ?_) (fun _ => ?_) | refine gBS rfl rfl (fun _ => ?_) (fun _ => ?_) | refine gBN rfl rfl (fun _ => ?_) (fun _ => ?_) | refine good_ret tab_ok hX rfl (Sub.of_eq ?_) | refine good_end tab_ok hX rfl (Sub.of_eq ?_) | fail)
 rfl
theorem plain0_ac : AC Tryz.prog 243 (L1 (R4 48)) (B false) := by
 refine AC.enter Tryz.func243 Tryz.ntmps243 rfl rfl rfl (fun F hX => ?_)
 repeat' (first | refine stp tab_ok rfl (by first | exact sideN | exact sideT (by omega)) ?_ | refine gT rfl rfl (by omega) ?_ | refine gF rfl rfl (by omega) ?_ | refine gNT rfl rfl (by omega) ?_ | refine gNF rfl rfl (by omega) ?_ | fail)
 repeat' (first | refine stp tab_ok rfl (by first | exact sideN | exact sideT (by omega)) ?_ | refine gT rfl rfl (by omega) ?_ | refine gF rfl rfl (by omega) ?_ | refine gNT rfl rfl (by omega) ?_ | refine gNF rfl rfl (by omega) ?_ | refine gS rfl rfl (fun _ => ?_) (fun _ => ?_) | refine gNS rfl rfl (fun _ => ?_) (fun _ => ?_) | refine gBS rfl rfl (fun _ => ?_) (fun _ => ?_) | refine gBN rfl rfl (fun _ => ?_) (fun _ => ?_) | refine good_ret tab_ok hX rfl (Sub.of_eq ?_) | refine good_end tab_ok hX rfl (Sub.of_eq ?_) | fail)
 rfl
theorem name1_ac (c : Int) (h : 65 ≤ c ∧ c ≤ 90) : AC Tryz.prog 242 (L1 (R4 c)) (B false) := by
 refine AC.enter Tryz.func242 Tryz.ntmps242 rfl rfl rfl (fun F hX => ?_)
 repeat' (first | refine stp tab_ok rfl (by first | exact sideN | exact sideT (by omega)) ?_ | refine gT rfl rfl (by omega) ?_ | refine gF rfl rfl (by omega) ?_ | refine gNT rfl rfl (by omega) ?_ | refine gNF rfl rfl (by omega) ?_ | fail)
 refine good_call rfl rfl rfl rfl rfl ent243 (plain_ac c h) rfl ?_
 repeat' (first | refine stp tab_ok rfl (by first | exact sideN | exact sideT (by omega)) ?_ | refine gT rfl rfl (by omega) ?_ | refine gF rfl rfl (by omega) ?_ | refine gNT rfl rfl (by omega) ?_ | refine gNF rfl rfl (by omega) ?_ | fail)
 repeat' (first | refine stp tab_ok rfl (by first | exact sideN | exact sideT (by omega)) ?_ | refine gT rfl rfl (by omega) ?_ | refine gF rfl rfl (by omega) ?_ | refine gNT rfl rfl (by omega) ?_ | refine gNF rfl rfl (by omega) ?_ | refine gS rfl rfl (fun _ => ?_) (fun _ => ?_) | refine gNS rfl rfl (fun _ => ?_) (fun _ => ?_) | refine gBS rfl rfl (fun _ => ?_) (fun _ => ?_) | refine gBN rfl rfl (fun _ => ?_) (fun _ => ?_) | refine good_ret tab_ok hX rfl (Sub.of_eq ?_) | refine good_end tab_ok hX rfl (Sub.of_eq ?_) | fail)
 rfl
theorem name0_ac : AC Tryz.prog 242 (L1 (R4 48)) (B true) := by
 refine AC.enter Tryz.func242 Tryz.ntmps242 rfl rfl rfl (fun F hX => ?_)
 repeat' (first | refine stp tab_ok rfl (by first | exact sideN | exact sideT (by omega)) ?_ | refine gT rfl rfl (by omega) ?_ | refine gF rfl rfl (by omega) ?_ | refine gNT rfl rfl (by omega) ?_ | refine gNF rfl rfl (by omega) ?_ | fail)
 refine good_call rfl rfl rfl rfl rfl ent243 (plain0_ac) rfl ?_
 repeat' (first | refine stp tab_ok rfl (by first | exact sideN | exact sideT (by omega)) ?_ | refine gT rfl rfl (by omega) ?_ | refine gF rfl rfl (by omega) ?_ | refine gNT rfl rfl (by omega) ?_ | refine gNF rfl rfl (by omega) ?_ | fail)
 repeat' (first | refine stp tab_ok rfl (by first | exact sideN | exact sideT (by omega)) ?_ | refine gT rfl rfl (by omega) ?_ | refine gF rfl rfl (by omega) ?_ | refine gNT rfl rfl (by omega) ?_ | refine gNF rfl rfl (by omega) ?_ | refine gS rfl rfl (fun _ => ?_) (fun _ => ?_) | refine gNS rfl rfl (fun _ => ?_) (fun _ => ?_) | refine gBS rfl rfl (fun _ => ?_) (fun _ => ?_) | refine gBN rfl rfl (fun _ => ?_) (fun _ => ?_) | refine good_ret tab_ok hX rfl (Sub.of_eq ?_) | refine good_end tab_ok hX rfl (Sub.of_eq ?_) | fail)
 rfl
theorem index1_ac : AC Tryz.prog 258 (L3 (S utcB) (.fn 213 .nil) (B true)) (I (-1)) := by
 refine AC.enter Tryz.func258 Tryz.ntmps258 rfl rfl rfl (fun F hX => ?_)
 repeat' (first | refine stp tab_ok rfl (by first | exact sideN | exact sideT (by omega)) ?_ | refine gT rfl rfl (by omega) ?_ | refine gF rfl rfl (by omega) ?_ | refine gNT rfl rfl (by omega) ?_ | refine gNF rfl rfl (by omega) ?_ | fail)
 refine good_by rfl (ok_range 10 9 _ utcB rfl ((tab_ok 9 _ rfl).string rfl) rfl) rfl ?_
 repeat' (first | refine stp tab_ok rfl (by first | exact sideN | exact sideT (by omega)) ?_ | refine gT rfl rfl (by omega) ?_ | refine gF rfl rfl (by omega) ?_ | refine gNT rfl rfl (by omega) ?_ | refine gNF rfl rfl (by omega) ?_ | fail)
 refine good_loopN 5 ?_
 repeat' (first | refine stp tab_ok rfl (by first | exact sideN | exact sideT (by omega)) ?_ | refine gT rfl rfl (by omega) ?_ | refine gF rfl rfl (by omega) ?_ | refine gNT rfl rfl (by omega) ?_ | refine gNF rfl rfl (by omega) ?_ | fail)
 refine good_by rfl (ok_next _ 10 0 utcB rfl rfl (by decide)) rfl ?_
 simp only [dec1]
 repeat' (first | refine stp tab_ok rfl (by first | exact sideN | exact sideT (by omega)) ?_ | refine gT rfl rfl (by omega) ?_ | refine gF rfl rfl (by omega) ?_ | refine gNT rfl rfl (by omega) ?_ | refine gNF rfl rfl (by omega) ?_ | fail)
 refine good_call rfl rfl rfl rfl rfl ent213 (good1_ac 85 (by decide)) rfl ?_
 repeat' (first | refine stp tab_ok rfl (by first | exact sideN | exact sideT (by omega)) ?_ | refine gT rfl rfl (by omega) ?_ | refine gF rfl rfl (by omega) ?_ | refine gNT rfl rfl (by omega) ?_ | refine gNF rfl rfl (by omega) ?_ | fail)
 refine good_by rfl (ok_next _ 10 1 utcB rfl rfl (by decide)) rfl ?_
 simp only [dec2]
 repeat' (first | refine stp tab_ok rfl (by first | exact sideN | exact sideT (by omega)) ?_ | refine gT rfl rfl (by omega) ?_ | refine gF rfl rfl (by omega) ?_ | refine gNT rfl rfl (by omega) ?_ | refine gNF rfl rfl (by omega) ?_ | fail)
 refine good_call rfl rfl rfl rfl rfl ent213 (good1_ac 84 (by decide)) rfl ?_
 repeat' (first | refine stp tab_ok rfl (by first | exact sideN | exact sideT (by omega)) ?_ | refine gT rfl rfl (by omega) ?_ | refine gF rfl rfl (by omega) ?_ | refine gNT rfl rfl (by omega) ?_ | refine gNF rfl rfl (by omega) ?_ | fail)
 refine good_by rfl (ok_next _ 10 2 utcB rfl rfl (by decide)) rfl ?_
 simp only [dec3]
 repeat' (first | refine stp tab_ok rfl (by first | exact sideN | exact sideT (by omega)) ?_ | refine gT rfl rfl (by omega) ?_ | refine gF rfl rfl (by omega) ?_ | refine gNT rfl rfl (by omega) ?_ | refine gNF rfl rfl (by omega) ?_ | fail)
 refine good_call rfl rfl rfl rfl rfl ent213 (good1_ac 67 (by decide)) rfl ?_
 repeat' (first | refine stp tab_ok rfl (by first | exact sideN | exact sideT (by omega)) ?_ | refine gT rfl rfl (by omega) ?_ | refine gF rfl rfl (by omega) ?_ | refine gNT rfl rfl (by omega) ?_ | refine gNF rfl rfl (by omega) ?_ | fail)
 refine good_by rfl (ok_over _ 10 3 utcB rfl rfl (by decide)) rfl ?_
 repeat' (first | refine stp tab_ok rfl (by first | exact sideN | exact sideT (by omega)) ?_ | refine gT rfl rfl (by omega) ?_ | refine gF rfl rfl (by omega) ?_ | refine gNT rfl rfl (by omega) ?_ | refine gNF rfl rfl (by omega) ?_ | fail)
 repeat' (first | refine stp tab_ok rfl (by first | exact sideN | exact sideT (by omega)) ?_ | refine gT rfl rfl (by omega) ?_ | refine gF rfl rfl (by omega) ?_ | refine gNT rfl rfl (by omega) ?_ | refine gNF rfl rfl (by omega) ?_ | refine gS rfl rfl (fun _ => ?_) (fun _ => ?_) | refine gNS rfl rfl (fun _ => ?_) (fun _ => ?_) | refine gBS rfl rfl (fun _ => ?_) (fun _ => ?_) | refine gBN rfl rfl (fun _ => ?_) (fun _ => ?_) | refine good_ret tab_ok hX rfl (Sub.of_eq ?_) | refine good_end tab_ok hX rfl (Sub.of_eq ?_) | fail)
 rfl
theorem index2_ac : AC Tryz.prog 258 (L3 (S utc0) (.fn 242 .nil) (B true)) (I 3) := by
 refine AC.enter Tryz.func258 Tryz.ntmps258 rfl rfl rfl (fun F hX => ?_)
 repeat' (first | refine stp tab_ok rfl (by first | exact sideN | exact sideT (by omega)) ?_ | refine gT rfl rfl (by omega) ?_ | refine gF rfl rfl (by omega) ?_ | refine gNT rfl rfl (by omega) ?_ | refine gNF rfl rfl (by omega) ?_ | fail)
 refine good_by rfl (ok_range 10 9 _ utc0 rfl ((tab_ok 9 _ rfl).string rfl) rfl) rfl ?_
 repeat' (first | refine stp tab_ok rfl (by first | exact sideN | exact sideT (by omega)) ?_ | refine gT rfl rfl (by omega) ?_ | refine gF rfl rfl (by omega) ?_ | refine gNT rfl rfl (by omega) ?_ | refine gNF rfl rfl (by omega) ?_ | fail)
 refine good_loopN 5 ?_
 repeat' (first | refine stp tab_ok rfl (by first | exact sideN | exact sideT (by omega)) ?_ | refine gT rfl rfl (by omega) ?_ | refine gF rfl rfl (by omega) ?_ | refine gNT rfl rfl (by omega) ?_ | refine gNF rfl rfl (by omega) ?_ | fail)
 refine good_by rfl (ok_next _ 10 0 utc0 rfl rfl (by decide)) rfl ?_
 simp only [dec4]
 repeat' (first | refine stp tab_ok rfl (by first | exact sideN | exact sideT (by omega)) ?_ | refine gT rfl rfl (by omega) ?_ | refine gF rfl rfl (by omega) ?_ | refine gNT rfl rfl (by omega) ?_ | refine gNF rfl rfl (by omega) ?_ | fail)
 refine good_call rfl rfl rfl rfl rfl ent242 (name1_ac 85 (by decide)) rfl ?_
 repeat' (first | refine stp tab_ok rfl (by first | exact sideN | exact sideT (by omega)) ?_ | refine gT rfl rfl (by omega) ?_ | refine gF rfl rfl (by omega) ?_ | refine gNT rfl rfl (by omega) ?_ | refine gNF rfl rfl (by omega) ?_ | fail)
 refine good_by rfl (ok_next _ 10 1 utc0 rfl rfl (by decide)) rfl ?_
 simp only [dec5]
 repeat' (first | refine stp tab_ok rfl (by first | exact sideN | exact sideT (by omega)) ?_ | refine gT rfl rfl (by omega) ?_ | refine gF rfl rfl (by omega) ?_ | refine gNT rfl rfl (by omega) ?_ | refine gNF rfl rfl (by omega) ?_ | fail)
 refine good_call rfl rfl rfl rfl rfl ent242 (name1_ac 84 (by decide)) rfl ?_
 repeat' (first | refine stp tab_ok rfl (by first | exact sideN | exact sideT (by omega)) ?_ | refine gT rfl rfl (by omega) ?_ | refine gF rfl rfl (by omega) ?_ | refine gNT rfl rfl (by omega) ?_ | refine gNF rfl rfl (by omega) ?_ | fail)
 refine good_by rfl (ok_next _ 10 2 utc0 rfl rfl (by decide)) rfl ?_
 simp only [dec6]
 repeat' (first | refine stp tab_ok rfl (by first | exact sideN | exact sideT (by omega)) ?_ | refine gT rfl rfl (by omega) ?_ | refine gF rfl rfl (by omega) ?_ | refine gNT rfl rfl (by omega) ?_ | refine gNF rfl rfl (by omega) ?_ | fail)
 refine good_call rfl rfl rfl rfl rfl ent242 (name1_ac 67 (by decide)) rfl ?_
 repeat' (first | refine stp tab_ok rfl (by first | exact sideN | exact sideT (by omega)) ?_ | refine gT rfl rfl (by omega) ?_ | refine gF rfl rfl (by omega) ?_ | refine gNT rfl rfl (by omega) ?_ | refine gNF rfl rfl (by omega) ?_ | fail)
 refine good_by rfl (ok_next _ 10 3 utc0 rfl rfl (by decide)) rfl ?_
 simp only [dec7]
 repeat' (first | refine stp tab_ok rfl (by first | exact sideN | exact sideT (by omega)) ?_ | refine gT rfl rfl (by omega) ?_ | refine gF rfl rfl (by omega) ?_ | refine gNT rfl rfl (by omega) ?_ | refine gNF rfl rfl (by omega) ?_ | fail)
 refine good_call rfl rfl rfl rfl rfl ent242 (name0_ac) rfl ?_
 repeat' (first | refine stp tab_ok rfl (by first | exact sideN | exact sideT (by omega)) ?_ | refine gT rfl rfl (by omega) ?_ | refine gF rfl rfl (by omega) ?_ | refine gNT rfl rfl (by omega) ?_ | refine gNF rfl rfl (by omega) ?_ | fail)
 repeat' (first | refine stp tab_ok rfl (by first | exact sideN | exact sideT (by omega)) ?_ | refine gT rfl rfl (by omega) ?_ | refine gF rfl rfl (by omega) ?_ | refine gNT rfl rfl (by omega) ?_ | refine gNF rfl rfl (by omega) ?_ | refine gS rfl rfl (fun _ => ?_) (fun _ => ?_) | refine gNS rfl rfl (fun _ => ?_) (fun _ => ?_) | refine gBS rfl rfl (fun _ => ?_) (fun _ => ?_) | refine gBN rfl rfl (fun _ => ?_) (fun _ => ?_) | refine good_ret tab_ok hX rfl (Sub.of_eq ?_) | refine good_end tab_ok hX rfl (Sub.of_eq ?_) | fail)
 rfl
theorem indexT1_ac : AC Tryz.prog 241 (L2 (S utcB) (.fn 213 .nil)) (I (-1)) := by
 refine AC.enter Tryz.func241 Tryz.ntmps241 rfl rfl rfl (fun F hX => ?_)
 repeat' (first | refine stp tab_ok rfl (by first | exact sideN | exact sideT (by omega)) ?_ | refine gT rfl rfl (by omega) ?_ | refine gF rfl rfl (by omega) ?_ | refine gNT rfl rfl (by omega) ?_ | refine gNF rfl rfl (by omega) ?_ | fail)
 refine good_call rfl rfl rfl rfl rfl ent258 (index1_ac) rfl ?_
 repeat' (first | refine stp tab_ok rfl (by first | exact sideN | exact sideT (by omega)) ?_ | refine gT rfl rfl (by omega) ?_ | refine gF rfl rfl (by omega) ?_ | refine gNT rfl rfl (by omega) ?_ | refine gNF rfl rfl (by omega) ?_ | fail)
 repeat' (first | refine stp tab_ok rfl (by first | exact sideN | exact sideT (by omega)) ?_ | refine gT rfl rfl (by omega) ?_ | refine gF rfl rfl (by omega) ?_ | refine gNT rfl rfl (by omega) ?_ | refine gNF rfl rfl (by omega) ?_ | refine gS rfl rfl (fun _ => ?_) (fun _ => ?_) | refine gNS rfl rfl (fun _ => ?_) (fun _ => ?_) | refine gBS rfl rfl (fun _ => ?_) (fun _ => ?_) | refine gBN rfl rfl (fun _ => ?_) (fun _ => ?_) | refine good_ret tab_ok hX rfl (Sub.of_eq ?_) | refine good_end tab_ok hX rfl (Sub.of_eq ?_) | fail)
 rfl
theorem indexT2_ac : AC Tryz.prog 241 (L2 (S utc0) (.fn 242 .nil)) (I 3) := by
 refine AC.enter Tryz.func241 Tryz.ntmps241 rfl rfl rfl (fun F hX => ?_)
 repeat' (first | refine stp tab_ok rfl (by first | exact sideN | exact sideT (by omega)) ?_ | refine gT rfl rfl (by omega) ?_ | refine gF rfl rfl (by omega) ?_ | refine gNT rfl rfl (by omega) ?_ | refine gNF rfl rfl (by omega) ?_ | fail)
 refine good_call rfl rfl rfl rfl rfl ent258 (index2_ac) rfl ?_
 repeat' (first | refine stp tab_ok rfl (by first | exact sideN | exact sideT (by omega)) ?_ | refine gT rfl rfl (by omega) ?_ | refine gF rfl rfl (by omega) ?_ | refine gNT rfl rfl (by omega) ?_ | refine gNF rfl rfl (by omega) ?_ | fail)
 repeat' (first | refine stp tab_ok rfl (by first | exact sideN | exact sideT (by omega)) ?_ | refine gT rfl rfl (by omega) ?_ | refine gF rfl rfl (by omega) ?_ | refine gNT rfl rfl (by omega) ?_ | refine gNF rfl rfl (by omega) ?_ | refine gS rfl rfl (fun _ => ?_) (fun _ => ?_) | refine gNS rfl rfl (fun _ => ?_) (fun _ => ?_) | refine gBS rfl rfl (fun _ => ?_) (fun _ => ?_) | refine gBN rfl rfl (fun _ => ?_) (fun _ => ?_) | refine good_ret tab_ok hX rfl (Sub.of_eq ?_) | refine good_end tab_ok hX rfl (Sub.of_eq ?_) | fail)
 rfl
theorem contains1F_ac : AC Tryz.prog 215 (L2 (S utcB) (.fn 213 .nil)) (B false) := by
 refine AC.enter Tryz.func215 Tryz.ntmps215 rfl rfl rfl (fun F hX => ?_)
 repeat' (first | refine stp tab_ok rfl (by first | exact sideN | exact sideT (by omega)) ?_ | refine gT rfl rfl (by omega) ?_ | refine gF rfl rfl (by omega) ?_ | refine gNT rfl rfl (by omega) ?_ | refine gNF rfl rfl (by omega) ?_ | fail)
 refine good_call rfl rfl rfl rfl rfl ent241 (indexT1_ac) rfl ?_
 repeat' (first | refine stp tab_ok rfl (by first | exact sideN | exact sideT (by omega)) ?_ | refine gT rfl rfl (by omega) ?_ | refine gF rfl rfl (by omega) ?_ | refine gNT rfl rfl (by omega) ?_ | refine gNF rfl rfl (by omega) ?_ | fail)
 repeat' (first | refine stp tab_ok rfl (by first | exact sideN | exact sideT (by omega)) ?_ | refine gT rfl rfl (by omega) ?_ | refine gF rfl rfl (by omega) ?_ | refine gNT rfl rfl (by omega) ?_ | refine gNF rfl rfl (by omega) ?_ | refine gS rfl rfl (fun _ => ?_) (fun _ => ?_) | refine gNS rfl rfl (fun _ => ?_) (fun _ => ?_) | refine gBS rfl rfl (fun _ => ?_) (fun _ => ?_) | refine gBN rfl rfl (fun _ => ?_) (fun _ => ?_) | refine good_ret tab_ok hX rfl (Sub.of_eq ?_) | refine good_end tab_ok hX rfl (Sub.of_eq ?_) | fail)
 rfl
theorem abbrR_ac : AC Tryz.prog 167 (L1 (S utcB)) (B true) := by
 refine AC.enter Tryz.func167 Tryz.ntmps167 rfl rfl rfl (fun F hX => ?_)
 repeat' (first | refine stp tab_ok rfl (by first | exact sideN | exact sideT (by omega)) ?_ | refine gT rfl rfl (by omega) ?_ | refine gF rfl rfl (by omega) ?_ | refine gNT rfl rfl (by omega) ?_ | refine gNF rfl rfl (by omega) ?_ | fail)
 refine good_callG rfl rfl rfl rfl rfl rfl rfl rfl rfl ent215 (contains1F_ac) rfl ?_
 repeat' (first | refine stp tab_ok rfl (by first | exact sideN | exact sideT (by omega)) ?_ | refine gT rfl rfl (by omega) ?_ | refine gF rfl rfl (by omega) ?_ | refine gNT rfl rfl (by omega) ?_ | refine gNF rfl rfl (by omega) ?_ | fail)
 repeat' (first | refine stp tab_ok rfl (by first | exact sideN | exact sideT (by omega)) ?_ | refine gT rfl rfl (by omega) ?_ | refine gF rfl rfl (by omega) ?_ | refine gNT rfl rfl (by omega) ?_ | refine gNF rfl rfl (by omega) ?_ | refine gS rfl rfl (fun _ => ?_) (fun _ => ?_) | refine gNS rfl rfl (fun _ => ?_) (fun _ => ?_) | refine gBS rfl rfl (fun _ => ?_) (fun _ => ?_) | refine gBN rfl rfl (fun _ => ?_) (fun _ => ?_) | refine good_ret tab_ok hX rfl (Sub.of_eq ?_) | refine good_end tab_ok hX rfl (Sub.of_eq ?_) | fail)
 rfl
theorem cutP : (Lib.cut pool1.data.toList [0]) = ([85, 84, 67], [], true) := by decide
theorem at1_ac : AC Tryz.prog 119 (L2 (S pool1) (I 0)) (.tup (L2 (S utcB) (B true))) := by
 have hc := cut_ac pool1 ⟨#[0]⟩ (by decide)
 simp only [cutP] at hc
 refine AC.enter Tryz.func119 Tryz.ntmps119 rfl rfl rfl (fun F hX => ?_)
 repeat' (first | refine stp tab_ok rfl (by first | exact sideN | exact sideT (by omega)) ?_ | refine gT rfl rfl (by omega) ?_ | refine gF rfl rfl (by omega) ?_ | refine gNT rfl rfl (by omega) ?_ | refine gNF rfl rfl (by omega) ?_ | fail)
 rw [show pool1.extract (Int.toNat 0) (Int.toNat (pool1.size : Int)) = pool1 from by decide]
 refine good_call rfl rfl rfl rfl rfl ent51 (hc) rfl ?_
 repeat' (first | refine stp tab_ok rfl (by first | exact sideN | exact sideT (by omega)) ?_ | refine gT rfl rfl (by omega) ?_ | refine gF rfl rfl (by omega) ?_ | refine gNT rfl rfl (by omega) ?_ | refine gNF rfl rfl (by omega) ?_ | fail)
 refine good_callG rfl rfl rfl rfl rfl rfl rfl rfl rfl ent167 (abbrR_ac) rfl ?_
 repeat' (first | refine stp tab_ok rfl (by first | exact sideN | exact sideT (by omega)) ?_ | refine gT rfl rfl (by omega) ?_ | refine gF rfl rfl (by omega) ?_ | refine gNT rfl rfl (by omega) ?_ | refine gNF rfl rfl (by omega) ?_ | fail)
 repeat' (first | refine stp tab_ok rfl (by first | exact sideN | exact sideT (by omega)) ?_ | refine gT rfl rfl (by omega) ?_ | refine gF rfl rfl (by omega) ?_ | refine gNT rfl rfl (by omega) ?_ | refine gNF rfl rfl (by omega) ?_ | refine gS rfl rfl (fun _ => ?_) (fun _ => ?_) | refine gNS rfl rfl (fun _ => ?_) (fun _ => ?_) | refine gBS rfl rfl (fun _ => ?_) (fun _ => ?_) | refine gBN rfl rfl (fun _ => ?_) (fun _ => ?_) | refine good_ret tab_ok hX rfl (Sub.of_eq ?_) | refine good_end tab_ok hX rfl (Sub.of_eq ?_) | fail)
 rfl
theorem pool1_ac : AC Tryz.prog 172 (L1 (.im 1 1 (fun _ => .cons (S utcB) .nil))) (.tup (L3 (S pool1) (.im 1 1 (fun _ => .cons (I 0) .nil)) (B true))) := by
 refine AC.enter Tryz.func172 Tryz.ntmps172 rfl rfl rfl (fun F hX => ?_)
 repeat' (first | refine stp tab_ok rfl (by first | exact sideN | exact sideT (by omega)) ?_ | refine gT rfl rfl (by omega) ?_ | refine gF rfl rfl (by omega) ?_ | refine gNT rfl rfl (by omega) ?_ | refine gNF rfl rfl (by omega) ?_ | fail)
 refine good_by rfl (ok_makeMap 10 102 rfl) rfl ?_
 repeat' (first | refine stp tab_ok rfl (by first | exact sideN | exact sideT (by omega)) ?_ | refine gT rfl rfl (by omega) ?_ | refine gF rfl rfl (by omega) ?_ | refine gNT rfl rfl (by omega) ?_ | refine gNF rfl rfl (by omega) ?_ | fail)
 refine good_loopN 3 ?_
 repeat' (first | refine stp tab_ok rfl (by first | exact sideN | exact sideT (by omega)) ?_ | refine gT rfl rfl (by omega) ?_ | refine gF rfl rfl (by omega) ?_ | refine gNT rfl rfl (by omega) ?_ | refine gNF rfl rfl (by omega) ?_ | fail)
 refine good_call rfl rfl rfl rfl rfl ent167 (abbrR_ac) rfl ?_
 repeat' (first | refine stp tab_ok rfl (by first | exact sideN | exact sideT (by omega)) ?_ | refine gT rfl rfl (by omega) ?_ | refine gF rfl rfl (by omega) ?_ | refine gNT rfl rfl (by omega) ?_ | refine gNF rfl rfl (by omega) ?_ | fail)
 refine good_by rfl (ok_lookup 102 9 3 10 _ _ true #[] 0 (.string utcB) (.int .i64 0) .string none rfl rfl rfl und102 ((tab_ok 9 _ rfl).string rfl) trivial rfl zero3) rfl ?_
 repeat' (first | refine stp tab_ok rfl (by first | exact sideN | exact sideT (by omega)) ?_ | refine gT rfl rfl (by omega) ?_ | refine gF rfl rfl (by omega) ?_ | refine gNT rfl rfl (by omega) ?_ | refine gNF rfl rfl (by omega) ?_ | fail)
 refine good_by rfl (ok_update 102 9 3 10 _ _ _ #[] 0 (.string utcB) (.int .i64 0) .string none rfl rfl rfl rfl und102 ((tab_ok 9 _ rfl).string rfl) trivial rfl (fun i u e => by cases e) _ (.inl rfl)) rfl ?_
 repeat' (first | refine stp tab_ok rfl (by first | exact sideN | exact sideT (by omega)) ?_ | refine gT rfl rfl (by omega) ?_ | refine gF rfl rfl (by omega) ?_ | refine gNT rfl rfl (by omega) ?_ | refine gNF rfl rfl (by omega) ?_ | fail)
 refine stp tab_ok rfl (sideT (by decide)) ?_
 refine stp tab_ok rfl (sideT (by decide)) ?_
 repeat' (first | refine stp tab_ok rfl (by first | exact sideN | exact sideT (by omega)) ?_ | refine gT rfl rfl (by omega) ?_ | refine gF rfl rfl (by omega) ?_ | refine gNT rfl rfl (by omega) ?_ | refine gNF rfl rfl (by omega) ?_ | fail)
 refine good_freeze 40 rfl ?_
 refine good_ret tab_ok hX rfl (Sub.tup (SubL.cons (Sub.of_eq (congrArg (fun q => AV.val (.string q)) ?_)) (SubL.cons (Sub.im rfl (fun i hi => ?_)) (SubL.refl _))))
 ·decide
 ·obtain rfl : i = 0 := Nat.lt_one_iff.1 hi
  rfl
end Go.Proofs.YthjldemjipnmdaaGreatDoor.Sx
namespace Go.Proofs.YthjldemjipnmdaaGreatDoor.Sx
open Go.RowKit
set_option maxRecDepth 100000
section
variable {F : Fr} {t : Tm} {h : Hp} {d : Option Tmp} {ty : TypeId} {ps : String} {af : Array Edge} {gd : Option (Nat × Bool)}
theorem agg_inv {w : World} {r : Rho} {M : Cond} {l : List Value} {V : Value} (hv : VR w (.agg (valsL l)) r M V) : V = .agg l.toArray := by
 unfold VR at hv
 obtain ⟨A, rfl, hv⟩ := hv
 rw [arr_of (vals_inv hv)]
theorem run_eqGuard {T : Nat} (x y : Operand) (l1 l2 : List Value) (w : World) (hg : Tryz.prog.eqGuardType Tryz.prog.depth T = false) (op : BinOp) (ho : op = .eql ∨ op = .neq) : (eqGuard op T x y (.agg l1.toArray) (.agg l2.toArray)).run Tryz.prog w = .ok () w := by
 unfold eqGuard
 rcases ho with rfl | rfl <;> simp [hg]
theorem ok_eqS (T T' : Nat) (x y : Operand) (l1 l2 : List Value) (b : Bool) (hx : ev t x = .agg (valsL l1)) (hy : ev t y = .agg (valsL l2)) (he : ∀ w, (Op.equalIn 10000 T (.agg l1.toArray) (.agg l2.toArray)).run Tryz.prog w = .ok b w) (hg : Tryz.prog.eqGuardType Tryz.prog.depth T = false) :
  OpWp Tryz.prog F ⟨d, .binOp .eql T x y T', ty, ps, af, gd⟩ t h (.val (.bool b)) h :=
 OpWp.pure fun r a w hr ht => by
  have h1 := agg_inv (hx ▸ VR_ev ht x)
  have h2 := agg_inv (hy ▸ VR_ev ht y)
  refine ⟨_, ?_, vr_val⟩
  have hg' := run_eqGuard x y l1 l2 w hg .eql (.inl rfl)
  have hb : (binOp .eql T (.agg l1.toArray) (.agg l2.toArray)).run Tryz.prog w = .ok (.bool b) w := by
   have e : binOp .eql T (.agg l1.toArray) (.agg l2.toArray) = (do pure (.bool (← Op.equal T (.agg l1.toArray) (.agg l2.toArray)))) := rfl
   rw [e]
   simp only [Op.equal, Op.maxDepth, Sem.run_bind, he, Result.andThen, Sem.run_pure]
  simp only [execOp, h1, h2, Sem.run_bind, hg', hb, Result.andThen, Sem.run_pure]
theorem ok_neS (T T' : Nat) (x y : Operand) (l1 l2 : List Value) (b : Bool) (hx : ev t x = .agg (valsL l1)) (hy : ev t y = .agg (valsL l2)) (he : ∀ w, (Op.equalIn 10000 T (.agg l1.toArray) (.agg l2.toArray)).run Tryz.prog w = .ok b w) (hg : Tryz.prog.eqGuardType Tryz.prog.depth T = false) :
  OpWp Tryz.prog F ⟨d, .binOp .neq T x y T', ty, ps, af, gd⟩ t h (.val (.bool (!b))) h :=
 OpWp.pure fun r a w hr ht => by
  have h1 := agg_inv (hx ▸ VR_ev ht x)
  have h2 := agg_inv (hy ▸ VR_ev ht y)
  refine ⟨_, ?_, vr_val⟩
  have hg' := run_eqGuard x y l1 l2 w hg .neq (.inr rfl)
  have hb : (binOp .neq T (.agg l1.toArray) (.agg l2.toArray)).run Tryz.prog w = .ok (.bool (!b)) w := by
   have e : binOp .neq T (.agg l1.toArray) (.agg l2.toArray) = (do pure (.bool (!(← Op.equal T (.agg l1.toArray) (.agg l2.toArray))))) := rfl
   rw [e]
   simp only [Op.equal, Op.maxDepth, Sem.run_bind, he, Result.andThen, Sem.run_pure]
  simp only [execOp, h1, h2, Sem.run_bind, hg', hb, Result.andThen, Sem.run_pure]
end
def footV (n : ByteArray) : List Value := [.int .i64 0, .bool false, .string n, .int .i64 0, .bool false, .string ⟨#[]⟩, .bool false, .int .i64 0, .int .i64 0, .int .i64 0, .int .i64 0, .int .i64 0, .int .i64 0, .int .i64 0, .int .i64 0, .int .i64 0, .int .i64 0]
theorem eq28 (a b c d : Int) (w : World) : (Op.equalIn 10000 28 (.agg #[.int .i64 a, .int .i64 b]) (.agg #[.int .i64 c, .int .i64 d])).run Tryz.prog w = .ok (a == c && b == d) w := by
 have u3 := Tryz.underlying3
 have a3 := Tryz.isAgg3
 have z3 := Tryz.sizeOf3
 rw [show (10000 : Nat) = 9999 + 1 from rfl, Op.equalIn]
 have hs : Tryz.prog.stoodInHeld 28 = false := by kernel_rfl
 simp only [Sem.run_bind, run_underlying Tryz.underlying28, Result.andThen_ok]
 go_simp
 by_cases h1 : a = c
 ·subst h1
  by_cases h2 : b = d
  ·subst h2
   simp
  ·simp [h2]
 ·simp [h1]
theorem eqFoot (w : World) : (Op.equalIn 10000 208 (.agg (footV utcB).toArray) (.agg (footV utcB).toArray)).run Tryz.prog w = .ok true w := by
 kernel_rfl
theorem g28 : Tryz.prog.eqGuardType Tryz.prog.depth 28 = false := by kernel_rfl
theorem g208 : Tryz.prog.eqGuardType Tryz.prog.depth 208 = false := by kernel_rfl
end Go.Proofs.YthjldemjipnmdaaGreatDoor.Sx
namespace Go.Proofs.YthjldemjipnmdaaGreatDoor.Sx
open Go.RowKit Go.MapKept
set_option maxRecDepth 100000
section
variable {P : Program} {F : Fr} {N : Nat} {Q : Post} {k : List It} {t : Tm} {h : Hp} {Tb : Tab}
def pinF (F : Fr) (g p : Nat) : Fr := { F with R0 := updR F.R0 g (.pointer (some ⟨p, 0, none⟩)) }
def codesK : List It → Bool
 | [] => true
 | .code _ :: k => codesK k
 | _ => false
theorem QS_pin (F' : Fr) : ∀ {k : List It}, codesK k = true → ∀ e a w, QS P F' N Q k e a w → QS P F N Q k e a w
 | [], _, _, _, _, h => h
 | .code c :: k, hk, e, a, w, h => by
  cases e
  case normal => exact wp_of_code h (fun e a w h => QS_pin F' (k := k) hk e a w h)
  all_goals exact QS_pin F' (k := k) hk _ _ _ h
 | .ops _ _ :: _, hk, _, _, _, _ => by cases hk
 | .blk _ :: _, hk, _, _, _, _ => by cases hk
 | .inv _ :: _, hk, _, _, _, _ => by cases hk
 | .scp _ _ :: _, hk, _, _, _, _ => by cases hk
 | .lp _ _ :: _, hk, _, _, _, _ => by cases hk
theorem good_pin (g T : Nat) (cs : AL) (hk : codesK k = true) (hg : getH h g = some (.box T cs)) (H : ∀ p, Good P (pinF F g p) N Q k t h) : Good P F N Q k t h := by
 rintro a w ⟨r, hr, ht, hn, hd⟩
 obtain ⟨V, hV⟩ := hr.some_of hg
 obtain ⟨p, c, rfl, _⟩ := hr.objs g _ V hg hV
 refine QS_pin (pinF F g p) hk _ _ _ (H p a w ⟨r, ⟨hr.dom, hr.objs, hr.sep, hr.base, hr.os, hr.tape, hr.output, hr.size, hr.frame, hr.m0, fun g' V' e => ?_⟩, ht, hn, hd⟩)
 unfold pinF updR at e
 simp only at e
 by_cases hgg : g' = g
 ·rw [if_pos hgg] at e
  cases e
  rw [hgg]
  exact hV
 ·rw [if_neg hgg] at e
  exact hr.pin g' V' e
theorem TR_put {w : World} {r : Rho} {M : Cond} {a : Act} (ht : TR w r M t a) (s : Nat) (v : AV) (h : VR w v r M (a.eval (.tmp s))) : TR w r M ((s, v) :: t) a := by
 intro k
 rw [getT_cons]
 by_cases e : s = k
 ·rw [if_pos e, ← e]
  exact h
 ·rw [if_neg e]
  exact ht k
theorem good_asVal (s : Nat) {g j p : Nat} (hs : getT t s = .ptr g j) (hp : F.R0 g = some (.pointer (some ⟨p, 0, none⟩))) (H : Good P F N Q k ((s, .val (.pointer (some ⟨p, j, none⟩))) :: t) h) : Good P F N Q k t h := by
 rintro a w ⟨r, hr, ht, hn, hd⟩
 refine H a w ⟨r, hr, TR_put ht s _ ?_, hn, hd⟩
 have hv := VR_ev ht (.tmp s)
 rw [show ev t (.tmp s) = getT t s from rfl, hs] at hv
 unfold VR at hv ⊢
 obtain ⟨b, h1, h2⟩ := hv
 have h3 := hr.pin g _ hp
 rw [h1] at h3
 cases h3
 exact h2
theorem good_asPtr (s : Nat) {g j p : Nat} (hs : getT t s = .val (.pointer (some ⟨p, j, none⟩))) (hp : F.R0 g = some (.pointer (some ⟨p, 0, none⟩))) (H : Good P F N Q k ((s, .ptr g j) :: t) h) : Good P F N Q k t h := by
 rintro a w ⟨r, hr, ht, hn, hd⟩
 refine H a w ⟨r, hr, TR_put ht s _ ?_, hn, hd⟩
 have hv := VR_ev ht (.tmp s)
 rw [show ev t (.tmp s) = getT t s from rfl, hs] at hv
 unfold VR at hv ⊢
 exact ⟨p, hr.pin g _ hp, hv⟩
theorem ok_makeFirst {d : Option Tmp} {ty : TypeId} {ps : String} {af : Array Edge} {gd : Option (Nat × Bool)} (f : Nat) (x : Operand) (v : Value) (hx : ev t x = .val v) : OpWp P F ⟨d, .makeFunc (.func f) #[x] #[], ty, ps, af, gd⟩ t h (.val (.func (.func f) #[v] #[])) h :=
 OpWp.pure fun r a w hr ht => by
  refine ⟨_, ?_, vr_val⟩
  have e := VR_val ht hx
  simp [execOp, Instr.makeFunc, e]
theorem call_wpM {o : Oper} {c : Call} {x : Operand} {f g T p : Nat} {cs cs' : AL} {res : AV} (ho : o.op = .call c) (hc : c.callee = .value x) (hno : c.args = #[]) (hx : ev t x = .val (.func (.func f) #[.pointer (some ⟨p, 0, none⟩)] #[])) (hp : F.R0 g = some (.pointer (some ⟨p, 0, none⟩))) (hg : getH h g = some (.box T cs)) (hcs : clL cs = true) (hE : Ent P f) (A : BC P f T cs .nil res cs') : OpWp P F o t h res ((g, .box T cs') :: h) := by
 intro r a w hr ht next Q hn
 have e := VR_val ht hx
 have hrun : (execOp a.eval o).run P w = .ok (.enter f #[.pointer (some ⟨p, 0, none⟩)]) w := by
  have := hE #[.pointer (some ⟨p, 0, none⟩)] w
  simp [execOp, ho, resolve, hc, e, Deferred.ofValue, invoke, this, hno]
 unfold Oper.wp
 rw [hrun, Oper.upon_enter]
 have hV := hr.pin g _ hp
 obtain ⟨b, cc, e3, k1, k2⟩ := hr.objs g _ _ hg hV
 cases e3
 have hMb : Mut F.M0 r h p := .inr ⟨g, _, _, hg, rfl, hV, rfl⟩
 have hM1 : ∀ j, (Mut F.M0 r h j ∧ j ≠ p) ∨ j = p → Mut F.M0 r h j := by
  rintro j (h1 | h1)
  ·exact h1.1
  ·exact h1 ▸ hMb
 have hM2 : ∀ j, Mut F.M0 r h j → (Mut F.M0 r h j ∧ j ≠ p) ∨ j = p := fun j hj => by
  by_cases e : j = p
  ·exact .inr e
  ·exact .inl ⟨hj, e⟩
 have mono : ∀ {l : AL} {one : Bool} {Us : List Value}, clL l = true → VRL w l one r (Mut F.M0 r h) Us → VRL w l one r0 (fun k => (Mut F.M0 r h k ∧ k ≠ p) ∨ k = p) Us := fun hc hv =>
  VRL.closed _ hc (VRL.mono (Nat.le_refl _) (fun j _ hj => ⟨rfl, fun h => hj (hM1 j h)⟩) _ (fun _ _ h => h) hv)
 refine (A w (fun k => Mut F.M0 r h k ∧ k ≠ p) p cc [] ⟨fun j hj => hr.lt hj.1, hr.gl⟩ ⟨fun hj => hj.2 rfl, hr.four hg rfl hV rfl⟩ k1 (mono hcs k2) (by unfold VRL; trivial)).mono ?_
 rintro _ w' ⟨V, c', rfl, q1, q2, q3, q4, q5, q6, q7, q8⟩
 have hsub : ∀ j, Mut F.M0 r ((g, MO.box T cs') :: h) j → Mut F.M0 r h j := by
  rintro j (hm | ⟨g', o', V', a1, a2, a3, a4⟩)
  ·exact .inl hm
  ·rw [getH_cons] at a1
   split at a1
   ·rename_i e4
    subst e4
    cases a1
    exact .inr ⟨g, _, V', hg, rfl, a3, a4⟩
   ·exact .inr ⟨g', o', V', a1, a2, a3, a4⟩
 obtain ⟨u1, u2⟩ := hr.set (w' := w') hg rfl hV (b := p) rfl q4 q5 q6 q7 q8 (o' := .box T cs') (fun E => ⟨p, c', rfl, q2, (VRL.mono (Nat.le_refl _) (fun j _ hj => ⟨rfl, fun h => hj (hM2 j (hsub j h))⟩) _ (fun _ _ h => h) q3).lift⟩)
 exact hn V w' r u1 u2 (VR.mono (Nat.le_refl _) (fun j _ hj => ⟨rfl, fun h => hj (hM2 j (hsub j h))⟩) _ (fun _ _ h => h) q1).lift
theorem good_retP (hT : TabOk P Tb) {fn : Func} {res v : AV} {g p : Nat} (hX : (F.X = fun _ => False) ∧ F.R0 = r0) (hl : retA Tb t h fn.results.toList = some v) (hs : Sub v res) : Good P (pinF F g p) N (retQ P F fn res) (.code .ret :: k) t h := fun _ _ hst =>
 wp_ret (QS_ret k (ret_core (F := pinF F g p) hT hl hs hX.1 hst))
theorem pinF_at {F : Fr} {g p : Nat} : (pinF F g p).R0 g = some (.pointer (some ⟨p, 0, none⟩)) := by
 simp [pinF, updR]
end
def zeroS : ByteArray := ⟨#[48]⟩
def noS : ByteArray := ⟨#[]⟩
theorem decZ : Utf8.decode zeroS 0 = (48, 1) := by decide
theorem digitsZ_ac : AC Tryz.prog 245 (L1 (S zeroS)) (I 1) := by
 have hz : zeroS.size = 1 := rfl
 refine AC.enter Tryz.func245 Tryz.ntmps245 rfl rfl rfl (fun F hX => ?_)
 repeat' (first | refine stp tab_ok rfl (by first | exact sideN | exact sideT (by omega)) ?_ | refine gT rfl rfl (by omega) ?_ | refine gF rfl rfl (by omega) ?_ | refine gNT rfl rfl (by omega) ?_ | refine gNF rfl rfl (by omega) ?_ | fail)
 refine good_by rfl (ok_range 6 9 _ zeroS rfl ((tab_ok 9 _ rfl).string rfl) rfl) rfl ?_
 repeat' (first | refine stp tab_ok rfl (by first | exact sideN | exact sideT (by omega)) ?_ | refine gT rfl rfl (by omega) ?_ | refine gF rfl rfl (by omega) ?_ | refine gNT rfl rfl (by omega) ?_ | refine gNF rfl rfl (by omega) ?_ | fail)
 refine good_loopN 5 ?_
 repeat' (first | refine stp tab_ok rfl (by first | exact sideN | exact sideT (by omega)) ?_ | refine gT rfl rfl (by omega) ?_ | refine gF rfl rfl (by omega) ?_ | refine gNT rfl rfl (by omega) ?_ | refine gNF rfl rfl (by omega) ?_ | fail)
 refine good_by rfl (ok_next _ 6 0 zeroS rfl rfl (by decide)) rfl ?_
 simp only [decZ]
 repeat' (first | refine stp tab_ok rfl (by first | exact sideN | exact sideT (by omega)) ?_ | refine gT rfl rfl (by omega) ?_ | refine gF rfl rfl (by omega) ?_ | refine gNT rfl rfl (by omega) ?_ | refine gNF rfl rfl (by omega) ?_ | fail)
 refine good_by rfl (ok_over _ 6 1 zeroS rfl rfl (by decide)) rfl ?_
 repeat' (first | refine stp tab_ok rfl (by first | exact sideN | exact sideT (by omega)) ?_ | refine gT rfl rfl (by omega) ?_ | refine gF rfl rfl (by omega) ?_ | refine gNT rfl rfl (by omega) ?_ | refine gNF rfl rfl (by omega) ?_ | fail)
 repeat' (first | refine stp tab_ok rfl (by first | exact sideN | exact sideT (by omega)) ?_ | refine gT rfl rfl (by omega) ?_ | refine gF rfl rfl (by omega) ?_ | refine gNT rfl rfl (by omega) ?_ | refine gNF rfl rfl (by omega) ?_ | refine gS rfl rfl (fun _ => ?_) (fun _ => ?_) | refine gNS rfl rfl (fun _ => ?_) (fun _ => ?_) | refine gBS rfl rfl (fun _ => ?_) (fun _ => ?_) | refine gBN rfl rfl (fun _ => ?_) (fun _ => ?_) | refine good_ret tab_ok hX rfl (Sub.of_eq ?_) | refine good_end tab_ok hX rfl (Sub.of_eq ?_) | fail)
 rfl
theorem sixty0_ac : AC Tryz.prog 247 (L1 (S noS)) (.tup (L3 (I 0) (S noS) (B false))) := by
 have hz : noS.size = 0 := rfl
 refine AC.enter Tryz.func247 Tryz.ntmps247 rfl rfl rfl (fun F hX => ?_)
 repeat' (first | refine stp tab_ok rfl (by first | exact sideN | exact sideT (by omega)) ?_ | refine gT rfl rfl (by omega) ?_ | refine gF rfl rfl (by omega) ?_ | refine gNT rfl rfl (by omega) ?_ | refine gNF rfl rfl (by omega) ?_ | fail)
 repeat' (first | refine stp tab_ok rfl (by first | exact sideN | exact sideT (by omega)) ?_ | refine gT rfl rfl (by omega) ?_ | refine gF rfl rfl (by omega) ?_ | refine gNT rfl rfl (by omega) ?_ | refine gNF rfl rfl (by omega) ?_ | refine gS rfl rfl (fun _ => ?_) (fun _ => ?_) | refine gNS rfl rfl (fun _ => ?_) (fun _ => ?_) | refine gBS rfl rfl (fun _ => ?_) (fun _ => ?_) | refine gBN rfl rfl (fun _ => ?_) (fun _ => ?_) | refine good_ret tab_ok hX rfl (Sub.of_eq ?_) | refine good_end tab_ok hX rfl (Sub.of_eq ?_) | fail)
 rfl
theorem more0_ac : AC Tryz.prog 248 (L2 (S noS) (B false)) (.tup (L3 (I 0) (S noS) (B false))) := by
 refine AC.enter Tryz.func248 Tryz.ntmps248 rfl rfl rfl (fun F hX => ?_)
 repeat' (first | refine stp tab_ok rfl (by first | exact sideN | exact sideT (by omega)) ?_ | refine gT rfl rfl (by omega) ?_ | refine gF rfl rfl (by omega) ?_ | refine gNT rfl rfl (by omega) ?_ | refine gNF rfl rfl (by omega) ?_ | fail)
 repeat' (first | refine stp tab_ok rfl (by first | exact sideN | exact sideT (by omega)) ?_ | refine gT rfl rfl (by omega) ?_ | refine gF rfl rfl (by omega) ?_ | refine gNT rfl rfl (by omega) ?_ | refine gNF rfl rfl (by omega) ?_ | refine gS rfl rfl (fun _ => ?_) (fun _ => ?_) | refine gNS rfl rfl (fun _ => ?_) (fun _ => ?_) | refine gBS rfl rfl (fun _ => ?_) (fun _ => ?_) | refine gBN rfl rfl (fun _ => ?_) (fun _ => ?_) | refine good_ret tab_ok hX rfl (Sub.of_eq ?_) | refine good_end tab_ok hX rfl (Sub.of_eq ?_) | fail)
 rfl
theorem timeZ_ac : AC Tryz.prog 217 (L1 (S zeroS)) (.tup (L3 (I 0) (S noS) (B true))) := by
 have hz : zeroS.size = 1 := rfl
 have h1 := trimPrefix_ac zeroS ⟨#[45]⟩
 have h2 := trimPrefix_ac zeroS ⟨#[43]⟩
 rw [show (⟨(Lib.trimPrefix zeroS.data.toList (⟨#[45]⟩ : ByteArray).data.toList).toArray⟩ : ByteArray) = zeroS from by decide] at h1
 rw [show (⟨(Lib.trimPrefix zeroS.data.toList (⟨#[43]⟩ : ByteArray).data.toList).toArray⟩ : ByteArray) = zeroS from by decide] at h2
 refine AC.enter Tryz.func217 Tryz.ntmps217 rfl rfl rfl (fun F hX => ?_)
 repeat' (first | refine stp tab_ok rfl (by first | exact sideN | exact sideT (by omega)) ?_ | refine gT rfl rfl (by omega) ?_ | refine gF rfl rfl (by omega) ?_ | refine gNT rfl rfl (by omega) ?_ | refine gNF rfl rfl (by omega) ?_ | fail)
 refine good_call rfl rfl rfl rfl rfl ent244 (h1) rfl ?_
 repeat' (first | refine stp tab_ok rfl (by first | exact sideN | exact sideT (by omega)) ?_ | refine gT rfl rfl (by omega) ?_ | refine gF rfl rfl (by omega) ?_ | refine gNT rfl rfl (by omega) ?_ | refine gNF rfl rfl (by omega) ?_ | fail)
 refine good_call rfl rfl rfl rfl rfl ent244 (h2) rfl ?_
 repeat' (first | refine stp tab_ok rfl (by first | exact sideN | exact sideT (by omega)) ?_ | refine gT rfl rfl (by omega) ?_ | refine gF rfl rfl (by omega) ?_ | refine gNT rfl rfl (by omega) ?_ | refine gNF rfl rfl (by omega) ?_ | fail)
 refine good_call rfl rfl rfl rfl rfl ent245 (digitsZ_ac) rfl ?_
 repeat' (first | refine stp tab_ok rfl (by first | exact sideN | exact sideT (by omega)) ?_ | refine gT rfl rfl (by omega) ?_ | refine gF rfl rfl (by omega) ?_ | refine gNT rfl rfl (by omega) ?_ | refine gNF rfl rfl (by omega) ?_ | fail)
 rw [show zeroS.extract (Int.toNat 0) (min 1 3 : Int).toNat = zeroS from by decide]
 refine good_call rfl rfl rfl rfl rfl ent246 (atoi_ac zeroS 0 (by decide) (by decide)) rfl ?_
 repeat' (first | refine stp tab_ok rfl (by first | exact sideN | exact sideT (by omega)) ?_ | refine gT rfl rfl (by omega) ?_ | refine gF rfl rfl (by omega) ?_ | refine gNT rfl rfl (by omega) ?_ | refine gNF rfl rfl (by omega) ?_ | fail)
 rw [show zeroS.extract (min 1 3 : Int).toNat (zeroS.size : Int).toNat = noS from by decide]
 refine good_call rfl rfl rfl rfl rfl ent247 (sixty0_ac) rfl ?_
 repeat' (first | refine stp tab_ok rfl (by first | exact sideN | exact sideT (by omega)) ?_ | refine gT rfl rfl (by omega) ?_ | refine gF rfl rfl (by omega) ?_ | refine gNT rfl rfl (by omega) ?_ | refine gNF rfl rfl (by omega) ?_ | fail)
 refine good_call rfl rfl rfl rfl rfl ent248 (more0_ac) rfl ?_
 repeat' (first | refine stp tab_ok rfl (by first | exact sideN | exact sideT (by omega)) ?_ | refine gT rfl rfl (by omega) ?_ | refine gF rfl rfl (by omega) ?_ | refine gNT rfl rfl (by omega) ?_ | refine gNF rfl rfl (by omega) ?_ | fail)
 repeat' (first | refine stp tab_ok rfl (by first | exact sideN | exact sideT (by omega)) ?_ | refine gT rfl rfl (by omega) ?_ | refine gF rfl rfl (by omega) ?_ | refine gNT rfl rfl (by omega) ?_ | refine gNF rfl rfl (by omega) ?_ | refine gS rfl rfl (fun _ => ?_) (fun _ => ?_) | refine gNS rfl rfl (fun _ => ?_) (fun _ => ?_) | refine gBS rfl rfl (fun _ => ?_) (fun _ => ?_) | refine gBN rfl rfl (fun _ => ?_) (fun _ => ?_) | refine good_ret tab_ok hX rfl (Sub.of_eq ?_) | refine good_end tab_ok hX rfl (Sub.of_eq ?_) | fail)
 rfl
def rdL (left name : ByteArray) : AL := .cons (S left) (.cons (I 0) (.cons (B false) (.cons (S name) (.cons (I 0) (.cons (B false) (.cons (S noS) (.cons (B false) (.cons (I 0) (.cons (I 0) (.cons (I 0) (.cons (I 0) (.cons (I 0) (.cons (I 0) (.cons (I 0) (.cons (I 0) (.cons (I 0) (.cons (I 0) .nil)))))))))))))))))
def footL (name : ByteArray) : AL := .cons (I 0) (.cons (B false) (.cons (S name) (.cons (I 0) (.cons (B false) (.cons (S noS) (.cons (B false) (.cons (I 0) (.cons (I 0) (.cons (I 0) (.cons (I 0) (.cons (I 0) (.cons (I 0) (.cons (I 0) (.cons (I 0) (.cons (I 0) (.cons (I 0) .nil))))))))))))))))
theorem nameU_bc : BC Tryz.prog 216 263 (rdL utc0 noS) .nil (.tup (L2 (S utcB) (B true))) (rdL zeroS noS) := by
 have hz : utc0.size = 4 := rfl
 have h1 := cutPrefix_ac utc0 ⟨#[60]⟩
 rw [show (Lib.trimPrefix utc0.data.toList (⟨#[60]⟩ : ByteArray).data.toList).toArray = utc0.data from by decide, show Lib.hasPrefix utc0.data.toList (⟨#[60]⟩ : ByteArray).data.toList = false from by decide] at h1
 refine BC.enter 900 Tryz.func216 Tryz.ntmps216 rfl rfl rfl (fun F b hX hb => ?_)
 repeat' (first | refine stp tab_ok rfl (by first | exact sideN | exact sideT (by omega)) ?_ | refine gT rfl rfl (by omega) ?_ | refine gF rfl rfl (by omega) ?_ | refine gNT rfl rfl (by omega) ?_ | refine gNF rfl rfl (by omega) ?_ | fail)
 refine good_call rfl rfl rfl rfl rfl ent121 (h1) rfl ?_
 repeat' (first | refine stp tab_ok rfl (by first | exact sideN | exact sideT (by omega)) ?_ | refine gT rfl rfl (by omega) ?_ | refine gF rfl rfl (by omega) ?_ | refine gNT rfl rfl (by omega) ?_ | refine gNF rfl rfl (by omega) ?_ | fail)
 refine good_call rfl rfl rfl rfl rfl ent241 (indexT2_ac) rfl ?_
 repeat' (first | refine stp tab_ok rfl (by first | exact sideN | exact sideT (by omega)) ?_ | refine gT rfl rfl (by omega) ?_ | refine gF rfl rfl (by omega) ?_ | refine gNT rfl rfl (by omega) ?_ | refine gNF rfl rfl (by omega) ?_ | fail)
 refine dg_start ?_
 repeat' (first | refine dgp tab_ok rfl (by first | exact sideN | exact sideT (by omega)) ?_ | fail)
 refine dg_end mixed rfl ?_
 rw [show utc0.extract (Int.toNat 0) (Int.toNat 3) = utcB from by decide, show utc0.extract (Int.toNat 3) (Int.toNat (utc0.size : Int)) = zeroS from by decide]
 repeat' (first | refine stp tab_ok rfl (by first | exact sideN | exact sideT (by omega)) ?_ | refine gT rfl rfl (by omega) ?_ | refine gF rfl rfl (by omega) ?_ | refine gNT rfl rfl (by omega) ?_ | refine gNF rfl rfl (by omega) ?_ | fail)
 refine good_call rfl rfl rfl rfl rfl ent167 (abbrR_ac) rfl ?_
 repeat' (first | refine stp tab_ok rfl (by first | exact sideN | exact sideT (by omega)) ?_ | refine gT rfl rfl (by omega) ?_ | refine gF rfl rfl (by omega) ?_ | refine gNT rfl rfl (by omega) ?_ | refine gNF rfl rfl (by omega) ?_ | fail)
 exact good_retB tab_ok hX rfl rfl (Sub.refl _) (SubL.refl _)
theorem usualU_bc : BC Tryz.prog 174 263 (rdL utc0 noS) .nil (B true) (rdL noS utcB) := by
 refine BC.enter 900 Tryz.func174 Tryz.ntmps174 rfl rfl rfl (fun F b hX hb => ?_)
 repeat' (first | refine stp tab_ok rfl (by first | exact sideN | exact sideT (by omega)) ?_ | refine gT rfl rfl (by omega) ?_ | refine gF rfl rfl (by omega) ?_ | refine gNT rfl rfl (by omega) ?_ | refine gNF rfl rfl (by omega) ?_ | fail)
 refine good_callB rfl rfl rfl rfl rfl rfl rfl ent216 (nameU_bc) rfl ?_
 repeat' (first | refine stp tab_ok rfl (by first | exact sideN | exact sideT (by omega)) ?_ | refine gT rfl rfl (by omega) ?_ | refine gF rfl rfl (by omega) ?_ | refine gNT rfl rfl (by omega) ?_ | refine gNF rfl rfl (by omega) ?_ | fail)
 refine good_call rfl rfl rfl rfl rfl ent217 (timeZ_ac) rfl ?_
 repeat' (first | refine stp tab_ok rfl (by first | exact sideN | exact sideT (by omega)) ?_ | refine gT rfl rfl (by omega) ?_ | refine gF rfl rfl (by omega) ?_ | refine gNT rfl rfl (by omega) ?_ | refine gNF rfl rfl (by omega) ?_ | fail)
 exact good_retB tab_ok hX rfl rfl (Sub.refl _) (SubL.refl _)
theorem kindU_ac : AC Tryz.prog 219 (L2 (.agg (L3 (I 0) (B false) (S utcB))) (B false)) (B true) := by
 refine AC.enter Tryz.func219 Tryz.ntmps219 rfl rfl rfl (fun F hX => ?_)
 repeat' (first | refine stp tab_ok rfl (by first | exact sideN | exact sideT (by omega)) ?_ | refine gT rfl rfl (by omega) ?_ | refine gF rfl rfl (by omega) ?_ | refine gNT rfl rfl (by omega) ?_ | refine gNF rfl rfl (by omega) ?_ | fail)
 refine good_call rfl rfl rfl rfl rfl ent167 (abbrR_ac) rfl ?_
 repeat' (first | refine stp tab_ok rfl (by first | exact sideN | exact sideT (by omega)) ?_ | refine gT rfl rfl (by omega) ?_ | refine gF rfl rfl (by omega) ?_ | refine gNT rfl rfl (by omega) ?_ | refine gNF rfl rfl (by omega) ?_ | fail)
 repeat' (first | refine stp tab_ok rfl (by first | exact sideN | exact sideT (by omega)) ?_ | refine gT rfl rfl (by omega) ?_ | refine gF rfl rfl (by omega) ?_ | refine gNT rfl rfl (by omega) ?_ | refine gNF rfl rfl (by omega) ?_ | refine gS rfl rfl (fun _ => ?_) (fun _ => ?_) | refine gNS rfl rfl (fun _ => ?_) (fun _ => ?_) | refine gBS rfl rfl (fun _ => ?_) (fun _ => ?_) | refine gBN rfl rfl (fun _ => ?_) (fun _ => ?_) | refine good_ret tab_ok hX rfl (Sub.of_eq ?_) | refine good_end tab_ok hX rfl (Sub.of_eq ?_) | fail)
 rfl
theorem footR_ac : AC Tryz.prog 178 (L1 (.agg (footL utcB))) (B true) := by
 refine AC.enter Tryz.func178 Tryz.ntmps178 rfl rfl rfl (fun F hX => ?_)
 repeat' (first | refine stp tab_ok rfl (by first | exact sideN | exact sideT (by omega)) ?_ | refine gT rfl rfl (by omega) ?_ | refine gF rfl rfl (by omega) ?_ | refine gNT rfl rfl (by omega) ?_ | refine gNF rfl rfl (by omega) ?_ | fail)
 refine good_call rfl rfl rfl rfl rfl ent219 (kindU_ac) rfl ?_
 repeat' (first | refine stp tab_ok rfl (by first | exact sideN | exact sideT (by omega)) ?_ | refine gT rfl rfl (by omega) ?_ | refine gF rfl rfl (by omega) ?_ | refine gNT rfl rfl (by omega) ?_ | refine gNF rfl rfl (by omega) ?_ | fail)
 refine good_by rfl (ok_eqS 208 _ _ _ (footV utcB) (footV utcB) true rfl rfl eqFoot g208) rfl ?_
 repeat' (first | refine stp tab_ok rfl (by first | exact sideN | exact sideT (by omega)) ?_ | refine gT rfl rfl (by omega) ?_ | refine gF rfl rfl (by omega) ?_ | refine gNT rfl rfl (by omega) ?_ | refine gNF rfl rfl (by omega) ?_ | fail)
 repeat' (first | refine stp tab_ok rfl (by first | exact sideN | exact sideT (by omega)) ?_ | refine gT rfl rfl (by omega) ?_ | refine gF rfl rfl (by omega) ?_ | refine gNT rfl rfl (by omega) ?_ | refine gNF rfl rfl (by omega) ?_ | refine gS rfl rfl (fun _ => ?_) (fun _ => ?_) | refine gNS rfl rfl (fun _ => ?_) (fun _ => ?_) | refine gBS rfl rfl (fun _ => ?_) (fun _ => ?_) | refine gBN rfl rfl (fun _ => ?_) (fun _ => ?_) | refine good_ret tab_ok hX rfl (Sub.of_eq ?_) | refine good_end tab_ok hX rfl (Sub.of_eq ?_) | fail)
 rfl
theorem parseF_ac : AC Tryz.prog 128 (L1 (S utc0)) (.tup (L2 (.agg (footL utcB)) (B true))) := by
 refine AC.enter Tryz.func128 Tryz.ntmps128 rfl rfl rfl (fun F hX => ?_)
 iterate 14 (refine stp tab_ok rfl sideN ?_)
 refine good_pin 9 263 _ rfl rfl (fun p => ?_)
 refine good_asVal 4 rfl pinF_at ?_
 repeat' (first | refine stp tab_ok rfl (by first | exact sideN | exact sideT (by omega)) ?_ | refine gT rfl rfl (by omega) ?_ | refine gF rfl rfl (by omega) ?_ | refine gNT rfl rfl (by omega) ?_ | refine gNF rfl rfl (by omega) ?_ | fail)
 refine good_by rfl (ok_makeFirst 174 _ _ rfl) rfl ?_
 repeat' (first | refine stp tab_ok rfl (by first | exact sideN | exact sideT (by omega)) ?_ | refine gT rfl rfl (by omega) ?_ | refine gF rfl rfl (by omega) ?_ | refine gNT rfl rfl (by omega) ?_ | refine gNF rfl rfl (by omega) ?_ | fail)
 refine good_by rfl (ok_makeFirst 175 _ _ rfl) rfl ?_
 repeat' (first | refine stp tab_ok rfl (by first | exact sideN | exact sideT (by omega)) ?_ | refine gT rfl rfl (by omega) ?_ | refine gF rfl rfl (by omega) ?_ | refine gNT rfl rfl (by omega) ?_ | refine gNF rfl rfl (by omega) ?_ | fail)
 refine good_by rfl (ok_makeFirst 176 _ _ rfl) rfl ?_
 repeat' (first | refine stp tab_ok rfl (by first | exact sideN | exact sideT (by omega)) ?_ | refine gT rfl rfl (by omega) ?_ | refine gF rfl rfl (by omega) ?_ | refine gNT rfl rfl (by omega) ?_ | refine gNF rfl rfl (by omega) ?_ | fail)
 refine good_by rfl (ok_makeFirst 177 _ _ rfl) rfl ?_
 repeat' (first | refine stp tab_ok rfl (by first | exact sideN | exact sideT (by omega)) ?_ | refine gT rfl rfl (by omega) ?_ | refine gF rfl rfl (by omega) ?_ | refine gNT rfl rfl (by omega) ?_ | refine gNF rfl rfl (by omega) ?_ | fail)
 refine good_asPtr 4 rfl pinF_at ?_
 refine good_loopN 5 ?_
 repeat' (first | refine stp tab_ok rfl (by first | exact sideN | exact sideT (by omega)) ?_ | refine gT rfl rfl (by omega) ?_ | refine gF rfl rfl (by omega) ?_ | refine gNT rfl rfl (by omega) ?_ | refine gNF rfl rfl (by omega) ?_ | fail)
 refine good_by rfl (call_wpM rfl rfl rfl rfl pinF_at rfl rfl ent174 usualU_bc) rfl ?_
 repeat' (first | refine stp tab_ok rfl (by first | exact sideN | exact sideT (by omega)) ?_ | refine gT rfl rfl (by omega) ?_ | refine gF rfl rfl (by omega) ?_ | refine gNT rfl rfl (by omega) ?_ | refine gNF rfl rfl (by omega) ?_ | fail)
 refine good_callG rfl rfl rfl rfl rfl rfl rfl rfl rfl ent178 (footR_ac) rfl ?_
 repeat' (first | refine stp tab_ok rfl (by first | exact sideN | exact sideT (by omega)) ?_ | refine gT rfl rfl (by omega) ?_ | refine gF rfl rfl (by omega) ?_ | refine gNT rfl rfl (by omega) ?_ | refine gNF rfl rfl (by omega) ?_ | fail)
 exact good_retP tab_ok hX rfl (Sub.of_eq rfl)
theorem odd0_ac : AC Tryz.prog 129 (L1 (.agg (.cons (I 0) (.cons (I 0) (.cons (I 0) (.cons (I 0) (.cons (I 0) .nil))))))) (B false) := by
 refine AC.enter Tryz.func129 Tryz.ntmps129 rfl rfl rfl (fun F hX => ?_)
 repeat' (first | refine stp tab_ok rfl (by first | exact sideN | exact sideT (by omega)) ?_ | refine gT rfl rfl (by omega) ?_ | refine gF rfl rfl (by omega) ?_ | refine gNT rfl rfl (by omega) ?_ | refine gNF rfl rfl (by omega) ?_ | fail)
 repeat' (first | refine stp tab_ok rfl (by first | exact sideN | exact sideT (by omega)) ?_ | refine gT rfl rfl (by omega) ?_ | refine gF rfl rfl (by omega) ?_ | refine gNT rfl rfl (by omega) ?_ | refine gNF rfl rfl (by omega) ?_ | refine gS rfl rfl (fun _ => ?_) (fun _ => ?_) | refine gNS rfl rfl (fun _ => ?_) (fun _ => ?_) | refine gBS rfl rfl (fun _ => ?_) (fun _ => ?_) | refine gBN rfl rfl (fun _ => ?_) (fun _ => ?_) | refine good_ret tab_ok hX rfl (Sub.of_eq ?_) | refine good_end tab_ok hX rfl (Sub.of_eq ?_) | fail)
 rfl
theorem ends_ac (l : List Cr) (v : Int) (hv : 2 ≤ v) : AC Tryz.prog 66 (L1 (.agg (zoneL l v))) (B true) := by
 refine AC.enter Tryz.func66 Tryz.ntmps66 rfl rfl rfl (fun F hX => ?_)
 repeat' (first | refine stp tab_ok rfl (by first | exact sideN | exact sideT (by omega)) ?_ | refine gT rfl rfl (by omega) ?_ | refine gF rfl rfl (by omega) ?_ | refine gNT rfl rfl (by omega) ?_ | refine gNF rfl rfl (by omega) ?_ | fail)
 refine good_call rfl rfl rfl rfl rfl ent128 (parseF_ac) rfl ?_
 repeat' (first | refine stp tab_ok rfl (by first | exact sideN | exact sideT (by omega)) ?_ | refine gT rfl rfl (by omega) ?_ | refine gF rfl rfl (by omega) ?_ | refine gNT rfl rfl (by omega) ?_ | refine gNF rfl rfl (by omega) ?_ | fail)
 refine good_call rfl rfl rfl rfl rfl ent129 (odd0_ac) rfl ?_
 repeat' (first | refine stp tab_ok rfl (by first | exact sideN | exact sideT (by omega)) ?_ | refine gT rfl rfl (by omega) ?_ | refine gF rfl rfl (by omega) ?_ | refine gNT rfl rfl (by omega) ?_ | refine gNF rfl rfl (by omega) ?_ | fail)
 refine good_callG rfl rfl rfl rfl rfl rfl rfl rfl rfl ent129 (odd0_ac) rfl ?_
 repeat' (first | refine stp tab_ok rfl (by first | exact sideN | exact sideT (by omega)) ?_ | refine gT rfl rfl (by omega) ?_ | refine gF rfl rfl (by omega) ?_ | refine gNT rfl rfl (by omega) ?_ | refine gNF rfl rfl (by omega) ?_ | fail)
 repeat' (first | refine stp tab_ok rfl (by first | exact sideN | exact sideT (by omega)) ?_ | refine gT rfl rfl (by omega) ?_ | refine gF rfl rfl (by omega) ?_ | refine gNT rfl rfl (by omega) ?_ | refine gNF rfl rfl (by omega) ?_ | refine gS rfl rfl (fun _ => ?_) (fun _ => ?_) | refine gNS rfl rfl (fun _ => ?_) (fun _ => ?_) | refine gBS rfl rfl (fun _ => ?_) (fun _ => ?_) | refine gBN rfl rfl (fun _ => ?_) (fun _ => ?_) | refine good_ret tab_ok hX rfl (Sub.of_eq ?_) | refine good_end tab_ok hX rfl (Sub.of_eq ?_) | fail)
 rw [decide_eq_true hv]
end Go.Proofs.YthjldemjipnmdaaGreatDoor.Sx
namespace Go.Proofs.YthjldemjipnmdaaGreatDoor.Sx
open Go.RowKit Go.MapKept
set_option maxRecDepth 100000
theorem good_any {P : Program} {F : Fr} {N : Nat} {Q : Post} {k : List It} {t : Tm} {h : Hp} (s : Nat) (H : Good P F N Q k ((s, .any) :: t) h) : Good P F N Q k t h := by
 rintro a w ⟨r, hr, ht, hn, hd⟩
 exact H a w ⟨r, hr, TR_put ht s _ (by unfold VR; trivial), hn, hd⟩
theorem im1 {sz : Nat} {f g : Nat → AL} (h : f 0 = g 0) : Sub (.im sz 1 f) (.im sz 1 g) := Sub.im rfl (fun i hi => by
 obtain rfl : i = 0 := Nat.lt_one_iff.1 hi
 exact h)
theorem within_ac (n lo hi : Int) : AC Tryz.prog 173 (L3 (I n) (I lo) (I hi)) (B (decide (lo ≤ n) && decide (n ≤ hi))) := by
 by_cases h1 : lo ≤ n <;> by_cases h2 : n ≤ hi <;> (
  refine AC.enter Tryz.func173 Tryz.ntmps173 rfl rfl rfl (fun F hX => ?_)
  repeat' (first | refine stp tab_ok rfl (by first | exact sideN | exact sideT (by omega)) ?_ | refine gT rfl rfl (by omega) ?_ | refine gF rfl rfl (by omega) ?_ | refine gNT rfl rfl (by omega) ?_ | refine gNF rfl rfl (by omega) ?_ | fail)
  repeat' (first | refine stp tab_ok rfl (by first | exact sideN | exact sideT (by omega)) ?_ | refine gT rfl rfl (by omega) ?_ | refine gF rfl rfl (by omega) ?_ | refine gNT rfl rfl (by omega) ?_ | refine gNF rfl rfl (by omega) ?_ | refine gS rfl rfl (fun _ => ?_) (fun _ => ?_) | refine gNS rfl rfl (fun _ => ?_) (fun _ => ?_) | refine gBS rfl rfl (fun _ => ?_) (fun _ => ?_) | refine gBN rfl rfl (fun _ => ?_) (fun _ => ?_) | refine good_ret tab_ok hX rfl (Sub.of_eq ?_) | refine good_end tab_ok hX rfl (Sub.of_eq ?_) | fail)
  simp [h1, h2])
theorem within_yes (n lo hi : Int) (h1 : lo ≤ n) (h2 : n ≤ hi) : AC Tryz.prog 173 (L3 (I n) (I lo) (I hi)) (B true) := by
 have := within_ac n lo hi
 rwa [decide_eq_true h1, decide_eq_true h2] at this
def headL (v leap type char : Int) : AL := .cons (I v) (.cons (I 0) (.cons (I 0) (.cons (I leap) (.cons (I 0) (.cons (I type) (.cons (I char) .nil))))))
theorem headR_ac (v leap char : Int) (hv : 1 ≤ v ∧ v ≤ 4) (hl : 0 ≤ leap ∧ leap ≤ 201) (hc : 1 ≤ char ∧ char ≤ 256) : AC Tryz.prog 125 (L1 (.agg (headL v leap 1 char))) (B true) := by
 refine AC.enter Tryz.func125 Tryz.ntmps125 rfl rfl rfl (fun F hX => ?_)
 repeat' (first | refine stp tab_ok rfl (by first | exact sideN | exact sideT (by omega)) ?_ | refine gT rfl rfl (by omega) ?_ | refine gF rfl rfl (by omega) ?_ | refine gNT rfl rfl (by omega) ?_ | refine gNF rfl rfl (by omega) ?_ | fail)
 refine good_call rfl rfl rfl rfl rfl ent173 (within_yes leap 0 201 hl.1 hl.2) rfl ?_
 repeat' (first | refine stp tab_ok rfl (by first | exact sideN | exact sideT (by omega)) ?_ | refine gT rfl rfl (by omega) ?_ | refine gF rfl rfl (by omega) ?_ | refine gNT rfl rfl (by omega) ?_ | refine gNF rfl rfl (by omega) ?_ | fail)
 refine good_callG rfl rfl rfl rfl rfl rfl rfl rfl rfl ent173 (within_yes 0 0 2000 (by decide) (by decide)) rfl ?_
 repeat' (first | refine stp tab_ok rfl (by first | exact sideN | exact sideT (by omega)) ?_ | refine gT rfl rfl (by omega) ?_ | refine gF rfl rfl (by omega) ?_ | refine gNT rfl rfl (by omega) ?_ | refine gNF rfl rfl (by omega) ?_ | fail)
 refine good_callG rfl rfl rfl rfl rfl rfl rfl rfl rfl ent173 (within_yes 1 1 64 (by decide) (by decide)) rfl ?_
 repeat' (first | refine stp tab_ok rfl (by first | exact sideN | exact sideT (by omega)) ?_ | refine gT rfl rfl (by omega) ?_ | refine gF rfl rfl (by omega) ?_ | refine gNT rfl rfl (by omega) ?_ | refine gNF rfl rfl (by omega) ?_ | fail)
 refine good_callG rfl rfl rfl rfl rfl rfl rfl rfl rfl ent173 (within_yes char 1 256 hc.1 hc.2) rfl ?_
 repeat' (first | refine stp tab_ok rfl (by first | exact sideN | exact sideT (by omega)) ?_ | refine gT rfl rfl (by omega) ?_ | refine gF rfl rfl (by omega) ?_ | refine gNT rfl rfl (by omega) ?_ | refine gNF rfl rfl (by omega) ?_ | fail)
 refine good_callG rfl rfl rfl rfl rfl rfl rfl rfl rfl ent173 (within_yes v 1 4 hv.1 hv.2) rfl ?_
 repeat' (first | refine stp tab_ok rfl (by first | exact sideN | exact sideT (by omega)) ?_ | refine gT rfl rfl (by omega) ?_ | refine gF rfl rfl (by omega) ?_ | refine gNT rfl rfl (by omega) ?_ | refine gNF rfl rfl (by omega) ?_ | fail)
 repeat' (first | refine stp tab_ok rfl (by first | exact sideN | exact sideT (by omega)) ?_ | refine gT rfl rfl (by omega) ?_ | refine gF rfl rfl (by omega) ?_ | refine gNT rfl rfl (by omega) ?_ | refine gNF rfl rfl (by omega) ?_ | refine gS rfl rfl (fun _ => ?_) (fun _ => ?_) | refine gNS rfl rfl (fun _ => ?_) (fun _ => ?_) | refine gBS rfl rfl (fun _ => ?_) (fun _ => ?_) | refine gBN rfl rfl (fun _ => ?_) (fun _ => ?_) | refine good_ret tab_ok hX rfl (Sub.of_eq ?_) | refine good_end tab_ok hX rfl (Sub.of_eq ?_) | fail)
 rfl
theorem headS_ac (v leap char size : Int) (hv : 1 ≤ v ∧ v ≤ 4) (hl : 0 ≤ leap ∧ leap ≤ 201) (hc : 1 ≤ char ∧ char ≤ 256) (hs : size = 4 ∨ size = 8) : AC Tryz.prog 113 (L2 (.agg (headL v leap 1 char)) (I size)) (I (6 + char + leap * (size + 4))) := by
 rcases hs with rfl | rfl <;> (
  refine AC.enter Tryz.func113 Tryz.ntmps113 rfl rfl rfl (fun F hX => ?_)
  repeat' (first | refine stp tab_ok rfl (by first | exact sideN | exact sideT (by omega)) ?_ | refine gT rfl rfl (by omega) ?_ | refine gF rfl rfl (by omega) ?_ | refine gNT rfl rfl (by omega) ?_ | refine gNF rfl rfl (by omega) ?_ | fail)
  refine good_call rfl rfl rfl rfl rfl ent125 (headR_ac v leap char hv hl hc) rfl ?_
  repeat' (first | refine stp tab_ok rfl (by first | exact sideN | exact sideT (by omega)) ?_ | refine gT rfl rfl (by omega) ?_ | refine gF rfl rfl (by omega) ?_ | refine gNT rfl rfl (by omega) ?_ | refine gNF rfl rfl (by omega) ?_ | fail)
  repeat' (first | refine stp tab_ok rfl (by first | exact sideN | exact sideT (by omega)) ?_ | refine gT rfl rfl (by omega) ?_ | refine gF rfl rfl (by omega) ?_ | refine gNT rfl rfl (by omega) ?_ | refine gNF rfl rfl (by omega) ?_ | refine gS rfl rfl (fun _ => ?_) (fun _ => ?_) | refine gNS rfl rfl (fun _ => ?_) (fun _ => ?_) | refine gBS rfl rfl (fun _ => ?_) (fun _ => ?_) | refine gBN rfl rfl (fun _ => ?_) (fun _ => ?_) | refine good_ret tab_ok hX rfl (Sub.of_eq ?_) | refine good_end tab_ok hX rfl (Sub.of_eq ?_) | fail)
  exact congrArg (fun q => AV.val (.int .i64 q)) (by omega))
theorem poolZ_ac (l : List Cr) (v : Int) : AC Tryz.prog 124 (L1 (.agg (zoneL l v))) (.tup (L3 (S pool1) (.im 1 1 (fun _ => .cons (I 0) .nil)) (B true))) := by
 refine AC.enter Tryz.func124 Tryz.ntmps124 rfl rfl rfl (fun F hX => ?_)
 repeat' (first | refine stp tab_ok rfl (by first | exact sideN | exact sideT (by omega)) ?_ | refine gT rfl rfl (by omega) ?_ | refine gF rfl rfl (by omega) ?_ | refine gNT rfl rfl (by omega) ?_ | refine gNF rfl rfl (by omega) ?_ | fail)
 refine good_loopN 3 ?_
 repeat' (first | refine stp tab_ok rfl (by first | exact sideN | exact sideT (by omega)) ?_ | refine gT rfl rfl (by omega) ?_ | refine gF rfl rfl (by omega) ?_ | refine gNT rfl rfl (by omega) ?_ | refine gNF rfl rfl (by omega) ?_ | fail)
 refine good_freeze 19 rfl ?_
 refine good_call rfl rfl rfl rfl rfl ent172 (pool1_ac.args (SubL.cons (im1 rfl) (SubL.refl _))) rfl ?_
 repeat' (first | refine stp tab_ok rfl (by first | exact sideN | exact sideT (by omega)) ?_ | refine gT rfl rfl (by omega) ?_ | refine gF rfl rfl (by omega) ?_ | refine gNT rfl rfl (by omega) ?_ | refine gNF rfl rfl (by omega) ?_ | fail)
 repeat' (first | refine stp tab_ok rfl (by first | exact sideN | exact sideT (by omega)) ?_ | refine gT rfl rfl (by omega) ?_ | refine gF rfl rfl (by omega) ?_ | refine gNT rfl rfl (by omega) ?_ | refine gNF rfl rfl (by omega) ?_ | refine gS rfl rfl (fun _ => ?_) (fun _ => ?_) | refine gNS rfl rfl (fun _ => ?_) (fun _ => ?_) | refine gBS rfl rfl (fun _ => ?_) (fun _ => ?_) | refine gBN rfl rfl (fun _ => ?_) (fun _ => ?_) | refine good_ret tab_ok hX rfl (Sub.of_eq ?_) | refine good_end tab_ok hX rfl (Sub.of_eq ?_) | fail)
 rfl
theorem count_ac (l : List Cr) (v : Int) (hv : 1 ≤ v ∧ v ≤ 4) (hl : l.length ≤ 201) : AC Tryz.prog 59 (L1 (.agg (zoneL l v))) (.tup (L2 (.agg (headL v l.length 1 4)) (B true))) := by
 refine AC.enter Tryz.func59 Tryz.ntmps59 rfl rfl rfl (fun F hX => ?_)
 repeat' (first | refine stp tab_ok rfl (by first | exact sideN | exact sideT (by omega)) ?_ | refine gT rfl rfl (by omega) ?_ | refine gF rfl rfl (by omega) ?_ | refine gNT rfl rfl (by omega) ?_ | refine gNF rfl rfl (by omega) ?_ | fail)
 refine good_call rfl rfl rfl rfl rfl ent124 (poolZ_ac l v) rfl ?_
 repeat' (first | refine stp tab_ok rfl (by first | exact sideN | exact sideT (by omega)) ?_ | refine gT rfl rfl (by omega) ?_ | refine gF rfl rfl (by omega) ?_ | refine gNT rfl rfl (by omega) ?_ | refine gNF rfl rfl (by omega) ?_ | fail)
 refine good_callG rfl rfl rfl rfl rfl rfl rfl rfl rfl ent125 (headR_ac v l.length 4 hv (by omega) (by decide)) rfl ?_
 repeat' (first | refine stp tab_ok rfl (by first | exact sideN | exact sideT (by omega)) ?_ | refine gT rfl rfl (by omega) ?_ | refine gF rfl rfl (by omega) ?_ | refine gNT rfl rfl (by omega) ?_ | refine gNF rfl rfl (by omega) ?_ | fail)
 repeat' (first | refine stp tab_ok rfl (by first | exact sideN | exact sideT (by omega)) ?_ | refine gT rfl rfl (by omega) ?_ | refine gF rfl rfl (by omega) ?_ | refine gNT rfl rfl (by omega) ?_ | refine gNF rfl rfl (by omega) ?_ | refine gS rfl rfl (fun _ => ?_) (fun _ => ?_) | refine gNS rfl rfl (fun _ => ?_) (fun _ => ?_) | refine gBS rfl rfl (fun _ => ?_) (fun _ => ?_) | refine gBN rfl rfl (fun _ => ?_) (fun _ => ?_) | refine good_ret tab_ok hX rfl (Sub.of_eq ?_) | refine good_end tab_ok hX rfl (Sub.of_eq ?_) | fail)
 rfl
theorem allT_ac : AC Tryz.prog 62 (L2 typesU (.fn 63 .nil)) (B true) := by
 have h63 : AC Tryz.prog 63 (L2 (I 0) (.agg (L3 (I 0) (B false) (S utc3)))) (B true) := by
  refine AC.enter Tryz.func63 Tryz.ntmps63 rfl rfl rfl (fun F hX => ?_)
  repeat' (first | refine stp tab_ok rfl (by first | exact sideN | exact sideT (by omega)) ?_ | refine gT rfl rfl (by omega) ?_ | refine gF rfl rfl (by omega) ?_ | refine gNT rfl rfl (by omega) ?_ | refine gNF rfl rfl (by omega) ?_ | fail)
  repeat' (first | refine stp tab_ok rfl (by first | exact sideN | exact sideT (by omega)) ?_ | refine gT rfl rfl (by omega) ?_ | refine gF rfl rfl (by omega) ?_ | refine gNT rfl rfl (by omega) ?_ | refine gNF rfl rfl (by omega) ?_ | refine gS rfl rfl (fun _ => ?_) (fun _ => ?_) | refine gNS rfl rfl (fun _ => ?_) (fun _ => ?_) | refine gBS rfl rfl (fun _ => ?_) (fun _ => ?_) | refine gBN rfl rfl (fun _ => ?_) (fun _ => ?_) | refine good_ret tab_ok hX rfl (Sub.of_eq ?_) | refine good_end tab_ok hX rfl (Sub.of_eq ?_) | fail)
  rfl
 refine AC.enter Tryz.func62 Tryz.ntmps62 rfl rfl rfl (fun F hX => ?_)
 repeat' (first | refine stp tab_ok rfl (by first | exact sideN | exact sideT (by omega)) ?_ | refine gT rfl rfl (by omega) ?_ | refine gF rfl rfl (by omega) ?_ | refine gNT rfl rfl (by omega) ?_ | refine gNF rfl rfl (by omega) ?_ | fail)
 refine good_loopN 3 ?_
 repeat' (first | refine stp tab_ok rfl (by first | exact sideN | exact sideT (by omega)) ?_ | refine gT rfl rfl (by omega) ?_ | refine gF rfl rfl (by omega) ?_ | refine gNT rfl rfl (by omega) ?_ | refine gNF rfl rfl (by omega) ?_ | fail)
 refine good_call rfl rfl rfl rfl rfl ent63 (h63) rfl ?_
 repeat' (first | refine stp tab_ok rfl (by first | exact sideN | exact sideT (by omega)) ?_ | refine gT rfl rfl (by omega) ?_ | refine gF rfl rfl (by omega) ?_ | refine gNT rfl rfl (by omega) ?_ | refine gNF rfl rfl (by omega) ?_ | fail)
 repeat' (first | refine stp tab_ok rfl (by first | exact sideN | exact sideT (by omega)) ?_ | refine gT rfl rfl (by omega) ?_ | refine gF rfl rfl (by omega) ?_ | refine gNT rfl rfl (by omega) ?_ | refine gNF rfl rfl (by omega) ?_ | refine gS rfl rfl (fun _ => ?_) (fun _ => ?_) | refine gNS rfl rfl (fun _ => ?_) (fun _ => ?_) | refine gBS rfl rfl (fun _ => ?_) (fun _ => ?_) | refine gBN rfl rfl (fun _ => ?_) (fun _ => ?_) | refine good_ret tab_ok hX rfl (Sub.of_eq ?_) | refine good_end tab_ok hX rfl (Sub.of_eq ?_) | fail)
 rfl
theorem allS_ac : AC Tryz.prog 64 (L2 transU .any) (B true) := by
 refine AC.enter Tryz.func64 Tryz.ntmps64 rfl rfl rfl (fun F hX => ?_)
 repeat' (first | refine stp tab_ok rfl (by first | exact sideN | exact sideT (by omega)) ?_ | refine gT rfl rfl (by omega) ?_ | refine gF rfl rfl (by omega) ?_ | refine gNT rfl rfl (by omega) ?_ | refine gNF rfl rfl (by omega) ?_ | fail)
 refine good_loopN 3 ?_
 repeat' (first | refine stp tab_ok rfl (by first | exact sideN | exact sideT (by omega)) ?_ | refine gT rfl rfl (by omega) ?_ | refine gF rfl rfl (by omega) ?_ | refine gNT rfl rfl (by omega) ?_ | refine gNF rfl rfl (by omega) ?_ | fail)
 repeat' (first | refine stp tab_ok rfl (by first | exact sideN | exact sideT (by omega)) ?_ | refine gT rfl rfl (by omega) ?_ | refine gF rfl rfl (by omega) ?_ | refine gNT rfl rfl (by omega) ?_ | refine gNF rfl rfl (by omega) ?_ | refine gS rfl rfl (fun _ => ?_) (fun _ => ?_) | refine gNS rfl rfl (fun _ => ?_) (fun _ => ?_) | refine gBS rfl rfl (fun _ => ?_) (fun _ => ?_) | refine gBN rfl rfl (fun _ => ?_) (fun _ => ?_) | refine good_ret tab_ok hX rfl (Sub.of_eq ?_) | refine good_end tab_ok hX rfl (Sub.of_eq ?_) | fail)
 rfl
theorem zright_ac (t : Tbl) (hr : Rt t) (v : Int) (hv : 2 ≤ v ∧ v ≤ 4) (h4 : t.has = true → v = 4) : AC Tryz.prog 25 (L1 (.agg (zoneL (recs t) v))) (B true) := by
 have hlen := recs_len t
 have hn := rt_len hr
 have hl : (recs t).length ≤ 201 := by rw [hlen]; split <;> omega
 refine AC.enter Tryz.func25 Tryz.ntmps25 rfl rfl rfl (fun F hX => ?_)
 repeat' (first | refine stp tab_ok rfl (by first | exact sideN | exact sideT (by omega)) ?_ | refine gT rfl rfl (by omega) ?_ | refine gF rfl rfl (by omega) ?_ | refine gNT rfl rfl (by omega) ?_ | refine gNF rfl rfl (by omega) ?_ | fail)
 refine good_call rfl rfl rfl rfl rfl ent59 (count_ac (recs t) v (by omega) hl) rfl ?_
 repeat' (first | refine stp tab_ok rfl (by first | exact sideN | exact sideT (by omega)) ?_ | refine gT rfl rfl (by omega) ?_ | refine gF rfl rfl (by omega) ?_ | refine gNT rfl rfl (by omega) ?_ | refine gNF rfl rfl (by omega) ?_ | fail)
 refine good_callG rfl rfl rfl rfl rfl rfl rfl rfl rfl ent60 (rrightR_ac t hr) rfl ?_
 repeat' (first | refine stp tab_ok rfl (by first | exact sideN | exact sideT (by omega)) ?_ | refine gT rfl rfl (by omega) ?_ | refine gF rfl rfl (by omega) ?_ | refine gNT rfl rfl (by omega) ?_ | refine gNF rfl rfl (by omega) ?_ | fail)
 refine good_call rfl rfl rfl rfl rfl ent61 (expiry_ac t hr) rfl ?_
 cases hh : t.has with
 | true =>
  have h4' := h4 hh
  repeat' (first | refine stp tab_ok rfl (by first | exact sideN | exact sideT (by omega)) ?_ | refine gT rfl rfl (by omega) ?_ | refine gF rfl rfl (by omega) ?_ | refine gNT rfl rfl (by omega) ?_ | refine gNF rfl rfl (by omega) ?_ | fail)
  refine good_call rfl rfl rfl rfl rfl ent62 (allT_ac) rfl ?_
  repeat' (first | refine stp tab_ok rfl (by first | exact sideN | exact sideT (by omega)) ?_ | refine gT rfl rfl (by omega) ?_ | refine gF rfl rfl (by omega) ?_ | refine gNT rfl rfl (by omega) ?_ | refine gNF rfl rfl (by omega) ?_ | fail)
  refine good_any 39 ?_
  refine good_call rfl rfl rfl rfl rfl ent64 (allS_ac) rfl ?_
  repeat' (first | refine stp tab_ok rfl (by first | exact sideN | exact sideT (by omega)) ?_ | refine gT rfl rfl (by omega) ?_ | refine gF rfl rfl (by omega) ?_ | refine gNT rfl rfl (by omega) ?_ | refine gNF rfl rfl (by omega) ?_ | fail)
  refine good_callG rfl rfl rfl rfl rfl rfl rfl rfl rfl ent66 (ends_ac (recs t) v hv.1) rfl ?_
  repeat' (first | refine stp tab_ok rfl (by first | exact sideN | exact sideT (by omega)) ?_ | refine gT rfl rfl (by omega) ?_ | refine gF rfl rfl (by omega) ?_ | refine gNT rfl rfl (by omega) ?_ | refine gNF rfl rfl (by omega) ?_ | fail)
  repeat' (first | refine stp tab_ok rfl (by first | exact sideN | exact sideT (by omega)) ?_ | refine gT rfl rfl (by omega) ?_ | refine gF rfl rfl (by omega) ?_ | refine gNT rfl rfl (by omega) ?_ | refine gNF rfl rfl (by omega) ?_ | refine gS rfl rfl (fun _ => ?_) (fun _ => ?_) | refine gNS rfl rfl (fun _ => ?_) (fun _ => ?_) | refine gBS rfl rfl (fun _ => ?_) (fun _ => ?_) | refine gBN rfl rfl (fun _ => ?_) (fun _ => ?_) | refine good_ret tab_ok hX rfl (Sub.of_eq ?_) | refine good_end tab_ok hX rfl (Sub.of_eq ?_) | fail)
  rfl
 | false =>
  repeat' (first | refine stp tab_ok rfl (by first | exact sideN | exact sideT (by omega)) ?_ | refine gT rfl rfl (by omega) ?_ | refine gF rfl rfl (by omega) ?_ | refine gNT rfl rfl (by omega) ?_ | refine gNF rfl rfl (by omega) ?_ | fail)
  refine good_call rfl rfl rfl rfl rfl ent62 (allT_ac) rfl ?_
  repeat' (first | refine stp tab_ok rfl (by first | exact sideN | exact sideT (by omega)) ?_ | refine gT rfl rfl (by omega) ?_ | refine gF rfl rfl (by omega) ?_ | refine gNT rfl rfl (by omega) ?_ | refine gNF rfl rfl (by omega) ?_ | fail)
  refine good_any 39 ?_
  refine good_call rfl rfl rfl rfl rfl ent64 (allS_ac) rfl ?_
  repeat' (first | refine stp tab_ok rfl (by first | exact sideN | exact sideT (by omega)) ?_ | refine gT rfl rfl (by omega) ?_ | refine gF rfl rfl (by omega) ?_ | refine gNT rfl rfl (by omega) ?_ | refine gNF rfl rfl (by omega) ?_ | fail)
  refine good_callG rfl rfl rfl rfl rfl rfl rfl rfl rfl ent66 (ends_ac (recs t) v hv.1) rfl ?_
  repeat' (first | refine stp tab_ok rfl (by first | exact sideN | exact sideT (by omega)) ?_ | refine gT rfl rfl (by omega) ?_ | refine gF rfl rfl (by omega) ?_ | refine gNT rfl rfl (by omega) ?_ | refine gNF rfl rfl (by omega) ?_ | fail)
  repeat' (first | refine stp tab_ok rfl (by first | exact sideN | exact sideT (by omega)) ?_ | refine gT rfl rfl (by omega) ?_ | refine gF rfl rfl (by omega) ?_ | refine gNT rfl rfl (by omega) ?_ | refine gNF rfl rfl (by omega) ?_ | refine gS rfl rfl (fun _ => ?_) (fun _ => ?_) | refine gNS rfl rfl (fun _ => ?_) (fun _ => ?_) | refine gBS rfl rfl (fun _ => ?_) (fun _ => ?_) | refine gBN rfl rfl (fun _ => ?_) (fun _ => ?_) | refine good_ret tab_ok hX rfl (Sub.of_eq ?_) | refine good_end tab_ok hX rfl (Sub.of_eq ?_) | fail)
  rfl
theorem knownZ_ac (t : Tbl) (hr : Rt t) (v : Int) (hv : 2 ≤ v ∧ v ≤ 4) (h4 : t.has = true → v = 4) : AC Tryz.prog 36 (L1 (.agg (zoneL (recs t) v))) (B true) := by
 refine AC.enter Tryz.func36 Tryz.ntmps36 rfl rfl rfl (fun F hX => ?_)
 repeat' (first | refine stp tab_ok rfl (by first | exact sideN | exact sideT (by omega)) ?_ | refine gT rfl rfl (by omega) ?_ | refine gF rfl rfl (by omega) ?_ | refine gNT rfl rfl (by omega) ?_ | refine gNF rfl rfl (by omega) ?_ | fail)
 refine good_call rfl rfl rfl rfl rfl ent25 (zright_ac t hr v hv h4) rfl ?_
 repeat' (first | refine stp tab_ok rfl (by first | exact sideN | exact sideT (by omega)) ?_ | refine gT rfl rfl (by omega) ?_ | refine gF rfl rfl (by omega) ?_ | refine gNT rfl rfl (by omega) ?_ | refine gNF rfl rfl (by omega) ?_ | fail)
 refine good_callG rfl rfl rfl rfl rfl rfl rfl rfl rfl ent77 (known_ac t hr) rfl ?_
 repeat' (first | refine stp tab_ok rfl (by first | exact sideN | exact sideT (by omega)) ?_ | refine gT rfl rfl (by omega) ?_ | refine gF rfl rfl (by omega) ?_ | refine gNT rfl rfl (by omega) ?_ | refine gNF rfl rfl (by omega) ?_ | fail)
 repeat' (first | refine stp tab_ok rfl (by first | exact sideN | exact sideT (by omega)) ?_ | refine gT rfl rfl (by omega) ?_ | refine gF rfl rfl (by omega) ?_ | refine gNT rfl rfl (by omega) ?_ | refine gNF rfl rfl (by omega) ?_ | refine gS rfl rfl (fun _ => ?_) (fun _ => ?_) | refine gNS rfl rfl (fun _ => ?_) (fun _ => ?_) | refine gBS rfl rfl (fun _ => ?_) (fun _ => ?_) | refine gBN rfl rfl (fun _ => ?_) (fun _ => ?_) | refine good_ret tab_ok hX rfl (Sub.of_eq ?_) | refine good_end tab_ok hX rfl (Sub.of_eq ?_) | fail)
 rfl
end Go.Proofs.YthjldemjipnmdaaGreatDoor.Sx
namespace Go.Proofs.YthjldemjipnmdaaGreatDoor.Sx
open Go.RowKit Go.MapKept
set_option maxRecDepth 100000
def utcT : AV := .agg (L3 (I 0) (B false) (S utcB))
theorem rt0 : Rt t0L := rt_of rfl
theorem span_ac (y : Int) : AC Tryz.prog 257 (L2 (.agg (footL utcB)) (I y)) (.tup (L3 (I 0) (I 0) (B false))) := by
 refine AC.enter Tryz.func257 Tryz.ntmps257 rfl rfl rfl (fun F hX => ?_)
 repeat' (first | refine stp tab_ok rfl (by first | exact sideN | exact sideT (by omega)) ?_ | refine gT rfl rfl (by omega) ?_ | refine gF rfl rfl (by omega) ?_ | refine gNT rfl rfl (by omega) ?_ | refine gNF rfl rfl (by omega) ?_ | fail)
 repeat' (first | refine stp tab_ok rfl (by first | exact sideN | exact sideT (by omega)) ?_ | refine gT rfl rfl (by omega) ?_ | refine gF rfl rfl (by omega) ?_ | refine gNT rfl rfl (by omega) ?_ | refine gNF rfl rfl (by omega) ?_ | refine gS rfl rfl (fun _ => ?_) (fun _ => ?_) | refine gNS rfl rfl (fun _ => ?_) (fun _ => ?_) | refine gBS rfl rfl (fun _ => ?_) (fun _ => ?_) | refine gBN rfl rfl (fun _ => ?_) (fun _ => ?_) | refine good_ret tab_ok hX rfl (Sub.of_eq ?_) | refine good_end tab_ok hX rfl (Sub.of_eq ?_) | fail)
 rfl
theorem year_ac (p : Int) (hp : 0 ≤ p ∧ p ≤ 253402300799) : AC Tryz.prog 256 (L1 (I p)) (.tup (L2 (I (dateY (p / 86400))) (B true))) := by
 refine AC.enter Tryz.func256 Tryz.ntmps256 rfl rfl rfl (fun F hX => ?_)
 repeat' (first | refine stp tab_ok rfl (by first | exact sideN | exact sideT (by omega)) ?_ | refine gT rfl rfl (by omega) ?_ | refine gF rfl rfl (by omega) ?_ | refine gNT rfl rfl (by omega) ?_ | refine gNF rfl rfl (by omega) ?_ | fail)
 refine good_call rfl rfl rfl rfl rfl ent81 (numDiv_ac _ _ (by omega) (by omega) (by omega)) rfl ?_
 repeat' (first | refine stp tab_ok rfl (by first | exact sideN | exact sideT (by omega)) ?_ | refine gT rfl rfl (by omega) ?_ | refine gF rfl rfl (by omega) ?_ | refine gNT rfl rfl (by omega) ?_ | refine gNF rfl rfl (by omega) ?_ | fail)
 refine good_call rfl rfl rfl rfl rfl ent72 (date_ac (p / 86400) (by omega) (date_pre _)) rfl ?_
 repeat' (first | refine stp tab_ok rfl (by first | exact sideN | exact sideT (by omega)) ?_ | refine gT rfl rfl (by omega) ?_ | refine gF rfl rfl (by omega) ?_ | refine gNT rfl rfl (by omega) ?_ | refine gNF rfl rfl (by omega) ?_ | fail)
 repeat' (first | refine stp tab_ok rfl (by first | exact sideN | exact sideT (by omega)) ?_ | refine gT rfl rfl (by omega) ?_ | refine gF rfl rfl (by omega) ?_ | refine gNT rfl rfl (by omega) ?_ | refine gNF rfl rfl (by omega) ?_ | refine gS rfl rfl (fun _ => ?_) (fun _ => ?_) | refine gNS rfl rfl (fun _ => ?_) (fun _ => ?_) | refine gBS rfl rfl (fun _ => ?_) (fun _ => ?_) | refine gBN rfl rfl (fun _ => ?_) (fun _ => ?_) | refine good_ret tab_ok hX rfl (Sub.of_eq ?_) | refine good_end tab_ok hX rfl (Sub.of_eq ?_) | fail)
 rfl
theorem flook_ac (p : Int) (hp : 0 ≤ p ∧ p ≤ 253402300799) : AC Tryz.prog 239 (L2 (.agg (footL utcB)) (I p)) utcT := by
 refine AC.enter Tryz.func239 Tryz.ntmps239 rfl rfl rfl (fun F hX => ?_)
 repeat' (first | refine stp tab_ok rfl (by first | exact sideN | exact sideT (by omega)) ?_ | refine gT rfl rfl (by omega) ?_ | refine gF rfl rfl (by omega) ?_ | refine gNT rfl rfl (by omega) ?_ | refine gNF rfl rfl (by omega) ?_ | fail)
 refine good_call rfl rfl rfl rfl rfl ent69 (numAdd_ac p 0 (by omega) (by omega)) rfl ?_
 rw [Int.add_zero]
 repeat' (first | refine stp tab_ok rfl (by first | exact sideN | exact sideT (by omega)) ?_ | refine gT rfl rfl (by omega) ?_ | refine gF rfl rfl (by omega) ?_ | refine gNT rfl rfl (by omega) ?_ | refine gNF rfl rfl (by omega) ?_ | fail)
 refine good_call rfl rfl rfl rfl rfl ent256 (year_ac p hp) rfl ?_
 repeat' (first | refine stp tab_ok rfl (by first | exact sideN | exact sideT (by omega)) ?_ | refine gT rfl rfl (by omega) ?_ | refine gF rfl rfl (by omega) ?_ | refine gNT rfl rfl (by omega) ?_ | refine gNF rfl rfl (by omega) ?_ | fail)
 refine good_call rfl rfl rfl rfl rfl ent257 (span_ac (dateY (p / 86400))) rfl ?_
 repeat' (first | refine stp tab_ok rfl (by first | exact sideN | exact sideT (by omega)) ?_ | refine gT rfl rfl (by omega) ?_ | refine gF rfl rfl (by omega) ?_ | refine gNT rfl rfl (by omega) ?_ | refine gNF rfl rfl (by omega) ?_ | fail)
 repeat' (first | refine stp tab_ok rfl (by first | exact sideN | exact sideT (by omega)) ?_ | refine gT rfl rfl (by omega) ?_ | refine gF rfl rfl (by omega) ?_ | refine gNT rfl rfl (by omega) ?_ | refine gNF rfl rfl (by omega) ?_ | refine gS rfl rfl (fun _ => ?_) (fun _ => ?_) | refine gNS rfl rfl (fun _ => ?_) (fun _ => ?_) | refine gBS rfl rfl (fun _ => ?_) (fun _ => ?_) | refine gBN rfl rfl (fun _ => ?_) (fun _ => ?_) | refine good_ret tab_ok hX rfl (Sub.of_eq ?_) | refine good_end tab_ok hX rfl (Sub.of_eq ?_) | fail)
 rfl
theorem zposix_ac (v at_ : Int) (ha : -1000000000000 ≤ at_ ∧ at_ ≤ 1000000000000) : AC Tryz.prog 240 (L2 (.agg (zoneL [] v)) (I at_)) (I at_) := by
 refine AC.enter Tryz.func240 Tryz.ntmps240 rfl rfl rfl (fun F hX => ?_)
 repeat' (first | refine stp tab_ok rfl (by first | exact sideN | exact sideT (by omega)) ?_ | refine gT rfl rfl (by omega) ?_ | refine gF rfl rfl (by omega) ?_ | refine gNT rfl rfl (by omega) ?_ | refine gNF rfl rfl (by omega) ?_ | fail)
 refine good_call rfl rfl rfl rfl rfl ent138 (sum_ac t0L rt0 at_ 0 (Nat.zero_le _) (fun i hi => by omega) (fun i _ hi => by cases hi)) rfl ?_
 rw [show sumAt t0L.leaps 0 = 0 from rfl]
 repeat' (first | refine stp tab_ok rfl (by first | exact sideN | exact sideT (by omega)) ?_ | refine gT rfl rfl (by omega) ?_ | refine gF rfl rfl (by omega) ?_ | refine gNT rfl rfl (by omega) ?_ | refine gNF rfl rfl (by omega) ?_ | fail)
 repeat' (first | refine stp tab_ok rfl (by first | exact sideN | exact sideT (by omega)) ?_ | refine gT rfl rfl (by omega) ?_ | refine gF rfl rfl (by omega) ?_ | refine gNT rfl rfl (by omega) ?_ | refine gNF rfl rfl (by omega) ?_ | refine gS rfl rfl (fun _ => ?_) (fun _ => ?_) | refine gNS rfl rfl (fun _ => ?_) (fun _ => ?_) | refine gBS rfl rfl (fun _ => ?_) (fun _ => ?_) | refine gBN rfl rfl (fun _ => ?_) (fun _ => ?_) | refine good_ret tab_ok hX rfl (Sub.of_eq ?_) | refine good_end tab_ok hX rfl (Sub.of_eq ?_) | fail)
 exact congrArg (fun q => AV.val (.int .i64 q)) (by omega)
theorem search0_ac : AC Tryz.prog 190 (L2 (I 0) .any) (I 0) := by
 refine AC.enter Tryz.func190 Tryz.ntmps190 rfl rfl rfl (fun F hX => ?_)
 repeat' (first | refine stp tab_ok rfl (by first | exact sideN | exact sideT (by omega)) ?_ | refine gT rfl rfl (by omega) ?_ | refine gF rfl rfl (by omega) ?_ | refine gNT rfl rfl (by omega) ?_ | refine gNF rfl rfl (by omega) ?_ | fail)
 refine good_loopN 3 ?_
 repeat' (first | refine stp tab_ok rfl (by first | exact sideN | exact sideT (by omega)) ?_ | refine gT rfl rfl (by omega) ?_ | refine gF rfl rfl (by omega) ?_ | refine gNT rfl rfl (by omega) ?_ | refine gNF rfl rfl (by omega) ?_ | fail)
 repeat' (first | refine stp tab_ok rfl (by first | exact sideN | exact sideT (by omega)) ?_ | refine gT rfl rfl (by omega) ?_ | refine gF rfl rfl (by omega) ?_ | refine gNT rfl rfl (by omega) ?_ | refine gNF rfl rfl (by omega) ?_ | refine gS rfl rfl (fun _ => ?_) (fun _ => ?_) | refine gNS rfl rfl (fun _ => ?_) (fun _ => ?_) | refine gBS rfl rfl (fun _ => ?_) (fun _ => ?_) | refine gBN rfl rfl (fun _ => ?_) (fun _ => ?_) | refine good_ret tab_ok hX rfl (Sub.of_eq ?_) | refine good_end tab_ok hX rfl (Sub.of_eq ?_) | fail)
 rfl
theorem zindex_ac (v at_ : Int) : AC Tryz.prog 238 (L2 (.agg (zoneL [] v)) (I at_)) (I (-1)) := by
 refine AC.enter Tryz.func238 Tryz.ntmps238 rfl rfl rfl (fun F hX => ?_)
 repeat' (first | refine stp tab_ok rfl (by first | exact sideN | exact sideT (by omega)) ?_ | refine gT rfl rfl (by omega) ?_ | refine gF rfl rfl (by omega) ?_ | refine gNT rfl rfl (by omega) ?_ | refine gNF rfl rfl (by omega) ?_ | fail)
 refine good_any 8 ?_
 refine good_call rfl rfl rfl rfl rfl ent190 (search0_ac) rfl ?_
 repeat' (first | refine stp tab_ok rfl (by first | exact sideN | exact sideT (by omega)) ?_ | refine gT rfl rfl (by omega) ?_ | refine gF rfl rfl (by omega) ?_ | refine gNT rfl rfl (by omega) ?_ | refine gNF rfl rfl (by omega) ?_ | fail)
 repeat' (first | refine stp tab_ok rfl (by first | exact sideN | exact sideT (by omega)) ?_ | refine gT rfl rfl (by omega) ?_ | refine gF rfl rfl (by omega) ?_ | refine gNT rfl rfl (by omega) ?_ | refine gNF rfl rfl (by omega) ?_ | refine gS rfl rfl (fun _ => ?_) (fun _ => ?_) | refine gNS rfl rfl (fun _ => ?_) (fun _ => ?_) | refine gBS rfl rfl (fun _ => ?_) (fun _ => ?_) | refine gBN rfl rfl (fun _ => ?_) (fun _ => ?_) | refine good_ret tab_ok hX rfl (Sub.of_eq ?_) | refine good_end tab_ok hX rfl (Sub.of_eq ?_) | fail)
 rfl
theorem zlook_ac (v at_ : Int) (ha : 0 ≤ at_ ∧ at_ ≤ 253402300799) : AC Tryz.prog 209 (L2 (.agg (zoneL [] v)) (I at_)) utcT := by
 refine AC.enter Tryz.func209 Tryz.ntmps209 rfl rfl rfl (fun F hX => ?_)
 repeat' (first | refine stp tab_ok rfl (by first | exact sideN | exact sideT (by omega)) ?_ | refine gT rfl rfl (by omega) ?_ | refine gF rfl rfl (by omega) ?_ | refine gNT rfl rfl (by omega) ?_ | refine gNF rfl rfl (by omega) ?_ | fail)
 refine good_call rfl rfl rfl rfl rfl ent238 (zindex_ac v at_) rfl ?_
 repeat' (first | refine stp tab_ok rfl (by first | exact sideN | exact sideT (by omega)) ?_ | refine gT rfl rfl (by omega) ?_ | refine gF rfl rfl (by omega) ?_ | refine gNT rfl rfl (by omega) ?_ | refine gNF rfl rfl (by omega) ?_ | fail)
 refine good_call rfl rfl rfl rfl rfl ent128 (parseF_ac) rfl ?_
 repeat' (first | refine stp tab_ok rfl (by first | exact sideN | exact sideT (by omega)) ?_ | refine gT rfl rfl (by omega) ?_ | refine gF rfl rfl (by omega) ?_ | refine gNT rfl rfl (by omega) ?_ | refine gNF rfl rfl (by omega) ?_ | fail)
 refine dg_start ?_
 repeat' (first | refine dgp tab_ok rfl (by first | exact sideN | exact sideT (by omega)) ?_ | fail)
 refine dg_call rfl rfl rfl rfl rfl ent240 (zposix_ac v at_ (by omega)) rfl ?_
 repeat' (first | refine dgp tab_ok rfl (by first | exact sideN | exact sideT (by omega)) ?_ | fail)
 refine dg_call rfl rfl rfl rfl rfl ent239 (flook_ac at_ ha) rfl ?_
 repeat' (first | refine dgp tab_ok rfl (by first | exact sideN | exact sideT (by omega)) ?_ | fail)
 refine dg_end mixed rfl ?_
 repeat' (first | refine stp tab_ok rfl (by first | exact sideN | exact sideT (by omega)) ?_ | refine gT rfl rfl (by omega) ?_ | refine gF rfl rfl (by omega) ?_ | refine gNT rfl rfl (by omega) ?_ | refine gNF rfl rfl (by omega) ?_ | fail)
 repeat' (first | refine stp tab_ok rfl (by first | exact sideN | exact sideT (by omega)) ?_ | refine gT rfl rfl (by omega) ?_ | refine gF rfl rfl (by omega) ?_ | refine gNT rfl rfl (by omega) ?_ | refine gNF rfl rfl (by omega) ?_ | refine gS rfl rfl (fun _ => ?_) (fun _ => ?_) | refine gNS rfl rfl (fun _ => ?_) (fun _ => ?_) | refine gBS rfl rfl (fun _ => ?_) (fun _ => ?_) | refine gBN rfl rfl (fun _ => ?_) (fun _ => ?_) | refine good_ret tab_ok hX rfl (Sub.of_eq ?_) | refine good_end tab_ok hX rfl (Sub.of_eq ?_) | fail)
 rfl
theorem instant1_ac (v day step : Int) (roll : Bool) (hx : 730 ≤ day ∧ day < 2932896) : AC Tryz.prog 157 (L2 (.agg (zoneL [] v)) (.agg (L3 (I day) (I step) (B roll)))) (I ((day + 1) * 86400)) := by
 cases roll with
 | false =>
  refine AC.enter Tryz.func157 Tryz.ntmps157 rfl rfl rfl (fun F hX => ?_)
  repeat' (first | refine stp tab_ok rfl (by first | exact sideN | exact sideT (by omega)) ?_ | refine gT rfl rfl (by omega) ?_ | refine gF rfl rfl (by omega) ?_ | refine gNT rfl rfl (by omega) ?_ | refine gNF rfl rfl (by omega) ?_ | fail)
  repeat' (first | refine stp tab_ok rfl (by first | exact sideN | exact sideT (by omega)) ?_ | refine gT rfl rfl (by omega) ?_ | refine gF rfl rfl (by omega) ?_ | refine gNT rfl rfl (by omega) ?_ | refine gNF rfl rfl (by omega) ?_ | refine gS rfl rfl (fun _ => ?_) (fun _ => ?_) | refine gNS rfl rfl (fun _ => ?_) (fun _ => ?_) | refine gBS rfl rfl (fun _ => ?_) (fun _ => ?_) | refine gBN rfl rfl (fun _ => ?_) (fun _ => ?_) | refine good_ret tab_ok hX rfl (Sub.of_eq ?_) | refine good_end tab_ok hX rfl (Sub.of_eq ?_) | fail)
  rfl
 | true =>
  refine AC.enter Tryz.func157 Tryz.ntmps157 rfl rfl rfl (fun F hX => ?_)
  repeat' (first | refine stp tab_ok rfl (by first | exact sideN | exact sideT (by omega)) ?_ | refine gT rfl rfl (by omega) ?_ | refine gF rfl rfl (by omega) ?_ | refine gNT rfl rfl (by omega) ?_ | refine gNF rfl rfl (by omega) ?_ | fail)
  refine good_call rfl rfl rfl rfl rfl ent209 (zlook_ac v ((day + 1) * 86400 - 1) (by omega)) rfl ?_
  repeat' (first | refine stp tab_ok rfl (by first | exact sideN | exact sideT (by omega)) ?_ | refine gT rfl rfl (by omega) ?_ | refine gF rfl rfl (by omega) ?_ | refine gNT rfl rfl (by omega) ?_ | refine gNF rfl rfl (by omega) ?_ | fail)
  repeat' (first | refine stp tab_ok rfl (by first | exact sideN | exact sideT (by omega)) ?_ | refine gT rfl rfl (by omega) ?_ | refine gF rfl rfl (by omega) ?_ | refine gNT rfl rfl (by omega) ?_ | refine gNF rfl rfl (by omega) ?_ | refine gS rfl rfl (fun _ => ?_) (fun _ => ?_) | refine gNS rfl rfl (fun _ => ?_) (fun _ => ?_) | refine gBS rfl rfl (fun _ => ?_) (fun _ => ?_) | refine gBN rfl rfl (fun _ => ?_) (fun _ => ?_) | refine good_ret tab_ok hX rfl (Sub.of_eq ?_) | refine good_end tab_ok hX rfl (Sub.of_eq ?_) | fail)
  exact congrArg (fun q => AV.val (.int .i64 q)) (by omega)
theorem instant_ac (v : Int) (x : Lp) (hx : 730 ≤ x.day ∧ x.day < 2932896) : AC Tryz.prog 157 (L2 (.agg (zoneL [] v)) (.agg (lpA x))) (I ((x.day + 1) * 86400)) := instant1_ac v x.day x.step x.roll hx
theorem rplain_ac (v : Int) (hv : 2 ≤ v ∧ v ≤ 4) : AC Tryz.prog 105 (L1 (.agg (zoneL [] v))) (B true) := by
 refine AC.enter Tryz.func105 Tryz.ntmps105 rfl rfl rfl (fun F hX => ?_)
 repeat' (first | refine stp tab_ok rfl (by first | exact sideN | exact sideT (by omega)) ?_ | refine gT rfl rfl (by omega) ?_ | refine gF rfl rfl (by omega) ?_ | refine gNT rfl rfl (by omega) ?_ | refine gNF rfl rfl (by omega) ?_ | fail)
 refine good_callG rfl rfl rfl rfl rfl rfl rfl rfl rfl ent25 (zright_ac t0L rt0 v hv (fun h => by cases h)) rfl ?_
 repeat' (first | refine stp tab_ok rfl (by first | exact sideN | exact sideT (by omega)) ?_ | refine gT rfl rfl (by omega) ?_ | refine gF rfl rfl (by omega) ?_ | refine gNT rfl rfl (by omega) ?_ | refine gNF rfl rfl (by omega) ?_ | fail)
 repeat' (first | refine stp tab_ok rfl (by first | exact sideN | exact sideT (by omega)) ?_ | refine gT rfl rfl (by omega) ?_ | refine gF rfl rfl (by omega) ?_ | refine gNT rfl rfl (by omega) ?_ | refine gNF rfl rfl (by omega) ?_ | refine gS rfl rfl (fun _ => ?_) (fun _ => ?_) | refine gNS rfl rfl (fun _ => ?_) (fun _ => ?_) | refine gBS rfl rfl (fun _ => ?_) (fun _ => ?_) | refine gBN rfl rfl (fun _ => ?_) (fun _ => ?_) | refine good_ret tab_ok hX rfl (Sub.of_eq ?_) | refine good_end tab_ok hX rfl (Sub.of_eq ?_) | fail)
 rfl
theorem moved_ac (v : Int) : AC Tryz.prog 107 (L2 (.agg (zoneL [] v)) .any) (.tup (L2 (.agg (zoneL [] v)) (I 0))) := by
 refine AC.enter Tryz.func107 Tryz.ntmps107 rfl rfl rfl (fun F hX => ?_)
 repeat' (first | refine stp tab_ok rfl (by first | exact sideN | exact sideT (by omega)) ?_ | refine gT rfl rfl (by omega) ?_ | refine gF rfl rfl (by omega) ?_ | refine gNT rfl rfl (by omega) ?_ | refine gNF rfl rfl (by omega) ?_ | fail)
 refine good_call rfl rfl rfl rfl rfl ent37 (copy_ac [] v (by decide)) rfl ?_
 repeat' (first | refine stp tab_ok rfl (by first | exact sideN | exact sideT (by omega)) ?_ | refine gT rfl rfl (by omega) ?_ | refine gF rfl rfl (by omega) ?_ | refine gNT rfl rfl (by omega) ?_ | refine gNF rfl rfl (by omega) ?_ | fail)
 refine good_loopN 3 ?_
 repeat' (first | refine stp tab_ok rfl (by first | exact sideN | exact sideT (by omega)) ?_ | refine gT rfl rfl (by omega) ?_ | refine gF rfl rfl (by omega) ?_ | refine gNT rfl rfl (by omega) ?_ | refine gNF rfl rfl (by omega) ?_ | fail)
 refine good_loopN 3 ?_
 repeat' (first | refine stp tab_ok rfl (by first | exact sideN | exact sideT (by omega)) ?_ | refine gT rfl rfl (by omega) ?_ | refine gF rfl rfl (by omega) ?_ | refine gNT rfl rfl (by omega) ?_ | refine gNF rfl rfl (by omega) ?_ | fail)
 repeat' (first | refine stp tab_ok rfl (by first | exact sideN | exact sideT (by omega)) ?_ | refine gT rfl rfl (by omega) ?_ | refine gF rfl rfl (by omega) ?_ | refine gNT rfl rfl (by omega) ?_ | refine gNF rfl rfl (by omega) ?_ | refine gS rfl rfl (fun _ => ?_) (fun _ => ?_) | refine gNS rfl rfl (fun _ => ?_) (fun _ => ?_) | refine gBS rfl rfl (fun _ => ?_) (fun _ => ?_) | refine gBN rfl rfl (fun _ => ?_) (fun _ => ?_) | refine good_ret tab_ok hX rfl (Sub.of_eq ?_) | refine good_end tab_ok hX rfl (Sub.of_eq ?_) | fail)
 rfl
end Go.Proofs.YthjldemjipnmdaaGreatDoor.Sx
namespace Go.Proofs.YthjldemjipnmdaaGreatDoor.Sx
open Go.RowKit Go.MapKept
set_option maxRecDepth 100000
def rEls (t : Tbl) : Nat → AL := fun j => crA ((recL t.leaps 0).getD j cr0)
set_option maxHeartbeats 1000000 in
theorem rrecs_ac (t : Tbl) (hr : Rt t) (v : Int) : AC Tryz.prog 106 (L2 (.agg (zoneL [] v)) (tblA t)) (.tup (L2 (corrA (recs t)) (I 0))) := by
 have hn := rt_len hr
 have hlen := recs_len t
 have hl2 := recL_len t.leaps 0
 have hL := chkL_none hr.none
 have hck := rcheckR_ac t hr
 refine AC.enter Tryz.func106 Tryz.ntmps106 rfl rfl rfl (fun F hX => ?_)
 repeat' (first | refine stp tab_ok rfl (by first | exact sideN | exact sideT (by omega)) ?_ | refine gT rfl rfl (by omega) ?_ | refine gF rfl rfl (by omega) ?_ | refine gNT rfl rfl (by omega) ?_ | refine gNF rfl rfl (by omega) ?_ | fail)
 refine good_adoptT 6 1000 80 2 (rEls t) rfl rfl ?_
 refine good_swap 2 1002 rfl (swap0 hX) ?_
 refine good_swap 3 1003 rfl (swap0 hX) ?_
 refine good_rounds (fun i : Nat => [(14, leapsA t.leaps), (15, I t.leaps.length), (16, I i), (7, I (sumAt t.leaps i)), (6, .own 1000), (2, .ptr 1002 0), (3, .ptr 1003 0)]) (fun i : Nat => [(1002, .box 38 (zoneL [] v)), (1003, .box 25 (L3 (leapsA t.leaps) (B t.has) (I t.exp))), (1000, .row 80 2 i (rEls t))]) (fun i : Nat => t.leaps.length - i) (fun i : Nat => i ≤ t.leaps.length) 0 (by omega) (Wk.mk ⟨Sub.of_eq rfl, Sub.of_eq rfl, Sub.of_eq rfl, Sub.of_eq rfl, Sub.of_eq rfl, Sub.of_eq rfl, Sub.of_eq rfl, trivial⟩ ⟨⟨_, rfl, SubO.refl _⟩, ⟨_, rfl, SubO.refl _⟩, ⟨_, rfl, SubO.refl _⟩, trivial⟩ rfl rfl (pin0 hX)) (fun i hi => ?_)
 have hs1 := sumAt_bd hL i hi
 repeat' (first | refine stp tab_ok rfl (by first | exact sideN | exact sideT (by omega)) ?_ | refine gT rfl rfl (by omega) ?_ | refine gF rfl rfl (by omega) ?_ | refine gNT rfl rfl (by omega) ?_ | refine gNF rfl rfl (by omega) ?_ | fail)
 by_cases hlt : i < t.leaps.length
 ·have hd := (hL i hlt).day
  have hst := (hL i hlt).step
  have hb := at_bd hL hlt
  have hs2 := sumAt_bd hL (i + 1) (by omega)
  repeat' (first | refine stp tab_ok rfl (by first | exact sideN | exact sideT (by omega)) ?_ | refine gT rfl rfl (by omega) ?_ | refine gF rfl rfl (by omega) ?_ | refine gNT rfl rfl (by omega) ?_ | refine gNF rfl rfl (by omega) ?_ | fail)
  simp only [Int.toNat_natCast]
  refine dg_start ?_
  repeat' (first | refine dgp tab_ok rfl (by first | exact sideN | exact sideT (by omega)) ?_ | fail)
  refine dg_call rfl rfl rfl rfl rfl ent157 (instant_ac v (t.leaps.getD i lp0) hd) rfl ?_
  repeat' (first | refine dgp tab_ok rfl (by first | exact sideN | exact sideT (by omega)) ?_ | fail)
  refine dg_end mixed rfl ?_
  repeat' (first | refine stp tab_ok rfl (by first | exact sideN | exact sideT (by omega)) ?_ | refine gT rfl rfl (by omega) ?_ | refine gF rfl rfl (by omega) ?_ | refine gNT rfl rfl (by omega) ?_ | refine gNF rfl rfl (by omega) ?_ | fail)
  refine good_swap 38 1000 rfl (swap0 hX) ?_
  refine good_again (i + 1) (by omega) (by omega) (Wk.mk ⟨Sub.of_eq rfl, Sub.of_eq rfl, Sub.of_eq rfl, Sub.of_eq rfl, Sub.of_eq rfl, Sub.of_eq rfl, Sub.of_eq rfl, trivial⟩ ⟨⟨_, rfl, SubO.refl _⟩, ⟨_, rfl, SubO.refl _⟩, ⟨_, rfl, SubO.row rfl (fun j hj => ?_)⟩, trivial⟩ rfl rfl (pin0 hX))
  unfold catF
  split
  ·rfl
  ·obtain rfl : j = i := by omega
   rw [Nat.sub_self]
   unfold rEls
   rw [recL_at _ j hlt]
   rfl
 ·obtain rfl : i = t.leaps.length := by omega
  cases hh : t.has with
  | true =>
   rw [if_pos hh] at hlen
   have hi := recs_hi t hh
   have hy := hr.yes hh
   repeat' (first | refine stp tab_ok rfl (by first | exact sideN | exact sideT (by omega)) ?_ | refine gT rfl rfl (by omega) ?_ | refine gF rfl rfl (by omega) ?_ | refine gNT rfl rfl (by omega) ?_ | refine gNF rfl rfl (by omega) ?_ | fail)
   refine good_freeze 50 rfl ?_
   have hs : Sub (.im 2 (t.leaps.length + 1) (catF t.leaps.length (rEls t) (elsOf [.cons (I (t.exp + sumAt t.leaps t.leaps.length)) (.cons (I (sumAt t.leaps t.leaps.length)) .nil)]))) (corrA (recs t)) := Sub.im hlen.symm (fun j hj => by
    unfold catF
    by_cases hj2 : j < t.leaps.length
    ·rw [if_pos hj2]
     unfold rEls
     rw [recs_lo t j hj2, recL_at _ j hj2]
    ·obtain rfl : j = t.leaps.length := by omega
     rw [if_neg hj2, Nat.sub_self, hi]
     rfl)
   refine good_call rfl rfl rfl rfl rfl ent126 (hck.args (SubL.cons hs (SubL.refl _))) rfl ?_
   repeat' (first | refine stp tab_ok rfl (by first | exact sideN | exact sideT (by omega)) ?_ | refine gT rfl rfl (by omega) ?_ | refine gF rfl rfl (by omega) ?_ | refine gNT rfl rfl (by omega) ?_ | refine gNF rfl rfl (by omega) ?_ | fail)
   exact good_ret tab_ok hX rfl (Sub.tup (SubL.cons hs (SubL.refl _)))
  | false =>
   rw [hh, if_neg (by decide), Nat.add_zero] at hlen
   repeat' (first | refine stp tab_ok rfl (by first | exact sideN | exact sideT (by omega)) ?_ | refine gT rfl rfl (by omega) ?_ | refine gF rfl rfl (by omega) ?_ | refine gNT rfl rfl (by omega) ?_ | refine gNF rfl rfl (by omega) ?_ | fail)
   refine good_freeze 1000 rfl ?_
   have hs : Sub (.im 2 t.leaps.length (rEls t)) (corrA (recs t)) := Sub.im hlen.symm (fun j hj => by
    unfold rEls
    rw [recs_lo t j hj, recL_at _ j hj])
   refine good_call rfl rfl rfl rfl rfl ent126 (hck.args (SubL.cons hs (SubL.refl _))) rfl ?_
   repeat' (first | refine stp tab_ok rfl (by first | exact sideN | exact sideT (by omega)) ?_ | refine gT rfl rfl (by omega) ?_ | refine gF rfl rfl (by omega) ?_ | refine gNT rfl rfl (by omega) ?_ | refine gNF rfl rfl (by omega) ?_ | fail)
   exact good_ret tab_ok hX rfl (Sub.tup (SubL.cons hs (SubL.refl _)))
theorem compile_ac (t : Tbl) (hr : Rt t) : AC Tryz.prog 54 (L2 (.agg (zoneL [] 2)) (tblA t)) (.tup (L2 (.agg (zoneL (recs t) (if t.has = true then 4 else 2))) (I 0))) := by
 have hn := rt_len hr
 have hrt := right_ac t (by omega)
 rw [rt_iff.2 hr] at hrt
 refine AC.enter Tryz.func54 Tryz.ntmps54 rfl rfl rfl (fun F hX => ?_)
 repeat' (first | refine stp tab_ok rfl (by first | exact sideN | exact sideT (by omega)) ?_ | refine gT rfl rfl (by omega) ?_ | refine gF rfl rfl (by omega) ?_ | refine gNT rfl rfl (by omega) ?_ | refine gNF rfl rfl (by omega) ?_ | fail)
 refine good_call rfl rfl rfl rfl rfl ent105 (rplain_ac 2 (by decide)) rfl ?_
 repeat' (first | refine stp tab_ok rfl (by first | exact sideN | exact sideT (by omega)) ?_ | refine gT rfl rfl (by omega) ?_ | refine gF rfl rfl (by omega) ?_ | refine gNT rfl rfl (by omega) ?_ | refine gNF rfl rfl (by omega) ?_ | fail)
 refine good_callG rfl rfl rfl rfl rfl rfl rfl rfl rfl ent26 (hrt) rfl ?_
 repeat' (first | refine stp tab_ok rfl (by first | exact sideN | exact sideT (by omega)) ?_ | refine gT rfl rfl (by omega) ?_ | refine gF rfl rfl (by omega) ?_ | refine gNT rfl rfl (by omega) ?_ | refine gNF rfl rfl (by omega) ?_ | fail)
 refine good_call rfl rfl rfl rfl rfl ent106 (rrecs_ac t hr 2) rfl ?_
 repeat' (first | refine stp tab_ok rfl (by first | exact sideN | exact sideT (by omega)) ?_ | refine gT rfl rfl (by omega) ?_ | refine gF rfl rfl (by omega) ?_ | refine gNT rfl rfl (by omega) ?_ | refine gNF rfl rfl (by omega) ?_ | fail)
 refine good_any 30 ?_
 refine good_call rfl rfl rfl rfl rfl ent107 (moved_ac 2) rfl ?_
 repeat' (first | refine stp tab_ok rfl (by first | exact sideN | exact sideT (by omega)) ?_ | refine gT rfl rfl (by omega) ?_ | refine gF rfl rfl (by omega) ?_ | refine gNT rfl rfl (by omega) ?_ | refine gNF rfl rfl (by omega) ?_ | fail)
 cases hh : t.has with
 | true =>
  repeat' (first | refine stp tab_ok rfl (by first | exact sideN | exact sideT (by omega)) ?_ | refine gT rfl rfl (by omega) ?_ | refine gF rfl rfl (by omega) ?_ | refine gNT rfl rfl (by omega) ?_ | refine gNF rfl rfl (by omega) ?_ | fail)
  repeat' (first | refine stp tab_ok rfl (by first | exact sideN | exact sideT (by omega)) ?_ | refine gT rfl rfl (by omega) ?_ | refine gF rfl rfl (by omega) ?_ | refine gNT rfl rfl (by omega) ?_ | refine gNF rfl rfl (by omega) ?_ | refine gS rfl rfl (fun _ => ?_) (fun _ => ?_) | refine gNS rfl rfl (fun _ => ?_) (fun _ => ?_) | refine gBS rfl rfl (fun _ => ?_) (fun _ => ?_) | refine gBN rfl rfl (fun _ => ?_) (fun _ => ?_) | refine good_ret tab_ok hX rfl (Sub.of_eq ?_) | refine good_end tab_ok hX rfl (Sub.of_eq ?_) | fail)
  rfl
 | false =>
  repeat' (first | refine stp tab_ok rfl (by first | exact sideN | exact sideT (by omega)) ?_ | refine gT rfl rfl (by omega) ?_ | refine gF rfl rfl (by omega) ?_ | refine gNT rfl rfl (by omega) ?_ | refine gNF rfl rfl (by omega) ?_ | fail)
  repeat' (first | refine stp tab_ok rfl (by first | exact sideN | exact sideT (by omega)) ?_ | refine gT rfl rfl (by omega) ?_ | refine gF rfl rfl (by omega) ?_ | refine gNT rfl rfl (by omega) ?_ | refine gNF rfl rfl (by omega) ?_ | refine gS rfl rfl (fun _ => ?_) (fun _ => ?_) | refine gNS rfl rfl (fun _ => ?_) (fun _ => ?_) | refine gBS rfl rfl (fun _ => ?_) (fun _ => ?_) | refine gBN rfl rfl (fun _ => ?_) (fun _ => ?_) | refine good_ret tab_ok hX rfl (Sub.of_eq ?_) | refine good_end tab_ok hX rfl (Sub.of_eq ?_) | fail)
  rfl
end Go.Proofs.YthjldemjipnmdaaGreatDoor.Sx
namespace Go.Proofs.YthjldemjipnmdaaGreatDoor.Sx
open Go.RowKit
set_option maxRecDepth 100000
def y191 : Ty := ⟨1, 8, [.pointer none], .other, []⟩
theorem ty191 : TyOk Tryz.prog 191 y191 := .of (.pointer none) _ (by kernel_rfl) rfl ((fun h => by cases h)) rfl rfl Tryz.underlying191 rfl ((fun _ h => by cases h))
def y219 : Ty := ⟨1, 16, [.nilIface], .other, []⟩
theorem ty219 : TyOk Tryz.prog 219 y219 := .of (.nilIface) _ (by kernel_rfl) rfl ((fun h => by cases h)) rfl rfl Tryz.underlying219 rfl ((fun _ h => by cases h))
def y247 : Ty := ⟨6, 48, [.int .i64 0, .int .i64 0, .int .i64 0, .int .i64 0, .int .i64 0, .int .i64 0], .array 6 3, []⟩
theorem ty247 : TyOk Tryz.prog 247 y247 := .of (.agg ([.int .i64 0, .int .i64 0, .int .i64 0, .int .i64 0, .int .i64 0, .int .i64 0]).toArray) _ (by kernel_rfl) rfl (fun _ => rfl) rfl rfl Tryz.underlying247 rfl ((fun _ h => by cases h))
def y250 : Ty := ⟨1, 8, [.pointer none], .other, []⟩
theorem ty250 : TyOk Tryz.prog 250 y250 := .of (.pointer none) _ (by kernel_rfl) rfl ((fun h => by cases h)) rfl rfl Tryz.underlying250 rfl ((fun _ h => by cases h))
def y251 : Ty := ⟨1, 24, [.slice none 0 0], .slice 250, []⟩
theorem ty251 : TyOk Tryz.prog 251 y251 := .of (.slice none 0 0) _ (by kernel_rfl) rfl ((fun h => by cases h)) rfl rfl Tryz.underlying251 rfl ((fun _ h => by cases h))
def y252 : Ty := ⟨1, 8, [.nilFunc], .other, []⟩
theorem ty252 : TyOk Tryz.prog 252 y252 := .of (.nilFunc) _ (by kernel_rfl) rfl ((fun h => by cases h)) rfl rfl Tryz.underlying252 rfl ((fun _ h => by cases h))
def y256 : Ty := ⟨2, 32, [.slice none 0 0, .bool false], .struct [(0, 31), (1, 4)], [(0, 1), (1, 1)]⟩
theorem ty256 : TyOk Tryz.prog 256 y256 := .of (.agg ([.slice none 0 0, .bool false]).toArray) _ (by kernel_rfl) rfl (fun _ => rfl) rfl rfl Tryz.underlying256 ⟨_, rfl, rfl⟩ (fun _ _ => ⟨_, Tryz.underlying256, by kernel_rfl⟩)
def y258 : Ty := ⟨1, 1, [.int .i8 0], .int .i8, []⟩
theorem ty258 : TyOk Tryz.prog 258 y258 := .of (.int .i8 0) _ (by kernel_rfl) rfl ((fun h => by cases h)) rfl rfl Tryz.underlying258 rfl ((fun _ h => by cases h))
def y287 : Ty := ⟨2, 32, [.slice none 0 0, .bool false], .struct [(0, 31), (1, 4)], [(0, 1), (1, 1)]⟩
theorem ty287 : TyOk Tryz.prog 287 y287 := .of (.agg ([.slice none 0 0, .bool false]).toArray) _ (by kernel_rfl) rfl (fun _ => rfl) rfl rfl Tryz.underlying287 ⟨_, rfl, rfl⟩ (fun _ _ => ⟨_, Tryz.underlying287, by kernel_rfl⟩)
def tab2 : Tab := (191, y191) :: (219, y219) :: (247, y247) :: (250, y250) :: (251, y251) :: (252, y252) :: (256, y256) :: (258, y258) :: (287, y287) :: tab
theorem tab2_ok : TabOk Tryz.prog tab2 := (.cons ty191 (.cons ty219 (.cons ty247 (.cons ty250 (.cons ty251 (.cons ty252 (.cons ty256 (.cons ty258 (.cons ty287 tab_ok)))))))))
end Go.Proofs.YthjldemjipnmdaaGreatDoor.Sx
namespace Go.Proofs.YthjldemjipnmdaaGreatDoor.Sx
open Go.RowKit
set_option maxRecDepth 100000
def okPut (v size : Int) : Prop := (size = 1 ∧ 0 ≤ v ∧ v < 256) ∨ (size = 4 ∧ -2147483648 ≤ v ∧ v < 2147483648) ∨ size = 8
theorem w32 {a : Int} (h : -2147483648 ≤ a ∧ a < 2147483648) : IntKind.i32.wrap a = a := wrap_in (by unfold inK; omega)
theorem may_ac (v size : Int) (h : okPut v size) : AC Tryz.prog 166 (L2 (I v) (I size)) (B true) := by
 rcases h with ⟨rfl, h⟩ | ⟨rfl, h⟩ | rfl
 ·have e : IntKind.u8.wrap v = v := w8 rfl h
  refine AC.enter Tryz.func166 Tryz.ntmps166 rfl rfl rfl (fun F hX => ?_)
  repeat' (first | refine stp tab2_ok rfl (by first | exact sideN | exact sideT (by omega)) ?_ | refine gT rfl rfl (by omega) ?_ | refine gF rfl rfl (by omega) ?_ | refine gNT rfl rfl (by omega) ?_ | refine gNF rfl rfl (by omega) ?_ | fail)
  repeat' (first | refine stp tab2_ok rfl (by first | exact sideN | exact sideT (by omega)) ?_ | refine gT rfl rfl (by omega) ?_ | refine gF rfl rfl (by omega) ?_ | refine gNT rfl rfl (by omega) ?_ | refine gNF rfl rfl (by omega) ?_ | refine gS rfl rfl (fun _ => ?_) (fun _ => ?_) | refine gNS rfl rfl (fun _ => ?_) (fun _ => ?_) | refine gBS rfl rfl (fun _ => ?_) (fun _ => ?_) | refine gBN rfl rfl (fun _ => ?_) (fun _ => ?_) | refine good_ret tab2_ok hX rfl (Sub.of_eq ?_) | refine good_end tab2_ok hX rfl (Sub.of_eq ?_) | fail)
  exact congrArg (fun q => AV.val (.bool q)) (decide_eq_true rfl)
 ·have e : IntKind.i32.wrap v = v := w32 h
  refine AC.enter Tryz.func166 Tryz.ntmps166 rfl rfl rfl (fun F hX => ?_)
  repeat' (first | refine stp tab2_ok rfl (by first | exact sideN | exact sideT (by omega)) ?_ | refine gT rfl rfl (by omega) ?_ | refine gF rfl rfl (by omega) ?_ | refine gNT rfl rfl (by omega) ?_ | refine gNF rfl rfl (by omega) ?_ | fail)
  repeat' (first | refine stp tab2_ok rfl (by first | exact sideN | exact sideT (by omega)) ?_ | refine gT rfl rfl (by omega) ?_ | refine gF rfl rfl (by omega) ?_ | refine gNT rfl rfl (by omega) ?_ | refine gNF rfl rfl (by omega) ?_ | refine gS rfl rfl (fun _ => ?_) (fun _ => ?_) | refine gNS rfl rfl (fun _ => ?_) (fun _ => ?_) | refine gBS rfl rfl (fun _ => ?_) (fun _ => ?_) | refine gBN rfl rfl (fun _ => ?_) (fun _ => ?_) | refine good_ret tab2_ok hX rfl (Sub.of_eq ?_) | refine good_end tab2_ok hX rfl (Sub.of_eq ?_) | fail)
  rfl
 ·refine AC.enter Tryz.func166 Tryz.ntmps166 rfl rfl rfl (fun F hX => ?_)
  repeat' (first | refine stp tab2_ok rfl (by first | exact sideN | exact sideT (by omega)) ?_ | refine gT rfl rfl (by omega) ?_ | refine gF rfl rfl (by omega) ?_ | refine gNT rfl rfl (by omega) ?_ | refine gNF rfl rfl (by omega) ?_ | fail)
  repeat' (first | refine stp tab2_ok rfl (by first | exact sideN | exact sideT (by omega)) ?_ | refine gT rfl rfl (by omega) ?_ | refine gF rfl rfl (by omega) ?_ | refine gNT rfl rfl (by omega) ?_ | refine gNF rfl rfl (by omega) ?_ | refine gS rfl rfl (fun _ => ?_) (fun _ => ?_) | refine gNS rfl rfl (fun _ => ?_) (fun _ => ?_) | refine gBS rfl rfl (fun _ => ?_) (fun _ => ?_) | refine gBN rfl rfl (fun _ => ?_) (fun _ => ?_) | refine good_ret tab2_ok hX rfl (Sub.of_eq ?_) | refine good_end tab2_ok hX rfl (Sub.of_eq ?_) | fail)
  rfl
def putAt (v : Int) (sz i : Nat) : Int := IntKind.u8.wrap (v.fdiv (2 ^ (8 * (sz - 1 - i))))
def putZ (v : Int) (sz : Nat) : Nat → AL := fun i => .cons (.val (.int .u8 (putAt v sz i))) .nil
theorem put_ac (n : Nat) (els : Nat → AL) (v : Int) (sz : Nat) (hn : n ≤ 100000) (h : okPut v sz) : AC Tryz.prog 159 (L3 (.im 1 n els) (I v) (I sz)) (.tup (L2 (.im 1 (n + sz) (catF n els (putZ v sz))) (B true))) := by
 have hs : sz ≤ 8 := by unfold okPut at h; omega
 refine AC.enter Tryz.func159 Tryz.ntmps159 rfl rfl rfl (fun F hX => ?_)
 repeat' (first | refine stp tab2_ok rfl (by first | exact sideN | exact sideT (by omega)) ?_ | refine gT rfl rfl (by omega) ?_ | refine gF rfl rfl (by omega) ?_ | refine gNT rfl rfl (by omega) ?_ | refine gNF rfl rfl (by omega) ?_ | fail)
 refine good_callO rfl rfl rfl rfl rfl rfl ent165 (cloneByte_oc n els (by omega)) rfl rfl ?_
 repeat' (first | refine stp tab2_ok rfl (by first | exact sideN | exact sideT (by omega)) ?_ | refine gT rfl rfl (by omega) ?_ | refine gF rfl rfl (by omega) ?_ | refine gNT rfl rfl (by omega) ?_ | refine gNF rfl rfl (by omega) ?_ | fail)
 refine good_call rfl rfl rfl rfl rfl ent166 (may_ac v sz h) rfl ?_
 repeat' (first | refine stp tab2_ok rfl (by first | exact sideN | exact sideT (by omega)) ?_ | refine gT rfl rfl (by omega) ?_ | refine gF rfl rfl (by omega) ?_ | refine gNT rfl rfl (by omega) ?_ | refine gNF rfl rfl (by omega) ?_ | fail)
 refine good_swap 11 1000 rfl (swap0 hX) ?_
 refine good_rounds (fun k : Nat => [(9, I ((sz - k : Nat) : Int)), (8, .own 1000), (1, I v)]) (fun k : Nat => [(1000, .row 5 1 (n + k) (catF n els (putZ v sz)))]) (fun k : Nat => sz - k) (fun k : Nat => k ≤ sz) 0 (Nat.zero_le _) ?_ (fun k hk => ?_)
 ·exact Wk.mk ⟨Sub.of_eq rfl, Sub.of_eq rfl, Sub.of_eq rfl, trivial⟩ ⟨⟨_, rfl, SubO.row rfl (fun i hi => by unfold catF; rw [if_pos (by omega)])⟩, trivial⟩ rfl rfl (pin0 hX)
 by_cases hlt : k < sz
 ·have hex : min (8 * (((sz - k : Nat) : Int) - 1)).toNat IntKind.i64.bits = 8 * (sz - 1 - k) := by
   show min _ 64 = _
   omega
  repeat' (first | refine stp tab2_ok rfl (by first | exact sideN | exact sideT (by omega)) ?_ | refine gT rfl rfl (by omega) ?_ | refine gF rfl rfl (by omega) ?_ | refine gNT rfl rfl (by omega) ?_ | refine gNF rfl rfl (by omega) ?_ | fail)
  rw [hex]
  refine good_by rfl (ok_convInt 3 5 _ .u8 .i64 _ _ _ rfl (tab2_ok 3 _ rfl) rfl (tab2_ok 5 _ rfl) rfl) rfl ?_
  repeat' (first | refine stp tab2_ok rfl (by first | exact sideN | exact sideT (by omega)) ?_ | refine gT rfl rfl (by omega) ?_ | refine gF rfl rfl (by omega) ?_ | refine gNT rfl rfl (by omega) ?_ | refine gNF rfl rfl (by omega) ?_ | fail)
  refine good_swap 30 1000 rfl (swap0 hX) ?_
  refine good_again (k + 1) (by omega) (by omega) (Wk.mk ⟨Sub.of_eq (congrArg (fun q : Int => I q) (by omega)), Sub.of_eq rfl, Sub.of_eq rfl, trivial⟩ ⟨⟨_, rfl, SubO.row (by omega) (fun j hj => ?_)⟩, trivial⟩ rfl rfl (pin0 hX))
  by_cases h1 : j < n + k
  ·rw [show catF (n + k) (catF n els (putZ v sz)) _ j = catF n els (putZ v sz) j from if_pos h1]
  ·obtain rfl : j = n + k := by omega
   rw [show catF (n + k) (catF n els (putZ v sz)) _ (n + k) = _ from if_neg h1]
   rw [Nat.sub_self, show catF n els (putZ v sz) (n + k) = putZ v sz (n + k - n) from if_neg (by omega), Nat.add_sub_cancel_left]
   rfl
 ·obtain rfl : k = sz := by omega
  repeat' (first | refine stp tab2_ok rfl (by first | exact sideN | exact sideT (by omega)) ?_ | refine gT rfl rfl (by omega) ?_ | refine gF rfl rfl (by omega) ?_ | refine gNT rfl rfl (by omega) ?_ | refine gNF rfl rfl (by omega) ?_ | fail)
  refine good_freeze 1000 rfl ?_
  repeat' (first | refine stp tab2_ok rfl (by first | exact sideN | exact sideT (by omega)) ?_ | refine gT rfl rfl (by omega) ?_ | refine gF rfl rfl (by omega) ?_ | refine gNT rfl rfl (by omega) ?_ | refine gNF rfl rfl (by omega) ?_ | refine gS rfl rfl (fun _ => ?_) (fun _ => ?_) | refine gNS rfl rfl (fun _ => ?_) (fun _ => ?_) | refine gBS rfl rfl (fun _ => ?_) (fun _ => ?_) | refine gBN rfl rfl (fun _ => ?_) (fun _ => ?_) | refine good_ret tab2_ok hX rfl (Sub.of_eq ?_) | refine good_end tab2_ok hX rfl (Sub.of_eq ?_) | fail)
  rfl
end Go.Proofs.YthjldemjipnmdaaGreatDoor.Sx
namespace Go.Proofs.YthjldemjipnmdaaGreatDoor.Sx
open Go.RowKit
set_option maxRecDepth 100000
section
variable {P : Program} {F : Fr} {t : Tm} {h h' : Hp} {d : Option Tmp} {ty : TypeId} {ps : String} {af : Array Edge} {gd : Option (Nat × Bool)}
def zB : Nat → AL := fun _ => .cons (.val (.int .u8 0)) .nil
theorem ok_makeCap (s T : Nat) (x v : Operand) (k k' : IntKind) (n c : Nat) (y z : Ty) (e : Nat) (hx : ev t x = .val (.int k n)) (hv : ev t v = .val (.int k' c)) (hy : TyOk P T y) (hk : y.kind = .slice e) (hz : TyOk P e z) (hzz : z.zero = [.int .u8 0]) (hzs : z.size = 1) (hzb : z.bytes = 1) (hs : freshH h s = true) (hb : n ≤ c ∧ c ≤ 1000000) :
  OpWp P F ⟨some s, .makeSlice T x v, ty, ps, af, gd⟩ t h (.own s) ((s, .row e 1 n zB) :: h) :=
 OpWp.value fun r a w hr ht => by
  obtain ⟨i, zv, i1, i2, i3, i4, i5, i6, i7, i8⟩ := hz.info
  rw [hzs] at i2
  rw [hzb] at i3
  rw [hzz] at i5
  have hm := run_make (P := P) w T e i zv (hy.slice hk) i1 i4 k k' n c (by omega) (by omega) (by rw [i3]; omega) (by omega)
  simp only [Int.toNat_natCast, i2, Nat.mul_one] at hm
  have e0 : madeCells zv.cells c = madeCells #[.int .u8 0] c := by
   rw [show zv.cells = #[Value.int .u8 0] from Array.ext' (by rw [i5])]
  rw [e0] at hm
  have hget : ∀ j, j < c → (madeCells #[Value.int .u8 0] c).toList[j]? = some (.int .u8 0) := fun j hj => by
   have e1 := made_get (#[Value.int .u8 0]) c j 0 hj (by decide)
   simpa using e1
  have hown : (w.alloc (.cells (madeCells #[.int .u8 0] c) e)).ownsRow 0 e 1 (.slice (some ⟨w.heap.size, 0, none⟩) n c) n ((madeCells #[Value.int .u8 0] c).toList.take n) := by
   refine ⟨by rw [List.length_take, Array.length_toList, size_madeCells]; omega, .inr ⟨_, _, _, rfl, Nat.zero_le _, heap_alloc_new w _, hb.1, by unfold maxLen; omega, by rw [size_madeCells, Nat.mul_one], by rw [Nat.mul_one]⟩⟩
  obtain ⟨r', g1, g2, g3⟩ := new_row hr (w' := w.alloc (.cells (madeCells #[.int .u8 0] c) e)) (below_allocW w _) (fresh_ok hs) (els := zB) (V := .slice (some ⟨w.heap.size, 0, none⟩) n c) (fun b hb => by cases hb; exact Nat.le_refl _) ⟨_, _, _, rfl⟩ hown (fun i hi => by
   refine ⟨[.int .u8 0], fun j U hj => ?_, rfl, by unfold zB VRL VRL; exact ⟨fun _ => rfl, vr_val, trivial⟩⟩
   cases j with
   | succ j => simp at hj
   | zero =>
    simp only [List.getElem?_cons_zero, Option.some.injEq] at hj
    subst hj
    rw [List.getElem?_take, if_pos (by omega), Nat.mul_one, Nat.add_zero]
    exact hget i (by omega))
  refine ⟨_, _, r', ?_, g1, g2, g3⟩
  simp only [execOp, VR_val ht hx, VR_val ht hv, Sem.run_bind, hm, Result.andThen, Sem.run_pure]
theorem byteCells_get (s : ByteArray) (i : Nat) (hi : i < s.size) : (Lib.byteCells s.data.toList)[i]? = some (.int .u8 (byteAt s i)) := by
 have hl : i < s.data.toList.length := hi
 unfold Lib.byteCells byteAt
 have e : s.data[i]? = some s.data[i] := Array.getElem?_eq_getElem hi
 rw [List.getElem?_map]
 simp [List.getD, e]
theorem ok_copyStr (g T' n T S : Nat) (x v : Operand) (s : ByteArray) (els : Nat → AL) (y z : Ty) (e : Nat) (hx : ev t x = .own g) (hg : getH h g = some (.row T' 1 n els)) (hv : ev t v = .val (.string s)) (hy : TyOk P T y) (hk : y.kind = .slice e) (hz : TyOk P e z) (hzs : z.size = 1) (hmk : T' < mkT) (hs : s.size ≤ n) (h0 : 0 < s.size) :
  OpWp P F ⟨d, .call { callee := .builtin .copy, args := #[x, v], argTypes := #[T, S] }, ty, ps, af, gd⟩ t h (I s.size) ((g, .row T' 1 n (fun i => if i < s.size then byteEls s i else els i)) :: h) :=
 OpWp.value fun r a w hr ht => by
  obtain ⟨i, zv, i1, i2, i3, i4, i5, i6, i7, i8⟩ := hz.info
  have hx' := VR_ev ht x
  rw [hx] at hx'
  unfold VR at hx'
  obtain ⟨hV, _⟩ := hx'
  obtain ⟨xs, ho, hel⟩ := hr.objs g _ _ hg hV
  rcases ho.2 with ⟨e1, e2⟩ | ⟨b, cap, cur, T0, fz, eV, hm, h2, h3, h4, h5, h6⟩
  ·omega
  ·rw [eV] at hV
   have hlen := Lib.byteCells_length s.data.toList
   have hl2 : s.data.toList.length = s.size := rfl
   have hcz : cur.size = cap := by simpa using h5
   obtain ⟨rfl, rfl⟩ : T0 = T' ∧ fz = (0, 0) := by
    rcases hm with h | ⟨h, _⟩
    ·exact h
    ·omega
   have hrun := Lib.run_copy_row_string (P := P) w T S ty e b 0 n cap s cur T0 (hy.slice hk) (by rw [i1]; simp [i2, hzs]) h2 hs (by omega)
   obtain ⟨k1, k2⟩ := hr.set (w' := w.setRow b (cur.toList.take 0 ++ Lib.byteCells s.data.toList ++ cur.toList.drop (0 + s.size)).toArray) hg rfl hV (b := b) rfl rfl rfl rfl (by simp) (fun k _ hne => setRow_other w b k _ hne)
    (o' := .row T0 1 n (fun i => if i < s.size then byteEls s i else els i)) (fun E => ⟨putV xs 0 (Lib.byteCells s.data.toList), by
     have := ownsRow_put (n := n) (sz := 1) (vs := Lib.byteCells s.data.toList) (o := 0) (by omega) h6 (by omega) hm h2 h3 h4 h5
     rwa [hlen, hl2] at this, fun i hi => by
     obtain ⟨Us, a1, a2, a3⟩ := hel i hi
     have hp := putV_eq xs 0 (Lib.byteCells s.data.toList) (by have := ho.1; omega)
     rw [hp, List.take_zero, List.nil_append]
     by_cases hi2 : i < s.size
     ·simp only [if_pos hi2]
      refine ⟨[.int .u8 (byteAt s i)], fun j U hj => ?_, rfl, by unfold byteEls VRL VRL; exact ⟨fun _ => rfl, vr_val, trivial⟩⟩
      cases j with
      | succ j => simp at hj
      | zero =>
       simp only [List.getElem?_cons_zero, Option.some.injEq] at hj
       subst hj
       rw [List.getElem?_append_left (by omega), Nat.mul_one, Nat.add_zero]
       exact byteCells_get s i hi2
     ·simp only [if_neg hi2]
      refine ⟨Us, fun j U hj => ?_, a2, E.vrl0 a3⟩
      have := a1 j U hj
      rw [List.getElem?_append_right (by omega), List.getElem?_drop, hlen, hl2]
      rw [show 0 + s.size + (i * 1 + j - s.size) = i * 1 + j by omega]
      exact this⟩)
   refine ⟨_, _, r, ?_, k1, k2, vr_val⟩
   simp [execOp, resolve, invoke, builtin, eV, VR_val ht hv, hrun, goInt]
theorem append_whereS {w : World} (t u ty e : TypeId) (i : TypeInfo) (ht : P.underlying t = some (.slice e)) (hu : P.underlying u = some .string) (hi : P.info? e = some i) (hz : i.zero = some (.int .u8 0)) (hsize : i.size = 1) (hby : i.bytes = 1) (v : Value) (n : Nat) (xs : List Value) (hown : w.ownsRow 0 e 1 v n xs) (s : ByteArray)
  (h63 : n + s.size ≤ maxLen) (hbytes : n + s.size ≤ 140737488355328) {v' : Value} {w' : World} (hrun : (Builtin.append_ #[t, u] ty #[v, .string s]).run P w = .ok v' w') (hn : v' = .slice none 0 0 ↔ v = .slice none 0 0 ∧ s.size = 0) : ∀ b, v'.ownBlock = some b → v.ownBlock = some b ∨ w.heap.size ≤ b := by
 have hsmall : n + s.size ≤ 9223372036854775807 := by simp only [maxLen] at h63; omega
 have hxl : xs.length = n := by simpa using hown.1
 intro b hb
 rcases hown.2 with ⟨rfl, rfl⟩ | ⟨g, cap, cur, rfl, hbg, hg, hnc, hcm, hcs, htake⟩
 ·by_cases hm : s.size = 0
  ·rw [hn.2 ⟨rfl, hm⟩] at hb
   cases hb
  ·rw [run_append_nil_string (P := P) w t u ty e i (.int .u8 0) ht hu hi hz s (by omega) (by omega) (by rw [hby]; omega)] at hrun
   cases hrun
   cases hb
   exact .inr (Nat.le_refl _)
 ·by_cases hroom : n + s.size ≤ cap
  ·have hcs' : cur.size = cap := by simpa using hcs
   rw [Lib.run_append_room_string (P := P) w t u ty e i ht hu hi hsize g n cap cur hg s hroom (by omega)] at hrun
   cases hrun
   cases hb
   exact .inl rfl
  ·have holds : ∀ j u, xs[j]? = some u → w.cell? ((⟨g, 0, none⟩ : Addr).add j) = some u := hown.cells (g := g) rfl
   rw [Lib.run_append_grow_string (P := P) w t u ty e i (.int .u8 0) ht hu hi hz ⟨g, 0, none⟩ n cap xs (by rw [hsize]; simpa using hxl) holds s (by omega) (by omega) (by rw [hby]; exact growslice_fits (by omega) (by omega))] at hrun
   cases hrun
   cases hb
   exact .inr (Nat.le_refl _)
theorem ok_appendStr (s0 T S : Nat) (x v : Operand) (g e n : Nat) (s : ByteArray) (els : Nat → AL) (y yS : Ty) (i : TypeInfo) (hx : ev t x = .own g) (hg : getH h g = some (.row e 1 n els)) (hv : ev t v = .val (.string s)) (hy : TyOk P T y) (hk : y.kind = .slice e) (hi : P.info? e = some i) (hz : i.zero = some (.int .u8 0)) (hs1 : i.size = 1) (hbt : i.bytes = 1) (hyS : TyOk P S yS) (hkS : yS.kind = .string) (hs : freshH h s0 = true) (hb : n + s.size ≤ 100000000) (hmk : e < mkT) :
  OpWp P F ⟨some s0, .call { callee := .builtin .append, args := #[x, v], argTypes := #[T, S] }, ty, ps, af, gd⟩ t h (.own s0) ((s0, .row e 1 (n + s.size) (catF n els (byteEls s))) :: (g, .dead) :: h) :=
 OpWp.value fun r a w hr ht' => by
  have hx' := VR_ev ht' x
  rw [hx] at hx'
  unfold VR at hx'
  obtain ⟨hV, _⟩ := hx'
  obtain ⟨xs, ho0, hel⟩ := hr.objs g _ _ hg hV
  have ho := ho0.own hmk
  have hmx : n + s.size ≤ maxLen := by unfold maxLen; omega
  obtain ⟨V', w', k1, k2, k3, k5⟩ := Lib.run_append_own_string (P := P) w 0 T S ty e i (hy.slice hk) (hyS.string hkS) hi hz hs1 hbt (a.eval x) n xs ho s hmx (by omega) (Nat.zero_le _)
  have hw := append_whereS T S ty e i (hy.slice hk) (hyS.string hkS) hi hz hs1 hbt (a.eval x) n xs ho s hmx (by omega) k1 k5
  have hgb : w.grownBy w' (blk (a.eval x)) := by rw [blk_own ho]; exact k3
  obtain ⟨g1, g2⟩ := hr.grow hg rfl hV (fresh_ok hs) hgb (fun b hb' => by rw [blk_own k2] at hb'; rw [blk_own ho]; exact hw b hb') (o' := .row e 1 (n + s.size) (catF n els (byteEls s))) (fun E => ⟨_, rowOk.of k2, fun i hi => by
   have hxl : xs.length = n := by simpa using ho.1
   unfold catF
   by_cases hin : i < n
   ·simp only [if_pos hin]
    obtain ⟨Us, a1, a2, a3⟩ := hel i hin
    refine ⟨Us, fun j U hj => ?_, a2, E.vrl0 a3⟩
    have hx0 := a1 j U hj
    rw [List.getElem?_append_left (List.getElem?_eq_some_iff.1 hx0).1]
    exact hx0
   ·simp only [if_neg hin]
    refine ⟨[.int .u8 (byteAt s ((i - n : Nat) : Int))], fun j U hj => ?_, rfl, by unfold byteEls VRL VRL; exact ⟨fun _ => rfl, vr_val, trivial⟩⟩
    cases j with
    | succ j => simp at hj
    | zero =>
     simp only [List.getElem?_cons_zero, Option.some.injEq] at hj
     subst hj
     rw [List.getElem?_append_right (by omega), hxl, Nat.mul_one, Nat.add_zero]
     exact byteCells_get s (i - n) (by omega)⟩)
  refine ⟨V', w', _, ?_, g1, g2, ?_⟩
  ·simp [execOp, resolve, invoke, builtin, VR_val ht' hv, k1]
  ·unfold VR
   exact ⟨by unfold updR; rw [if_pos rfl], .inl (own_slice k2)⟩
end
end Go.Proofs.YthjldemjipnmdaaGreatDoor.Sx
namespace Go.Proofs.YthjldemjipnmdaaGreatDoor.Sx
open Go.RowKit
set_option maxRecDepth 100000
def tzif4 : ByteArray := ⟨#[84, 90, 105, 102]⟩
def headB (v : Int) : Nat → AL := fun k => if k = 4 then .cons (.val (.int .u8 (48 + v))) .nil else if k < tzif4.size then byteEls tzif4 k else zB k
def headE (v leap char : Int) : Nat → AL := catF 40 (catF 36 (catF 32 (catF 28 (catF 24 (catF 20 (headB v) (putZ 0 4)) (putZ 0 4)) (putZ leap 4)) (putZ 0 4)) (putZ 1 4)) (putZ char 4)
theorem hencode_ac (v leap char : Int) (hv : 2 ≤ v ∧ v ≤ 4) (hl : 0 ≤ leap ∧ leap ≤ 201) (hc : 1 ≤ char ∧ char ≤ 256) : AC Tryz.prog 111 (L1 (.agg (headL v leap 1 char))) (.tup (L2 (.im 1 44 (headE v leap char)) (B true))) := by
 have hz : tzif4.size = 4 := rfl
 refine AC.enter Tryz.func111 Tryz.ntmps111 rfl rfl rfl (fun F hX => ?_)
 repeat' (first | refine stp tab2_ok rfl (by first | exact sideN | exact sideT (by omega)) ?_ | refine gT rfl rfl (by omega) ?_ | refine gF rfl rfl (by omega) ?_ | refine gNT rfl rfl (by omega) ?_ | refine gNF rfl rfl (by omega) ?_ | fail)
 refine good_call rfl rfl rfl rfl rfl ent125 (headR_ac v leap char (by omega) hl hc) rfl ?_
 repeat' (first | refine stp tab2_ok rfl (by first | exact sideN | exact sideT (by omega)) ?_ | refine gT rfl rfl (by omega) ?_ | refine gF rfl rfl (by omega) ?_ | refine gNT rfl rfl (by omega) ?_ | refine gNF rfl rfl (by omega) ?_ | fail)
 refine good_by rfl (ok_makeCap 10 31 _ _ .i64 .i64 20 44 _ _ _ rfl rfl (tab2_ok 31 _ rfl) rfl (tab2_ok 5 _ rfl) rfl rfl rfl rfl (by decide)) rfl ?_
 repeat' (first | refine stp tab2_ok rfl (by first | exact sideN | exact sideT (by omega)) ?_ | refine gT rfl rfl (by omega) ?_ | refine gF rfl rfl (by omega) ?_ | refine gNT rfl rfl (by omega) ?_ | refine gNF rfl rfl (by omega) ?_ | fail)
 refine good_by rfl (ok_copyStr 10 5 20 31 9 _ _ tzif4 _ _ _ _ rfl rfl rfl (tab2_ok 31 _ rfl) rfl (tab2_ok 5 _ rfl) rfl (by decide) (by omega) (by omega)) rfl ?_
 repeat' (first | refine stp tab2_ok rfl (by first | exact sideN | exact sideT (by omega)) ?_ | refine gT rfl rfl (by omega) ?_ | refine gF rfl rfl (by omega) ?_ | refine gNT rfl rfl (by omega) ?_ | refine gNF rfl rfl (by omega) ?_ | fail)
 rw [show IntKind.u8.wrap (48 + v) = 48 + v from w8 rfl (by omega)]
 refine good_freeze 10 rfl ?_
 refine good_loopN 8 ?_
 repeat' (first | refine stp tab2_ok rfl (by first | exact sideN | exact sideT (by omega)) ?_ | refine gT rfl rfl (by omega) ?_ | refine gF rfl rfl (by omega) ?_ | refine gNT rfl rfl (by omega) ?_ | refine gNF rfl rfl (by omega) ?_ | fail)
 refine good_call rfl rfl rfl rfl rfl ent159 (put_ac 20 _ 0 4 (by decide) (.inr (.inl ⟨by decide, by omega, by omega⟩))) rfl ?_
 repeat' (first | refine stp tab2_ok rfl (by first | exact sideN | exact sideT (by omega)) ?_ | refine gT rfl rfl (by omega) ?_ | refine gF rfl rfl (by omega) ?_ | refine gNT rfl rfl (by omega) ?_ | refine gNF rfl rfl (by omega) ?_ | fail)
 refine good_call rfl rfl rfl rfl rfl ent159 (put_ac 24 _ 0 4 (by decide) (.inr (.inl ⟨by decide, by omega, by omega⟩))) rfl ?_
 repeat' (first | refine stp tab2_ok rfl (by first | exact sideN | exact sideT (by omega)) ?_ | refine gT rfl rfl (by omega) ?_ | refine gF rfl rfl (by omega) ?_ | refine gNT rfl rfl (by omega) ?_ | refine gNF rfl rfl (by omega) ?_ | fail)
 refine good_call rfl rfl rfl rfl rfl ent159 (put_ac 28 _ leap 4 (by decide) (.inr (.inl ⟨by decide, by omega, by omega⟩))) rfl ?_
 repeat' (first | refine stp tab2_ok rfl (by first | exact sideN | exact sideT (by omega)) ?_ | refine gT rfl rfl (by omega) ?_ | refine gF rfl rfl (by omega) ?_ | refine gNT rfl rfl (by omega) ?_ | refine gNF rfl rfl (by omega) ?_ | fail)
 refine good_call rfl rfl rfl rfl rfl ent159 (put_ac 32 _ 0 4 (by decide) (.inr (.inl ⟨by decide, by omega, by omega⟩))) rfl ?_
 repeat' (first | refine stp tab2_ok rfl (by first | exact sideN | exact sideT (by omega)) ?_ | refine gT rfl rfl (by omega) ?_ | refine gF rfl rfl (by omega) ?_ | refine gNT rfl rfl (by omega) ?_ | refine gNF rfl rfl (by omega) ?_ | fail)
 refine good_call rfl rfl rfl rfl rfl ent159 (put_ac 36 _ 1 4 (by decide) (.inr (.inl ⟨by decide, by omega, by omega⟩))) rfl ?_
 repeat' (first | refine stp tab2_ok rfl (by first | exact sideN | exact sideT (by omega)) ?_ | refine gT rfl rfl (by omega) ?_ | refine gF rfl rfl (by omega) ?_ | refine gNT rfl rfl (by omega) ?_ | refine gNF rfl rfl (by omega) ?_ | fail)
 refine good_call rfl rfl rfl rfl rfl ent159 (put_ac 40 _ char 4 (by decide) (.inr (.inl ⟨by decide, by omega, by omega⟩))) rfl ?_
 repeat' (first | refine stp tab2_ok rfl (by first | exact sideN | exact sideT (by omega)) ?_ | refine gT rfl rfl (by omega) ?_ | refine gF rfl rfl (by omega) ?_ | refine gNT rfl rfl (by omega) ?_ | refine gNF rfl rfl (by omega) ?_ | fail)
 repeat' (first | refine stp tab2_ok rfl (by first | exact sideN | exact sideT (by omega)) ?_ | refine gT rfl rfl (by omega) ?_ | refine gF rfl rfl (by omega) ?_ | refine gNT rfl rfl (by omega) ?_ | refine gNF rfl rfl (by omega) ?_ | refine gS rfl rfl (fun _ => ?_) (fun _ => ?_) | refine gNS rfl rfl (fun _ => ?_) (fun _ => ?_) | refine gBS rfl rfl (fun _ => ?_) (fun _ => ?_) | refine gBN rfl rfl (fun _ => ?_) (fun _ => ?_) | refine good_ret tab2_ok hX rfl (Sub.of_eq ?_) | refine good_end tab2_ok hX rfl (Sub.of_eq ?_) | fail)
 rfl
end Go.Proofs.YthjldemjipnmdaaGreatDoor.Sx
namespace Go.Proofs.YthjldemjipnmdaaGreatDoor.Sx
open Go.RowKit
set_option maxRecDepth 100000
theorem putN_ac (v : Int) (sz : Nat) (h : okPut v sz) : AC Tryz.prog 159 (L3 (.val (.slice none 0 0)) (I v) (I sz)) (.tup (L2 (.im 1 sz (putZ v sz)) (B true))) := by
 have h1 := ((put_ac 0 (putZ v sz) v sz (by decide) h).args (SubL.cons Sub.nilIm (SubL.refl _)))
 refine h1.sub (Sub.tup (SubL.cons (Sub.im (Nat.zero_add _) (fun i hi => ?_)) (SubL.refl _)))
 rfl
theorem good_endH {P : Program} {F : Fr} {N : Nat} {t : Tm} {h : Hp} {Tb : Tab} (hT : TabOk P Tb) {fn : Func} {res : AV} {l : AL} (hl : resL Tb t h fn.results.toList = some l) (hs : Sub (resA l) res) : Good P F N (retH P F fn res h) [] t h := fun _ _ hst =>
 retH_core hT hl hs hst
def wHa (n : Nat) (els : Nat → AL) (l : List Cr) (v : Int) : Hp := [(1011, .box 287 (.cons (.own 1000) (.cons (B false) .nil))), (1000, .row 5 1 n els), (1002, .box 38 (zoneL l v)), (1003, .box 75 (L3 (I 0) (B false) (S utc3)))]
def wKa (n : Nat) (els : Nat → AL) (l : List Cr) (v : Int) : Hp := [(1011, .box 287 (.cons (.own 1021) (.cons (B false) .nil))), (1021, .row 5 1 n els), (1000, .dead), (1002, .box 38 (zoneL l v)), (1003, .box 75 (L3 (I 0) (B false) (S utc3)))]
theorem wHa_fresh {n : Nat} {els : Nat → AL} {l : List Cr} {v : Int} {g : Nat} (h : freshH (wHa n els l v) g = false) : g = 1011 ∨ g = 1000 ∨ g = 1002 ∨ g = 1003 := by
 unfold freshH wHa at h
 rw [getH_cons, getH_cons, getH_cons, getH_cons] at h
 by_cases h1 : 1011 = g
 ·omega
 ·rw [if_neg h1] at h
  by_cases h2 : 1000 = g
  ·omega
  ·rw [if_neg h2] at h
   by_cases h3 : 1002 = g
   ·omega
   ·rw [if_neg h3] at h
    by_cases h4 : 1003 = g
    ·omega
    ·rw [if_neg h4] at h
     cases h
theorem wputa_hc (n : Nat) (els : Nat → AL) (l : List Cr) (v0 : Int) (v : Int) (sz : Nat) (hn : n ≤ 100000) (h : okPut v sz) : HC Tryz.prog 210 (L3 (.ptr 1011 0) (I v) (I sz)) (wHa n els l v0) (.tup .nil) (wKa (n + sz) (catF n els (putZ v sz)) l v0) := by
 have hs : sz ≤ 8 := by unfold okPut at h; omega
 refine HC.enter Tryz.func210 Tryz.ntmps210 rfl rfl rfl (fun F hP => ?_)
 repeat' (first | refine stp tab2_ok rfl (by first | exact sideN | exact sideT (by omega)) ?_ | refine gT rfl rfl (by omega) ?_ | refine gF rfl rfl (by omega) ?_ | refine gNT rfl rfl (by omega) ?_ | refine gNF rfl rfl (by omega) ?_ | fail)
 refine good_call rfl rfl rfl rfl rfl ent159 (putN_ac v sz h) rfl ?_
 repeat' (first | refine stp tab2_ok rfl (by first | exact sideN | exact sideT (by omega)) ?_ | refine gT rfl rfl (by omega) ?_ | refine gF rfl rfl (by omega) ?_ | refine gNT rfl rfl (by omega) ?_ | refine gNF rfl rfl (by omega) ?_ | fail)
 refine dg_start ?_
 repeat' (first | refine dgp tab2_ok rfl (by first | exact sideN | exact sideT (by omega)) ?_ | fail)
 refine dg_end mixed rfl ?_
 refine good_swap 21 1021 rfl (fun g V e => by have := wHa_fresh (hP g V e); omega) ?_
 refine good_weak (t' := []) (h' := wKa (n + sz) (catF n els (putZ v sz)) l v0) (Wk.mk trivial ⟨⟨_, rfl, SubO.refl _⟩, ⟨_, rfl, SubO.refl _⟩, ⟨_, rfl, SubO.refl _⟩, ⟨_, rfl, SubO.refl _⟩, ⟨_, rfl, SubO.refl _⟩, trivial⟩ rfl rfl (fun g V e => ?_)) ?_
 ·have := wHa_fresh (hP g V e)
  rcases this with rfl | rfl | rfl | rfl <;> rfl
 exact good_endH tab2_ok rfl (Sub.refl _)
def wHb (n : Nat) (els : Nat → AL) (l : List Cr) (v : Int) (a c : Int) : Hp := [(1011, .box 287 (.cons (.own 1000) (.cons (B false) .nil))), (1000, .row 5 1 n els), (1002, .box 38 (zoneL l v)), (1003, .box 80 (L2 (I a) (I c)))]
def wKb (n : Nat) (els : Nat → AL) (l : List Cr) (v : Int) (a c : Int) : Hp := [(1011, .box 287 (.cons (.own 1021) (.cons (B false) .nil))), (1021, .row 5 1 n els), (1000, .dead), (1002, .box 38 (zoneL l v)), (1003, .box 80 (L2 (I a) (I c)))]
theorem wHb_fresh {n : Nat} {els : Nat → AL} {l : List Cr} {v : Int} {a c : Int} {g : Nat} (h : freshH (wHb n els l v a c) g = false) : g = 1011 ∨ g = 1000 ∨ g = 1002 ∨ g = 1003 := by
 unfold freshH wHb at h
 rw [getH_cons, getH_cons, getH_cons, getH_cons] at h
 by_cases h1 : 1011 = g
 ·omega
 ·rw [if_neg h1] at h
  by_cases h2 : 1000 = g
  ·omega
  ·rw [if_neg h2] at h
   by_cases h3 : 1002 = g
   ·omega
   ·rw [if_neg h3] at h
    by_cases h4 : 1003 = g
    ·omega
    ·rw [if_neg h4] at h
     cases h
theorem wputb_hc (n : Nat) (els : Nat → AL) (l : List Cr) (v0 : Int) (a c : Int) (v : Int) (sz : Nat) (hn : n ≤ 100000) (h : okPut v sz) : HC Tryz.prog 210 (L3 (.ptr 1011 0) (I v) (I sz)) (wHb n els l v0 a c) (.tup .nil) (wKb (n + sz) (catF n els (putZ v sz)) l v0 a c) := by
 have hs : sz ≤ 8 := by unfold okPut at h; omega
 refine HC.enter Tryz.func210 Tryz.ntmps210 rfl rfl rfl (fun F hP => ?_)
 repeat' (first | refine stp tab2_ok rfl (by first | exact sideN | exact sideT (by omega)) ?_ | refine gT rfl rfl (by omega) ?_ | refine gF rfl rfl (by omega) ?_ | refine gNT rfl rfl (by omega) ?_ | refine gNF rfl rfl (by omega) ?_ | fail)
 refine good_call rfl rfl rfl rfl rfl ent159 (putN_ac v sz h) rfl ?_
 repeat' (first | refine stp tab2_ok rfl (by first | exact sideN | exact sideT (by omega)) ?_ | refine gT rfl rfl (by omega) ?_ | refine gF rfl rfl (by omega) ?_ | refine gNT rfl rfl (by omega) ?_ | refine gNF rfl rfl (by omega) ?_ | fail)
 refine dg_start ?_
 repeat' (first | refine dgp tab2_ok rfl (by first | exact sideN | exact sideT (by omega)) ?_ | fail)
 refine dg_end mixed rfl ?_
 refine good_swap 21 1021 rfl (fun g V e => by have := wHb_fresh (hP g V e); omega) ?_
 refine good_weak (t' := []) (h' := wKb (n + sz) (catF n els (putZ v sz)) l v0 a c) (Wk.mk trivial ⟨⟨_, rfl, SubO.refl _⟩, ⟨_, rfl, SubO.refl _⟩, ⟨_, rfl, SubO.refl _⟩, ⟨_, rfl, SubO.refl _⟩, ⟨_, rfl, SubO.refl _⟩, trivial⟩ rfl rfl (fun g V e => ?_)) ?_
 ·have := wHb_fresh (hP g V e)
  rcases this with rfl | rfl | rfl | rfl <;> rfl
 exact good_endH tab2_ok rfl (Sub.refl _)
theorem mark0_ac : AC Tryz.prog 211 (L1 (B false)) (I 0) := by
 refine AC.enter Tryz.func211 Tryz.ntmps211 rfl rfl rfl (fun F hX => ?_)
 repeat' (first | refine stp tab2_ok rfl (by first | exact sideN | exact sideT (by omega)) ?_ | refine gT rfl rfl (by omega) ?_ | refine gF rfl rfl (by omega) ?_ | refine gNT rfl rfl (by omega) ?_ | refine gNF rfl rfl (by omega) ?_ | fail)
 repeat' (first | refine stp tab2_ok rfl (by first | exact sideN | exact sideT (by omega)) ?_ | refine gT rfl rfl (by omega) ?_ | refine gF rfl rfl (by omega) ?_ | refine gNT rfl rfl (by omega) ?_ | refine gNF rfl rfl (by omega) ?_ | refine gS rfl rfl (fun _ => ?_) (fun _ => ?_) | refine gNS rfl rfl (fun _ => ?_) (fun _ => ?_) | refine gBS rfl rfl (fun _ => ?_) (fun _ => ?_) | refine gBN rfl rfl (fun _ => ?_) (fun _ => ?_) | refine good_ret tab2_ok hX rfl (Sub.of_eq ?_) | refine good_end tab2_ok hX rfl (Sub.of_eq ?_) | fail)
 rfl
end Go.Proofs.YthjldemjipnmdaaGreatDoor.Sx
namespace Go.Proofs.YthjldemjipnmdaaGreatDoor.Sx
open Go.RowKit
set_option maxRecDepth 100000
def encT : Nat → AL := catF 6 (catF 5 (catF 4 (catF 0 zB (putZ 0 4)) (putZ 0 1)) (putZ 0 1)) (byteEls pool1)
def encR (l : List Cr) : Nat → Nat → AL
 | 0 => encT
 | k + 1 => catF (10 + 12 * k + 8) (catF (10 + 12 * k) (encR l k) (putZ (l.getD k cr0).at_ 8)) (putZ (l.getD k cr0).corr 4)
set_option maxHeartbeats 1000000 in
theorem bencode_ac (l : List Cr) (v : Int) (hv : 2 ≤ v ∧ v ≤ 4) (hl : l.length ≤ 201) (hc : ∀ i, i < l.length → -100000 ≤ (l.getD i cr0).corr ∧ (l.getD i cr0).corr ≤ 100000) : AC Tryz.prog 158 (L2 (.agg (zoneL l v)) (I 8)) (.tup (L2 (.im 1 (10 + 12 * l.length) (encR l l.length)) (B true))) := by
 refine AC.enter Tryz.func158 Tryz.ntmps158 rfl rfl rfl (fun F hX => ?_)
 repeat' (first | refine stp tab2_ok rfl (by first | exact sideN | exact sideT (by omega)) ?_ | refine gT rfl rfl (by omega) ?_ | refine gF rfl rfl (by omega) ?_ | refine gNT rfl rfl (by omega) ?_ | refine gNF rfl rfl (by omega) ?_ | fail)
 refine good_call rfl rfl rfl rfl rfl ent59 (count_ac l v (by omega) hl) rfl ?_
 repeat' (first | refine stp tab2_ok rfl (by first | exact sideN | exact sideT (by omega)) ?_ | refine gT rfl rfl (by omega) ?_ | refine gF rfl rfl (by omega) ?_ | refine gNT rfl rfl (by omega) ?_ | refine gNF rfl rfl (by omega) ?_ | fail)
 refine good_call rfl rfl rfl rfl rfl ent124 (poolZ_ac l v) rfl ?_
 repeat' (first | refine stp tab2_ok rfl (by first | exact sideN | exact sideT (by omega)) ?_ | refine gT rfl rfl (by omega) ?_ | refine gF rfl rfl (by omega) ?_ | refine gNT rfl rfl (by omega) ?_ | refine gNF rfl rfl (by omega) ?_ | fail)
 refine good_adoptB 11 0 1000 5 1 zB rfl rfl rfl rfl ?_
 repeat' (first | refine stp tab2_ok rfl (by first | exact sideN | exact sideT (by omega)) ?_ | refine gT rfl rfl (by omega) ?_ | refine gF rfl rfl (by omega) ?_ | refine gNT rfl rfl (by omega) ?_ | refine gNF rfl rfl (by omega) ?_ | fail)
 refine good_loopN 3 ?_
 repeat' (first | refine stp tab2_ok rfl (by first | exact sideN | exact sideT (by omega)) ?_ | refine gT rfl rfl (by omega) ?_ | refine gF rfl rfl (by omega) ?_ | refine gNT rfl rfl (by omega) ?_ | refine gNF rfl rfl (by omega) ?_ | fail)
 refine good_loopN 3 ?_
 repeat' (first | refine stp tab2_ok rfl (by first | exact sideN | exact sideT (by omega)) ?_ | refine gT rfl rfl (by omega) ?_ | refine gF rfl rfl (by omega) ?_ | refine gNT rfl rfl (by omega) ?_ | refine gNF rfl rfl (by omega) ?_ | fail)
 refine good_loopN 3 ?_
 repeat' (first | refine stp tab2_ok rfl (by first | exact sideN | exact sideT (by omega)) ?_ | refine gT rfl rfl (by omega) ?_ | refine gF rfl rfl (by omega) ?_ | refine gNT rfl rfl (by omega) ?_ | refine gNF rfl rfl (by omega) ?_ | fail)
 refine good_swap 11 1011 rfl (swap0 hX) ?_
 refine good_swap 2 1002 rfl (swap0 hX) ?_
 refine good_swap 17 1003 rfl (swap0 hX) ?_
 refine good_weak (t' := [(73, I 0), (11, .ptr 1011 0), (17, .ptr 1003 0), (9, .im 1 1 (fun _ => .cons (I 0) .nil)), (16, I 0), (67, I 0), (66, I 1), (65, typesU), (8, S pool1), (2, .ptr 1002 0), (1, I 8)]) (h' := wHa 0 (zB) l v) (Wk.mk ⟨Sub.of_eq rfl, Sub.of_eq rfl, Sub.of_eq rfl, Sub.of_eq rfl, Sub.of_eq rfl, Sub.of_eq rfl, Sub.of_eq rfl, Sub.of_eq rfl, Sub.of_eq rfl, Sub.of_eq rfl, Sub.of_eq rfl, trivial⟩ ⟨⟨_, rfl, SubO.refl _⟩, ⟨_, rfl, SubO.refl _⟩, ⟨_, rfl, SubO.refl _⟩, ⟨_, rfl, SubO.refl _⟩, trivial⟩ rfl rfl (pin0 hX)) ?_
 refine good_callH rfl rfl rfl rfl ent210 (wputa_hc 0 zB l v 0 4 (by decide) (.inr (.inl ⟨rfl, by decide, by decide⟩))) rfl ?_
 refine good_swap 1021 1000 rfl (swap0 hX) ?_
 repeat' (first | refine stp tab2_ok rfl (by first | exact sideN | exact sideT (by omega)) ?_ | refine gT rfl rfl (by omega) ?_ | refine gF rfl rfl (by omega) ?_ | refine gNT rfl rfl (by omega) ?_ | refine gNF rfl rfl (by omega) ?_ | fail)
 refine good_call rfl rfl rfl rfl rfl ent211 (mark0_ac) rfl ?_
 refine good_weak (t' := [(77, I 0), (11, .ptr 1011 0), (17, .ptr 1003 0), (9, .im 1 1 (fun _ => .cons (I 0) .nil)), (16, I 0), (67, I 0), (66, I 1), (65, typesU), (8, S pool1), (2, .ptr 1002 0), (1, I 8)]) (h' := wHa (0 + 4) (catF 0 zB (putZ 0 4)) l v) (Wk.mk ⟨Sub.of_eq rfl, Sub.of_eq rfl, Sub.of_eq rfl, Sub.of_eq rfl, Sub.of_eq rfl, Sub.of_eq rfl, Sub.of_eq rfl, Sub.of_eq rfl, Sub.of_eq rfl, Sub.of_eq rfl, Sub.of_eq rfl, trivial⟩ ⟨⟨_, rfl, SubO.refl _⟩, ⟨_, rfl, SubO.refl _⟩, ⟨_, rfl, SubO.refl _⟩, ⟨_, rfl, SubO.refl _⟩, trivial⟩ rfl rfl (pin0 hX)) ?_
 refine good_callH rfl rfl rfl rfl ent210 (wputa_hc (0 + 4) (catF 0 zB (putZ 0 4)) l v 0 1 (by decide) (.inl ⟨rfl, by decide, by decide⟩)) rfl ?_
 refine good_swap 1021 1000 rfl (swap0 hX) ?_
 repeat' (first | refine stp tab2_ok rfl (by first | exact sideN | exact sideT (by omega)) ?_ | refine gT rfl rfl (by omega) ?_ | refine gF rfl rfl (by omega) ?_ | refine gNT rfl rfl (by omega) ?_ | refine gNF rfl rfl (by omega) ?_ | fail)
 refine good_weak (t' := [(82, I 0), (11, .ptr 1011 0), (17, .ptr 1003 0), (9, .im 1 1 (fun _ => .cons (I 0) .nil)), (16, I 0), (67, I 0), (66, I 1), (65, typesU), (8, S pool1), (2, .ptr 1002 0), (1, I 8)]) (h' := wHa (0 + 4 + 1) (catF 4 (catF 0 zB (putZ 0 4)) (putZ 0 1)) l v) (Wk.mk ⟨Sub.of_eq rfl, Sub.of_eq rfl, Sub.of_eq rfl, Sub.of_eq rfl, Sub.of_eq rfl, Sub.of_eq rfl, Sub.of_eq rfl, Sub.of_eq rfl, Sub.of_eq rfl, Sub.of_eq rfl, Sub.of_eq rfl, trivial⟩ ⟨⟨_, rfl, SubO.refl _⟩, ⟨_, rfl, SubO.refl _⟩, ⟨_, rfl, SubO.refl _⟩, ⟨_, rfl, SubO.refl _⟩, trivial⟩ rfl rfl (pin0 hX)) ?_
 refine good_callH rfl rfl rfl rfl ent210 (wputa_hc (0 + 4 + 1) (catF 4 (catF 0 zB (putZ 0 4)) (putZ 0 1)) l v 0 1 (by decide) (.inl ⟨rfl, by decide, by decide⟩)) rfl ?_
 refine good_swap 1021 1000 rfl (swap0 hX) ?_
 repeat' (first | refine stp tab2_ok rfl (by first | exact sideN | exact sideT (by omega)) ?_ | refine gT rfl rfl (by omega) ?_ | refine gF rfl rfl (by omega) ?_ | refine gNT rfl rfl (by omega) ?_ | refine gNF rfl rfl (by omega) ?_ | fail)
 obtain ⟨i5, q1, q2, q3, q4⟩ := info5
 have hp4 : pool1.size = 4 := rfl
 refine good_by rfl (ok_appendStr 88 31 9 _ _ 1000 5 6 pool1 _ _ _ i5 rfl rfl rfl (tab2_ok 31 _ rfl) rfl q1 q2 q3 q4 (tab2_ok 9 _ rfl) rfl rfl (by omega) (by decide)) rfl ?_
 refine good_swap 88 1000 rfl (swap0 hX) ?_
 repeat' (first | refine stp tab2_ok rfl (by first | exact sideN | exact sideT (by omega)) ?_ | refine gT rfl rfl (by omega) ?_ | refine gF rfl rfl (by omega) ?_ | refine gNT rfl rfl (by omega) ?_ | refine gNF rfl rfl (by omega) ?_ | fail)
 refine good_rounds (fun k : Nat => [(91, corrA l), (92, I l.length), (93, I k), (11, .ptr 1011 0), (2, .ptr 1002 0), (1, I 8)]) (fun k : Nat => [(1011, .box 287 (.cons (.own 1000) (.cons (B false) .nil))), (1000, .row 5 1 (10 + 12 * k) (encR l k)), (1002, .box 38 (zoneL l v))]) (fun k : Nat => l.length - k) (fun k : Nat => k ≤ l.length) 0 (Nat.zero_le _) (Wk.mk ⟨Sub.of_eq rfl, Sub.of_eq rfl, Sub.of_eq rfl, Sub.of_eq rfl, Sub.of_eq rfl, Sub.of_eq rfl, trivial⟩ ⟨⟨_, rfl, SubO.refl _⟩, ⟨_, rfl, SubO.refl _⟩, ⟨_, rfl, SubO.refl _⟩, trivial⟩ rfl rfl (pin0 hX)) (fun k hk => ?_)
 by_cases hlt : k < l.length
 ·have hck := hc k hlt
  repeat' (first | refine stp tab2_ok rfl (by first | exact sideN | exact sideT (by omega)) ?_ | refine gT rfl rfl (by omega) ?_ | refine gF rfl rfl (by omega) ?_ | refine gNT rfl rfl (by omega) ?_ | refine gNF rfl rfl (by omega) ?_ | fail)
  simp only [Int.toNat_natCast]
  refine good_swap 19 1003 rfl (swap0 hX) ?_
  refine good_weak (t' := [(98, I (l.getD k cr0).at_), (99, I 8), (2, .ptr 1002 0), (91, corrA l), (92, I l.length), (93, I k), (11, .ptr 1011 0), (19, .ptr 1003 0), (1, I 8)]) (h' := wHb (10 + 12 * k) (encR l k) l v (l.getD k cr0).at_ (l.getD k cr0).corr) (Wk.mk ⟨Sub.of_eq rfl, Sub.of_eq rfl, Sub.of_eq rfl, Sub.of_eq rfl, Sub.of_eq rfl, Sub.of_eq rfl, Sub.of_eq rfl, Sub.of_eq rfl, Sub.of_eq rfl, trivial⟩ ⟨⟨_, rfl, SubO.refl _⟩, ⟨_, rfl, SubO.refl _⟩, ⟨_, rfl, SubO.refl _⟩, ⟨_, rfl, SubO.refl _⟩, trivial⟩ rfl rfl (pin0 hX)) ?_
  refine good_callH rfl rfl rfl rfl ent210 (wputb_hc (10 + 12 * k) (encR l k) l v (l.getD k cr0).at_ (l.getD k cr0).corr (l.getD k cr0).at_ 8 (by omega) (.inr (.inr rfl))) rfl ?_
  refine good_swap 1021 1000 rfl (swap0 hX) ?_
  repeat' (first | refine stp tab2_ok rfl (by first | exact sideN | exact sideT (by omega)) ?_ | refine gT rfl rfl (by omega) ?_ | refine gF rfl rfl (by omega) ?_ | refine gNT rfl rfl (by omega) ?_ | refine gNF rfl rfl (by omega) ?_ | fail)
  refine good_weak (t' := [(102, I (l.getD k cr0).corr), (2, .ptr 1002 0), (91, corrA l), (92, I l.length), (93, I k), (11, .ptr 1011 0), (19, .ptr 1003 0), (1, I 8)]) (h' := wHb (10 + 12 * k + 8) (catF (10 + 12 * k) (encR l k) (putZ (l.getD k cr0).at_ 8)) l v (l.getD k cr0).at_ (l.getD k cr0).corr) (Wk.mk ⟨Sub.of_eq rfl, Sub.of_eq rfl, Sub.of_eq rfl, Sub.of_eq rfl, Sub.of_eq rfl, Sub.of_eq rfl, Sub.of_eq rfl, Sub.of_eq rfl, trivial⟩ ⟨⟨_, rfl, SubO.refl _⟩, ⟨_, rfl, SubO.refl _⟩, ⟨_, rfl, SubO.refl _⟩, ⟨_, rfl, SubO.refl _⟩, trivial⟩ rfl rfl (pin0 hX)) ?_
  refine good_callH rfl rfl rfl rfl ent210 (wputb_hc (10 + 12 * k + 8) (catF (10 + 12 * k) (encR l k) (putZ (l.getD k cr0).at_ 8)) l v (l.getD k cr0).at_ (l.getD k cr0).corr (l.getD k cr0).corr 4 (by omega) (.inr (.inl ⟨rfl, by omega, by omega⟩))) rfl ?_
  refine good_swap 1021 1000 rfl (swap0 hX) ?_
  repeat' (first | refine stp tab2_ok rfl (by first | exact sideN | exact sideT (by omega)) ?_ | refine gT rfl rfl (by omega) ?_ | refine gF rfl rfl (by omega) ?_ | refine gNT rfl rfl (by omega) ?_ | refine gNF rfl rfl (by omega) ?_ | fail)
  exact good_again (k + 1) (by omega) (by omega) (Wk.mk ⟨Sub.of_eq rfl, Sub.of_eq rfl, Sub.of_eq rfl, Sub.of_eq rfl, Sub.of_eq rfl, Sub.of_eq rfl, trivial⟩ ⟨⟨_, rfl, SubO.refl _⟩, ⟨_, rfl, ⟨rfl, rfl, by omega, fun i _ => rfl⟩⟩, ⟨_, rfl, SubO.refl _⟩, trivial⟩ rfl rfl (pin0 hX))
 ·obtain rfl : k = l.length := by omega
  repeat' (first | refine stp tab2_ok rfl (by first | exact sideN | exact sideT (by omega)) ?_ | refine gT rfl rfl (by omega) ?_ | refine gF rfl rfl (by omega) ?_ | refine gNT rfl rfl (by omega) ?_ | refine gNF rfl rfl (by omega) ?_ | fail)
  refine good_freeze 1000 rfl ?_
  repeat' (first | refine stp tab2_ok rfl (by first | exact sideN | exact sideT (by omega)) ?_ | refine gT rfl rfl (by omega) ?_ | refine gF rfl rfl (by omega) ?_ | refine gNT rfl rfl (by omega) ?_ | refine gNF rfl rfl (by omega) ?_ | refine gS rfl rfl (fun _ => ?_) (fun _ => ?_) | refine gNS rfl rfl (fun _ => ?_) (fun _ => ?_) | refine gBS rfl rfl (fun _ => ?_) (fun _ => ?_) | refine gBN rfl rfl (fun _ => ?_) (fun _ => ?_) | refine good_ret tab2_ok hX rfl (Sub.of_eq ?_) | refine good_end tab2_ok hX rfl (Sub.of_eq ?_) | fail)
  rfl
end Go.Proofs.YthjldemjipnmdaaGreatDoor.Sx
