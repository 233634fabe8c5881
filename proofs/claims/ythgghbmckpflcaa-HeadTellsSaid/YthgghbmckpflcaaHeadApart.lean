/- HeadApart: unlike heads have unlike bytes; no condition. -/
import Derived.Test.YthgghbmckpflcaaHeadS
import Derived.Test.YthgghbmckpflcaaOctP
import Derived.Deep.QuietTactic
import Derived.BigQuiet
namespace Go.Proofs.Ythgghbmckpflcaa.Oct
open Go.RowKit Go.Proofs.YthgghbmckpflcaaW.PrintWords Go.Proofs.YthgghbmckpflcaaW.PrintLast Go.Proofs.YthgghbmckpflcaaW.PrintMore

theorem str_q {W : World} {A : Option Addr} {c : Nat} {l : List Int} {s : ByteArray} (h : Kd.C (Kd.int .u8) W A l.length l) (hs : strOfNums l = s) : ∀ nq, (convert 24 9 (.slice A l.length c)).run Try.prog (W.drewN nq) = .ok (.string s) (W.drewN nq) := fun nq => str_of (Kd.C_drewN h nq) hs
theorem bytes4_inj {a b : Int} (ha : 0 ≤ a ∧ a ≤ 2000) (hb : 0 ≤ b ∧ b ≤ 2000) (h : bytesS a 4 = bytesS b 4) : a = b := by
  rw [bytes4, bytes4] at h
  injection h with h1 h
  injection h with h2 h
  injection h with h3 h
  injection h with h4 h
  omega
theorem right_nums {v u s l t ty c : Int} (h : rightS v u s l t ty c = true) : (1 ≤ v ∧ v ≤ 4) ∧ (0 ≤ u ∧ u ≤ 2000) ∧ (0 ≤ s ∧ s ≤ 2000) ∧ (0 ≤ l ∧ l ≤ 2000) ∧ (0 ≤ t ∧ t ≤ 2000) ∧ (0 ≤ ty ∧ ty ≤ 2000) ∧ (0 ≤ c ∧ c ≤ 2000) := by
  have h := of_decide_eq_true h
  omega
theorem encS_inj {v u s l t ty c v' u' s' l' t' ty' c' : Int} (h : rightS v u s l t ty c = true) (h' : rightS v' u' s' l' t' ty' c' = true) (he : encS v u s l t ty c = encS v' u' s' l' t' ty' c') :
    v = v' ∧ u = u' ∧ s = s' ∧ l = l' ∧ t = t' ∧ ty = ty' ∧ c = c' := by
  obtain ⟨n0, n1, n2, n3, n4, n5, n6⟩ := right_nums h
  obtain ⟨m0, m1, m2, m3, m4, m5, m6⟩ := right_nums h'
  unfold encS at he
  obtain ⟨hp, he⟩ := List.append_inj he (by simp [preS])
  simp only [restS] at he
  obtain ⟨e1, he⟩ := List.append_inj he (by simp only [bytesS_length])
  obtain ⟨e2, he⟩ := List.append_inj he (by simp only [bytesS_length])
  obtain ⟨e3, he⟩ := List.append_inj he (by simp only [bytesS_length])
  obtain ⟨e4, he⟩ := List.append_inj he (by simp only [bytesS_length])
  obtain ⟨e5, he⟩ := List.append_inj he (by simp only [bytesS_length])
  obtain ⟨e6, _⟩ := List.append_inj he (by simp only [bytesS_length])
  refine ⟨?_, bytes4_inj n1 m1 e1, bytes4_inj n2 m2 e2, bytes4_inj n3 m3 e3, bytes4_inj n4 m4 e4, bytes4_inj n5 m5 e5, bytes4_inj n6 m6 e6⟩
  unfold preS at hp
  injection hp with _ hp
  injection hp with _ hp
  injection hp with _ hp
  injection hp with _ hp
  injection hp with hv _
  split at hv <;> split at hv <;> omega
theorem B8_cons {x : Int} {l : List Int} (h0 : 0 ≤ x ∧ x ≤ 255) (hl : B8 l) : B8 (x :: l) := fun y hy => by
  rcases List.mem_cons.1 hy with rfl | hy
  · exact h0
  · exact hl y hy
theorem B8_append {a b : List Int} (ha : B8 a) (hb : B8 b) : B8 (a ++ b) := fun y hy => by
  rcases List.mem_append.1 hy with hy | hy
  · exact ha y hy
  · exact hb y hy
theorem B8_rest : ∀ l : List Int, B8 (restS l)
  | [] => fun _ h => by cases h
  | n :: r => B8_append (bytes_B8 n 4) (B8_rest r)
theorem B8_enc {v u s l t ty c : Int} (h : rightS v u s l t ty c = true) : B8 (encS v u s l t ty c) := by
  obtain ⟨n0, _⟩ := right_nums h
  refine B8_append (B8_append ?_ ?_) (B8_rest _)
  · intro x hx
    simp only [List.mem_cons, List.not_mem_nil, or_false] at hx
    rcases hx with rfl | rfl | rfl | rfl | rfl
    · omega
    · omega
    · omega
    · omega
    · split <;> omega
  · intro x hx
    have := List.eq_of_mem_replicate hx
    omega
theorem toList_inj {a b : ByteArray} (h : a.toList = b.toList) : a = b := by
  rw [ByteArray.toList_eq, ByteArray.toList_eq] at h
  exact Go.WideShapes.bytes_inj h
theorem str_inj : ∀ {a b : List Int}, B8 a → B8 b → strOfNums a = strOfNums b → a = b := by
  intro a b ha hb h
  have h1 : a.map (fun n => n.toNat.toUInt8) = b.map (fun n => n.toNat.toUInt8) := by
    have h2 := congrArg (fun x => x.data.toList) h
    simpa [strOfNums] using h2
  clear h
  induction a generalizing b with
  | nil => cases b with
    | nil => rfl
    | cons y b => simp at h1
  | cons x a ih => cases b with
    | nil => simp at h1
    | cons y b =>
      simp only [List.map_cons, List.cons.injEq] at h1
      have hx := ha x (by simp)
      have hy := hb y (by simp)
      have h3 := congrArg UInt8.toNat h1.1
      simp at h3
      rw [ih (fun z hz => ha z (by simp [hz])) (fun z hz => hb z (by simp [hz])) h1.2]
      congr 1
      omega
theorem encF_true {v u s l t ty c : Int} {r : List Int} (h : encF v u s l t ty c = (r, true)) : rightS v u s l t ty c = true ∧ r = encS v u s l t ty c := by
  unfold encF at h
  cases hr : rightS v u s l t ty c with
  | true => rw [hr] at h; injection h with h1 _; exact ⟨rfl, h1.symm⟩
  | false => rw [hr] at h; injection h with _ h2; cases h2
theorem apart_ne {v u s l t ty c v' u' s' l' t' ty' c' : Int} {r1 r2 : List Int} (h1 : encF v u s l t ty c = (r1, true)) (h2 : encF v' u' s' l' t' ty' c' = (r2, true)) (he : ¬ (v = v' ∧ u = u' ∧ s = s' ∧ l = l' ∧ t = t' ∧ ty = ty' ∧ c = c')) :
    ((strOfNums r1).toList == (strOfNums r2).toList) = false := by
  obtain ⟨q1, rfl⟩ := encF_true h1
  obtain ⟨q2, rfl⟩ := encF_true h2
  rw [← Bool.not_eq_true]
  intro hb
  exact he (encS_inj q1 q2 (str_inj (B8_enc q1) (B8_enc q2) (toList_inj (beq_iff_eq.mp hb))))
theorem apart_same {v u s l t ty c : Int} {r1 r2 : List Int} (h1 : encF v u s l t ty c = (r1, true)) (h2 : encF v u s l t ty c = (r2, true)) :
    ((strOfNums r1).toList == (strOfNums r2).toList) = true := by
  have h := h1.symm.trans h2
  injection h with h _
  rw [h, beq_iff_eq]
theorem new_at (W : World) (q : Obj) (k : Nat) (hk : k = W.heap.size) : (W.alloc q).heap[k]? = some q := hk ▸ heap_alloc_new W q
theorem enc_is (v u s l t ty c : Int) (r1 : List Int) (r2 : Bool) (w : World) (h : encF v u s l t ty c = (r1, r2)) :
    Calls Try.prog 9 #[.agg #[.int .i64 v, .int .i64 u, .int .i64 s, .int .i64 l, .int .i64 t, .int .i64 ty, .int .i64 c]] w fun e w' => ∃ A1 c1, e = .returned (.tuple #[.slice A1 r1.length c1, .bool r2]) ∧ Kd.R (Kd.int .u8) 5 w' w.heap.size (fun _ => True) (.slice A1 r1.length c1) r1 ∧ Kd.C (Kd.int .u8) w' A1 r1.length r1 ∧ Below w.heap.size w w' :=
  (encode_calls v u s l t ty c r1 r2 w h).mono fun e w' ⟨v0, he, hR, hb⟩ => by
    obtain ⟨A1, c1, rfl, hc, hr⟩ := Kd.R_reads hR
    exact ⟨A1, c1, he, hR, hr, hb⟩
set_option maxHeartbeats 4000000 in
set_option maxRecDepth 100000 in
theorem apart_walk (v u s l t ty c v' u' s' l' t' ty' c' : Int) (w : World) :
    Calls Try.prog 7 #[.agg #[.int .i64 v, .int .i64 u, .int .i64 s, .int .i64 l, .int .i64 t, .int .i64 ty, .int .i64 c], .agg #[.int .i64 v', .int .i64 u', .int .i64 s', .int .i64 l', .int .i64 t', .int .i64 ty', .int .i64 c']] w fun e w' => e = .returned (.bool true) ∧ Below w.heap.size w w' := by
  obtain ⟨r1, b1, h1⟩ : ∃ r1 b1, encF v u s l t ty c = (r1, b1) := ⟨_, _, rfl⟩
  obtain ⟨r2, b2, h2⟩ : ∃ r2 b2, encF v' u' s' l' t' ty' c' = (r2, b2) := ⟨_, _, rfl⟩
  have H1 := Aside0.mk h1
  have H2 := Aside0.mk h2
  clear h1 h2
  go_enter Try.func7, Try.ntmps7
  go_wp2_with fail
  refine (small_calls true _ rfl).mono ?_
  rintro e w1 ⟨rfl, hb1⟩
  have HH1 : Aside0 (w1.heap[w.heap.size]? = some (hdB v u s l t ty c)) := ⟨blk_keep2 (heap_alloc_new w _) hb1⟩
  have HG1 : Aside0 (w1.heap[w.heap.size + 1]? = some (hdB v' u' s' l' t' ty' c')) := ⟨(hb1.block _ (by simp)).trans (new_at (w.alloc (hdB v u s l t ty c)) (hdB v' u' s' l' t' ty' c') _ (by simp))⟩
  have HB1 : Aside0 (Below w.heap.size w w1) := ⟨below_then (below_alloc (below_alloc (Below.refl _ _) _) _) (by simp; omega) hb1⟩
  obtain ⟨a0, a1, a2, a3, a4, a5, a6⟩ := cells7 HH1.out
  clear hb1
  go_wp2_with fail
  refine (enc_is v u s l t ty c r1 b1 _ H1.out).mono ?_
  rintro e w2 ⟨A1, c1, rfl, _, hr1, hb2⟩
  have HC2 := Aside0.mk hr1
  have HH2 := Aside0.mk (blk_keep HH1.out hb2)
  have HG2 := Aside0.mk (blk_keep HG1.out hb2)
  have HB2 : Aside0 (Below w.heap.size w w2) := ⟨below_then HB1.out HB1.out.size hb2⟩
  clear a0 a1 a2 a3 a4 a5 a6 hb2 hr1 HH1 HG1 HB1
  obtain ⟨a0, a1, a2, a3, a4, a5, a6⟩ := cells7 HG2.out
  go_wp2_with fail
  refine (enc_is v' u' s' l' t' ty' c' r2 b2 _ H2.out).mono ?_
  rintro e w3 ⟨A2, c2, rfl, _, hr2, hb3⟩
  have HC3 := Aside0.mk (Kd.C_below HC2.out hb3)
  have HD3 := Aside0.mk hr2
  have HH3 := Aside0.mk (blk_keep HH2.out hb3)
  have HG3 := Aside0.mk (blk_keep HG2.out hb3)
  have HB3 : Aside0 (Below w.heap.size w w3) := ⟨below_then HB2.out HB2.out.size hb3⟩
  clear a0 a1 a2 a3 a4 a5 a6 hb3 hr2 HH2 HG2 HB2 HC2
  obtain ⟨a0, a1, a2, a3, a4, a5, a6⟩ := cells7 HH3.out
  obtain ⟨x0, x1, x2, x3, x4, x5, x6⟩ := cells7 HG3.out
  cases b1 with
  | false =>
    go_wp2
    go_quiet (fail)
    go_wp2
    go_ret
    exact ⟨rfl, pw_below_drewN HB3.out _⟩
  | true =>
    cases b2 with
    | false =>
      go_wp2
      go_quiet (fail)
      go_wp2
      go_ret
      exact ⟨rfl, pw_below_drewN HB3.out _⟩
    | true =>
      by_cases e0 : v = v'
      · subst e0
        by_cases e1 : u = u'
        · subst e1
          by_cases e2 : s = s'
          · subst e2
            by_cases e3 : l = l'
            · subst e3
              by_cases e4 : t = t'
              · subst e4
                by_cases e5 : ty = ty'
                · subst e5
                  by_cases e6 : c = c'
                  · subst e6
                    have hq := apart_same H1.out H2.out
                    have hs1 := str_q (c := c1) HC3.out rfl
                    have hs2 := str_q (c := c2) HD3.out rfl
                    go_wp2
                    go_quiet (fail)
                    go_wp2
                    go_ret
                    exact ⟨rfl, pw_below_drewN HB3.out _⟩
                  · have hq := apart_ne H1.out H2.out (by rintro ⟨z0, z1, z2, z3, z4, z5, z6⟩; exact e6 z6)
                    have hs1 := str_q (c := c1) HC3.out rfl
                    have hs2 := str_q (c := c2) HD3.out rfl
                    go_wp2
                    go_quiet (fail)
                    go_wp2
                    go_ret
                    exact ⟨rfl, pw_below_drewN HB3.out _⟩
                · have hq := apart_ne H1.out H2.out (by rintro ⟨z0, z1, z2, z3, z4, z5, z6⟩; exact e5 z5)
                  have hs1 := str_q (c := c1) HC3.out rfl
                  have hs2 := str_q (c := c2) HD3.out rfl
                  go_wp2
                  go_quiet (fail)
                  go_wp2
                  go_ret
                  exact ⟨rfl, pw_below_drewN HB3.out _⟩
              · have hq := apart_ne H1.out H2.out (by rintro ⟨z0, z1, z2, z3, z4, z5, z6⟩; exact e4 z4)
                have hs1 := str_q (c := c1) HC3.out rfl
                have hs2 := str_q (c := c2) HD3.out rfl
                go_wp2
                go_quiet (fail)
                go_wp2
                go_ret
                exact ⟨rfl, pw_below_drewN HB3.out _⟩
            · have hq := apart_ne H1.out H2.out (by rintro ⟨z0, z1, z2, z3, z4, z5, z6⟩; exact e3 z3)
              have hs1 := str_q (c := c1) HC3.out rfl
              have hs2 := str_q (c := c2) HD3.out rfl
              go_wp2
              go_quiet (fail)
              go_wp2
              go_ret
              exact ⟨rfl, pw_below_drewN HB3.out _⟩
          · have hq := apart_ne H1.out H2.out (by rintro ⟨z0, z1, z2, z3, z4, z5, z6⟩; exact e2 z2)
            have hs1 := str_q (c := c1) HC3.out rfl
            have hs2 := str_q (c := c2) HD3.out rfl
            go_wp2
            go_quiet (fail)
            go_wp2
            go_ret
            exact ⟨rfl, pw_below_drewN HB3.out _⟩
        · have hq := apart_ne H1.out H2.out (by rintro ⟨z0, z1, z2, z3, z4, z5, z6⟩; exact e1 z1)
          have hs1 := str_q (c := c1) HC3.out rfl
          have hs2 := str_q (c := c2) HD3.out rfl
          go_wp2
          go_quiet (fail)
          go_wp2
          go_ret
          exact ⟨rfl, pw_below_drewN HB3.out _⟩
      · have hq := apart_ne H1.out H2.out (by rintro ⟨z0, z1, z2, z3, z4, z5, z6⟩; exact e0 z0)
        have hs1 := str_q (c := c1) HC3.out rfl
        have hs2 := str_q (c := c2) HD3.out rfl
        go_wp2
        go_quiet (fail)
        go_wp2
        go_ret
        exact ⟨rfl, pw_below_drewN HB3.out _⟩
end Go.Proofs.Ythgghbmckpflcaa.Oct
