/- lines: plain laws on words; no condition. -/
import Derived.Test.YtlljcfadfgnmjaaDoorLnL
namespace Go.Proofs.YtlljcfadfgnmjaaDoor.Ln
open Go.RowKit Go.Proofs.YtlljcfadfgnmjaaDoorW.PrintWords Go.Proofs.YtlljcfadfgnmjaaDoorW.PrintLast Go.Proofs.YtlljcfadfgnmjaaDoorW.PrintMore

def blankU (b : UInt8) : Bool := b == 32 || b == 9
/-- Words, byte by byte: the word that is being read, the bytes that are left. -/
def toks : List UInt8 → List UInt8 → List (List UInt8)
  | cur, [] => if cur = [] then [] else [cur]
  | cur, b :: r => if blankU b = true then (if cur = [] then toks [] r else cur :: toks [] r) else toks (cur ++ [b]) r
theorem toks_more : ∀ (m cur r : List UInt8), (∀ b ∈ m, blankU b = false) → toks cur (m ++ r) = toks (cur ++ m) r
  | [], cur, r, _ => by rw [List.append_nil]; rfl
  | b :: m, cur, r, h => by
    have hb := h b (by simp)
    rw [List.cons_append]
    show (if blankU b = true then _ else toks (cur ++ [b]) (m ++ r)) = _
    rw [hb, if_neg Bool.false_ne_true, toks_more m (cur ++ [b]) r (fun x hx => h x (by simp [hx])), List.append_assoc]
    rfl
theorem toks_blank {b : UInt8} (h : blankU b = true) (cur r : List UInt8) : toks cur (b :: r) = if cur = [] then toks [] r else cur :: toks [] r := by
  show (if blankU b = true then _ else _) = _
  rw [if_pos h]
theorem high_not_blank {b : UInt8} (h : 128 ≤ b.toNat) : blankU b = false := by
  unfold blankU
  rw [beq_eq_false_iff_ne.mpr (fun e => by rw [e] at h; exact absurd h (by decide)), beq_eq_false_iff_ne.mpr (fun e => by rw [e] at h; exact absurd h (by decide))]
  rfl
theorem get_at' {s : ByteArray} {pos : Nat} (h : pos < s.size) : s.data.toList.drop pos = s.get! pos :: s.data.toList.drop (pos + 1) := Ln.get_at h
/-- A rune and its bytes: a blank is one byte; else no byte of it is one. -/
theorem decode_blank {t : ByteArray} {pos : Nat} (h : pos < t.size) :
    (blankR (Utf8.decode t pos).1 = true ∧ (Utf8.decode t pos).2 = 1 ∧ blankU (t.get! pos) = true) ∨
    (blankR (Utf8.decode t pos).1 = false ∧ pos + (Utf8.decode t pos).2 ≤ t.size ∧ ∀ b ∈ (t.data.toList.drop pos).take (Utf8.decode t pos).2, blankU b = false) := by
  have hd := Lib.decode_at t pos
  have h0 : (t.get! pos).toNat < 256 := UInt8.toNat_lt _
  have hcases := Lib.decodeN_shape (t.size - pos) (t.get! pos).toNat (t.get! (pos + 1)).toNat (t.get! (pos + 2)).toNat (t.get! (pos + 3)).toNat
  rw [← hd] at hcases
  have key : ∀ (k : Nat), pos + k < t.size → (t.data.toList.drop pos)[k]? = some (t.get! (pos + k)) := fun k hk => by
    have h1 := get_at' hk
    have h2 := congrArg (fun l => l[0]?) h1
    simp only [List.getElem?_drop, Nat.add_zero, List.getElem?_cons_zero] at h2
    rw [List.getElem?_drop]
    exact h2
  have small : ∀ n : Nat, pos + n ≤ t.size → (∀ k < n, blankU (t.get! (pos + k)) = false) → ∀ b ∈ (t.data.toList.drop pos).take n, blankU b = false := fun n hn hk b hb => by
    obtain ⟨k, hk1, hk2⟩ := List.mem_iff_getElem.1 hb
    have hkn : k < n := by rw [List.length_take] at hk1; omega
    have h3 := key k (by omega)
    have h4 : ((t.data.toList.drop pos).take n)[k]? = some b := by rw [List.getElem?_eq_getElem hk1, hk2]
    rw [List.getElem?_take, if_pos hkn, h3] at h4
    injection h4 with h4
    rw [← h4]
    exact hk k hkn
  have hb1 : ∀ k, 128 ≤ (t.get! (pos + k)).toNat → blankU (t.get! (pos + k)) = false := fun k hk => high_not_blank hk
  rcases hcases with ⟨hlow, he⟩ | ⟨h1, h2, h3, h4, he⟩ | ⟨h1, h2, h3, h3', h4, h5, he⟩ | ⟨h1, h2, h3, h3', h3'', h4, h5, he⟩ | he
  · rw [he]
    by_cases hbl : (t.get! pos).toNat = 32 ∨ (t.get! pos).toNat = 9
    · left
      refine ⟨?_, rfl, ?_⟩
      · unfold blankR
        rcases hbl with e | e <;> rw [e] <;> rfl
      · unfold blankU
        rcases hbl with e | e
        · rw [show t.get! pos = 32 from UInt8.toNat_inj.mp e]; rfl
        · rw [show t.get! pos = 9 from UInt8.toNat_inj.mp e]; rfl
    · right
      refine ⟨?_, by simp only; omega, small 1 (by omega) (fun k hk => ?_)⟩
      · unfold blankR
        simp only
        rw [decide_eq_false (by omega), decide_eq_false (by omega)]
        rfl
      · obtain rfl : k = 0 := by omega
        rw [Nat.add_zero]
        unfold blankU
        rw [beq_eq_false_iff_ne.mpr (fun e => hbl (.inl (by rw [e]; rfl))), beq_eq_false_iff_ne.mpr (fun e => hbl (.inr (by rw [e]; rfl)))]
        rfl
  · right
    rw [he]
    refine ⟨by unfold blankR; simp only; rw [decide_eq_false (by omega), decide_eq_false (by omega)]; rfl, by simp only; omega, small 2 (by omega) (fun k hk => ?_)⟩
    have : k = 0 ∨ k = 1 := by omega
    rcases this with rfl | rfl
    · exact hb1 0 (by rw [Nat.add_zero]; omega)
    · exact hb1 1 (by omega)
  · right
    rw [he]
    refine ⟨by unfold blankR; simp only; rw [decide_eq_false (by omega), decide_eq_false (by omega)]; rfl, by simp only; omega, small 3 (by omega) (fun k hk => ?_)⟩
    have : k = 0 ∨ k = 1 ∨ k = 2 := by omega
    rcases this with rfl | rfl | rfl
    · exact hb1 0 (by rw [Nat.add_zero]; omega)
    · exact hb1 1 (by omega)
    · exact hb1 2 (by omega)
  · right
    rw [he]
    refine ⟨by unfold blankR; simp only; rw [decide_eq_false (by omega), decide_eq_false (by omega)]; rfl, by simp only; omega, small 4 (by omega) (fun k hk => ?_)⟩
    have : k = 0 ∨ k = 1 ∨ k = 2 ∨ k = 3 := by omega
    rcases this with rfl | rfl | rfl | rfl
    · exact hb1 0 (by rw [Nat.add_zero]; omega)
    · exact hb1 1 (by omega)
    · exact hb1 2 (by omega)
    · exact hb1 3 (by omega)
  · right
    rw [he]
    have hhigh : 128 ≤ (t.get! pos).toNat := by
      rcases Nat.lt_or_ge (t.get! pos).toNat 128 with hl | hl
      · have e2 : Lib.decodeN (t.size - pos) (t.get! pos).toNat (t.get! (pos + 1)).toNat (t.get! (pos + 2)).toNat (t.get! (pos + 3)).toNat = ((t.get! pos).toNat, 1) := by
          unfold Lib.decodeN; rw [if_pos hl]
        rw [hd, e2] at he
        injection he with e3 _
        omega
      · exact hl
    refine ⟨rfl, by simp only; omega, small 1 (by omega) (fun k hk => ?_)⟩
    obtain rfl : k = 0 := by omega
    exact hb1 0 (by rw [Nat.add_zero]; exact hhigh)
theorem size_len (s : ByteArray) : s.data.toList.length = s.size := (Lib.size_eq s).symm
set_option maxHeartbeats 1000000 in
/-- Rune by rune is byte by byte. -/
theorem words_toks {s t : ByteArray} (ht : t.data.toList = s.data.toList ++ [32]) : ∀ (f pos : Nat) (from_ : Int) (out : List ByteArray) (cur : List UInt8), t.size ≤ pos + f → pos ≤ t.size →
    ((from_ = -1 ∧ cur = []) ∨ (0 ≤ from_ ∧ from_ < pos ∧ pos < t.size ∧ cur = (t.data.toList.drop from_.toNat).take (pos - from_.toNat))) →
    (wordsR s t f pos from_ out).map (·.data.toList) = out.map (·.data.toList) ++ toks cur (t.data.toList.drop pos)
  | 0, pos, from_, out, cur, hf, hp, hc => by
    have hpe : pos = t.size := by omega
    have hc1 : from_ = -1 ∧ cur = [] := by
      rcases hc with h | ⟨_, _, h, _⟩
      · exact h
      · omega
    rw [List.drop_of_length_le (by rw [size_len]; omega), hc1.2]
    show out.map _ = out.map _ ++ []
    rw [List.append_nil]
  | f + 1, pos, from_, out, cur, hf, hp, hc => by
    have htl : t.data.toList.length = t.size := size_len t
    have hts : t.size = s.size + 1 := by rw [← htl, ht, List.length_append, size_len]; rfl
    unfold wordsR
    by_cases hps : pos < t.size
    · rw [if_pos hps]
      rcases decode_blank hps with ⟨hb, hk, hbu⟩ | ⟨hb, hk, hbu⟩
      · rw [hb, hk]
        rw [get_at' hps, toks_blank hbu]
        rcases hc with ⟨rfl, rfl⟩ | ⟨h0, h1, h2, hcur⟩
        · rw [decide_eq_false (by omega), if_pos rfl]
          exact words_toks ht f (pos + 1) (-1) out [] (by omega) (by omega) (.inl ⟨rfl, rfl⟩)
        · have hne : cur ≠ [] := fun e => by
            have := congrArg List.length hcur
            rw [e, List.length_take, List.length_drop, htl] at this
            simp only [List.length_nil] at this
            omega
          rw [decide_eq_true h0, if_neg hne]
          have ih := words_toks ht f (pos + 1) (-1) (out ++ [s.extract from_.toNat pos]) [] (by omega) (by omega) (.inl ⟨rfl, rfl⟩)
          refine ih.trans ?_
          have hx : (s.extract from_.toNat pos).data.toList = cur := by
            rw [Lib.extract_data, hcur, ht, List.drop_append_of_le_length (by rw [size_len]; omega), List.take_append_of_le_length (by rw [List.length_drop, size_len]; omega)]
          rw [List.map_append, List.append_assoc]
          show out.map _ ++ ([(s.extract from_.toNat pos).data.toList] ++ toks [] _) = _
          rw [hx]
          rfl
      · rw [hb]
        generalize hK : (Utf8.decode t pos).2 = K at *
        have hwd : 1 ≤ K := by rw [← hK]; exact Lib.width_pos t pos
        have hsp : t.data.toList.drop pos = (t.data.toList.drop pos).take K ++ t.data.toList.drop (pos + K) := by
          rw [← List.drop_drop, List.take_append_drop]
        have hlt : pos + K < t.size := by
          rcases Nat.lt_or_ge (pos + K) t.size with h | h
          · exact h
          · exfalso
            have hl : (32 : UInt8) ∈ (t.data.toList.drop pos).take K := by
              rw [List.take_of_length_le (by rw [List.length_drop, htl]; omega), ht, List.drop_append_of_le_length (by rw [size_len]; omega)]
              simp
            have := hbu 32 hl
            revert this
            decide
        rw [hsp, toks_more _ _ _ hbu]
        rcases hc with ⟨rfl, rfl⟩ | ⟨h0, h1, h2, hcur⟩
        · rw [decide_eq_false (by omega), List.nil_append]
          refine words_toks ht f (pos + K) (pos : Int) out _ (by omega) (by omega) (.inr ⟨by omega, by omega, hlt, ?_⟩)
          rw [Int.toNat_natCast]
          congr 1
          omega
        · rw [decide_eq_true h0]
          refine words_toks ht f (pos + K) from_ out _ (by omega) (by omega) (.inr ⟨h0, by omega, hlt, ?_⟩)
          have e : pos + K - from_.toNat = (pos - from_.toNat) + K := by omega
          rw [e, List.take_add, hcur, List.drop_drop]
          congr 3
          omega
    · have hc1 : from_ = -1 ∧ cur = [] := by
        rcases hc with h | ⟨_, _, h, _⟩
        · exact h
        · omega
      rw [if_neg hps, List.drop_of_length_le (by omega), hc1.2]
      show out.map _ = out.map _ ++ []
      rw [List.append_nil]
theorem toks_end {b : UInt8} (h : blankU b = true) : ∀ (l cur : List UInt8), toks cur (l ++ [b]) = toks cur l
  | [], cur => by
    rw [List.nil_append, toks_blank h]
    unfold toks
    by_cases hc : cur = []
    · rw [if_pos hc, if_pos hc]; rfl
    · rw [if_neg hc, if_neg hc]; rfl
  | x :: l, cur => by
    rw [List.cons_append]
    show (if blankU x = true then (if cur = [] then toks [] (l ++ [b]) else cur :: toks [] (l ++ [b])) else toks (cur ++ [x]) (l ++ [b])) = (if blankU x = true then (if cur = [] then toks [] l else cur :: toks [] l) else toks (cur ++ [x]) l)
    rw [toks_end h l [], toks_end h l (cur ++ [x])]
theorem words_data (s : ByteArray) : (wordsN s).map (·.data.toList) = toks [] s.data.toList := by
  have ht : (s ++ (⟨#[32]⟩ : ByteArray)).data.toList = s.data.toList ++ [32] := by rw [ByteArray.data_append, Array.toList_append]
  have hz : (s ++ (⟨#[32]⟩ : ByteArray)).size = s.size + 1 := by rw [ByteArray.size_append]; rfl
  have h := words_toks ht (s.size + 1) 0 (-1) [] [] (by omega) (by omega) (.inl ⟨rfl, rfl⟩)
  unfold wordsN
  rw [h, List.drop_zero, ht, toks_end (by decide)]
  rfl
/-- A word: not empty, no blank in it. -/
def IsWord (w : List UInt8) : Prop := w ≠ [] ∧ ∀ b ∈ w, blankU b = false
theorem toks_good : ∀ (l cur : List UInt8), (∀ b ∈ cur, blankU b = false) → ∀ w ∈ toks cur l, IsWord w
  | [], cur, h, w, hw => by
    unfold toks at hw
    split at hw
    · cases hw
    · rename_i hc
      rw [List.mem_singleton] at hw
      subst hw
      exact ⟨hc, h⟩
  | b :: l, cur, h, w, hw => by
    cases hb : blankU b with
    | true =>
      rw [toks_blank hb] at hw
      split at hw
      · exact toks_good l [] (fun x hx => by cases hx) w hw
      · rename_i hc
        rcases List.mem_cons.1 hw with e | hw
        · rw [e]; exact ⟨hc, h⟩
        · exact toks_good l [] (fun x hx => by cases hx) w hw
    | false =>
      have e : toks cur (b :: l) = toks (cur ++ [b]) l := by
        show (if blankU b = true then _ else _) = _
        rw [hb, if_neg Bool.false_ne_true]
      rw [e] at hw
      refine toks_good l (cur ++ [b]) (fun x hx => ?_) w hw
      rcases List.mem_append.1 hx with hx | hx
      · exact h x hx
      · rw [List.mem_singleton] at hx; rw [hx]; exact hb
theorem toks_sum : ∀ (l cur : List UInt8), ((toks cur l).map List.length).sum + l.countP blankU = cur.length + l.length
  | [], cur => by
    unfold toks
    by_cases hc : cur = []
    · rw [if_pos hc, hc]; rfl
    · rw [if_neg hc]; simp
  | b :: l, cur => by
    cases hb : blankU b with
    | true =>
      rw [toks_blank hb, List.countP_cons_of_pos hb]
      have ih := toks_sum l []
      simp only [List.length_nil] at ih
      by_cases hc : cur = []
      · rw [if_pos hc, hc, List.length_cons]; simp only [List.length_nil]; omega
      · rw [if_neg hc, List.map_cons, List.sum_cons, List.length_cons]; omega
    | false =>
      have e : toks cur (b :: l) = toks (cur ++ [b]) l := by
        show (if blankU b = true then _ else _) = _
        rw [hb, if_neg Bool.false_ne_true]
      rw [e, List.countP_cons_of_neg (by rw [hb]; exact Bool.false_ne_true)]
      have ih := toks_sum l (cur ++ [b])
      rw [List.length_append, List.length_singleton] at ih
      rw [List.length_cons]
      omega
theorem toks_word {w r : List UInt8} (h : IsWord w) : toks [] (w ++ 32 :: 9 :: r) = w :: toks [] r := by
  rw [toks_more w [] _ h.2, List.nil_append, toks_blank (by decide), if_neg h.1, toks_blank (by decide), if_pos rfl]
theorem toks_cat : ∀ (l : List (List UInt8)), (∀ w ∈ l, IsWord w) → toks [] (l.flatMap (fun w => w ++ [32, 9])) = l
  | [], _ => rfl
  | w :: l, h => by
    have e : (w :: l).flatMap (fun w => w ++ [32, 9]) = w ++ 32 :: 9 :: l.flatMap (fun w => w ++ [32, 9]) := by simp
    rw [e, toks_word (h w (by simp)), toks_cat l (fun x hx => h x (by simp [hx]))]
end Go.Proofs.YtlljcfadfgnmjaaDoor.Ln
