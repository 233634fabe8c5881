/- Words, byte by byte, and the document's Words: plain laws; no condition. -/
import Derived.Test.YtncbhlionllpmaaNtW
import Derived.Test.YtncbhlionllpmaaPRWdsx1
namespace Go.Proofs.Ytncbhlionllpmaa.Nt
open Go.RowKit Go.Proofs.YtncbhlionllpmaaW.PrintWords Go.Proofs.YtncbhlionllpmaaW.PrintLast Go.Proofs.YtncbhlionllpmaaW.PrintMore Ln PRWds

/-- From some number of rounds on. -/
def Evn {α : Type} (f : Nat → Option α) (r : α) : Prop := ∃ k0, ∀ k, k0 ≤ k → f k = some r
theorem Evn.step {α : Type} {f g : Nat → Option α} {r : α} (h : Evn f r) (hg : ∀ k, g (k + 1) = f k) : Evn g r := by
  obtain ⟨k0, hk⟩ := h
  refine ⟨k0 + 1, fun k hk' => ?_⟩
  obtain ⟨m, rfl⟩ : ∃ m, k = m + 1 := ⟨k - 1, by omega⟩
  rw [hg]
  exact hk m (by omega)
theorem Evn.now {α : Type} {g : Nat → Option α} {r : α} (hg : ∀ k, g (k + 1) = some r) : Evn g r :=
  Evn.step (f := fun _ => some r) ⟨0, fun _ _ => rfl⟩ hg
theorem Evn.all {α : Type} {g : Nat → Option α} {r : α} (hg : ∀ k, g k = some r) : Evn g r := ⟨0, fun k _ => hg k⟩
theorem Evn.bind {α β : Type} {f : Nat → Option α} {g : Nat → α → Option β} {a : α} {r : β} (h1 : Evn f a) (h2 : Evn (fun k => g k a) r) : Evn (fun k => (f k).bind (g k)) r := by
  obtain ⟨k1, e1⟩ := h1
  obtain ⟨k2, e2⟩ := h2
  refine ⟨max k1 k2, fun k hk => ?_⟩
  show (f k).bind (g k) = some r
  rw [e1 k (by omega), Option.bind_some]
  exact e2 k (by omega)
theorem Evn.get {α : Type} {f : Nat → Option α} {r : α} (h : Evn f r) : ∃ k, f k = some r := by
  obtain ⟨k0, hk⟩ := h
  exact ⟨k0, hk k0 (Nat.le_refl _)⟩
theorem w64 {x : Int} (h : -9223372036854775808 ≤ x ∧ x ≤ 9223372036854775807) : wrap64 x = x := by
  unfold wrap64; omega
theorem next_i {i : Nat} (h : i < 9223372036854775807) : wrap64 ((i : Int) + 1) = ((i + 1 : Nat) : Int) := by
  rw [w64 (by omega)]; omega
theorem get_lt {s : ByteArray} {k : Nat} {x : UInt8} (h : s.data[k]? = some x) : k < s.size := by
  by_cases hk : k < s.data.size
  · exact hk
  · rw [Array.getElem?_eq_none (by omega)] at h; cases h
theorem bt_get {s : ByteArray} {k : Nat} {x : UInt8} (h : s.data[k]? = some x) : bt s (k : Int) = x.toNat := by
  have hlt := get_lt h
  unfold bt
  rw [dif_pos (by simpa using hlt)]
  have h2 : s.data[k]? = some (s.data[k]'hlt) := Array.getElem?_eq_getElem hlt
  rw [h2] at h
  injection h with h
  rw [← h]
  rfl
theorem has_at {s : ByteArray} {j : Nat} (h : j < s.size) : ∃ x : UInt8, s.data[j]? = some x := ⟨s.data[j]'h, Array.getElem?_eq_getElem h⟩
theorem bytes_eq {s t : ByteArray} (h : s.data.toList = t.data.toList) : s = t := by
  cases s; cases t
  congr
  exact Array.toList_inj.mp h
theorem data_inj {l m : List ByteArray} (h : l.map (·.data.toList) = m.map (·.data.toList)) : l = m := by
  have : ∀ (l m : List ByteArray), l.map (·.data.toList) = m.map (·.data.toList) → l = m := by
    intro l
    induction l with
    | nil => intro m h; cases m with
      | nil => rfl
      | cons _ _ => cases h
    | cons x l ih =>
      intro m h
      cases m with
      | nil => cases h
      | cons y m =>
        injection h with h1 h2
        rw [bytes_eq h1, ih m h2]
  exact this l m h
def blankU (b : UInt8) : Bool := b == 32 || b == 9
/-- Words, byte by byte: the word that is being read, the bytes that are left. -/
def toks : List UInt8 → List UInt8 → List (List UInt8)
  | cur, [] => if cur = [] then [] else [cur]
  | cur, b :: r => if blankU b = true then (if cur = [] then toks [] r else cur :: toks [] r) else toks (cur ++ [b]) r
theorem toks_more : ∀ (m cur r : List UInt8), (∀ b ∈ m, blankU b = false) → toks cur (m ++ r) = toks (cur ++ m) r
  | [], cur, r, _ => by rw [List.append_nil]; rfl
  | b :: m, cur, r, h => by
    have hb := h b (by simp)
    rw [List.cons_append]
    show (if blankU b = true then _ else toks (cur ++ [b]) (m ++ r)) = _
    rw [hb, if_neg Bool.false_ne_true, toks_more m (cur ++ [b]) r (fun x hx => h x (by simp [hx])), List.append_assoc]
    rfl
theorem toks_blank {b : UInt8} (h : blankU b = true) (cur r : List UInt8) : toks cur (b :: r) = if cur = [] then toks [] r else cur :: toks [] r := by
  show (if blankU b = true then _ else _) = _
  rw [if_pos h]
theorem high_not_blank {b : UInt8} (h : 128 ≤ b.toNat) : blankU b = false := by
  unfold blankU
  rw [beq_eq_false_iff_ne.mpr (fun e => by rw [e] at h; exact absurd h (by decide)), beq_eq_false_iff_ne.mpr (fun e => by rw [e] at h; exact absurd h (by decide))]
  rfl
theorem get_at' {s : ByteArray} {pos : Nat} (h : pos < s.size) : s.data.toList.drop pos = s.get! pos :: s.data.toList.drop (pos + 1) := get_at h
/-- A rune and its bytes: a blank is one byte; else no byte of it is one. -/
theorem decode_blank {t : ByteArray} {pos : Nat} (h : pos < t.size) :
    (blankR (Utf8.decode t pos).1 = true ∧ (Utf8.decode t pos).2 = 1 ∧ blankU (t.get! pos) = true) ∨
    (blankR (Utf8.decode t pos).1 = false ∧ pos + (Utf8.decode t pos).2 ≤ t.size ∧ ∀ b ∈ (t.data.toList.drop pos).take (Utf8.decode t pos).2, blankU b = false) := by
  have hd := Lib.decode_at t pos
  have h0 : (t.get! pos).toNat < 256 := UInt8.toNat_lt _
  have hcases := Lib.decodeN_shape (t.size - pos) (t.get! pos).toNat (t.get! (pos + 1)).toNat (t.get! (pos + 2)).toNat (t.get! (pos + 3)).toNat
  rw [← hd] at hcases
  have key : ∀ (k : Nat), pos + k < t.size → (t.data.toList.drop pos)[k]? = some (t.get! (pos + k)) := fun k hk => by
    have h1 := get_at' hk
    have h2 := congrArg (fun l => l[0]?) h1
    simp only [List.getElem?_drop, Nat.add_zero, List.getElem?_cons_zero] at h2
    rw [List.getElem?_drop]
    exact h2
  have small : ∀ n : Nat, pos + n ≤ t.size → (∀ k < n, blankU (t.get! (pos + k)) = false) → ∀ b ∈ (t.data.toList.drop pos).take n, blankU b = false := fun n hn hk b hb => by
    obtain ⟨k, hk1, hk2⟩ := List.mem_iff_getElem.1 hb
    have hkn : k < n := by rw [List.length_take] at hk1; omega
    have h3 := key k (by omega)
    have h4 : ((t.data.toList.drop pos).take n)[k]? = some b := by rw [List.getElem?_eq_getElem hk1, hk2]
    rw [List.getElem?_take, if_pos hkn, h3] at h4
    injection h4 with h4
    rw [← h4]
    exact hk k hkn
  have hb1 : ∀ k, 128 ≤ (t.get! (pos + k)).toNat → blankU (t.get! (pos + k)) = false := fun k hk => high_not_blank hk
  rcases hcases with ⟨hlow, he⟩ | ⟨h1, h2, h3, h4, he⟩ | ⟨h1, h2, h3, h3', h4, h5, he⟩ | ⟨h1, h2, h3, h3', h3'', h4, h5, he⟩ | he
  · rw [he]
    by_cases hbl : (t.get! pos).toNat = 32 ∨ (t.get! pos).toNat = 9
    · left
      refine ⟨?_, rfl, ?_⟩
      · unfold blankR
        rcases hbl with e | e <;> rw [e] <;> rfl
      · unfold blankU
        rcases hbl with e | e
        · rw [show t.get! pos = 32 from UInt8.toNat_inj.mp e]; rfl
        · rw [show t.get! pos = 9 from UInt8.toNat_inj.mp e]; rfl
    · right
      refine ⟨?_, by simp only; omega, small 1 (by omega) (fun k hk => ?_)⟩
      · unfold blankR
        simp only
        rw [decide_eq_false (by omega), decide_eq_false (by omega)]
        rfl
      · obtain rfl : k = 0 := by omega
        rw [Nat.add_zero]
        unfold blankU
        rw [beq_eq_false_iff_ne.mpr (fun e => hbl (.inl (by rw [e]; rfl))), beq_eq_false_iff_ne.mpr (fun e => hbl (.inr (by rw [e]; rfl)))]
        rfl
  · right
    rw [he]
    refine ⟨by unfold blankR; simp only; rw [decide_eq_false (by omega), decide_eq_false (by omega)]; rfl, by simp only; omega, small 2 (by omega) (fun k hk => ?_)⟩
    have : k = 0 ∨ k = 1 := by omega
    rcases this with rfl | rfl
    · exact hb1 0 (by rw [Nat.add_zero]; omega)
    · exact hb1 1 (by omega)
  · right
    rw [he]
    refine ⟨by unfold blankR; simp only; rw [decide_eq_false (by omega), decide_eq_false (by omega)]; rfl, by simp only; omega, small 3 (by omega) (fun k hk => ?_)⟩
    have : k = 0 ∨ k = 1 ∨ k = 2 := by omega
    rcases this with rfl | rfl | rfl
    · exact hb1 0 (by rw [Nat.add_zero]; omega)
    · exact hb1 1 (by omega)
    · exact hb1 2 (by omega)
  · right
    rw [he]
    refine ⟨by unfold blankR; simp only; rw [decide_eq_false (by omega), decide_eq_false (by omega)]; rfl, by simp only; omega, small 4 (by omega) (fun k hk => ?_)⟩
    have : k = 0 ∨ k = 1 ∨ k = 2 ∨ k = 3 := by omega
    rcases this with rfl | rfl | rfl | rfl
    · exact hb1 0 (by rw [Nat.add_zero]; omega)
    · exact hb1 1 (by omega)
    · exact hb1 2 (by omega)
    · exact hb1 3 (by omega)
  · right
    rw [he]
    have hhigh : 128 ≤ (t.get! pos).toNat := by
      rcases Nat.lt_or_ge (t.get! pos).toNat 128 with hl | hl
      · have e2 : Lib.decodeN (t.size - pos) (t.get! pos).toNat (t.get! (pos + 1)).toNat (t.get! (pos + 2)).toNat (t.get! (pos + 3)).toNat = ((t.get! pos).toNat, 1) := by
          unfold Lib.decodeN; rw [if_pos hl]
        rw [hd, e2] at he
        injection he with e3 _
        omega
      · exact hl
    refine ⟨rfl, by simp only; omega, small 1 (by omega) (fun k hk => ?_)⟩
    obtain rfl : k = 0 := by omega
    exact hb1 0 (by rw [Nat.add_zero]; exact hhigh)
set_option maxHeartbeats 1000000 in
/-- Rune by rune is byte by byte. -/
theorem words_toks {s t : ByteArray} (ht : t.data.toList = s.data.toList ++ [32]) : ∀ (f pos : Nat) (from_ : Int) (out : List ByteArray) (cur : List UInt8), t.size ≤ pos + f → pos ≤ t.size →
    ((from_ = -1 ∧ cur = []) ∨ (0 ≤ from_ ∧ from_ < pos ∧ pos < t.size ∧ cur = (t.data.toList.drop from_.toNat).take (pos - from_.toNat))) →
    (wordsR s t f pos from_ out).map (·.data.toList) = out.map (·.data.toList) ++ toks cur (t.data.toList.drop pos)
  | 0, pos, from_, out, cur, hf, hp, hc => by
    have hpe : pos = t.size := by omega
    have hc1 : from_ = -1 ∧ cur = [] := by
      rcases hc with h | ⟨_, _, h, _⟩
      · exact h
      · omega
    rw [List.drop_of_length_le (by rw [size_len]; omega), hc1.2]
    show out.map _ = out.map _ ++ []
    rw [List.append_nil]
  | f + 1, pos, from_, out, cur, hf, hp, hc => by
    have htl : t.data.toList.length = t.size := size_len t
    have hts : t.size = s.size + 1 := by rw [← htl, ht, List.length_append, size_len]; rfl
    unfold wordsR
    by_cases hps : pos < t.size
    · rw [if_pos hps]
      rcases decode_blank hps with ⟨hb, hk, hbu⟩ | ⟨hb, hk, hbu⟩
      · rw [hb, hk]
        rw [get_at' hps, toks_blank hbu]
        rcases hc with ⟨rfl, rfl⟩ | ⟨h0, h1, h2, hcur⟩
        · rw [decide_eq_false (by omega), if_pos rfl]
          exact words_toks ht f (pos + 1) (-1) out [] (by omega) (by omega) (.inl ⟨rfl, rfl⟩)
        · have hne : cur ≠ [] := fun e => by
            have := congrArg List.length hcur
            rw [e, List.length_take, List.length_drop, htl] at this
            simp only [List.length_nil] at this
            omega
          rw [decide_eq_true h0, if_neg hne]
          have ih := words_toks ht f (pos + 1) (-1) (out ++ [s.extract from_.toNat pos]) [] (by omega) (by omega) (.inl ⟨rfl, rfl⟩)
          refine ih.trans ?_
          have hx : (s.extract from_.toNat pos).data.toList = cur := by
            rw [Lib.extract_data, hcur, ht, List.drop_append_of_le_length (by rw [size_len]; omega), List.take_append_of_le_length (by rw [List.length_drop, size_len]; omega)]
          rw [List.map_append, List.append_assoc]
          show out.map _ ++ ([(s.extract from_.toNat pos).data.toList] ++ toks [] _) = _
          rw [hx]
          rfl
      · rw [hb]
        generalize hK : (Utf8.decode t pos).2 = K at *
        have hwd : 1 ≤ K := by rw [← hK]; exact Lib.width_pos t pos
        have hsp : t.data.toList.drop pos = (t.data.toList.drop pos).take K ++ t.data.toList.drop (pos + K) := by
          rw [← List.drop_drop, List.take_append_drop]
        have hlt : pos + K < t.size := by
          rcases Nat.lt_or_ge (pos + K) t.size with h | h
          · exact h
          · exfalso
            have hl : (32 : UInt8) ∈ (t.data.toList.drop pos).take K := by
              rw [List.take_of_length_le (by rw [List.length_drop, htl]; omega), ht, List.drop_append_of_le_length (by rw [size_len]; omega)]
              simp
            have := hbu 32 hl
            revert this
            decide
        rw [hsp, toks_more _ _ _ hbu]
        rcases hc with ⟨rfl, rfl⟩ | ⟨h0, h1, h2, hcur⟩
        · rw [decide_eq_false (by omega), List.nil_append]
          refine words_toks ht f (pos + K) (pos : Int) out _ (by omega) (by omega) (.inr ⟨by omega, by omega, hlt, ?_⟩)
          rw [Int.toNat_natCast]
          congr 1
          omega
        · rw [decide_eq_true h0]
          refine words_toks ht f (pos + K) from_ out _ (by omega) (by omega) (.inr ⟨h0, by omega, hlt, ?_⟩)
          have e : pos + K - from_.toNat = (pos - from_.toNat) + K := by omega
          rw [e, List.take_add, hcur, List.drop_drop]
          congr 3
          omega
    · have hc1 : from_ = -1 ∧ cur = [] := by
        rcases hc with h | ⟨_, _, h, _⟩
        · exact h
        · omega
      rw [if_neg hps, List.drop_of_length_le (by omega), hc1.2]
      show out.map _ = out.map _ ++ []
      rw [List.append_nil]
theorem toks_end {b : UInt8} (h : blankU b = true) : ∀ (l cur : List UInt8), toks cur (l ++ [b]) = toks cur l
  | [], cur => by
    rw [List.nil_append, toks_blank h]
    unfold toks
    by_cases hc : cur = []
    · rw [if_pos hc, if_pos hc]; rfl
    · rw [if_neg hc, if_neg hc]; rfl
  | x :: l, cur => by
    rw [List.cons_append]
    show (if blankU x = true then (if cur = [] then toks [] (l ++ [b]) else cur :: toks [] (l ++ [b])) else toks (cur ++ [x]) (l ++ [b])) = (if blankU x = true then (if cur = [] then toks [] l else cur :: toks [] l) else toks (cur ++ [x]) l)
    rw [toks_end h l [], toks_end h l (cur ++ [x])]
theorem words_data (s : ByteArray) : (wordsN s).map (·.data.toList) = toks [] s.data.toList := by
  have ht : (s ++ (⟨#[32]⟩ : ByteArray)).data.toList = s.data.toList ++ [32] := by rw [ByteArray.data_append, Array.toList_append]
  have hz : (s ++ (⟨#[32]⟩ : ByteArray)).size = s.size + 1 := by rw [ByteArray.size_append]; rfl
  have h := words_toks ht (s.size + 1) 0 (-1) [] [] (by omega) (by omega) (.inl ⟨rfl, rfl⟩)
  unfold wordsN
  rw [h, List.drop_zero, ht, toks_end (by decide)]
  rfl
/-- A word: not empty, no blank in it. -/
def IsWord (w : List UInt8) : Prop := w ≠ [] ∧ ∀ b ∈ w, blankU b = false
theorem toks_good : ∀ (l cur : List UInt8), (∀ b ∈ cur, blankU b = false) → ∀ w ∈ toks cur l, IsWord w
  | [], cur, h, w, hw => by
    unfold toks at hw
    split at hw
    · cases hw
    · rename_i hc
      rw [List.mem_singleton] at hw
      subst hw
      exact ⟨hc, h⟩
  | b :: l, cur, h, w, hw => by
    cases hb : blankU b with
    | true =>
      rw [toks_blank hb] at hw
      split at hw
      · exact toks_good l [] (fun x hx => by cases hx) w hw
      · rename_i hc
        rcases List.mem_cons.1 hw with e | hw
        · rw [e]; exact ⟨hc, h⟩
        · exact toks_good l [] (fun x hx => by cases hx) w hw
    | false =>
      have e : toks cur (b :: l) = toks (cur ++ [b]) l := by
        show (if blankU b = true then _ else _) = _
        rw [hb, if_neg Bool.false_ne_true]
      rw [e] at hw
      refine toks_good l (cur ++ [b]) (fun x hx => ?_) w hw
      rcases List.mem_append.1 hx with hx | hx
      · exact h x hx
      · rw [List.mem_singleton] at hx; rw [hx]; exact hb
theorem toks_sum : ∀ (l cur : List UInt8), ((toks cur l).map List.length).sum + l.countP blankU = cur.length + l.length
  | [], cur => by
    unfold toks
    by_cases hc : cur = []
    · rw [if_pos hc, hc]; rfl
    · rw [if_neg hc]; simp
  | b :: l, cur => by
    cases hb : blankU b with
    | true =>
      rw [toks_blank hb, List.countP_cons_of_pos hb]
      have ih := toks_sum l []
      simp only [List.length_nil] at ih
      by_cases hc : cur = []
      · rw [if_pos hc, hc, List.length_cons]; simp only [List.length_nil]; omega
      · rw [if_neg hc, List.map_cons, List.sum_cons, List.length_cons]; omega
    | false =>
      have e : toks cur (b :: l) = toks (cur ++ [b]) l := by
        show (if blankU b = true then _ else _) = _
        rw [hb, if_neg Bool.false_ne_true]
      rw [e, List.countP_cons_of_neg (by rw [hb]; exact Bool.false_ne_true)]
      have ih := toks_sum l (cur ++ [b])
      rw [List.length_append, List.length_singleton] at ih
      rw [List.length_cons]
      omega
theorem toks_word {w r : List UInt8} (h : IsWord w) : toks [] (w ++ 32 :: 9 :: r) = w :: toks [] r := by
  rw [toks_more w [] _ h.2, List.nil_append, toks_blank (by decide), if_neg h.1, toks_blank (by decide), if_pos rfl]
theorem toks_cat : ∀ (l : List (List UInt8)), (∀ w ∈ l, IsWord w) → toks [] (l.flatMap (fun w => w ++ [32, 9])) = l
  | [], _ => rfl
  | w :: l, h => by
    have e : (w :: l).flatMap (fun w => w ++ [32, 9]) = w ++ 32 :: 9 :: l.flatMap (fun w => w ++ [32, 9]) := by simp
    rw [e, toks_word (h w (by simp)), toks_cat l (fun x hx => h x (by simp [hx]))]
theorem drop_at {s : ByteArray} {j : Nat} {x : UInt8} (hx : s.data[j]? = some x) : s.data.toList.drop j = x :: s.data.toList.drop (j + 1) := by
  have h2 : s.data.toList[j]? = some x := by rw [Array.getElem?_toList]; exact hx
  obtain ⟨h3, h4⟩ := List.getElem?_eq_some_iff.1 h2
  rw [← h4]
  exact List.drop_eq_getElem_cons h3
theorem take_at {s : ByteArray} {j : Nat} {x : UInt8} (hx : s.data[j]? = some x) : s.data.toList.take (j + 1) = s.data.toList.take j ++ [x] := by
  rw [List.take_add_one, Array.getElem?_toList, hx]; rfl
theorem cur_at {s : ByteArray} {a j : Nat} {x : UInt8} (ha : a ≤ j) (hx : s.data[j]? = some x) : (s.data.toList.drop a).take (j + 1 - a) = (s.data.toList.drop a).take (j - a) ++ [x] := by
  have e : j + 1 - a = (j - a) + 1 := by omega
  rw [e, List.take_add_one, List.getElem?_drop, show a + (j - a) = j from by omega, Array.getElem?_toList, hx]
  rfl
def bytesL (l : List (List UInt8)) : List ByteArray := l.map (fun x => (⟨x.toArray⟩ : ByteArray))
theorem bytesL_data (l : List (List UInt8)) : (bytesL l).map (·.data.toList) = l := by
  unfold bytesL
  rw [List.map_map]
  exact List.map_id _
/-! Words -/
theorem ref_blank (x : UInt8) : epactref05_blank.f (x.toNat : Int) = some (blankU x) := by
  unfold epactref05_blank.f blankU
  by_cases h : (x.toNat : Int) = 32
  · rw [if_pos h, show x = 32 from UInt8.toNat_inj.mp (by show x.toNat = 32; omega)]; rfl
  · rw [if_neg h]
    congr 1
    rw [beq_eq_false_iff_ne.mpr (show x ≠ 32 from fun e => h (by rw [e]; rfl)), Bool.false_or, Bool.eq_iff_iff, beq_iff_eq, beq_iff_eq]
    constructor
    · intro e; exact UInt8.toNat_inj.mp (by show x.toNat = 9; omega)
    · intro e; rw [e]; rfl
theorem toks_one {b : UInt8} (h : blankU b = false) (cur r : List UInt8) : toks cur (b :: r) = toks (cur ++ [b]) r := by
  show (if blankU b = true then _ else _) = _
  rw [h, if_neg Bool.false_ne_true]
theorem ref_words {s : ByteArray} (hs : s.size ≤ 500) : ∀ (d j : Nat) (out : List ByteArray), j + d = s.size → out.length ≤ j →
    Evn (fun k => epactref05_Words.l0 k s out (j : Int)) (out ++ bytesL (toks [] (s.data.toList.drop j))) ∧
    ∀ a, a < j → Evn (fun k => epactref05_Words.l1 k s out (j : Int) (a : Int)) (out ++ bytesL (toks ((s.data.toList.drop a).take (j - a)) (s.data.toList.drop j)))
  | 0, j, out, hj, hout => by
    have hss := Lib.size_eq s
    have hd : s.data.toList.drop j = [] := List.drop_of_length_le (by omega)
    rw [hd]
    constructor
    · refine Evn.now fun k => ?_
      rw [epactref05_Words.l0, if_neg (by omega)]
      show some out = some (out ++ [])
      rw [List.append_nil]
    · intro a ha
      have hne : (s.data.toList.drop a).take (j - a) ≠ [] := fun e => by
        have := congrArg List.length e
        rw [List.length_take, List.length_drop] at this
        simp only [List.length_nil] at this
        omega
      have e1 : toks ((s.data.toList.drop a).take (j - a)) [] = [(s.data.toList.drop a).take (j - a)] := by
        show (if _ = [] then _ else _) = _
        rw [if_neg hne]
      rw [e1]
      refine Evn.step (Evn.now (g := fun k => epactref05_Words.l0 k s (out ++ [s.extract a j]) ((j + 1 : Nat) : Int)) fun k => ?_) fun k => ?_
      · rw [epactref05_Words.l0, if_neg (by omega)]
        congr 2
        show [s.extract a j] = [_]
        congr 1
        exact bytes_eq (Lib.extract_data _ _ _)
      · rw [epactref05_Words.l1, if_neg (by omega), if_pos (by omega), if_pos (by omega), if_pos (by omega), if_pos (by omega), Int.toNat_natCast, Int.toNat_natCast, next_i (by omega)]
  | d + 1, j, out, hj, hout => by
    have hss := Lib.size_eq s
    obtain ⟨x, hx⟩ := has_at (s := s) (j := j) (by omega)
    have hb := bt_get hx
    rw [drop_at hx]
    cases hbl : blankU x with
    | true =>
      constructor
      · rw [toks_blank hbl, if_pos rfl]
        refine Evn.step (ref_words hs d (j + 1) out (by omega) (by omega)).1 fun k => ?_
        rw [epactref05_Words.l0, if_pos (by omega), if_pos (by omega), hb, ref_blank, hbl, Option.bind_some, if_pos rfl, next_i (by omega)]
      · intro a ha
        have hne : (s.data.toList.drop a).take (j - a) ≠ [] := fun e => by
          have := congrArg List.length e
          rw [List.length_take, List.length_drop] at this
          simp only [List.length_nil] at this
          omega
        rw [toks_blank hbl, if_neg hne]
        have ih := (ref_words hs d (j + 1) (out ++ [s.extract a j]) (by omega) (by rw [List.length_append, List.length_singleton]; omega)).1
        rw [List.append_assoc, show s.extract a j = ⟨((s.data.toList.drop a).take (j - a)).toArray⟩ from bytes_eq (Lib.extract_data _ _ _)] at ih
        refine Evn.step ih fun k => ?_
        rw [epactref05_Words.l1, if_pos (by omega), if_pos (by omega), hb, ref_blank, hbl, Option.bind_some, if_pos rfl, if_pos (by omega), if_pos (by omega), if_pos (by omega), if_pos (by omega), Int.toNat_natCast, Int.toNat_natCast, next_i (by omega), show s.extract a j = ⟨((s.data.toList.drop a).take (j - a)).toArray⟩ from bytes_eq (Lib.extract_data _ _ _)]
    | false =>
      constructor
      · have ih := (ref_words hs d (j + 1) out (by omega) (by omega)).2 j (by omega)
        rw [cur_at (Nat.le_refl j) hx, Nat.sub_self, List.take_zero] at ih
        rw [toks_one hbl]
        refine Evn.step (Evn.step (g := fun k => epactref05_Words.l1 k s out (j : Int) (j : Int)) ih fun k => ?_) fun k => ?_
        · rw [epactref05_Words.l1, if_pos (by omega), if_pos (by omega), hb, ref_blank, hbl, Option.bind_some, if_neg Bool.false_ne_true, next_i (by omega)]
        · rw [epactref05_Words.l0, if_pos (by omega), if_pos (by omega), hb, ref_blank, hbl, Option.bind_some, if_neg Bool.false_ne_true]
      · intro a ha
        have ih := (ref_words hs d (j + 1) out (by omega) (by omega)).2 a (by omega)
        rw [cur_at (by omega) hx] at ih
        rw [toks_one hbl]
        refine Evn.step ih fun k => ?_
        rw [epactref05_Words.l1, if_pos (by omega), if_pos (by omega), hb, ref_blank, hbl, Option.bind_some, if_neg Bool.false_ne_true, next_i (by omega)]
theorem refwords_ev {s : ByteArray} (hs : s.size ≤ 500) : Evn (fun k => epactref05_Words.f k s) (wordsN s) := by
  have h := (ref_words hs s.size 0 [] (by omega) (by simp)).1
  rw [List.drop_zero, List.nil_append, show bytesL (toks [] s.data.toList) = wordsN s from data_inj (by rw [bytesL_data, words_data])] at h
  exact h
theorem refwords_calls (s : ByteArray) (w : World) (hs : s.size ≤ 500) :
    Calls Try.prog 26 #[.string s] w fun e w' => ∃ v0_ : Value, e = .returned v0_ ∧ Kd.R Kd.string 9 w' w.heap.size (fun _ => True) v0_ (wordsN s) ∧ Below w.heap.size w w' := by
  obtain ⟨k, hk⟩ := (refwords_ev hs).get
  exact epactref05_Words.calls k s (wordsN s) w hk
end Go.Proofs.Ytncbhlionllpmaa.Nt
