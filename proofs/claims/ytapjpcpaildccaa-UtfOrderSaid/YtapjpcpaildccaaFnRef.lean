/- What the printed functions of the reference of utf come to, in the words of Spec. -/
import Derived.Test.YtapjpcpaildccaaFn
import Derived.Test.YtapjpcpaildccaaQx14
import Derived.Test.YtapjpcpaildccaaQx17
import Derived.Test.YtapjpcpaildccaaQx20
import Derived.Test.YtapjpcpaildccaaQx21
namespace Go.Proofs.Ytapjpcpaildccaa.Fn
open Go.RowKit Go.Proofs.Ytapjpcpaildccaa.Q Go.Proofs.Ytapjpcpaildccaa.Spec Go.Proofs.YtapjpcpaildccaaW.PrintWords Go.Proofs.YtapjpcpaildccaaW.PrintLast Go.Proofs.YtapjpcpaildccaaW.PrintMore
set_option linter.unusedVariables false
set_option linter.unusedSimpArgs false
theorem rIs_f {r : Int} (h0 : -2147483648 ≤ r) (h1 : r < 2147483648) : exergueref01_Is.f r = some (isR r) := by
  unfold exergueref01_Is.f isR
  rw [wr (by omega) (by omega)]
  repeat' split
  all_goals (congr 1; first | (symm; rw [decide_eq_true_iff]; omega) | (symm; rw [decide_eq_false_iff_not]; omega) | (rw [decide_eq_decide]; omega))
theorem rSize_f {r : Int} (h0 : -2147483648 ≤ r) (h1 : r < 2147483648) : exergueref01_Size.f r = some (szz r) := by
  unfold exergueref01_Size.f szz sz
  rw [rIs_f h0 h1]
  simp only [Option.bind_some]
  repeat' split
  all_goals first | rfl | contradiction
theorem rSame_f {a b : List Int} {k : Nat} (hl : a.length < 140737488355328) (hk : a.length < k) : exergueref01_Same.f k a b = some (decide (a = b)) := by
  unfold exergueref01_Same.f
  by_cases hab : a.length = b.length
  · rw [if_pos (by omega)]
    have := eq_loop (fun k i => exergueref01_Same.l0 k a b i) a b hab (fun k n hn => by
      simp only [exergueref01_Same.l0]
      rw [if_pos (by omega), if_pos (by omega), if_pos (by omega), wr (by omega) (by omega)]
      rfl) (fun k => by
      simp only [exergueref01_Same.l0]
      rw [if_neg (by omega)]) a.length 0 k (by omega) hk
    simpa using this
  · rw [if_neg (by omega)]
    have : a ≠ b := fun h => hab (by rw [h])
    simp [this]
theorem Row_f {a b : List Int} {k : Nat} (hl : a.length < 140737488355328) (hk : a.length < k) : exergueref01_Row.f k a b = some (decide (a = b)) := by
  unfold exergueref01_Row.f
  by_cases hab : a.length = b.length
  · rw [if_pos (by omega)]
    have := eq_loop (fun k i => exergueref01_Row.l0 k a b i) a b hab (fun k n hn => by
      simp only [exergueref01_Row.l0]
      rw [if_pos (by omega), if_pos (by omega), if_pos (by omega), wr (by omega) (by omega)]
      rfl) (fun k => by
      simp only [exergueref01_Row.l0]
      rw [if_neg (by omega)]) a.length 0 k (by omega) hk
    simpa using this
  · rw [if_neg (by omega)]
    have : a ≠ b := fun h => hab (by rw [h])
    simp [this]
theorem td {x y : Int} (h : 0 ≤ x) : Int.tdiv x y = x / y := Int.tdiv_eq_ediv_of_nonneg h
theorem tm {x y : Int} (h : 0 ≤ x) : Int.tmod x y = x % y := Int.tmod_eq_emod_of_nonneg h
theorem Bytes_f {r : Int} (h : isR r = true) : exergueref01_Bytes.f r = some (enc1 r) := by
  have hR := h
  rw [isR_iff] at h
  unfold exergueref01_Bytes.f enc1
  rw [rSize_f (by omega) (by omega), Option.bind_some]
  have hz : szz r = sz r := by simp [szz, hR]
  rw [hz, wr (x := r) (by omega) (by omega), td (by omega), td (by omega), td (by omega), tm (by omega)]
  rw [wr (x := r / 64) (by omega) (by omega), wr (x := r / 4096) (by omega) (by omega), wr (x := r / 262144) (by omega) (by omega), tm (by omega), tm (by omega)]
  rw [wr (x := 192 + r / 64) (by omega) (by omega), wr (x := 224 + r / 4096) (by omega) (by omega), wr (x := 240 + r / 262144) (by omega) (by omega), wr (x := 128 + r % 64) (by omega) (by omega), wr (x := 128 + r / 64 % 64) (by omega) (by omega), wr (x := 128 + r / 4096 % 64) (by omega) (by omega)]
  by_cases h1 : r < 128
  · have hs : sz r = 1 := by simp [sz, h1]
    rw [hs, if_pos rfl, if_pos h1]
    simp
    omega
  · rw [if_neg h1]
    by_cases h2 : r < 2048
    · have hs : sz r = 2 := by simp [sz, h1, h2]
      rw [hs, if_neg (by omega), if_pos rfl, if_pos h2]
      simp
      omega
    · rw [if_neg h2]
      by_cases h3 : r < 65536
      · have hs : sz r = 3 := by simp [sz, h1, h2, h3]
        rw [hs, if_neg (by omega), if_neg (by omega), if_pos rfl, if_pos h3]
        simp
        omega
      · have hs : sz r = 4 := by simp [sz, h1, h2, h3]
        rw [hs, if_neg (by omega), if_neg (by omega), if_neg (by omega), if_pos rfl, if_neg h3]
        simp
        omega
theorem rEncode_l (l : List Int) (hw : ∀ x ∈ l, -2147483648 ≤ x ∧ x < 2147483648) (hl : l.length < 35184372088832) : ∀ (d n k : Nat) (out : List Int), n + d = l.length → d < k → out.length + 4 * d + 4 < 140737488355328 →
    exergueref01_Encode.l0 k l out n = some (if (l.drop n).all isR = true then (out ++ encAll (l.drop n), 0) else ([], 3)) := by
  intro d
  induction d with
  | zero =>
    intro n k out hn hk ho
    obtain ⟨m, rfl, _⟩ := succ_of hk
    simp only [exergueref01_Encode.l0]
    rw [if_neg (by omega), List.drop_eq_nil_of_le (by omega)]
    simp [encAll]
  | succ d ih =>
    intro n k out hn hk ho
    obtain ⟨m, rfl, hm⟩ := succ_of hk
    have h1 : n < l.length := by omega
    have hx := hw l[n] (List.getElem_mem h1)
    simp only [exergueref01_Encode.l0]
    rw [if_pos (by omega), if_pos (by omega), rd_at h1, rIs_f hx.1 hx.2, Option.bind_some, List.drop_eq_getElem_cons h1]
    by_cases hr : isR l[n] = true
    · have hlen := enc1_len l[n]
      have hs := sz_pos l[n]
      rw [if_pos hr, Bytes_f hr, Option.bind_some, if_pos (by omega), wr (by omega) (by omega)]
      have := ih (n + 1) m (out ++ enc1 l[n]) (by omega) (by omega) (by rw [List.length_append]; omega)
      rw [show ((n + 1 : Nat) : Int) = (n : Int) + 1 by omega] at this
      rw [this]
      simp only [List.all_cons, hr, Bool.true_and, encAll_cons, List.append_assoc]
    · rw [if_neg hr, if_neg (by rw [List.all_cons, Bool.and_eq_true]; exact fun h => hr h.1)]
theorem rEncode_f {l : List Int} {k : Nat} (hw : ∀ x ∈ l, -2147483648 ≤ x ∧ x < 2147483648) (hl : l.length < 35184372088000) (hk : l.length < k) : exergueref01_Encode.f k l = some (encR l) := by
  have := rEncode_l l hw (by omega) l.length 0 k [] (by omega) hk (by simp; omega)
  unfold exergueref01_Encode.f encR
  simpa using this

/-- the reference's number of the bytes behind a first one -/
def tailsS (u : Int) (xs : List Int) : Int := if xs.all tl = true then acc u xs else -1
theorem tailsS_nil (u : Int) : tailsS u [] = u := by simp [tailsS, acc]
theorem tailsS_cons (u c : Int) (cs : List Int) : tailsS u (c :: cs) = if tl c = true then tailsS (u * 64 + (c - 128)) cs else -1 := by
  unfold tailsS
  by_cases h : tl c = true
  · rw [if_pos h]
    by_cases h2 : cs.all tl = true
    · rw [if_pos (by rw [List.all_cons, h, h2]; rfl), if_pos h2]
      rfl
    · rw [if_neg (by rw [List.all_cons, h, Bool.true_and]; exact h2), if_neg h2]
  · rw [if_neg h, if_neg (by rw [List.all_cons, Bool.and_eq_true]; exact fun e => h e.1)]
theorem tails_l (b : List Int) (hb : ∀ x ∈ b, 0 ≤ x ∧ x < 256) (hl : b.length < 140737488355328) (a m : Nat) (hm : m ≤ 3) (ha : a + m < b.length) : ∀ (d i k : Nat) (u : Int), i + d = m + 1 → 1 ≤ i → d < k → 0 ≤ u → u * 64 ^ d < 67108864 →
    exergueref01_tails.l0 k b a m u i = some (tailsS u ((b.drop (a + i)).take d)) := by
  intro d
  induction d with
  | zero =>
    intro i k u hi h1 hk h0 hu
    obtain ⟨q, rfl, _⟩ := succ_of hk
    simp only [exergueref01_tails.l0]
    rw [if_neg (by omega), List.take_zero, tailsS_nil]
  | succ d ih =>
    intro i k u hi h1 hk h0 hu
    obtain ⟨q, rfl, hq⟩ := succ_of hk
    have hlt : a + i < b.length := by omega
    have hx := hb b[a + i] (List.getElem_mem hlt)
    have hu2 : u < 67108864 := by
      rcases (by omega : d = 0 ∨ d = 1 ∨ d = 2) with rfl | rfl | rfl <;> omega
    simp only [exergueref01_tails.l0]
    rw [wr (x := (a : Int) + (i : Int)) (by omega) (by omega), if_pos (by omega), if_pos (by omega), if_pos (by omega), show (a : Int) + (i : Int) = ((a + i : Nat) : Int) by omega, rd_at hlt, wr (x := b[a + i]) (by omega) (by omega), List.drop_eq_getElem_cons hlt, List.take_succ_cons, tailsS_cons]
    by_cases h2 : b[a + i] < 128
    · rw [if_pos h2, if_neg (by rw [tl_iff]; omega)]
    · rw [if_neg h2]
      by_cases h3 : b[a + i] > 191
      · rw [if_pos h3, if_neg (by rw [tl_iff]; omega)]
      · rw [if_neg h3, if_pos (by rw [tl_iff]; omega), wr (x := u * 64) (by omega) (by omega), wr (x := u * 64 + b[a + i]) (by omega) (by omega), wr (by omega) (by omega), wr (by omega) (by omega)]
        have := ih (i + 1) q (u * 64 + (b[a + i] - 128)) (by omega) (by omega) (by omega) (by omega) (by
          rcases (by omega : d = 0 ∨ d = 1 ∨ d = 2) with rfl | rfl | rfl <;> omega)
        rw [show ((i + 1 : Nat) : Int) = (i : Int) + 1 by omega, show a + (i + 1) = a + i + 1 by omega] at this
        rw [← this]
        congr 1
        omega
theorem tails_f {b : List Int} (hb : ∀ x ∈ b, 0 ≤ x ∧ x < 256) (hl : b.length < 140737488355328) {a m : Nat} (hm : m ≤ 3) (ha : a < b.length) {u : Int} (h0 : 0 ≤ u) (hu : u < 64) {k : Nat} (hk : 5 ≤ k) :
    exergueref01_tails.f k b a m u = some (if (m : Int) + 1 > ((b.drop (a + 1)).length : Int) + 1 then -1 else tailsS u ((b.drop (a + 1)).take m)) := by
  unfold exergueref01_tails.f
  rw [wr (by omega) (by omega), List.length_drop]
  by_cases h : a + m < b.length
  · rw [if_neg (by omega), if_neg (by omega)]
    exact tails_l b hb hl a m hm h m 1 k u (by omega) (by omega) (by omega) h0 (by
      rcases (by omega : m = 0 ∨ m = 1 ∨ m = 2 ∨ m = 3) with rfl | rfl | rfl | rfl <;> omega)
  · rw [if_pos (by omega), if_pos (by omega)]
def oneS (p : Int × Int) : Int := if p.2 = 0 then -1 else p.1
theorem oneS_zero : oneS (0, 0) = -1 := rfl
theorem one_fin {n u : Int} (xs : List Int) (hn : n ≠ 0) : oneS (fin n u xs) = if szz (tailsS u xs) = n then tailsS u xs else -1 := by
  unfold fin tailsS
  by_cases h : xs.all tl = true
  · rw [if_pos h, if_pos h]
    by_cases h2 : szz (acc u xs) = n
    · rw [if_pos h2, if_pos h2]; simp [oneS, hn]
    · rw [if_neg h2, if_neg h2]; rfl
  · rw [if_neg h, if_neg h]
    have : szz (-1) = 0 := by decide
    rw [this, if_neg (fun e => hn e.symm)]
    rfl
theorem tailsS_bd {u : Int} (h0 : 0 ≤ u) : ∀ (xs : List Int), tailsS u xs = -1 ∨ (0 ≤ tailsS u xs ∧ u * 64 ^ xs.length ≤ tailsS u xs ∧ tailsS u xs < (u + 1) * 64 ^ xs.length) := by
  intro xs
  induction xs generalizing u with
  | nil => rw [tailsS_nil]; right; simp; omega
  | cons c cs ih =>
    rw [tailsS_cons]
    by_cases h : tl c = true
    · rw [if_pos h]
      rw [tl_iff] at h
      rcases ih (u := u * 64 + (c - 128)) (by omega) with e | ⟨a, b, d⟩
      · exact .inl e
      · refine .inr ⟨a, ?_, ?_⟩
        · refine Int.le_trans ?_ b
          rw [List.length_cons, Int.pow_succ]
          have : u * (64 ^ cs.length * 64) = u * 64 * 64 ^ cs.length := by rw [Int.mul_comm (64 ^ cs.length) 64, ← Int.mul_assoc]
          rw [this]
          exact Int.mul_le_mul_of_nonneg_right (by omega) (Int.le_of_lt (Int.pow_pos (by omega)))
        · refine Int.lt_of_lt_of_le d ?_
          rw [List.length_cons, Int.pow_succ]
          have : (u + 1) * (64 ^ cs.length * 64) = (u + 1) * 64 * 64 ^ cs.length := by rw [Int.mul_comm (64 ^ cs.length) 64, ← Int.mul_assoc]
          rw [this]
          exact Int.mul_le_mul_of_nonneg_right (by omega) (Int.le_of_lt (Int.pow_pos (by omega)))
    · rw [if_neg h]; exact .inl rfl
theorem szz_neg : szz (-1) = 0 := by decide
theorem isR_neg : isR (-1) = false := by decide
theorem one_end {x : Int} (n least top : Int) (hn : n ≠ 0) (hx : x = -1 ∨ (0 ≤ x ∧ x < top)) (hs : ∀ y, 0 ≤ y → y < top → (szz y = n ↔ least ≤ y ∧ isR y = true)) (hle : 0 ≤ least) : (if x < least then (some (-1) : Option Int) else if isR x = true then some x else some (-1)) = some (if szz x = n then x else -1) := by
  rcases hx with rfl | ⟨h0, h1⟩
  · rw [if_pos (by omega), szz_neg, if_neg (fun e => hn e.symm)]
  · have := hs x h0 h1
    by_cases a : x < least
    · rw [if_pos a, if_neg (fun e => by have := (this.1 e).1; omega)]
    · rw [if_neg a]
      by_cases c : isR x = true
      · rw [if_pos c, if_pos (this.2 ⟨by omega, c⟩)]
      · rw [if_neg c, if_neg (fun e => c (this.1 e).2)]
theorem szz1 (y : Int) (h0 : 0 ≤ y) (h1 : y < 128) : szz y = 1 ↔ 0 ≤ y ∧ isR y = true := by
  have : isR y = true := by rw [isR_iff]; omega
  simp [szz, sz, this, h0, h1]
theorem szz2 (y : Int) (h0 : 0 ≤ y) (h1 : y < 2048) : szz y = 2 ↔ 128 ≤ y ∧ isR y = true := by
  have : isR y = true := by rw [isR_iff]; omega
  simp only [szz, sz, this, if_true, and_true]
  repeat' split
  all_goals omega
theorem szz3 (y : Int) (h0 : 0 ≤ y) (h1 : y < 65536) : szz y = 3 ↔ 2048 ≤ y ∧ isR y = true := by
  by_cases h : isR y = true
  · simp only [szz, sz, h, if_true, and_true]
    repeat' split
    all_goals omega
  · simp [szz, h]
theorem szz4 (y : Int) (h0 : 0 ≤ y) : szz y = 4 ↔ 65536 ≤ y ∧ isR y = true := by
  by_cases h : isR y = true
  · simp only [szz, sz, h, if_true, and_true]
    repeat' split
    all_goals omega
  · simp [szz, h]
theorem one_f {b : List Int} (hb : ∀ x ∈ b, 0 ≤ x ∧ x < 256) (hl : b.length < 140737488355328) {a : Nat} (ha : a < b.length) {k : Nat} (hk : 14 ≤ k) : exergueref01_one.f k b a = some (oneS (fst (b.drop a))) := by
  unfold exergueref01_one.f
  have hc := hb b[a] (List.getElem_mem ha)
  rw [if_pos (by omega), if_pos (by omega), rd_at ha, wr (x := b[a]) (by omega) (by omega), List.drop_eq_getElem_cons ha]
  generalize b[a] = c at hc
  obtain ⟨m, rfl⟩ : ∃ m, k = m + 6 := ⟨k - 6, by omega⟩
  have hds : ∀ x : Bool, decide (x = true) = x := fun x => by simp
  rw [fst_cons]
  by_cases c1 : c < 128
  · have e1 : hd c = (1, c) := by simp [hd, c1]
    have e2 : (if (1 : Int) = 0 then ((0 : Int), (0 : Int)) else if (1 : Int) > ((b.drop (a + 1)).length : Int) + 1 then (0, 0) else fin 1 c (List.take (1 - 1 : Int).toNat (b.drop (a + 1)))) = fin 1 c [] := by
      rw [if_neg (by omega), if_neg (by omega)]
      rfl
    rw [if_pos c1, e1, e2]
    simp only [exergueref01_one.j0, exergueref01_one.j1, exergueref01_one.j2, exergueref01_one.j3, exergueref01_one.j4, exergueref01_one.j5]
    rw [if_neg (by omega), if_neg (by simp), if_neg (by omega), if_neg (by simp), if_neg (by omega), if_neg (by simp), wr32 (by omega) (by omega), rIs_f (by omega) (by omega), Option.bind_some, one_fin _ (by omega), tailsS_nil]
    have := one_end (x := c) 1 0 128 (by omega) (.inr ⟨by omega, by omega⟩) szz1 (by omega)
    rw [← this]
  · rw [if_neg c1]
    simp only [exergueref01_one.j0]
    by_cases c2 : c < 192
    · have e1 : hd c = (0, 0) := by simp [hd, c1, c2]
      rw [if_neg (by omega), e1, if_pos rfl]
      simp only [exergueref01_one.j1, exergueref01_one.j2, exergueref01_one.j3, exergueref01_one.j4, exergueref01_one.j5]
      rw [if_neg (by simp), if_neg (by omega), if_neg (by simp), if_neg (by omega), if_neg (by simp), show wrap32 (-1) = -1 by decide +kernel, rIs_f (by omega) (by omega), Option.bind_some, if_pos (by omega), oneS_zero]
    · rw [if_pos (by omega)]
      by_cases c3 : c < 224
      · have e1 : hd c = (2, c - 192) := by simp [hd, c1, c2, c3]
        rw [e1, if_neg (by omega)]
        simp only [exergueref01_one.j1]
        rw [if_pos (by simpa using c3), wr (by omega) (by omega)]
        have ht := tails_f hb hl (m := 1) (by omega) ha (u := c - 192) (by omega) (by omega) (k := m + 4) (by omega)
        rw [show ((1 : Nat) : Int) = 1 from rfl] at ht
        rw [ht, Option.bind_some]
        simp only [exergueref01_one.j2, exergueref01_one.j3, exergueref01_one.j4, exergueref01_one.j5]
        rw [if_neg (by omega), if_neg (by simp), if_neg (by omega), if_neg (by simp)]
        have hbd : ∀ xs : List Int, xs.length ≤ 1 → tailsS (c - 192) xs = -1 ∨ (0 ≤ tailsS (c - 192) xs ∧ tailsS (c - 192) xs < 2048) := by
          intro xs hx
          rcases tailsS_bd (u := c - 192) (by omega) xs with h | ⟨h, _, h2⟩
          · exact .inl h
          · refine .inr ⟨h, ?_⟩
            rcases (by omega : xs.length = 0 ∨ xs.length = 1) with e | e <;> rw [e] at h2 <;> omega
        by_cases hlen : (1 : Int) + 1 > ((b.drop (a + 1)).length : Int) + 1
        · rw [if_pos hlen, if_pos (show (2 : Int) > ((b.drop (a + 1)).length : Int) + 1 by omega), oneS_zero, show wrap32 (-1) = -1 by decide +kernel, rIs_f (by omega) (by omega), Option.bind_some, if_pos (by omega)]
        · rw [if_neg hlen, if_neg (show ¬ (2 : Int) > ((b.drop (a + 1)).length : Int) + 1 by omega), one_fin _ (by omega), show (2 - 1 : Int).toNat = 1 from rfl]
          have hb2 := hbd ((b.drop (a + 1)).take 1) (by rw [List.length_take]; omega)
          rw [wr32 (by omega) (by omega), rIs_f (by omega) (by omega), Option.bind_some]
          exact one_end 2 128 2048 (by omega) hb2 szz2 (by omega)
      · simp only [exergueref01_one.j1]
        rw [if_neg (by simpa using c3)]
        simp only [exergueref01_one.j2]
        by_cases c4 : c < 240
        · have e1 : hd c = (3, c - 224) := by simp [hd, c1, c2, c3, c4]
          rw [if_pos (show c ≥ 224 by omega), e1, if_neg (show ¬ (3 : Int) = 0 by omega)]
          simp only [exergueref01_one.j3]
          rw [if_pos (by simpa using c4), wr (by omega) (by omega)]
          have ht := tails_f hb hl (m := 2) (by omega) ha (u := c - 224) (by omega) (by omega) (k := m + 2) (by omega)
          rw [show ((2 : Nat) : Int) = 2 from rfl] at ht
          rw [ht, Option.bind_some]
          simp only [exergueref01_one.j4, exergueref01_one.j5]
          rw [if_neg (by omega), if_neg (by simp)]
          have hbd : ∀ xs : List Int, xs.length ≤ 2 → tailsS (c - 224) xs = -1 ∨ (0 ≤ tailsS (c - 224) xs ∧ tailsS (c - 224) xs < 65536) := by
            intro xs hx
            rcases tailsS_bd (u := c - 224) (by omega) xs with h | ⟨h, _, h2⟩
            · exact .inl h
            · refine .inr ⟨h, ?_⟩
              rcases (by omega : xs.length = 0 ∨ xs.length = 1 ∨ xs.length = 2) with e | e | e <;> rw [e] at h2 <;> omega
          by_cases hlen : (2 : Int) + 1 > ((b.drop (a + 1)).length : Int) + 1
          · rw [if_pos hlen, if_pos (show (3 : Int) > ((b.drop (a + 1)).length : Int) + 1 by omega), oneS_zero, show wrap32 (-1) = -1 by decide +kernel, rIs_f (by omega) (by omega), Option.bind_some, if_pos (by omega)]
          · rw [if_neg hlen, if_neg (show ¬ (3 : Int) > ((b.drop (a + 1)).length : Int) + 1 by omega), one_fin _ (by omega), show (3 - 1 : Int).toNat = 2 from rfl]
            have hb2 := hbd ((b.drop (a + 1)).take 2) (by rw [List.length_take]; omega)
            rw [wr32 (by omega) (by omega), rIs_f (by omega) (by omega), Option.bind_some]
            exact one_end 3 2048 65536 (by omega) hb2 szz3 (by omega)
        · rw [if_pos (by omega)]
          simp only [exergueref01_one.j3]
          rw [if_neg (by simpa using c4)]
          simp only [exergueref01_one.j4]
          rw [if_pos (by omega)]
          simp only [exergueref01_one.j5]
          by_cases c5 : c < 248
          · have e1 : hd c = (4, c - 240) := by simp [hd, c1, c2, c3, c4, c5]
            rw [e1, if_neg (show ¬ (4 : Int) = 0 by omega), if_pos (by simpa using c5), wr (by omega) (by omega)]
            have ht := tails_f hb hl (m := 3) (by omega) ha (u := c - 240) (by omega) (by omega) (k := m) (by omega)
            rw [show ((3 : Nat) : Int) = 3 from rfl] at ht
            rw [ht, Option.bind_some]
            have hbd : ∀ xs : List Int, xs.length ≤ 3 → tailsS (c - 240) xs = -1 ∨ (0 ≤ tailsS (c - 240) xs ∧ tailsS (c - 240) xs < 2097152) := by
              intro xs hx
              rcases tailsS_bd (u := c - 240) (by omega) xs with h | ⟨h, _, h2⟩
              · exact .inl h
              · refine .inr ⟨h, ?_⟩
                rcases (by omega : xs.length = 0 ∨ xs.length = 1 ∨ xs.length = 2 ∨ xs.length = 3) with e | e | e | e <;> rw [e] at h2 <;> omega
            by_cases hlen : (3 : Int) + 1 > ((b.drop (a + 1)).length : Int) + 1
            · rw [if_pos hlen, if_pos (show (4 : Int) > ((b.drop (a + 1)).length : Int) + 1 by omega), oneS_zero, show wrap32 (-1) = -1 by decide +kernel, rIs_f (by omega) (by omega), Option.bind_some, if_pos (by omega)]
            · rw [if_neg hlen, if_neg (show ¬ (4 : Int) > ((b.drop (a + 1)).length : Int) + 1 by omega), one_fin _ (by omega), show (4 - 1 : Int).toNat = 3 from rfl]
              have hb2 := hbd ((b.drop (a + 1)).take 3) (by rw [List.length_take]; omega)
              rw [wr32 (by omega) (by omega), rIs_f (by omega) (by omega), Option.bind_some]
              exact one_end 4 65536 2097152 (by omega) hb2 (fun y h0 _ => szz4 y h0) (by omega)
          · have e1 : hd c = (0, 0) := by simp [hd, c1, c2, c3, c4, c5]
            rw [e1, if_pos rfl, if_neg (by simpa using c5), show wrap32 (-1) = -1 by decide +kernel, rIs_f (by omega) (by omega), Option.bind_some, if_pos (by omega), oneS_zero]
theorem rDecode_f {b : List Int} (hb : ∀ x ∈ b, 0 ≤ x ∧ x < 256) (hl : b.length < 35184372088000) {k : Nat} (hk : b.length + 30 < k) : ∃ res, exergueref01_Decode.f k b = some res ∧ DecR b res := by
  unfold exergueref01_Decode.f
  refine dec_all (L := fun k out i => exergueref01_Decode.l0 k b out i) ?_
  refine dec_loop (fun k out i => exergueref01_Decode.l0 k b out i) b hb ?_ ?_ ?_ b.length 0 k [] (by omega) (by omega) hk (by simp)
  · intro k out
    simp only [exergueref01_Decode.l0]
    rw [if_neg (by omega)]
  · intro k out n hn hk h
    simp only [exergueref01_Decode.l0]
    rw [if_pos (by omega), one_f hb (by omega) hn (by omega), Option.bind_some]
    have : oneS (fst (b.drop n)) = -1 := by simp [oneS, h]
    rw [this, if_pos (by omega)]
  · intro k out n hn hk ho h hr hs
    have h2 := sz_pos (fst (b.drop n)).1
    have h3 := hr
    rw [isR_iff] at h3
    simp only [exergueref01_Decode.l0]
    have e : oneS (fst (b.drop n)) = (fst (b.drop n)).1 := by simp [oneS, h]
    rw [if_pos (by omega), one_f hb (by omega) hn (by omega), Option.bind_some, e, if_neg (by omega), if_pos (by omega), wr32 (by omega) (by omega), rSize_f (by omega) (by omega), Option.bind_some]
    have e2 : szz (fst (b.drop n)).1 = (fst (b.drop n)).2 := by simp [szz, hr, hs]
    rw [e2, wr (by omega) (by omega)]
end Go.Proofs.Ytapjpcpaildccaa.Fn
