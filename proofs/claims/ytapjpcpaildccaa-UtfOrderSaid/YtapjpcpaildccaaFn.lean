/- What the printed functions of utf and its reference come to, in the words of Spec. -/
import Derived.Test.YtapjpcpaildccaaQx4
import Derived.Test.YtapjpcpaildccaaQx7
import Derived.Test.YtapjpcpaildccaaQx11
import Derived.Test.YtapjpcpaildccaaSpec
namespace Go.Proofs.Ytapjpcpaildccaa.Fn
open Go.RowKit Go.Proofs.Ytapjpcpaildccaa.Q Go.Proofs.Ytapjpcpaildccaa.Spec Go.Proofs.YtapjpcpaildccaaW.PrintWords Go.Proofs.YtapjpcpaildccaaW.PrintLast Go.Proofs.YtapjpcpaildccaaW.PrintMore
set_option linter.unusedVariables false
set_option linter.unusedSimpArgs false
theorem wr {x : Int} (h : -9223372036854775808 ≤ x) (h2 : x < 9223372036854775808) : wrap64 x = x := by unfold wrap64; omega
theorem wr32 {x : Int} (h : -2147483648 ≤ x) (h2 : x < 2147483648) : wrap32 x = x := by unfold wrap32; omega
theorem rd_at {a : List Int} {n : Nat} (h : n < a.length) : rd a (n : Int) = a[n] := by simp [rd, List.getD_eq_getElem?_getD, h]
theorem succ_of {k b : Nat} (h : b < k) : ∃ m, k = m + 1 ∧ b ≤ m := ⟨k - 1, by omega, by omega⟩

/-! two rows held against each other -/
theorem eq_loop (L : Nat → Int → Option Bool) (a b : List Int) (hab : a.length = b.length)
    (step : ∀ k (n : Nat), n < a.length → L (k + 1) n = if rd a n = rd b n then L k ((n + 1 : Nat) : Int) else some false) (stop : ∀ k, L (k + 1) (a.length : Int) = some true) :
    ∀ (d n k : Nat), n + d = a.length → d < k → L k n = some (decide (a.drop n = b.drop n)) := by
  intro d
  induction d with
  | zero =>
    intro n k hn hk
    obtain ⟨m, rfl, _⟩ := succ_of hk
    obtain rfl : n = a.length := by omega
    rw [stop, List.drop_eq_nil_of_le (Nat.le_refl _), List.drop_eq_nil_of_le (by omega)]
    rfl
  | succ d ih =>
    intro n k hn hk
    obtain ⟨m, rfl, hm⟩ := succ_of hk
    have h1 : n < a.length := by omega
    have h2 : n < b.length := by omega
    rw [step m n h1, rd_at h1, rd_at h2, List.drop_eq_getElem_cons h1, List.drop_eq_getElem_cons h2]
    by_cases e : a[n] = b[n]
    · rw [if_pos e, ih (n + 1) m (by omega) (by omega), e]
      congr 1
      rw [decide_eq_decide]
      exact ⟨fun h => by rw [h], fun h => (List.cons.inj h).2⟩
    · rw [if_neg e]
      congr 1
      symm
      rw [decide_eq_false_iff_not]
      exact fun h => e (List.cons.inj h).1
theorem Equal_f {a b : List Int} {k : Nat} (hl : a.length < 140737488355328) (hk : a.length < k) : slices_Equal_rune_rune.f k a b = some (decide (a = b)) := by
  unfold slices_Equal_rune_rune.f
  by_cases hab : a.length = b.length
  · rw [if_pos (by omega)]
    have := eq_loop (fun k i => slices_Equal_rune_rune.l0 k a b (a.length : Int) i) a b hab (fun k n hn => by
      simp only [slices_Equal_rune_rune.l0]
      rw [if_pos (by omega), if_pos (by omega), if_pos (by omega), if_pos (by omega), wr (by omega) (by omega)]
      rfl) (fun k => by
      simp only [slices_Equal_rune_rune.l0]
      rw [if_neg (by omega)]) a.length 0 k (by omega) hk
    simpa using this
  · rw [if_neg (by omega)]
    have : a ≠ b := fun h => hab (by rw [h])
    simp [this]
theorem Same_f {a b : List Int} {k : Nat} (hl : a.length < 140737488355328) (hk : a.length < k) : utf_Same.f k a b = some (decide (a = b)) := by
  unfold utf_Same.f
  rw [Equal_f hl hk]
  rfl

/-! Is, Size, lead -/
theorem Is_f (r : Int) : utf_Is.f r = some (isR r) := by
  unfold utf_Is.f isR
  repeat' split
  all_goals (congr 1; first | (symm; rw [decide_eq_true_iff]; omega) | (symm; rw [decide_eq_false_iff_not]; omega) | (rw [decide_eq_decide]; omega))
theorem Size_f (r : Int) : utf_Size.f r = some (szz r) := by
  unfold utf_Size.f szz sz
  rw [Is_f]
  simp only [Option.bind_some]
  repeat' split
  all_goals first | rfl | contradiction
theorem lead1 : utf_lead.f 1 = some 0 := by decide +kernel
theorem lead2 : utf_lead.f 2 = some 192 := by decide +kernel
theorem lead3 : utf_lead.f 3 = some 224 := by decide +kernel
theorem lead4 : utf_lead.f 4 = some 240 := by decide +kernel

/-! Encode -/
theorem shr0 (x : Int) : shr .u32 x 0 = x := by simp [shr]
theorem shr6 (x : Int) : shr .u32 x 6 = x / 64 := by simp [shr, IntKind.bits]
theorem shr12 (x : Int) : shr .u32 x 12 = x / 4096 := by simp [shr, IntKind.bits]
theorem shr18 (x : Int) : shr .u32 x 18 = x / 262144 := by simp [shr, IntKind.bits]
theorem or0 {x : Int} (h : 0 ≤ x) (h2 : x < 256) : Go.bits .or .u8 0 x = x := by
  have := bits_join .u8 8 (by decide) wraps_u8 8 0 x (by decide) (by decide) (by decide) h (by omega) (by omega)
  simpa using this
theorem written_end {k : Nat} (out : List Int) (u : Int) (hk : 1 ≤ k) : utf_written.l0 k out u (-1) = some out := by
  obtain ⟨m, rfl, _⟩ := succ_of (b := 0) (by omega : 0 < k)
  simp only [utf_written.l0]
  rw [if_neg (by omega)]
theorem written_step {k : Nat} (out : List Int) (u j : Int) (h0 : 0 ≤ j) (h1 : j ≤ 3) (hk : 1 < k) (hl : out.length < 140737488355328) :
    ∃ m, k = m + 1 ∧ utf_written.l0 k out u j = utf_written.l0 m (out ++ [128 + shr .u32 u (6 * j) % 64]) u (j - 1) := by
  obtain ⟨m, rfl, _⟩ := succ_of (by omega : 0 < k)
  refine ⟨m, rfl, ?_⟩
  simp only [utf_written.l0]
  rw [if_pos h0, wr (by omega) (by omega), if_pos (by omega), if_pos hl, wr (by omega) (by omega)]
theorem written_f {r : Int} (h : isR r = true) {k : Nat} (hk : 5 ≤ k) (out : List Int) (hl : out.length + 4 < 140737488355328) : utf_written.f k out r = some (out ++ enc1 r) := by
  have hR := h
  rw [isR_iff] at h
  unfold utf_written.f
  rw [Size_f]
  have hz : szz r = sz r := by simp [szz, hR]
  rw [hz, Option.bind_some]
  have hu : r % 4294967296 = r := by omega
  rw [hu]
  unfold enc1
  by_cases h1 : r < 128
  · have hs : sz r = 1 := by simp [sz, h1]
    rw [if_pos h1, hs, lead1, Option.bind_some]
    rw [show wrap64 (6 * wrap64 (1 - 1)) = 0 by decide +kernel, show wrap64 (1 - 2) = -1 by decide +kernel, if_pos (by omega), if_pos (by omega), shr0, or0 (by omega) (by omega), written_end _ _ (by omega)]
    congr 3
    omega
  · rw [if_neg h1]
    by_cases h2 : r < 2048
    · have hs : sz r = 2 := by simp [sz, h1, h2]
      rw [if_pos h2, hs, lead2, Option.bind_some]
      rw [show wrap64 (6 * wrap64 (2 - 1)) = 6 by decide +kernel, show wrap64 (2 - 2) = 0 by decide +kernel, if_pos (by omega), if_pos (by omega), shr6, u8_or192 _ (by omega) (by omega)]
      obtain ⟨m1, rfl, e⟩ := written_step (k := k) (out ++ [192 + r / 64 % 256]) r 0 (by omega) (by omega) (by omega) (by simp; omega)
      rw [e, show (0 : Int) - 1 = -1 by decide, written_end _ _ (by omega), show (6 : Int) * 0 = 0 by decide, shr0]
      simp
      omega
    · rw [if_neg h2]
      by_cases h3 : r < 65536
      · have hs : sz r = 3 := by simp [sz, h1, h2, h3]
        rw [if_pos h3, hs, lead3, Option.bind_some]
        rw [show wrap64 (6 * wrap64 (3 - 1)) = 12 by decide +kernel, show wrap64 (3 - 2) = 1 by decide +kernel, if_pos (by omega), if_pos (by omega), shr12, u8_or224 _ (by omega) (by omega)]
        obtain ⟨m2, rfl, e⟩ := written_step (k := k) (out ++ [224 + r / 4096 % 256]) r 1 (by omega) (by omega) (by omega) (by simp; omega)
        rw [e, show (1 : Int) - 1 = 0 by decide, show (6 : Int) * 1 = 6 by decide, shr6]
        obtain ⟨m3, rfl, e⟩ := written_step (k := m2) (out ++ [224 + r / 4096 % 256] ++ [128 + r / 64 % 64]) r 0 (by omega) (by omega) (by omega) (by simp; omega)
        rw [e, show (0 : Int) - 1 = -1 by decide, written_end _ _ (by omega), show (6 : Int) * 0 = 0 by decide, shr0]
        simp
        omega
      · have hs : sz r = 4 := by simp [sz, h1, h2, h3]
        rw [if_neg h3, hs, lead4, Option.bind_some]
        rw [show wrap64 (6 * wrap64 (4 - 1)) = 18 by decide +kernel, show wrap64 (4 - 2) = 2 by decide +kernel, if_pos (by omega), if_pos (by omega), shr18, u8_or240 _ (by omega) (by omega)]
        obtain ⟨m4, rfl, e⟩ := written_step (k := k) (out ++ [240 + r / 262144 % 256]) r 2 (by omega) (by omega) (by omega) (by simp; omega)
        rw [e, show (2 : Int) - 1 = 1 by decide, show (6 : Int) * 2 = 12 by decide, shr12]
        obtain ⟨m5, rfl, e⟩ := written_step (k := m4) (out ++ [240 + r / 262144 % 256] ++ [128 + r / 4096 % 64]) r 1 (by omega) (by omega) (by omega) (by simp; omega)
        rw [e, show (1 : Int) - 1 = 0 by decide, show (6 : Int) * 1 = 6 by decide, shr6]
        obtain ⟨m6, rfl, e⟩ := written_step (k := m5) (out ++ [240 + r / 262144 % 256] ++ [128 + r / 4096 % 64] ++ [128 + r / 64 % 64]) r 0 (by omega) (by omega) (by omega) (by simp; omega)
        rw [e, show (0 : Int) - 1 = -1 by decide, written_end _ _ (by omega), show (6 : Int) * 0 = 0 by decide, shr0]
        simp
        omega
theorem Encode_l (l : List Int) (hl : l.length < 35184372088832) : ∀ (d n k : Nat) (out : List Int), n + d = l.length → d + 6 < k → out.length + 4 * d + 4 < 140737488355328 →
    utf_Encode.l0 k out l (l.length : Int) n = some (if (l.drop n).all isR = true then (out ++ encAll (l.drop n), 0) else ([], 3)) := by
  intro d
  induction d with
  | zero =>
    intro n k out hn hk ho
    obtain ⟨m, rfl, _⟩ := succ_of hk
    simp only [utf_Encode.l0]
    rw [if_neg (by omega), List.drop_eq_nil_of_le (by omega)]
    simp [encAll]
  | succ d ih =>
    intro n k out hn hk ho
    obtain ⟨m, rfl, hm⟩ := succ_of hk
    have h1 : n < l.length := by omega
    simp only [utf_Encode.l0]
    rw [if_pos (by omega), if_pos (by omega), if_pos (by omega), rd_at h1, Is_f, Option.bind_some, List.drop_eq_getElem_cons h1]
    by_cases hr : isR l[n] = true
    · rw [if_pos hr, written_f hr (by omega) _ (by omega), Option.bind_some, wr (by omega) (by omega)]
      have hlen := enc1_len l[n]
      have hs := sz_pos l[n]
      have := ih (n + 1) m (out ++ enc1 l[n]) (by omega) (by omega) (by rw [List.length_append]; omega)
      rw [show ((n + 1 : Nat) : Int) = (n : Int) + 1 by omega] at this
      rw [this]
      simp only [List.all_cons, hr, Bool.true_and, encAll_cons, List.append_assoc]
    · rw [if_neg hr, if_neg (by rw [List.all_cons, Bool.and_eq_true]; exact fun h => hr h.1)]
theorem Encode_f {l : List Int} {k : Nat} (hl : l.length < 35184372088000) (hk : l.length + 6 < k) : utf_Encode.f k l = some (encR l) := by
  have := Encode_l l (by omega) l.length 0 k [] (by omega) hk (by simp; omega)
  unfold utf_Encode.f encR
  simpa using this

/-! Decode -/
theorem size_tab : ∀ n : Fin 256, utf_size.f 6 (n.val : Int) = some (hd n.val).1 := by decide +kernel
theorem size_f {c : Int} (h0 : 0 ≤ c) (h1 : c < 256) {k : Nat} (hk : 6 ≤ k) : utf_size.f k c = some (hd c).1 := by
  obtain ⟨n, rfl⟩ := Int.eq_ofNat_of_zero_le h0
  exact at_rounds (g := fun k => utf_size.f k (n : Int)) (utf_size.mono (n : Int)) hk (size_tab ⟨n, by omega⟩)
theorem head_tab : ∀ n : Fin 256, (hd n.val).1 ≠ 0 → ∃ j, utf_lead.f (hd n.val).1 = some j ∧ Go.bits .andNot .u8 (n.val : Int) j = (hd n.val).2 ∧ 0 ≤ (hd n.val).2 ∧ (hd n.val).2 < 128 ∧ 1 ≤ (hd n.val).1 ∧ (hd n.val).1 ≤ 4 ∧ ((hd n.val).1 ≠ 1 → (hd n.val).2 < 64) := by
  have h1 : ∀ n : Fin 256, (hd n.val).1 ≠ 0 → ((hd n.val).1 = 1 ∧ Go.bits .andNot .u8 (n.val : Int) 0 = (hd n.val).2 ∨ (hd n.val).1 = 2 ∧ Go.bits .andNot .u8 (n.val : Int) 192 = (hd n.val).2 ∨ (hd n.val).1 = 3 ∧ Go.bits .andNot .u8 (n.val : Int) 224 = (hd n.val).2 ∨ (hd n.val).1 = 4 ∧ Go.bits .andNot .u8 (n.val : Int) 240 = (hd n.val).2) ∧ 0 ≤ (hd n.val).2 ∧ (hd n.val).2 < 128 ∧ 1 ≤ (hd n.val).1 ∧ (hd n.val).1 ≤ 4 ∧ ((hd n.val).1 ≠ 1 → (hd n.val).2 < 64) := by decide +kernel
  intro n hn
  obtain ⟨h, r⟩ := h1 n hn
  rcases h with ⟨e, h⟩ | ⟨e, h⟩ | ⟨e, h⟩ | ⟨e, h⟩
  · exact ⟨0, by rw [e]; exact lead1, h, r⟩
  · exact ⟨192, by rw [e]; exact lead2, h, r⟩
  · exact ⟨224, by rw [e]; exact lead3, h, r⟩
  · exact ⟨240, by rw [e]; exact lead4, h, r⟩
theorem tail_tab : ∀ n : Fin 256, ((Go.bits .andNot .u8 (n.val : Int) 63 = 128) ↔ tl n.val = true) ∧ (tl n.val = true → Go.bits .and .u8 (n.val : Int) 63 = (n.val : Int) - 128) := by decide +kernel
theorem or_u32 {u c : Int} (h0 : 0 ≤ u) (h1 : u < 67108864) (h2 : 0 ≤ c) (h3 : c < 64) : Go.bits .or .u32 (u * 64 % 4294967296) (c % 4294967296) = u * 64 + c := by
  rw [Int.emod_eq_of_lt (by omega) (by omega), Int.emod_eq_of_lt (by omega) (by omega)]
  refine bits_join .u32 32 (by decide) (fun n h0 h1 => by rw [IntKind.wrap_u32]; omega) 6 (u * 64) c (by omega) (by omega) (by omega) h2 (by omega) (by omega)
theorem first_l (n : Int) (xs : List Int) (hx3 : xs.length ≤ 3) (hb : ∀ x ∈ xs, 0 ≤ x ∧ x < 256) : ∀ (d i k : Nat) (u : Int), i + d = xs.length → d < k → d ≤ 3 → 0 ≤ u → u * 64 ^ d < 67108864 →
    utf_first.l0 k n u xs (xs.length : Int) i = some (fin n u (xs.drop i)) := by
  intro d
  induction d with
  | zero =>
    intro i k u hi hk _ h0 h1
    obtain ⟨m, rfl, _⟩ := succ_of hk
    simp only [utf_first.l0]
    rw [if_neg (by omega), List.drop_eq_nil_of_le (by omega), Size_f, Option.bind_some, wr32 (by omega) (by omega)]
    rw [fin_nil]
    by_cases h : szz u = n
    · rw [if_pos h, if_pos h]
    · rw [if_neg h, if_neg h]
  | succ d ih =>
    intro i k u hi hk hd h0 h1
    obtain ⟨m, rfl, hm⟩ := succ_of hk
    have hlt : i < xs.length := by omega
    have hx := hb xs[i] (List.getElem_mem hlt)
    have hu : u < 67108864 := by
      rcases (by omega : d = 0 ∨ d = 1 ∨ d = 2) with rfl | rfl | rfl <;> omega
    simp only [utf_first.l0]
    rw [if_pos (by omega), if_pos (by omega), if_pos (by omega), rd_at hlt, List.drop_eq_getElem_cons hlt]
    obtain ⟨c, hc⟩ := Int.eq_ofNat_of_zero_le hx.1
    have ht := tail_tab ⟨c, by omega⟩
    simp only [← hc] at ht
    by_cases h : tl xs[i] = true
    · rw [if_pos (ht.1.2 h), ht.2 h]
      rw [tl_iff] at h
      rw [or_u32 h0 hu (by omega) (by omega), wr (by omega) (by omega)]
      have := ih (i + 1) m (u * 64 + (xs[i] - 128)) (by omega) (by omega) (by omega) (by omega) (by
        rcases (by omega : d = 0 ∨ d = 1 ∨ d = 2) with rfl | rfl | rfl <;> omega)
      rw [show ((i + 1 : Nat) : Int) = (i : Int) + 1 by omega] at this
      rw [this]
      rw [fin_cons, if_pos (by rw [tl_iff]; exact h)]
    · rw [if_neg (fun e => h (ht.1.1 e)), fin_cons, if_neg h]
theorem first_f {b : List Int} (hb : ∀ x ∈ b, 0 ≤ x ∧ x < 256) (hne : b ≠ []) (hl : b.length < 9223372036854775807) {k : Nat} (hk : 8 ≤ k) : utf_first.f k b = some (fst b) := by
  cases b with
  | nil => exact absurd rfl hne
  | cons c t =>
    have hc := hb c List.mem_cons_self
    unfold utf_first.f
    have e0 : rd (c :: t) 0 = c := rfl
    rw [if_pos (by simp), e0, size_f hc.1 hc.2 (by omega), Option.bind_some]
    obtain ⟨m, rfl, hm⟩ := succ_of (b := 7) (by omega : 7 < k)
    simp only [fst]
    by_cases hz : (hd c).1 = 0
    · rw [if_pos hz, if_pos hz]
      simp [utf_first.j0]
    · rw [if_neg hz, if_neg hz]
      by_cases hlen : (hd c).1 > (t.length : Int) + 1
      · rw [if_pos hlen]
        have : decide ((hd c).1 > ((c :: t).length : Int)) = true := by rw [decide_eq_true_iff]; simpa using hlen
        rw [this]
        simp [utf_first.j0]
      · rw [if_neg hlen]
        have : decide ((hd c).1 > ((c :: t).length : Int)) = false := by rw [decide_eq_false_iff_not]; simpa using hlen
        rw [this]
        obtain ⟨n, rfl⟩ := Int.eq_ofNat_of_zero_le hc.1
        obtain ⟨j, hj, hbits, g0, g1, g2, g3, g4⟩ := head_tab ⟨n, by omega⟩ hz
        simp only at hj hbits g0 g1 g2 g3 g4
        simp only [utf_first.j0]
        rw [if_neg (by simp), if_pos (by simp), hj, Option.bind_some, if_pos g2, if_pos (by simp; omega), Option.bind_some, e0, hbits, Int.emod_eq_of_lt g0 (by omega)]
        have et : ((((n : Int) :: t).take ((hd n).1).toNat).drop 1) = t.take ((hd n).1 - 1).toNat := by
          rw [show ((hd (n : Int)).1).toNat = ((hd (n : Int)).1 - 1).toNat + 1 by omega, List.take_succ_cons, List.drop_succ_cons, List.drop_zero]
        rw [et]
        have hlen2 : (t.take ((hd (n : Int)).1 - 1).toNat).length = ((hd (n : Int)).1 - 1).toNat := by rw [List.length_take]; omega
        have := first_l (hd (n : Int)).1 (t.take ((hd (n : Int)).1 - 1).toNat) (by omega) (fun x hx => hb x (List.mem_cons_of_mem _ (List.mem_of_mem_take hx))) (t.take ((hd (n : Int)).1 - 1).toNat).length 0 m (hd (n : Int)).2 (by omega) (by omega) (by omega) g0 (by
          rw [hlen2]
          rcases (by omega : (hd (n : Int)).1 = 1 ∨ (hd (n : Int)).1 = 2 ∨ (hd (n : Int)).1 = 3 ∨ (hd (n : Int)).1 = 4) with e | e | e | e
          · rw [e]; show (hd (n : Int)).2 * 1 < _; omega
          · have := g4 (by omega); rw [e]; show (hd (n : Int)).2 * 64 < _; omega
          · have := g4 (by omega); rw [e]; show (hd (n : Int)).2 * 4096 < _; omega
          · have := g4 (by omega); rw [e]; show (hd (n : Int)).2 * 262144 < _; omega)
        simpa using this
theorem fst_len {b : List Int} {r n : Int} (hb : ∀ x ∈ b, 0 ≤ x ∧ x < 256) (h : fst b = (r, n)) : n = 0 ∨ (isR r = true ∧ n = sz r ∧ ∃ t, b = enc1 r ++ t) := by
  by_cases hn : n = 0
  · exact .inl hn
  · exact .inr (fst_some hb h hn)
/-- A loop over bytes that takes a rune off and goes on; for the code and for its reference alike. -/
theorem dec_loop (L : Nat → List Int → Int → Option (List Int × Int × Int)) (b : List Int) (hb : ∀ x ∈ b, 0 ≤ x ∧ x < 256)
    (stop : ∀ k (out : List Int), L (k + 1) out (b.length : Int) = some (out, 0, 0))
    (bad : ∀ k (out : List Int) (n : Nat), n < b.length → 30 ≤ k → (fst (b.drop n)).2 = 0 → L (k + 1) out (n : Int) = some ([], (n : Int), 3))
    (step : ∀ k (out : List Int) (n : Nat), n < b.length → 30 ≤ k → out.length ≤ n → (fst (b.drop n)).2 ≠ 0 → isR (fst (b.drop n)).1 = true → (fst (b.drop n)).2 = sz (fst (b.drop n)).1 → L (k + 1) out (n : Int) = L k (out ++ [(fst (b.drop n)).1]) ((n : Int) + (fst (b.drop n)).2)) :
    ∀ (d n k : Nat) (out : List Int), n ≤ b.length → b.length - n ≤ d → d + 30 < k → out.length ≤ n →
      ∃ l rest, (∀ r ∈ l, isR r = true) ∧ b.drop n = encAll l ++ rest ∧ ((rest = [] ∧ L k out (n : Int) = some (out ++ l, 0, 0)) ∨ (rest ≠ [] ∧ (fst rest).2 = 0 ∧ L k out (n : Int) = some ([], (n : Int) + ((encAll l).length : Int), 3))) := by
  intro d
  induction d with
  | zero =>
    intro n k out hn hd hk ho
    obtain ⟨m, rfl, hm⟩ := succ_of hk
    obtain rfl : n = b.length := by omega
    exact ⟨[], [], by simp, by simp [encAll], .inl ⟨rfl, by rw [stop]; simp⟩⟩
  | succ d ih =>
    intro n k out hn hd hk ho
    obtain ⟨m, rfl, hm⟩ := succ_of hk
    by_cases he : n = b.length
    · subst he
      exact ⟨[], [], by simp, by simp [encAll], .inl ⟨rfl, by rw [stop]; simp⟩⟩
    · have hlt : n < b.length := by omega
      have hb' : ∀ x ∈ b.drop n, 0 ≤ x ∧ x < 256 := fun x hx => hb x (List.mem_of_mem_drop hx)
      have hstep := step m out n hlt (by omega) ho
      have hbad := bad m out n hlt (by omega)
      generalize hp : fst (b.drop n) = p at hstep hbad
      rcases fst_len hb' (hp.trans (Prod.eta p).symm) with h0 | ⟨hr, hs, t, ht⟩
      · refine ⟨[], b.drop n, by simp, by simp [encAll], .inr ⟨?_, by rw [hp]; exact h0, ?_⟩⟩
        · intro h; have := congrArg List.length h; simp at this; omega
        · rw [hbad h0]
          simp [encAll]
      · have hsp := sz_pos p.1
        have hlen := enc1_len p.1
        have hcut := congrArg List.length ht
        rw [List.length_drop, List.length_append] at hcut
        rw [hstep (by omega) hr hs, hs]
        have hdrop : b.drop (n + (sz p.1).toNat) = t := by
          rw [← List.drop_drop]
          have e : (sz p.1).toNat = (enc1 p.1).length := by omega
          rw [e, ht]
          simp
        obtain ⟨l, rest, hl, hsplit, h⟩ := ih (n + (sz p.1).toNat) m (out ++ [p.1]) (by omega) (by omega) (by omega) (by simp; omega)
        rw [hdrop] at hsplit
        have ei : ((n + (sz p.1).toNat : Nat) : Int) = (n : Int) + sz p.1 := by omega
        rw [ei] at h
        refine ⟨p.1 :: l, rest, ?_, ?_, ?_⟩
        · intro r hr'
          rcases List.mem_cons.1 hr' with rfl | hr'
          · exact hr
          · exact hl r hr'
        · rw [encAll_cons, List.append_assoc, ← hsplit]; exact ht
        · rcases h with ⟨h1, h2⟩ | ⟨h1, h2, h3⟩
          · exact .inl ⟨h1, by rw [h2]; simp⟩
          · refine .inr ⟨h1, h2, ?_⟩
            rw [h3, encAll_cons, List.length_append]
            congr 3
            omega
theorem dec_all {L : Nat → List Int → Int → Option (List Int × Int × Int)} {b : List Int} {k : Nat}
    (h : ∃ l rest, (∀ r ∈ l, isR r = true) ∧ b.drop 0 = encAll l ++ rest ∧ ((rest = [] ∧ L k [] ((0 : Nat) : Int) = some ([] ++ l, 0, 0)) ∨ (rest ≠ [] ∧ (fst rest).2 = 0 ∧ L k [] ((0 : Nat) : Int) = some ([], ((0 : Nat) : Int) + ((encAll l).length : Int), 3)))) : ∃ res, L k [] 0 = some res ∧ DecR b res := by
  obtain ⟨l, rest, hl, hs, h⟩ := h
  rcases h with ⟨h1, h2⟩ | ⟨h1, h2, h3⟩
  · exact ⟨_, h2, l, rest, hl, by simpa using hs, .inl ⟨h1, rfl⟩⟩
  · refine ⟨_, h3, l, rest, hl, by simpa using hs, .inr ⟨h1, h2, ?_⟩⟩
    simp
theorem Decode_f {b : List Int} (hb : ∀ x ∈ b, 0 ≤ x ∧ x < 256) (hl : b.length < 35184372088000) {k : Nat} (hk : b.length + 30 < k) : ∃ res, utf_Decode.f k b = some res ∧ DecR b res := by
  unfold utf_Decode.f
  refine dec_all (L := fun k out i => utf_Decode.l0 k b out i) ?_
  refine dec_loop (fun k out i => utf_Decode.l0 k b out i) b hb ?_ ?_ ?_ b.length 0 k [] (by omega) (by omega) hk (by simp)
  · intro k out
    simp only [utf_Decode.l0]
    rw [if_neg (by omega)]
  · intro k out n hn hk h
    simp only [utf_Decode.l0]
    rw [if_pos (by omega), if_pos (by omega), if_pos (by omega), Int.toNat_natCast, first_f (fun x hx => hb x (List.mem_of_mem_drop hx)) (by intro h; have := congrArg List.length h; simp at this; omega) (by rw [List.length_drop]; omega) (by omega), Option.bind_some, if_pos h]
  · intro k out n hn hk ho h hr hs
    have := sz_pos (fst (b.drop n)).1
    simp only [utf_Decode.l0]
    rw [if_pos (by omega), if_pos (by omega), if_pos (by omega), Int.toNat_natCast, first_f (fun x hx => hb x (List.mem_of_mem_drop hx)) (by intro h; have := congrArg List.length h; simp at this; omega) (by rw [List.length_drop]; omega) (by omega), Option.bind_some, if_neg h, if_pos (by omega), wr (by omega) (by omega)]
theorem shown_f {k : Nat} (hk : 60 ≤ k) : exerguelaw01_shown.f k = some true :=
  at_rounds (g := fun k => exerguelaw01_shown.f k) exerguelaw01_shown.mono hk (by decide +kernel)
end Go.Proofs.Ytapjpcpaildccaa.Fn
