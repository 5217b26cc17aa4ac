/- UtfSizes, in plain Lean: runes' bytes are as many as their sizes say together, and a greater rune has no fewer. -/
import Derived.Test.YtapjpcpaildccaaFn
import Derived.Test.YtapjpcpaildccaaQx25
namespace Go.Proofs.Ytapjpcpaildccaa.Pure
open Go.RowKit Go.Proofs.Ytapjpcpaildccaa.Q Go.Proofs.Ytapjpcpaildccaa.Fn Go.Proofs.Ytapjpcpaildccaa.Spec Go.Proofs.YtapjpcpaildccaaW.PrintWords Go.Proofs.YtapjpcpaildccaaW.PrintLast
set_option linter.unusedVariables false
set_option linter.unusedSimpArgs false
theorem szz_bd (r : Int) : 0 ≤ szz r ∧ szz r ≤ 4 := by
  have := sz_pos r
  unfold szz
  split <;> omega
theorem szz_isR (r : Int) : isR r = decide (szz r > 0) := by
  have := sz_pos r
  unfold szz
  by_cases h : isR r = true
  · rw [if_pos h, h]; simp; omega
  · rw [if_neg h]; simpa using h
theorem szz_mono {a b : Int} (ha : isR a = true) (hb : isR b = true) (h : a ≤ b) : szz a ≤ szz b := by
  unfold szz sz
  rw [if_pos ha, if_pos hb]
  repeat' split
  all_goals omega
def sizes (l : List Int) : Int := (l.map szz).sum
theorem sizes_bd (l : List Int) : 0 ≤ sizes l ∧ sizes l ≤ 4 * l.length := by
  induction l with
  | nil => simp [sizes]
  | cons r l ih =>
    have := szz_bd r
    simp only [sizes, List.map_cons, List.sum_cons, List.length_cons] at ih ⊢
    omega
theorem sizes_enc {l : List Int} (h : ∀ r ∈ l, isR r = true) : ((encAll l).length : Int) = sizes l := by
  induction l with
  | nil => simp [sizes, encAll]
  | cons r l ih =>
    have h1 := h r List.mem_cons_self
    have h2 := ih (fun x hx => h x (List.mem_cons_of_mem _ hx))
    have h3 := enc1_len r
    have h4 : szz r = sz r := by simp [szz, h1]
    rw [encAll_cons, List.length_append]
    simp only [sizes, List.map_cons, List.sum_cons] at h2 ⊢
    omega
theorem sizes_l (l : List Int) (a b : Int) (hl : l.length ≤ 1000) : ∀ (d n k : Nat), n + d = l.length → d + 1100 < k → exerguelaw01_UtfSizes.l0 k l a b true (sizes (l.take n)) n = some true := by
  intro d
  induction d with
  | zero =>
    intro n k hn hk
    obtain ⟨m, rfl, hm⟩ := succ_of hk
    obtain rfl : n = l.length := by omega
    simp only [exerguelaw01_UtfSizes.l0]
    rw [if_neg (by omega), List.take_length, Encode_f (by omega) (by omega), Option.bind_some, if_pos trivial, Is_f, Option.bind_some, Size_f, Option.bind_some]
    have tail : (if (isR a == decide (szz a > 0)) = true then (if szz a ≤ 4 then (if isR a = true then ((utf_Is.f b).bind fun t325 => (if t325 = true then (if a > b then (some true) else ((utf_Size.f b).bind fun t326 => (some (decide (szz a ≤ t326))))) else (some true))) else (some true)) else (some false)) else (some false)) = some true := by
      rw [if_pos (by rw [← szz_isR]; simp), if_pos (szz_bd a).2]
      by_cases ha : isR a = true
      · rw [if_pos ha, Is_f, Option.bind_some]
        by_cases hb : isR b = true
        · rw [if_pos hb]
          by_cases hab : a > b
          · rw [if_pos hab]
          · rw [if_neg hab, Size_f, Option.bind_some]
            have := szz_mono ha hb (by omega)
            simp [this]
        · rw [if_neg hb]
      · rw [if_neg ha]
    by_cases hall : ∀ r ∈ l, isR r = true
    · rw [encR_ok hall, if_pos rfl, if_pos (sizes_enc hall)]
      exact tail
    · rw [encR_bad hall, if_neg (by simp)]
      exact tail
  | succ d ih =>
    intro n k hn hk
    obtain ⟨m, rfl, hm⟩ := succ_of hk
    have h1 : n < l.length := by omega
    have h2 := sizes_bd (l.take n)
    have h3 := szz_bd l[n]
    have h4 : (l.take n).length ≤ l.length := by rw [List.length_take]; omega
    have h5 : sizes (l.take n) + szz l[n] = sizes (l.take (n + 1)) := by
      rw [List.take_succ_eq_append_getElem h1]
      unfold sizes
      rw [List.map_append, List.sum_append]
      simp only [List.map_cons, List.map_nil, List.sum_cons, List.sum_nil]
      omega
    simp only [exerguelaw01_UtfSizes.l0]
    rw [if_pos (by omega), if_pos (by omega), rd_at h1, Size_f, Option.bind_some, wr (by omega) (by omega), wr (by omega) (by omega), h5]
    exact ih (n + 1) m (by omega) (by omega)
theorem UtfSizes : exerguelaw01_UtfSizes.Pure := by
  intro l a b hl1 hl2 hl3 ha hb
  refine ⟨9000, ?_⟩
  unfold exerguelaw01_UtfSizes.f
  rw [shown_f (by omega), Option.bind_some]
  by_cases h : (l.length : Int) > 1000
  · rw [if_pos h]
  · rw [if_neg h]
    have := sizes_l l a b (by omega) l.length 0 9000 (by omega) (by omega)
    simpa [sizes] using this
end Go.Proofs.Ytapjpcpaildccaa.Pure
