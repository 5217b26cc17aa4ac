/- What class's answers are to each other, in plain Lean, with no program in sight but their plain forms. -/
import Derived.Test.YtgdefjcjikcofaaSpecF
namespace Go.Proofs.Ytgdefjcjikcofaa.Spec
open Go.RowKit Go.Proofs.Ytgdefjcjikcofaa.Mine Go.Proofs.Ytgdefjcjikcofaa.Q Go.Proofs.YtgdefjcjikcofaaW.PrintWords Go.Proofs.YtgdefjcjikcofaaW.PrintLast Go.Proofs.YtgdefjcjikcofaaW.PrintMore
set_option linter.unusedVariables false
set_option linter.unusedSimpArgs false
theorem val_of (r : Int) : ∀ l : List Int, (∃ z ∈ l, z ≤ r ∧ r < z + 10 ∧ val r l = (r - z, true)) ∨ ((∀ z ∈ l, ¬ (z ≤ r ∧ r < z + 10)) ∧ val r l = (0, false))
  | [] => .inr ⟨(fun z hz => absurd hz List.not_mem_nil), rfl⟩
  | z :: l => by
    by_cases h : z ≤ r ∧ r < z + 10
    · exact .inl ⟨z, List.mem_cons_self, h.1, h.2, by simp [val, h]⟩
    · rcases val_of r l with ⟨y, hy, h1, h2, h3⟩ | ⟨h1, h2⟩
      · exact .inl ⟨y, List.mem_cons_of_mem _ hy, h1, h2, by rw [val, if_neg h]; exact h3⟩
      · refine .inr ⟨fun y hy => ?_, by rw [val, if_neg h]; exact h2⟩
        rcases List.mem_cons.1 hy with rfl | hy
        · exact h
        · exact h1 y hy
theorem NO_apart : ∀ z ∈ NO, ∀ y ∈ NO, z = y ∨ z + 10 ≤ y ∨ y + 10 ≤ z := by decide +kernel
theorem NO_rune : ∀ z ∈ NO, 0 ≤ z ∧ z ≤ 200000 ∧ (z < 50000 ∨ z > 57343) ∧ z % 65536 < 65500 := by decide +kernel
theorem NO_far : ∀ z ∈ NO, ∀ x ∈ RT, x.2.1 < z ∨ z + 9 < x.1 := by decide +kernel
theorem val_at {r z : Int} (hz : z ∈ NO) (h1 : z ≤ r) (h2 : r < z + 10) : val r NO = (r - z, true) := by
  rcases val_of r NO with ⟨y, hy, h3, h4, h5⟩ | ⟨h3, _⟩
  · rcases NO_apart z hz y hy with rfl | h | h
    · exact h5
    · omega
    · omega
  · exact absurd ⟨h1, h2⟩ (h3 z hz)
theorem ofc_digit {r z : Int} (hz : z ∈ NO) (h1 : z ≤ r) (h2 : r < z + 10) : ofc r = 5 := by
  obtain ⟨a, b, c, d⟩ := NO_rune z hz
  have hi : isr r = true := by simp only [isr, decide_eq_true_eq]; omega
  have hc : cls r = none := cls_none (fun x hx => by
    rcases NO_far z hz x hx with h | h
    · simp only [isin, Bool.and_eq_false_iff, decide_eq_false_iff_not]; right; omega
    · simp only [isin, Bool.and_eq_false_iff, decide_eq_false_iff_not]; left; omega)
  unfold ofc
  rw [if_pos hi, hc]
  dsimp only
  rw [if_neg (by omega), val_at hz h1 h2, if_pos rfl]
theorem cls_some {r c : Int} (h : cls r = some c) : 1 ≤ c ∧ c ≤ 4 := by
  rw [cls_is] at h
  repeat' split at h
  all_goals first | (obtain rfl := Option.some.inj h; omega) | cases h
theorem ofc_nodigit {r : Int} (h : (val r NO).2 = false) : ofc r ≠ 5 := by
  unfold ofc
  split
  · cases hc : cls r with
    | some c => have := cls_some hc; dsimp only; omega
    | none =>
      dsimp only
      rw [h]
      split
      · decide
      · rw [if_neg (by simp)]; decide
  · decide
theorem ofc_range (r : Int) : 0 ≤ ofc r ∧ ofc r ≤ 6 := by
  unfold ofc
  split
  · cases hc : cls r with
    | some c => have := cls_some hc; dsimp only; omega
    | none =>
      dsimp only
      split
      · decide
      · split <;> decide
  · decide
theorem ofc_bidi {r : Int} (h : (8234 ≤ r ∧ r ≤ 8238) ∨ (8294 ≤ r ∧ r ≤ 8297)) : ofc r = 2 := by
  have hi : isr r = true := by simp only [isr, decide_eq_true_eq]; omega
  unfold ofc
  rw [if_pos hi, cls_is, if_neg (by omega), if_pos (by omega)]
theorem tl_app (b : List Int) : ∀ (a : List Int) (p o : Int), 0 ≤ p → 0 ≤ o → tl p a = true → tl (p + o) (a ++ b) = tl o b
  | [], p, o, hp, ho, h => by
    have : p = 0 := by simpa [tl] using h
    subst this
    rw [Int.zero_add]; rfl
  | r :: a, p, o, hp, ho, h => by
    rw [tl] at h
    rw [List.cons_append, tl]
    by_cases c1 : 8234 ≤ r ∧ r ≤ 8238
    · rw [if_pos c1] at h; cases h
    rw [if_neg c1] at h ⊢
    by_cases c2 : 8294 ≤ r ∧ r ≤ 8296
    · rw [if_pos c2] at h ⊢
      have := tl_app b a (p + 1) o (by omega) ho h
      rwa [show p + 1 + o = p + o + 1 by omega] at this
    rw [if_neg c2] at h ⊢
    by_cases c3 : r = 8297
    · rw [if_pos c3] at h ⊢
      by_cases c4 : p ≤ 0
      · rw [if_pos c4] at h; cases h
      rw [if_neg c4] at h
      rw [if_neg (by omega)]
      have := tl_app b a (p - 1) o (by omega) ho h
      rwa [show p - 1 + o = p + o - 1 by omega] at this
    rw [if_neg c3] at h ⊢
    exact tl_app b a p o hp ho h
theorem tl_none (b : List Int) : ∀ (a : List Int) (o : Int), (∀ x ∈ a, ofc x ≠ 2) → tl o (a ++ b) = tl o b
  | [], o, _ => rfl
  | r :: a, o, h => by
    have hr := h r List.mem_cons_self
    have h1 : ¬ ((8234 ≤ r ∧ r ≤ 8238) ∨ (8294 ≤ r ∧ r ≤ 8297)) := fun q => hr (ofc_bidi q)
    rw [List.cons_append, tl, if_neg (by omega), if_neg (by omega), if_neg (by omega)]
    exact tl_none b a o (fun x hx => h x (List.mem_cons_of_mem _ hx))
theorem tl_calm {a : List Int} (h : ∀ x ∈ a, ofc x ≠ 2) (o : Int) : tl o a = (o == 0) := by
  have := tl_none [] a o h
  rwa [List.append_nil] at this
theorem tl_one {a b : List Int} (r : Int) (ha : ∀ x ∈ a, ofc x ≠ 2) (hb : ∀ x ∈ b, ofc x ≠ 2) : tl 0 (a ++ [r] ++ b) = !(decide ((8294 ≤ r ∧ r ≤ 8297) ∨ (8234 ≤ r ∧ r ≤ 8238))) := by
  rw [List.append_assoc, tl_none _ _ _ ha, List.singleton_append, tl, tl_calm hb, tl_calm hb, tl_calm hb]
  by_cases c1 : 8234 ≤ r ∧ r ≤ 8238
  · rw [if_pos c1, decide_eq_true (.inr c1)]; rfl
  rw [if_neg c1]
  by_cases c2 : 8294 ≤ r ∧ r ≤ 8296
  · rw [if_pos c2, decide_eq_true (by omega)]; rfl
  rw [if_neg c2]
  by_cases c3 : r = 8297
  · rw [if_pos c3, if_pos (by omega), decide_eq_true (by omega)]; rfl
  rw [if_neg c3, decide_eq_false (by omega)]; rfl
theorem rd_mem {l : List Int} {i : Int} (h0 : 0 ≤ i) (h1 : i < l.length) : rd l i ∈ l := by
  obtain ⟨n, rfl⟩ := Int.eq_ofNat_of_zero_le h0
  have h2 : n < l.length := by omega
  rw [rd_at h2]
  exact List.getElem_mem h2
end Go.Proofs.Ytgdefjcjikcofaa.Spec
