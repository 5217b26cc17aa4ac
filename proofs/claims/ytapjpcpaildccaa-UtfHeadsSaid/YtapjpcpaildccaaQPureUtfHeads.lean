/- UtfHeads, in plain Lean: bytes cut in the midst of a rune are none, from where that rune begins. -/
import Derived.Test.YtapjpcpaildccaaFn
import Derived.Test.YtapjpcpaildccaaQx26
namespace Go.Proofs.Ytapjpcpaildccaa.Pure
open Go.RowKit Go.Proofs.Ytapjpcpaildccaa.Q Go.Proofs.Ytapjpcpaildccaa.Fn Go.Proofs.Ytapjpcpaildccaa.Spec Go.Proofs.YtapjpcpaildccaaW.PrintWords Go.Proofs.YtapjpcpaildccaaW.PrintLast
set_option linter.unusedVariables false
set_option linter.unusedSimpArgs false
theorem head_cut {r : Int} (hr : isR r = true) {c : Nat} (h0 : 0 < c) (h1 : c < (enc1 r).length) : (fst ((enc1 r).take c)).2 = 0 := by
  have hb : ∀ x ∈ (enc1 r).take c, 0 ≤ x ∧ x < 256 := fun x hx => enc1_byte hr x (List.mem_of_mem_take hx)
  by_cases hz : (fst ((enc1 r).take c)).2 = 0
  · exact hz
  · exfalso
    obtain ⟨h2, h3, t, h4⟩ := fst_some hb (Prod.eta _).symm hz
    have h5 := fst_enc1 hr []
    have h6 := fst_enc1 h2 (t ++ (enc1 r).drop c)
    rw [← List.append_assoc, ← h4, List.take_append_drop] at h6
    rw [List.append_nil, h6] at h5
    have h7 : (fst ((enc1 r).take c)).1 = r := (Prod.mk.inj h5).1
    rw [h7] at h4
    have h8 := congrArg List.length h4
    rw [List.length_take, List.length_append] at h8
    omega
theorem tail_cut {r : Int} (hr : isR r = true) {c : Nat} (h0 : 0 < c) (h1 : c < (enc1 r).length) : (fst ((enc1 r).drop c)).2 = 0 := by
  have key : ∀ x y : Int, ∀ t : List Int, 128 ≤ x → x < 192 → (fst (x :: t)).2 = 0 := by
    intro x _ t a b
    have : hd x = (0, 0) := by unfold hd; rw [if_neg (by omega), if_pos (by omega)]
    rw [fst_cons, this, if_pos rfl]
  rw [isR_iff] at hr
  unfold enc1 at h1 ⊢
  by_cases a1 : r < 128
  · rw [if_pos a1] at h1; simp at h1; omega
  · rw [if_neg a1] at h1 ⊢
    by_cases a2 : r < 2048
    · rw [if_pos a2] at h1 ⊢
      obtain rfl : c = 1 := by simp at h1; omega
      exact key _ 0 _ (by omega) (by omega)
    · rw [if_neg a2] at h1 ⊢
      by_cases a3 : r < 65536
      · rw [if_pos a3] at h1 ⊢
        rcases (by simp at h1; omega : c = 1 ∨ c = 2) with rfl | rfl
        · exact key _ 0 _ (by omega) (by omega)
        · exact key _ 0 _ (by omega) (by omega)
      · rw [if_neg a3] at h1 ⊢
        rcases (by simp at h1; omega : c = 1 ∨ c = 2 ∨ c = 3) with rfl | rfl | rfl
        · exact key _ 0 _ (by omega) (by omega)
        · exact key _ 0 _ (by omega) (by omega)
        · exact key _ 0 _ (by omega) (by omega)
theorem UtfHeads : exerguelaw01_UtfHeads.Pure := by
  intro l r cut hl1 hl2 hl3 hr hc
  refine ⟨9000, ?_⟩
  unfold exerguelaw01_UtfHeads.f
  rw [shown_f (by omega), Option.bind_some]
  by_cases h : (l.length : Int) > 300
  · rw [if_pos h]
  · rw [if_neg h, Encode_f (by omega) (by omega), Option.bind_some, Encode_f (by simp) (by simp), Option.bind_some]
    have out : ∀ (a b : List Int), exerguelaw01_UtfHeads.j0 9000 cut true a b true = some true := by
      intro a b
      simp [exerguelaw01_UtfHeads.j0]
    by_cases hall : ∀ x ∈ l, isR x = true
    · rw [encR_ok hall, if_pos rfl]
      by_cases hr1 : isR r = true
      · have hr2 : ∀ x ∈ [r], isR x = true := by simpa using hr1
        rw [encR_ok hr2, if_pos rfl, encAll_one]
        by_cases h1 : cut < 1
        · rw [if_pos h1]; exact out _ _
        · rw [if_neg h1]
          by_cases h2 : cut ≥ ((enc1 r).length : Int)
          · have : decide (cut ≥ ((enc1 r).length : Int)) = true := by simpa using h2
            rw [this]; exact out _ _
          · have : decide (cut ≥ ((enc1 r).length : Int)) = false := by simpa using h2
            rw [this]
            obtain ⟨c, rfl⟩ := Int.eq_ofNat_of_zero_le (by omega : 0 ≤ cut)
            have hlen := encAll_len_le (l := l)
            have hy := enc1_len r
            have hs := sz_pos r
            have hb1 : ∀ x ∈ encAll l ++ (enc1 r).take c, 0 ≤ x ∧ x < 256 := by
              intro x hx
              rcases List.mem_append.1 hx with hx | hx
              · exact encAll_byte hall x hx
              · exact enc1_byte hr1 x (List.mem_of_mem_take hx)
            have hb2 : ∀ x ∈ (enc1 r).drop c, 0 ≤ x ∧ x < 256 := fun x hx => enc1_byte hr1 x (List.mem_of_mem_drop hx)
            have l1 : ((enc1 r).take c).length = c := by rw [List.length_take]; omega
            have l2 : ((enc1 r).drop c).length = (enc1 r).length - c := List.length_drop
            obtain ⟨r1, e1, d1⟩ := Decode_f hb1 (by rw [List.length_append]; omega) (k := 8999) (by rw [List.length_append]; omega)
            obtain ⟨r2, e2, d2⟩ := Decode_f hb2 (by omega) (k := 8999) (by omega)
            have u1 := d1.unique ⟨l, (enc1 r).take c, hall, rfl, .inr ⟨by intro hh; rw [hh] at l1; simp at l1; omega, head_cut hr1 (by omega) (by omega), rfl⟩⟩
            have u2 := d2.unique ⟨[], (enc1 r).drop c, by simp, by simp [encAll], .inr ⟨by intro hh; rw [hh] at l2; simp at l2; omega, tail_cut hr1 (by omega) (by omega), rfl⟩⟩
            subst u1 u2
            simp only [exerguelaw01_UtfHeads.j0]
            rw [if_neg (by simp), Option.bind_some, if_pos (by simp only [List.length_nil]; omega), Option.bind_some, if_pos (by omega), if_pos (by omega), Option.bind_some, List.nil_append, Int.toNat_natCast, if_pos (by omega), e1, Option.bind_some, e2, Option.bind_some]
            simp [encAll]
      · have hr2 : ¬ ∀ x ∈ [r], isR x = true := by simpa using hr1
        rw [encR_bad hr2, if_neg (by simp)]
        exact out _ _
    · rw [encR_bad hall, if_neg (by simp)]
      exact out _ _
end Go.Proofs.Ytapjpcpaildccaa.Pure
