/- UtfJoins, in plain Lean: bytes of two rows are the bytes of both; where bytes go wrong it does not matter what runes are ahead. -/
import Derived.Test.YtapjpcpaildccaaFnRef
import Derived.Test.YtapjpcpaildccaaQx24
namespace Go.Proofs.Ytapjpcpaildccaa.Pure
open Go.RowKit Go.Proofs.Ytapjpcpaildccaa.Q Go.Proofs.Ytapjpcpaildccaa.Fn Go.Proofs.Ytapjpcpaildccaa.Spec Go.Proofs.YtapjpcpaildccaaW.PrintWords Go.Proofs.YtapjpcpaildccaaW.PrintLast
set_option linter.unusedVariables false
set_option linter.unusedSimpArgs false
theorem UtfJoins : exerguelaw01_UtfJoins.Pure := by
  intro l m b hl1 hl2 hl3 hm1 hm2 hm3 hb1 hb2 hb3
  have hb : ∀ x ∈ b, 0 ≤ x ∧ x < 256 := fun x hx => wf_u8 (hb3 x hx)
  refine ⟨19000, ?_⟩
  unfold exerguelaw01_UtfJoins.f
  rw [shown_f (by omega), Option.bind_some, wr (x := (l.length : Int) + (m.length : Int)) (by omega) (by omega), wr (by omega) (by omega)]
  by_cases h : (l.length : Int) + (m.length : Int) + (b.length : Int) > 1000
  · rw [if_pos h]
  · rw [if_neg h, Encode_f (by omega) (by omega), Option.bind_some, Encode_f (by omega) (by omega), Option.bind_some, Option.bind_some, if_pos (by simp; omega), Option.bind_some, if_pos (by simp; omega), List.nil_append, Encode_f (by rw [List.length_append]; omega) (by rw [List.length_append]; omega), Option.bind_some]
    by_cases hall : ∀ r ∈ l, isR r = true
    · have hlen := encAll_len_le (l := l)
      have hlenm := encAll_len_le (l := m)
      have hlenR := encR_len (l := l ++ m)
      rw [List.length_append] at hlenR
      have hbb : ∀ x ∈ encAll l ++ b, 0 ≤ x ∧ x < 256 := by
        intro x hx
        rcases List.mem_append.1 hx with hx | hx
        · exact encAll_byte hall x hx
        · exact hb x hx
      obtain ⟨r1, e1, d1⟩ := Decode_f hb (by omega) (k := 19000) (by omega)
      obtain ⟨r2, e2, d2⟩ := Decode_f hbb (by rw [List.length_append]; omega) (k := 19000) (by rw [List.length_append]; omega)
      have hd := d2.unique (d1.front hall)
      have hd1 := d1.len
      have at0 : 0 ≤ r1.2.1 ∧ r1.2.1 ≤ b.length := by
        obtain ⟨l2, rest, _, he, hh⟩ := d1
        have h1 := congrArg List.length he
        rw [List.length_append] at h1
        rcases hh with ⟨_, rfl⟩ | ⟨_, _, rfl⟩ <;> simp only <;> omega
      rw [encR_ok hall, if_pos rfl, e1, Option.bind_some, Option.bind_some, if_pos (by simp only [List.length_nil]; omega), Option.bind_some, if_pos (by simp; omega), List.nil_append, e2, Option.bind_some]
      -- the bytes of both
      have tail : ∀ y : List Int, y.length ≤ 0 → (if true = true then (if (encR m).2 = (encR (l ++ m)).2 then (if (encR m).2 = 0 then ((some (y : List Int)).bind fun y296 => (if y296.length + (encAll l).length < 140737488355328 then ((some (y296 ++ (encAll l) : List Int)).bind fun y299 => (if y299.length + (encR m).1.length < 140737488355328 then ((exergueref01_Row.f 19000 (encR (l ++ m)).1 (y299 ++ (encR m).1)).bind fun t305 => (some t305)) else (none))) else (none))) else (some true)) else (some false)) else (some false)) = some true := by
        intro y hy
        obtain rfl : y = [] := List.eq_nil_of_length_eq_zero (by omega)
        rw [if_pos rfl]
        by_cases hm : ∀ r ∈ m, isR r = true
        · have hlm : ∀ r ∈ l ++ m, isR r = true := by
            intro r hr
            rcases List.mem_append.1 hr with hr | hr
            · exact hall r hr
            · exact hm r hr
          rw [encR_ok hm, encR_ok hlm, if_pos rfl, if_pos rfl, Option.bind_some, if_pos (by simp only [List.length_nil]; omega), Option.bind_some, if_pos (by simp; omega), List.nil_append, Row_f (by rw [encAll_append, List.length_append]; omega) (by rw [encAll_append, List.length_append]; omega), Option.bind_some, encAll_append]
          simp
        · have hlm : ¬ ∀ r ∈ l ++ m, isR r = true := fun hh => hm (fun r hr => hh r (List.mem_append_right _ hr))
          rw [encR_bad hm, encR_bad hlm, if_pos rfl, if_neg (by simp)]
      by_cases hz : r1.2.2 = 0
      · rw [if_pos hz] at hd
        subst hd
        rw [if_pos hz, if_pos hz, Option.bind_some, if_pos (by simp only [List.length_nil]; omega), Option.bind_some, if_pos (by simp; omega), List.nil_append, rSame_f (by rw [List.length_append]; omega) (by rw [List.length_append]; omega), Option.bind_some, if_pos (by simp)]
        exact tail [] (Nat.le_refl _)
      · rw [if_neg hz] at hd
        subst hd
        have h3 : r1.2.2 = 3 := by
          obtain ⟨l2, rest, _, he, hh⟩ := d1
          rcases hh with ⟨_, rfl⟩ | ⟨_, _, rfl⟩
          · exact absurd rfl hz
          · rfl
        rw [if_pos h3, if_neg hz]
        dsimp only
        rw [wr (by omega) (by omega), if_pos (by omega)]
        exact tail [] (Nat.le_refl _)
    · have hlm : ¬ ∀ r ∈ l ++ m, isR r = true := fun hh => hall (fun r hr => hh r (List.mem_append_left _ hr))
      rw [encR_bad hall, encR_bad hlm, if_neg (by simp), if_pos rfl, if_pos rfl]
      simp
end Go.Proofs.Ytapjpcpaildccaa.Pure
