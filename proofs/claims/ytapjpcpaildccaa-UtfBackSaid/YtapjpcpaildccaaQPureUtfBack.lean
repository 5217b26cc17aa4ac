/- UtfBack, in plain Lean: the runes of runes' bytes are these, and the bytes of what bytes are are these. -/
import Derived.Test.YtapjpcpaildccaaFnRef
import Derived.Test.YtapjpcpaildccaaQx23
namespace Go.Proofs.Ytapjpcpaildccaa.Pure
open Go.RowKit Go.Proofs.Ytapjpcpaildccaa.Q Go.Proofs.Ytapjpcpaildccaa.Fn Go.Proofs.Ytapjpcpaildccaa.Spec Go.Proofs.YtapjpcpaildccaaW.PrintWords Go.Proofs.YtapjpcpaildccaaW.PrintLast
set_option linter.unusedVariables false
set_option linter.unusedSimpArgs false
theorem UtfBack : exerguelaw01_UtfBack.Pure := by
  intro l b hl1 hl2 hl3 hb1 hb2 hb3
  have hb : ∀ x ∈ b, 0 ≤ x ∧ x < 256 := fun x hx => wf_u8 (hb3 x hx)
  refine ⟨9000, ?_⟩
  unfold exerguelaw01_UtfBack.f
  rw [shown_f (by omega), Option.bind_some]
  by_cases h : (l.length : Int) > 1000
  · rw [if_pos h]
    simp [exerguelaw01_UtfBack.j0]
  · rw [if_neg h]
    by_cases h2 : (b.length : Int) > 1000
    · simp [exerguelaw01_UtfBack.j0, h2]
    · have hlen := encR_len (l := l)
      obtain ⟨r1, e1, d1⟩ := Decode_f (b := (encR l).1) encR_byte (by omega) (k := 8999) (by omega)
      obtain ⟨r2, e2, d2⟩ := Decode_f hb (by omega) (k := 8999) (by omega)
      have hdl := d2.len
      have hel := encR_len (l := r2.1)
      simp only [exerguelaw01_UtfBack.j0]
      rw [if_neg (by simpa using h2), Encode_f (by omega) (by omega), Option.bind_some, e1, Option.bind_some, e2, Option.bind_some, Encode_f (by omega) (by omega), Option.bind_some]
      -- what the second half comes to
      have half : (if r2.2.2 = 0 then (if true = true then (if (encR r2.1).2 = 0 then ((exergueref01_Row.f 8999 b (encR r2.1).1).bind fun t => (if t = true then (some (r2.2.1 == 0)) else (some false))) else (some false)) else (some false)) else (if r2.2.1 < 0 then (some false) else (if r2.2.1 ≥ (b.length : Int) then (some false) else (if (r2.1.length : Int) > 0 then (some false) else (if true = true then (some true) else (some false)))))) = some true := by
        rcases d2 with ⟨l2, rest, hl2', hs, ⟨hr, rfl⟩ | ⟨hr, hr2, rfl⟩⟩
        · subst hr
          rw [List.append_nil] at hs
          rw [encR_ok hl2', Row_f (by omega) (by omega)]
          simp [hs]
        · have : 0 < rest.length := List.length_pos_iff.2 hr
          have hlen2 := congrArg List.length hs
          rw [List.length_append] at hlen2
          rw [if_neg (by simp), if_neg (by simp only; omega), if_neg (by simp only; omega), if_neg (by simp)]
          simp
      by_cases hall : ∀ r ∈ l, isR r = true
      · have hd := d1.unique (by rw [encR_ok hall]; exact DecR.enc hall)
        subst hd
        rw [encR_ok hall, if_pos rfl, if_pos rfl, rSame_f (by omega) (by omega), Option.bind_some, if_pos (by simp)]
        exact half
      · rw [encR_bad hall, if_neg (by simp)]
        exact half
end Go.Proofs.Ytapjpcpaildccaa.Pure
