/- UtfBytes, in plain Lean: the code's Encode and Decode answer as the reference's at every numbers and bytes. -/
import Derived.Test.YtapjpcpaildccaaFnRef
import Derived.Test.YtapjpcpaildccaaQx22
namespace Go.Proofs.Ytapjpcpaildccaa.Pure
open Go.RowKit Go.Proofs.Ytapjpcpaildccaa.Q Go.Proofs.Ytapjpcpaildccaa.Fn Go.Proofs.Ytapjpcpaildccaa.Spec Go.Proofs.YtapjpcpaildccaaW.PrintWords Go.Proofs.YtapjpcpaildccaaW.PrintLast
set_option linter.unusedVariables false
set_option linter.unusedSimpArgs false
theorem UtfBytes : exerguelaw01_UtfBytes.Pure := by
  intro l b hl1 hl2 hl3 hb1 hb2 hb3
  have hw : ∀ x ∈ l, -2147483648 ≤ x ∧ x < 2147483648 := fun x hx => wf_i32 (hl3 x hx)
  have hb : ∀ x ∈ b, 0 ≤ x ∧ x < 256 := fun x hx => wf_u8 (hb3 x hx)
  refine ⟨9000, ?_⟩
  unfold exerguelaw01_UtfBytes.f
  rw [shown_f (by omega), Option.bind_some]
  by_cases h : (l.length : Int) > 1000
  · rw [if_pos h]
    simp [exerguelaw01_UtfBytes.j0]
  · rw [if_neg h]
    by_cases h2 : (b.length : Int) > 1000
    · simp [exerguelaw01_UtfBytes.j0, h2]
    · obtain ⟨r1, e1, d1⟩ := Decode_f hb (by omega) (k := 8999) (by omega)
      obtain ⟨r2, e2, d2⟩ := rDecode_f hb (by omega) (k := 8999) (by omega)
      have e := d1.unique d2
      subst e
      have hlen := encR_len (l := l)
      have hdl := d1.len
      simp only [exerguelaw01_UtfBytes.j0]
      rw [if_neg (by simpa using h2), Encode_f (by omega) (by omega), Option.bind_some, rEncode_f hw (by omega) (by omega), Option.bind_some, e1, Option.bind_some, e2, Option.bind_some, if_pos trivial, Row_f (by omega) (by omega), Option.bind_some, if_pos (by simp), if_pos rfl, rSame_f (by omega) (by omega), Option.bind_some]
      simp
end Go.Proofs.Ytapjpcpaildccaa.Pure
