/- Texts of this claim, joined; what the kit's print wrote stands under a line of its own, LESS the theorems that this claim does not use (left out by prune16.py). -/
import Derived.Test.YtmhpcjncngonbaaZM7
import Derived.Test.YtmhpcjncngonbaaZM6
/- The reference's checksums of a bundle, and what stands in its directory, in plain Lean; rows of 65535 at most. -/
namespace Go.Proofs.Ytmhpcjncngonbaa.Q
open Go.RowKit Go.Proofs.Ytmhpcjncngonbaa.Mine Go.Proofs.YtmhpcjncngonbaaW.PrintWords Go.Proofs.YtmhpcjncngonbaaW.PrintLast Go.Proofs.YtmhpcjncngonbaaW.PrintMore
set_option linter.unusedVariables false
set_option linter.unusedSimpArgs false
end Go.Proofs.Ytmhpcjncngonbaa.Q
namespace Go.Proofs.Ytmhpcjncngonbaa.Spec
open Go.RowKit Go.Proofs.Ytmhpcjncngonbaa.Q Go.Proofs.YtmhpcjncngonbaaW.PrintWords Go.Proofs.YtmhpcjncngonbaaW.PrintLast
set_option linter.unusedVariables false
set_option linter.unusedSimpArgs false
theorem four_word (q0 q1 q2 q3 : Y) (t : W) : (((((((q0.toNat : Int) % 4294967296) + ((((q1.toNat : Int) % 4294967296) * 256) % 4294967296)) % 4294967296) + ((((q2.toNat : Int) % 4294967296) * 65536) % 4294967296)) % 4294967296) + ((((q3.toNat : Int) % 4294967296) * 16777216) % 4294967296)) % 4294967296 = (t.toNat : Int) ↔ [q0, q1, q2, q3] = toldB t := by
  have h0 := q0.isLt
  have h1 := q1.isLt
  have h2 := q2.isLt
  have h3 := q3.isLt
  have ht := t.isLt
  have e : ([q0, q1, q2, q3] = toldB t) ↔ (q0.toNat = t.toNat % 256 ∧ q1.toNat = t.toNat / 256 % 256 ∧ q2.toNat = t.toNat / 65536 % 256 ∧ q3.toNat = t.toNat / 16777216 % 256) := by
    simp only [toldB, List.cons.injEq, and_true, ← BitVec.toNat_inj, BitVec.toNat_setWidth, BitVec.toNat_ushiftRight, Nat.shiftRight_eq_div_pow, Nat.reducePow]
  rw [e]
  constructor
  · intro h
    omega
  · rintro ⟨h4, h5, h6, h7⟩
    omega
theorem rCut_f {k : Nat} (l : List Y) (hl : l.length < 140737488000000) (hk : l.length + 8 < k) : exergueref08_Cut.f k (I l) = some (I (cut l).1, (cut l).2) := by
  unfold exergueref08_Cut.f cut
  rw [I_len]
  by_cases h4 : l.length < 4
  · rw [wr (by omega) (by omega), if_pos (by omega), if_pos h4]
    rfl
  · obtain ⟨n, hn⟩ : ∃ n, l.length = n + 4 := ⟨l.length - 4, by omega⟩
    have w0 : wrap64 ((l.length : Int) - 4) = (n : Int) := by rw [wr (by omega) (by omega)]; omega
    have w1 : wrap64 ((n : Int) + 1) = ((n + 1 : Nat) : Int) := by rw [wr (by omega) (by omega)]; omega
    have w2 : wrap64 ((n : Int) + 2) = ((n + 2 : Nat) : Int) := by rw [wr (by omega) (by omega)]; omega
    have w3 : wrap64 ((n : Int) + 3) = ((n + 3 : Nat) : Int) := by rw [wr (by omega) (by omega)]; omega
    have hn4 : l.length - 4 = n := by omega
    rw [if_neg h4, w0, if_neg (by omega), if_pos (by omega), if_pos (by omega), w1, if_pos (by omega), if_pos (by omega), w2, if_pos (by omega), if_pos (by omega), w3, if_pos (by omega), if_pos (by omega), if_pos (by omega), hn4, Int.toNat_natCast]
    have e1 : (I l).take n = I (l.take n) := by simp [I, List.map_take]
    have hd : l.drop n = [l[n]'(by omega), l[n + 1]'(by omega), l[n + 2]'(by omega), l[n + 3]'(by omega)] := by
      rw [List.drop_eq_getElem_cons (show n < l.length by omega), List.drop_eq_getElem_cons (show n + 1 < l.length by omega), List.drop_eq_getElem_cons (show n + 1 + 1 < l.length by omega), List.drop_eq_getElem_cons (show n + 1 + 1 + 1 < l.length by omega), List.drop_eq_nil_of_le (by omega)]
    rw [e1, rOf_f (l.take n) (by rw [List.length_take]; omega) (by rw [List.length_take]; omega), Option.bind_some, rd_I (show n < l.length by omega), rd_I (show n + 1 < l.length by omega), rd_I (show n + 2 < l.length by omega), rd_I (show n + 3 < l.length by omega), hd]
    by_cases h : [l[n]'(by omega), l[n + 1]'(by omega), l[n + 2]'(by omega), l[n + 3]'(by omega)] = toldB (crc 0#32 (l.take n))
    · rw [if_pos ((four_word _ _ _ _ _).2 h), if_pos h]
    · rw [if_neg (fun e => h ((four_word _ _ _ _ _).1 e)), if_neg h]
      rfl
end Go.Proofs.Ytmhpcjncngonbaa.Spec
namespace Go.Proofs.Ytmhpcjncngonbaa.Q
open Go.RowKit Go.Proofs.Ytmhpcjncngonbaa.Mine Go.Proofs.YtmhpcjncngonbaaW.PrintWords Go.Proofs.YtmhpcjncngonbaaW.PrintLast Go.Proofs.YtmhpcjncngonbaaW.PrintMore
set_option linter.unusedVariables false
set_option linter.unusedSimpArgs false
theorem rPut_c {k : Nat} {x : List Int} (hx : bytesOk x) (hl : x.length < 140737487000000) (hk : x.length + 12 < k) : exergueref08_Put.f k x = some (putC x) := by
  have := Spec.rPut_f (k := k) (toY x) (by rw [toY_len]; omega) (by rw [toY_len]; omega)
  rw [toY_I hx] at this
  rw [this]
  rfl
/-- a number of four bytes at a place -/
def HeadN (x : List Int) (i : Nat) (n : Int) : Prop := ∃ a b c d : Int, x[i]? = some a ∧ x[i + 1]? = some b ∧ x[i + 2]? = some c ∧ x[i + 3]? = some d ∧ (0 ≤ a ∧ a < 256) ∧ (0 ≤ b ∧ b < 256) ∧ (0 ≤ c ∧ c < 256) ∧ (0 ≤ d ∧ d < 256) ∧ a * 16777216 + b * 65536 + c * 256 + d = n
end Go.Proofs.Ytmhpcjncngonbaa.Q
