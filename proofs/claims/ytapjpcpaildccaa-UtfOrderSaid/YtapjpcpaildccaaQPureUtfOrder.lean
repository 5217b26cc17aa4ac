/- UtfOrder, in plain Lean: of two rows that differ first in a rune the one with the lesser one has the lesser bytes. -/
import Derived.Test.YtapjpcpaildccaaFnRef
import Derived.Test.YtapjpcpaildccaaQx27
namespace Go.Proofs.Ytapjpcpaildccaa.Pure
open Go.RowKit Go.Proofs.Ytapjpcpaildccaa.Q Go.Proofs.Ytapjpcpaildccaa.Fn Go.Proofs.Ytapjpcpaildccaa.Spec Go.Proofs.YtapjpcpaildccaaW.PrintWords Go.Proofs.YtapjpcpaildccaaW.PrintLast
set_option linter.unusedVariables false
set_option linter.unusedSimpArgs false
def conv (xs : List Int) : List UInt8 := xs.map fun n => UInt8.ofNat n.toNat
theorem conv_str (xs : List Int) : (strOfNums xs).toList = conv xs := by
  rw [ByteArray.toList_eq]
  simp [strOfNums, conv]
theorem less_cons (x y : Int) (xs ys : List Int) (hx : 0 ≤ x ∧ x < 256) (hy : 0 ≤ y ∧ y < 256) : Op.bytesLess (conv (x :: xs)) (conv (y :: ys)) = (decide (x < y) || (decide (x = y) && Op.bytesLess (conv xs) (conv ys))) := by
  have h1 : decide (UInt8.ofNat x.toNat < UInt8.ofNat y.toNat) = decide (x < y) := by
    rw [decide_eq_decide, UInt8.lt_iff_toNat_lt]
    simp
    omega
  have h2 : (UInt8.ofNat x.toNat == UInt8.ofNat y.toNat) = decide (x = y) := by
    rw [Bool.eq_iff_iff, beq_iff_eq, decide_eq_true_iff, ← UInt8.toNat_inj]
    simp
    omega
  show Op.bytesLess (UInt8.ofNat x.toNat :: conv xs) (UInt8.ofNat y.toNat :: conv ys) = _
  rw [Op.bytesLess, h1, h2]
theorem less_front (p : List Int) (hp : ∀ x ∈ p, 0 ≤ x ∧ x < 256) (a b : List Int) : Op.bytesLess (conv (p ++ a)) (conv (p ++ b)) = Op.bytesLess (conv a) (conv b) := by
  induction p with
  | nil => rfl
  | cons x p ih =>
    have hx := hp x List.mem_cons_self
    rw [List.cons_append, List.cons_append, less_cons _ _ _ _ hx hx, ih (fun y hy => hp y (List.mem_cons_of_mem _ hy))]
    simp
theorem less_now {x y : Int} (xs ys : List Int) (hx : 0 ≤ x ∧ x < 256) (hy : 0 ≤ y ∧ y < 256) (h : x < y) : Op.bytesLess (conv (x :: xs)) (conv (y :: ys)) = true := by
  rw [less_cons _ _ _ _ hx hy]
  simp [h]
theorem less_then {x y : Int} (xs ys : List Int) (hx : 0 ≤ x ∧ x < 256) (h : x = y) (h2 : Op.bytesLess (conv xs) (conv ys) = true) : Op.bytesLess (conv (x :: xs)) (conv (y :: ys)) = true := by
  subst h
  rw [less_cons _ _ _ _ hx hx]
  simp [h2]
theorem less_enc {a b : Int} (ha : isR a = true) (hb : isR b = true) (h : a < b) (m : List Int) : Op.bytesLess (conv (enc1 a)) (conv (enc1 b ++ m)) = true := by
  rw [isR_iff] at ha hb
  unfold enc1
  by_cases a1 : a < 128
  · rw [if_pos a1]
    by_cases b1 : b < 128
    · rw [if_pos b1]; exact less_now _ _ (by omega) (by omega) h
    · rw [if_neg b1]
      by_cases b2 : b < 2048
      · rw [if_pos b2]; exact less_now _ _ (by omega) (by omega) (by omega)
      · rw [if_neg b2]
        by_cases b3 : b < 65536
        · rw [if_pos b3]; exact less_now _ _ (by omega) (by omega) (by omega)
        · rw [if_neg b3]; exact less_now _ _ (by omega) (by omega) (by omega)
  · rw [if_neg a1, if_neg (show ¬ b < 128 by omega)]
    by_cases a2 : a < 2048
    · rw [if_pos a2]
      by_cases b2 : b < 2048
      · rw [if_pos b2]
        by_cases e1 : a / 64 < b / 64
        · exact less_now _ _ (by omega) (by omega) (by omega)
        · exact less_then _ _ (by omega) (by omega) (less_now _ _ (by omega) (by omega) (by omega))
      · rw [if_neg b2]
        by_cases b3 : b < 65536
        · rw [if_pos b3]; exact less_now _ _ (by omega) (by omega) (by omega)
        · rw [if_neg b3]; exact less_now _ _ (by omega) (by omega) (by omega)
    · rw [if_neg a2, if_neg (show ¬ b < 2048 by omega)]
      by_cases a3 : a < 65536
      · rw [if_pos a3]
        by_cases b3 : b < 65536
        · rw [if_pos b3]
          by_cases e1 : a / 4096 < b / 4096
          · exact less_now _ _ (by omega) (by omega) (by omega)
          · refine less_then _ _ (by omega) (by omega) ?_
            by_cases e2 : a / 64 % 64 < b / 64 % 64
            · exact less_now _ _ (by omega) (by omega) (by omega)
            · exact less_then _ _ (by omega) (by omega) (less_now _ _ (by omega) (by omega) (by omega))
        · rw [if_neg b3]; exact less_now _ _ (by omega) (by omega) (by omega)
      · rw [if_neg a3, if_neg (show ¬ b < 65536 by omega)]
        by_cases e1 : a / 262144 < b / 262144
        · exact less_now _ _ (by omega) (by omega) (by omega)
        · refine less_then _ _ (by omega) (by omega) ?_
          by_cases e2 : a / 4096 % 64 < b / 4096 % 64
          · exact less_now _ _ (by omega) (by omega) (by omega)
          · refine less_then _ _ (by omega) (by omega) ?_
            by_cases e3 : a / 64 % 64 < b / 64 % 64
            · exact less_now _ _ (by omega) (by omega) (by omega)
            · exact less_then _ _ (by omega) (by omega) (less_now _ _ (by omega) (by omega) (by omega))
/-- the statement of UtfOrder over numbers and lists -/
theorem UtfOrder (l : List Int) (a b : Int) (m : List Int) (hl' : l.length * 4 ≤ 140737488351232 ∧ ∀ x ∈ l, (Lit.int .i32 x).wf = true) (_ : (Lit.int .i32 a).wf = true) (_ : (Lit.int .i32 b).wf = true) (hm' : m.length * 4 ≤ 140737488351232 ∧ ∀ x ∈ m, (Lit.int .i32 x).wf = true) : ∃ k, exerguelaw01_UtfOrder.f k l a b m = some true := by
  have hl := hl'.1
  have hm := hm'.1
  refine ⟨9000, ?_⟩
  unfold exerguelaw01_UtfOrder.f
  rw [shown_f (by omega), Option.bind_some, wr (by omega) (by omega)]
  by_cases h : (l.length : Int) + (m.length : Int) > 500
  · rw [if_pos h]
    simp [exerguelaw01_UtfOrder.j0]
  · rw [if_neg h]
    by_cases hab : a ≥ b
    · simp [exerguelaw01_UtfOrder.j0, hab]
    · simp only [exerguelaw01_UtfOrder.j0]
      rw [if_neg (by simpa using hab), Option.bind_some, if_pos (by simp only [List.length_nil]; omega), Option.bind_some, List.nil_append, if_pos (by omega), Encode_f (by simp; omega) (by simp; omega), Option.bind_some, Option.bind_some, if_pos (by simp only [List.length_nil]; omega), Option.bind_some, List.nil_append, if_pos (by omega), Option.bind_some, if_pos (by simp; omega), Encode_f (by simp; omega) (by simp; omega), Option.bind_some, if_pos trivial, rSame_f (by omega) (by omega)]
      by_cases h1 : ∀ r ∈ l ++ [a], isR r = true
      · rw [encR_ok h1, if_pos rfl]
        by_cases h2 : ∀ r ∈ l ++ [b] ++ m, isR r = true
        · have hl' : ∀ r ∈ l, isR r = true := fun r hr => h1 r (List.mem_append_left _ hr)
          have ha' : isR a = true := h1 a (by simp)
          have hb' : isR b = true := h2 b (by simp)
          have : Op.bytesLess (strOfNums (encAll (l ++ [a]))).toList (strOfNums (encAll (l ++ [b] ++ m))).toList = true := by
            rw [conv_str, conv_str, encAll_append, encAll_append, encAll_append, encAll_one, encAll_one, List.append_assoc, less_front _ (encAll_byte hl')]
            exact less_enc ha' hb' (by omega) _
          rw [encR_ok h2, if_pos rfl, if_pos this]
          simp
        · rw [encR_bad h2, if_neg (by simp)]
          simp
      · rw [encR_bad h1, if_neg (by simp)]
        simp
end Go.Proofs.Ytapjpcpaildccaa.Pure
