/- What the printed functions of tank and its reference come to: plain functions on numbers and lists. -/
import Derived.Test.YtlmgpjeienhihaaQx7
import Derived.Test.YtlmgpjeienhihaaQx8
import Derived.Test.YtlmgpjeienhihaaQx9
import Derived.Test.YtlmgpjeienhihaaQx10
import Derived.Test.YtlmgpjeienhihaaQx3
import Derived.Test.YtlmgpjeienhihaaQx6
namespace Go.Proofs.Ytlmgpjeienhihaa.Spec
open Go.RowKit Go.Proofs.Ytlmgpjeienhihaa.Mine Go.Proofs.Ytlmgpjeienhihaa.Q Go.Proofs.YtlmgpjeienhihaaW.PrintWords Go.Proofs.YtlmgpjeienhihaaW.PrintLast Go.Proofs.YtlmgpjeienhihaaW.PrintMore
set_option linter.unusedVariables false
set_option linter.unusedSimpArgs false
theorem wr {x : Int} (h : -9223372036854775808 ≤ x) (h2 : x < 9223372036854775808) : wrap64 x = x := by unfold wrap64; omega
theorem rd_at {a : List Int} {n : Nat} (h : n < a.length) : rd a (n : Int) = a[n] := by simp [rd, List.getD_eq_getElem?_getD, h]
theorem succ_of {k b : Nat} (h : b < k) : ∃ m, k = m + 1 ∧ b ≤ m := ⟨k - 1, by omega, by omega⟩
theorem wf_i64 {x : Int} (h : (Lit.int .i64 x).wf = true) : -9223372036854775808 ≤ x ∧ x < 9223372036854775808 := by
  simp [Lit.wf, IntKind.min, IntKind.max, IntKind.signed, IntKind.bits] at h
  omega
theorem eq_loop (L : Nat → Int → Option Bool) (a b : List Int) (hab : a.length = b.length)
    (step : ∀ k (n : Nat), n < a.length → L (k + 1) n = if rd a n = rd b n then L k ((n + 1 : Nat) : Int) else some false) (stop : ∀ k, L (k + 1) (a.length : Int) = some true) :
    ∀ (d n k : Nat), n + d = a.length → d < k → L k n = some (decide (a.drop n = b.drop n)) := by
  intro d
  induction d with
  | zero =>
    intro n k hn hk
    obtain ⟨m, rfl, _⟩ := succ_of hk
    obtain rfl : n = a.length := by omega
    rw [stop, List.drop_eq_nil_of_le (Nat.le_refl _), List.drop_eq_nil_of_le (by omega)]
    rfl
  | succ d ih =>
    intro n k hn hk
    obtain ⟨m, rfl, hm⟩ := succ_of hk
    have h1 : n < a.length := by omega
    have h2 : n < b.length := by omega
    rw [step m n h1, rd_at h1, rd_at h2, List.drop_eq_getElem_cons h1, List.drop_eq_getElem_cons h2]
    by_cases e : a[n] = b[n]
    · rw [if_pos e, ih (n + 1) m (by omega) (by omega), e]
      congr 1
      rw [decide_eq_decide]
      exact ⟨fun h => by rw [h], fun h => (List.cons.inj h).2⟩
    · rw [if_neg e]
      congr 1
      symm
      rw [decide_eq_false_iff_not]
      exact fun h => e (List.cons.inj h).1
theorem rSame_f {a b : List Int} {k : Nat} (hl : a.length < 140737488355328) (hk : a.length < k) : exergueref01_Same.f k a b = some (decide (a = b)) := by
  unfold exergueref01_Same.f
  by_cases hab : a.length = b.length
  · rw [if_pos (by omega)]
    have := eq_loop (fun k i => exergueref01_Same.l0 k a b i) a b hab (fun k n hn => by
      simp only [exergueref01_Same.l0]
      rw [if_pos (by omega), if_pos (by omega), if_pos (by omega), wr (by omega) (by omega)]
      rfl) (fun k => by
      simp only [exergueref01_Same.l0]
      rw [if_neg (by omega)]) a.length 0 k (by omega) hk
    simpa using this
  · rw [if_neg (by omega)]
    have : a ≠ b := fun h => hab (by rw [h])
    simp [this]
theorem tSame_f {f r : Int} {a : List Int} {f2 r2 : Int} {b : List Int} {k : Nat} (hl : a.length < 140737488355328) (hk : a.length < k) : exergueref04_Same.f k f r a f2 r2 b = some (decide (a = b ∧ f = f2 ∧ r = r2)) := by
  unfold exergueref04_Same.f
  rw [rSame_f hl hk, Option.bind_some]
  by_cases h1 : a = b
  · rw [if_pos (by simpa using h1)]
    by_cases h2 : f = f2
    · rw [if_pos h2]
      congr 1
      rw [Bool.eq_iff_iff, beq_iff_eq, decide_eq_true_iff]
      exact ⟨fun h => ⟨h1, h2, h⟩, fun h => h.2.2⟩
    · rw [if_neg h2]
      simp [h2]
  · rw [if_neg (by simpa using h1)]
    simp [h1]
theorem right_f (f r : Int) (a : List Int) : exergueref04_Right.f f r a = some (decide (0 ≤ f ∧ 0 ≤ r ∧ (a.length : Int) ≤ 1000)) := by
  unfold exergueref04_Right.f
  by_cases h1 : f ≥ 0
  · rw [if_pos h1]
    by_cases h2 : r ≥ 0
    · rw [if_pos h2]
      congr 1
      rw [decide_eq_decide]
      exact ⟨fun h => ⟨h1, h2, h⟩, fun h => h.2.2⟩
    · rw [if_neg h2]
      congr 1
      symm
      rw [decide_eq_false_iff_not]
      exact fun h => h2 h.2.1
  · rw [if_neg h1]
    congr 1
    symm
    rw [decide_eq_false_iff_not]
    exact fun h => h1 h.1
/-- what is put out, rune by rune -/
def putR : Int → Int → List Int → List Int → Int × Int × List Int × Int
  | f, r, out, [] => (f, r, out, 0)
  | f, r, out, x :: l => if f = 0 then (0, r, out, 4) else if r = 0 then (f - 1, 0, out, 5) else putR (f - 1) (r - 1) (out ++ [x]) l
theorem put_l (l : List Int) (hl : l.length ≤ 100000) : ∀ (d n k : Nat) (f r : Int) (out : List Int), n + d = l.length → d < k → 0 ≤ f → f < 9223372036854775808 → 0 ≤ r → r < 9223372036854775808 → out.length + d ≤ 300000 →
    tank_Put.l0 k l (l.length : Int) n f r out = some (putR f r out (l.drop n)) := by
  intro d
  induction d with
  | zero =>
    intro n k f r out hn hk _ _ _ _ _
    obtain ⟨m, rfl, _⟩ := succ_of hk
    simp only [tank_Put.l0]
    rw [if_neg (by omega), List.drop_eq_nil_of_le (by omega)]
    rfl
  | succ d ih =>
    intro n k f r out hn hk f0 f1 r0 r1 ho
    obtain ⟨m, rfl, hm⟩ := succ_of hk
    have h1 : n < l.length := by omega
    simp only [tank_Put.l0]
    rw [if_pos (by omega), if_pos (by omega), if_pos (by omega), rd_at h1, List.drop_eq_getElem_cons h1]
    unfold tank_Burn.f putR
    rw [if_neg (by omega)]
    by_cases hf : f = 0
    · rw [if_pos (by omega), if_pos hf, Option.bind_some, if_neg (by simp)]
    · rw [if_neg (by omega), if_neg hf, Option.bind_some, if_pos rfl, wr (by omega) (by omega)]
      by_cases hr : r = 0
      · rw [if_pos hr, if_pos hr, hr]
      · dsimp only
        rw [if_neg hr, if_neg hr, if_pos (by omega), wr (by omega) (by omega), wr (by omega) (by omega)]
        have := ih (n + 1) m (f - 1) (r - 1) (out ++ [l[n]]) (by omega) (by omega) (by omega) (by omega) (by omega) (by omega) (by rw [List.length_append]; simp; omega)
        rw [show ((n + 1 : Nat) : Int) = (n : Int) + 1 by omega] at this
        exact this
theorem put_f {f r : Int} {out l : List Int} {k : Nat} (f0 : 0 ≤ f) (f1 : f < 9223372036854775808) (r0 : 0 ≤ r) (r1 : r < 9223372036854775808) (ho : out.length ≤ 100000) (hl : l.length ≤ 100000) (hk : l.length < k) : tank_Put.f k f r out l = some (putR f r out l) := by
  unfold tank_Put.f
  rw [wr (by omega) (by omega), if_pos (by omega), if_pos (by omega), if_pos (by omega), Option.bind_some, if_pos (by rw [List.length_replicate]; omega), cpy_all (by rw [List.length_replicate]; omega)]
  have := put_l l hl l.length 0 k f r out (by omega) hk f0 f1 r0 r1 (by omega)
  simpa using this
/-- all at once -/
theorem putR_eq : ∀ (l : List Int) (f r : Int) (out : List Int), 0 ≤ f → 0 ≤ r → putR f r out l =
    if (l.length : Int) ≤ f ∧ (l.length : Int) ≤ r then (f - l.length, r - l.length, out ++ l, 0) else if f ≤ r then (0, r - f, out ++ l.take f.toNat, 4) else (f - r - 1, 0, out ++ l.take r.toNat, 5)
  | [], f, r, out, hf, hr => by
    rw [if_pos ⟨by simpa using hf, by simpa using hr⟩]
    simp [putR]
  | x :: l, f, r, out, hf, hr => by
    unfold putR
    by_cases h1 : f = 0
    · subst h1
      rw [if_pos rfl, if_neg (by simp only [List.length_cons]; omega), if_pos hr]
      simp
    · rw [if_neg h1]
      by_cases h2 : r = 0
      · subst h2
        rw [if_pos rfl, if_neg (by simp only [List.length_cons]; omega), if_neg (by omega)]
        simp
      · rw [if_neg h2, putR_eq l (f - 1) (r - 1) (out ++ [x]) (by omega) (by omega)]
        by_cases h3 : (l.length : Int) ≤ f - 1 ∧ (l.length : Int) ≤ r - 1
        · rw [if_pos h3, if_pos (by simp only [List.length_cons]; omega)]
          simp only [List.length_cons, List.append_assoc, List.cons_append, List.nil_append, Prod.mk.injEq, and_true]
          omega
        · rw [if_neg h3, if_neg (show ¬ (((x :: l).length : Int) ≤ f ∧ ((x :: l).length : Int) ≤ r) by simp only [List.length_cons]; omega)]
          by_cases h4 : f - 1 ≤ r - 1
          · rw [if_pos h4, if_pos (by omega)]
            have e : f.toNat = (f - 1).toNat + 1 := by omega
            rw [e, List.take_succ_cons]
            simp only [List.append_assoc, List.cons_append, List.nil_append, Prod.mk.injEq, and_true, true_and]
            omega
          · rw [if_neg h4, if_neg (by omega)]
            have e : r.toNat = (r - 1).toNat + 1 := by omega
            rw [e, List.take_succ_cons]
            simp only [List.append_assoc, List.cons_append, List.nil_append, Prod.mk.injEq, and_true]
            omega
theorem putR_cons (f r : Int) (out : List Int) (x : Int) (l : List Int) : putR f r out (x :: l) = if f = 0 then (0, r, out, 4) else if r = 0 then (f - 1, 0, out, 5) else putR (f - 1) (r - 1) (out ++ [x]) l := rfl
theorem putR_parts (l m : List Int) : ∀ (f r : Int) (out : List Int), putR f r out (l ++ m) = if (putR f r out l).2.2.2 = 0 then putR (putR f r out l).1 (putR f r out l).2.1 (putR f r out l).2.2.1 m else putR f r out l := by
  induction l with
  | nil => intro f r out; simp [putR]
  | cons x l ih =>
    intro f r out
    rw [List.cons_append, putR_cons f r out x (l ++ m), putR_cons f r out x l]
    by_cases h1 : f = 0
    · rw [if_pos h1, if_pos h1, if_neg (by simp)]
    · rw [if_neg h1, if_neg h1]
      by_cases h2 : r = 0
      · rw [if_pos h2, if_pos h2, if_neg (by simp)]
      · rw [if_neg h2, if_neg h2]
        exact ih _ _ _
theorem shown_f {k : Nat} (hk : 60 ≤ k) : exerguelaw04_shown.f k = some true :=
  at_rounds (g := fun k => exerguelaw04_shown.f k) exerguelaw04_shown.mono hk (by decide +kernel)
theorem putR_bd (l : List Int) {f r : Int} (out : List Int) (hf : 0 ≤ f) (hr : 0 ≤ r) : 0 ≤ (putR f r out l).1 ∧ (putR f r out l).1 ≤ f ∧ 0 ≤ (putR f r out l).2.1 ∧ (putR f r out l).2.1 ≤ r ∧ out.length ≤ (putR f r out l).2.2.1.length ∧ (putR f r out l).2.2.1.length ≤ out.length + l.length := by
  rw [putR_eq l f r out hf hr]
  by_cases h1 : (l.length : Int) ≤ f ∧ (l.length : Int) ≤ r
  · rw [if_pos h1]
    simp only [List.length_append]
    omega
  · rw [if_neg h1]
    by_cases h2 : f ≤ r
    · rw [if_pos h2]
      simp only [List.length_append, List.length_take]
      omega
    · rw [if_neg h2]
      simp only [List.length_append, List.length_take]
      omega
end Go.Proofs.Ytlmgpjeienhihaa.Spec
