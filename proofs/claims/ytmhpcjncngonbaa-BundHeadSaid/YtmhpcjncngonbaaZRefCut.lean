/- Texts of this claim, joined; the first one's sentence stands below. -/
import Derived.Test.YtmhpcjncngonbaaZM7
import Derived.Test.YtmhpcjncngonbaaZM6
/- The reference's checksums of a bundle, and what stands in its directory, in plain Lean; rows of 65535 at most. -/
namespace Go.Proofs.Ytmhpcjncngonbaa.Q
open Go.RowKit Go.Proofs.Ytmhpcjncngonbaa.Mine Go.Proofs.YtmhpcjncngonbaaW.PrintWords Go.Proofs.YtmhpcjncngonbaaW.PrintLast Go.Proofs.YtmhpcjncngonbaaW.PrintMore
set_option linter.unusedVariables false
set_option linter.unusedSimpArgs false
end Go.Proofs.Ytmhpcjncngonbaa.Q
namespace Go.Proofs.Ytmhpcjncngonbaa.Spec
open Go.RowKit Go.Proofs.Ytmhpcjncngonbaa.Q Go.Proofs.YtmhpcjncngonbaaW.PrintWords Go.Proofs.YtmhpcjncngonbaaW.PrintLast
set_option linter.unusedVariables false
set_option linter.unusedSimpArgs false
theorem four_word (q0 q1 q2 q3 : Y) (t : W) : (((((((q0.toNat : Int) % 4294967296) + ((((q1.toNat : Int) % 4294967296) * 256) % 4294967296)) % 4294967296) + ((((q2.toNat : Int) % 4294967296) * 65536) % 4294967296)) % 4294967296) + ((((q3.toNat : Int) % 4294967296) * 16777216) % 4294967296)) % 4294967296 = (t.toNat : Int) ↔ [q0, q1, q2, q3] = toldB t := by
  have h0 := q0.isLt
  have h1 := q1.isLt
  have h2 := q2.isLt
  have h3 := q3.isLt
  have ht := t.isLt
  have e : ([q0, q1, q2, q3] = toldB t) ↔ (q0.toNat = t.toNat % 256 ∧ q1.toNat = t.toNat / 256 % 256 ∧ q2.toNat = t.toNat / 65536 % 256 ∧ q3.toNat = t.toNat / 16777216 % 256) := by
    simp only [toldB, List.cons.injEq, and_true, ← BitVec.toNat_inj, BitVec.toNat_setWidth, BitVec.toNat_ushiftRight, Nat.shiftRight_eq_div_pow, Nat.reducePow]
  rw [e]
  constructor
  · intro h
    omega
  · rintro ⟨h4, h5, h6, h7⟩
    omega
theorem rCut_f {k : Nat} (l : List Y) (hl : l.length < 140737488000000) (hk : l.length + 8 < k) : exergueref08_Cut.f k (I l) = some (I (cut l).1, (cut l).2) := by
  unfold exergueref08_Cut.f cut
  rw [I_len]
  by_cases h4 : l.length < 4
  · rw [wr (by omega) (by omega), if_pos (by omega), if_pos h4]
    rfl
  · obtain ⟨n, hn⟩ : ∃ n, l.length = n + 4 := ⟨l.length - 4, by omega⟩
    have w0 : wrap64 ((l.length : Int) - 4) = (n : Int) := by rw [wr (by omega) (by omega)]; omega
    have w1 : wrap64 ((n : Int) + 1) = ((n + 1 : Nat) : Int) := by rw [wr (by omega) (by omega)]; omega
    have w2 : wrap64 ((n : Int) + 2) = ((n + 2 : Nat) : Int) := by rw [wr (by omega) (by omega)]; omega
    have w3 : wrap64 ((n : Int) + 3) = ((n + 3 : Nat) : Int) := by rw [wr (by omega) (by omega)]; omega
    have hn4 : l.length - 4 = n := by omega
    rw [if_neg h4, w0, if_neg (by omega), if_pos (by omega), if_pos (by omega), w1, if_pos (by omega), if_pos (by omega), w2, if_pos (by omega), if_pos (by omega), w3, if_pos (by omega), if_pos (by omega), if_pos (by omega), hn4, Int.toNat_natCast]
    have e1 : (I l).take n = I (l.take n) := by simp [I, List.map_take]
    have hd : l.drop n = [l[n]'(by omega), l[n + 1]'(by omega), l[n + 2]'(by omega), l[n + 3]'(by omega)] := by
      rw [List.drop_eq_getElem_cons (show n < l.length by omega), List.drop_eq_getElem_cons (show n + 1 < l.length by omega), List.drop_eq_getElem_cons (show n + 1 + 1 < l.length by omega), List.drop_eq_getElem_cons (show n + 1 + 1 + 1 < l.length by omega), List.drop_eq_nil_of_le (by omega)]
    rw [e1, rOf_f (l.take n) (by rw [List.length_take]; omega) (by rw [List.length_take]; omega), Option.bind_some, rd_I (show n < l.length by omega), rd_I (show n + 1 < l.length by omega), rd_I (show n + 2 < l.length by omega), rd_I (show n + 3 < l.length by omega), hd]
    by_cases h : [l[n]'(by omega), l[n + 1]'(by omega), l[n + 2]'(by omega), l[n + 3]'(by omega)] = toldB (crc 0#32 (l.take n))
    · rw [if_pos ((four_word _ _ _ _ _).2 h), if_pos h]
    · rw [if_neg (fun e => h ((four_word _ _ _ _ _).1 e)), if_neg h]
      rfl
end Go.Proofs.Ytmhpcjncngonbaa.Spec
namespace Go.Proofs.Ytmhpcjncngonbaa.Q
open Go.RowKit Go.Proofs.Ytmhpcjncngonbaa.Mine Go.Proofs.YtmhpcjncngonbaaW.PrintWords Go.Proofs.YtmhpcjncngonbaaW.PrintLast Go.Proofs.YtmhpcjncngonbaaW.PrintMore
set_option linter.unusedVariables false
set_option linter.unusedSimpArgs false
theorem rCut_c {k : Nat} {x : List Int} (hx : bytesOk x) (hl : x.length < 140737487000000) (hk : x.length + 12 < k) : exergueref08_Cut.f k (putC x) = some (x, 0) := by
  have hp := putC_len x
  have := Spec.rCut_f (k := k) (toY (putC x)) (by rw [toY_len]; omega) (by rw [toY_len]; omega)
  rw [toY_I (putC_ok x)] at this
  rw [this]
  have h2 := cutC_put hx
  unfold cutC at h2
  rw [h2]
theorem rPut_c {k : Nat} {x : List Int} (hx : bytesOk x) (hl : x.length < 140737487000000) (hk : x.length + 12 < k) : exergueref08_Put.f k x = some (putC x) := by
  have := Spec.rPut_f (k := k) (toY x) (by rw [toY_len]; omega) (by rw [toY_len]; omega)
  rw [toY_I hx] at this
  rw [this]
  rfl
/-- a number of four bytes at a place -/
def HeadN (x : List Int) (i : Nat) (n : Int) : Prop := ∃ a b c d : Int, x[i]? = some a ∧ x[i + 1]? = some b ∧ x[i + 2]? = some c ∧ x[i + 3]? = some d ∧ (0 ≤ a ∧ a < 256) ∧ (0 ≤ b ∧ b < 256) ∧ (0 ≤ c ∧ c < 256) ∧ (0 ≤ d ∧ d < 256) ∧ a * 16777216 + b * 65536 + c * 256 + d = n
theorem num_at (A C : List Int) (n : Int) (h0 : 0 ≤ n) (h1 : n < 4294967296) : HeadN (A ++ (bytesB n 4 ++ C)) A.length n := by
  have e : bytesB n 4 = [n / 16777216 % 256, n / 65536 % 256, n / 256 % 256, n / 1 % 256] := rfl
  rw [e]
  refine ⟨n / 16777216 % 256, n / 65536 % 256, n / 256 % 256, n / 1 % 256, ?_, ?_, ?_, ?_, by omega, by omega, by omega, by omega, by omega⟩
  · rw [List.getElem?_append_right (Nat.le_refl _), Nat.sub_self]; rfl
  · rw [List.getElem?_append_right (by omega), show A.length + 1 - A.length = 1 by omega]; rfl
  · rw [List.getElem?_append_right (by omega), show A.length + 2 - A.length = 2 by omega]; rfl
  · rw [List.getElem?_append_right (by omega), show A.length + 3 - A.length = 3 by omega]; rfl
theorem nums_at : ∀ (ns : List Int) (A F : List Int), (∀ n ∈ ns, 0 ≤ n ∧ n < 4294967296) → ∀ (k : Nat) (n : Int), ns[k]? = some n → HeadN (A ++ (numsB (ns.map fun n => (n, 4)) ++ F)) (A.length + 4 * k) n := by
  intro ns
  induction ns with
  | nil => intro A F _ k n h; simp at h
  | cons m ns ih =>
    intro A F hr k n h
    rw [List.map_cons, numsB_cons, List.append_assoc]
    cases k with
    | zero =>
      obtain rfl : m = n := by simpa using h
      have := hr m List.mem_cons_self
      exact num_at A _ m this.1 this.2
    | succ k =>
      have h := ih (A ++ bytesB m 4) F (fun n hn => hr n (List.mem_cons_of_mem _ hn)) k n (by simpa using h)
      rw [List.append_assoc, List.length_append, bytesB_len] at h
      rw [show A.length + 4 * (k + 1) = A.length + 4 + 4 * k by omega]
      exact h
/-- what stands in a bundle's directory -/
theorem enc_dir {L : Loc} {x : List Int} (hL : LocB L) (h : encIn L = some x) : ∃ l0 l1 l2 l3 l4 l5 : Nat, HeadN x 8 56 ∧ HeadN x 12 l0 ∧ HeadN x 16 (56 + l0) ∧ HeadN x 20 l1 ∧ HeadN x 24 (56 + l0 + l1) ∧ HeadN x 28 l2 ∧ HeadN x 32 (56 + l0 + l1 + l2) ∧ HeadN x 36 l3 ∧ HeadN x 40 (56 + l0 + l1 + l2 + l3) ∧ HeadN x 44 l4 ∧ HeadN x 48 (56 + l0 + l1 + l2 + l3 + l4) ∧ HeadN x 52 l5 ∧ x.length = 56 + l0 + l1 + l2 + l3 + l4 + l5 ∧ x.length < 5000000 := by
  have hlen := (enc_len hL h).2.1
  obtain ⟨_, _, rfl⟩ := encIn_some hL h
  generalize gpool (textsL L) = p at *
  have e : (bundleB p L).length = 56 + (qs p L).flatten.length := by unfold bundleB; rw [List.length_append, dirA_len]
  refine ⟨(firstP p).length, (numsB (nm2 p L)).length, (numsB (nm3 p L)).length, (numsB (nm4 p L)).length, (numsB (nm5 p L)).length, (numsB (nm6 p L)).length, ?_⟩
  have e2 : (qs p L).flatten.length = (firstP p).length + (numsB (nm2 p L)).length + (numsB (nm3 p L)).length + (numsB (nm4 p L)).length + (numsB (nm5 p L)).length + (numsB (nm6 p L)).length := by
    simp only [qs, List.flatten_cons, List.flatten_nil, List.length_append, List.length_nil]
    omega
  have e3 : bundleB p L = [69, 88, 76, 66, 0, 1, 0, 6] ++ (numsB (dirN (qs p L) 56) ++ (qs p L).flatten) := by
    unfold bundleB dirA
    rw [numsB_cons, numsB_cons]
    simp only [List.append_assoc]
    rfl
  have e4 : dirN (qs p L) 56 = [(56 : Int), (firstP p).length, 56 + (firstP p).length, (numsB (nm2 p L)).length, 56 + (firstP p).length + (numsB (nm2 p L)).length, (numsB (nm3 p L)).length, 56 + (firstP p).length + (numsB (nm2 p L)).length + (numsB (nm3 p L)).length, (numsB (nm4 p L)).length, 56 + (firstP p).length + (numsB (nm2 p L)).length + (numsB (nm3 p L)).length + (numsB (nm4 p L)).length, (numsB (nm5 p L)).length, 56 + (firstP p).length + (numsB (nm2 p L)).length + (numsB (nm3 p L)).length + (numsB (nm4 p L)).length + (numsB (nm5 p L)).length, (numsB (nm6 p L)).length].map (fun n => (n, 4)) := rfl
  rw [e, e2] at hlen
  rw [e, e2]
  rw [e3, e4]
  generalize (qs p L).flatten = F
  generalize (firstP p).length = l0 at *
  generalize (numsB (nm2 p L)).length = l1 at *
  generalize (numsB (nm3 p L)).length = l2 at *
  generalize (numsB (nm4 p L)).length = l3 at *
  generalize (numsB (nm5 p L)).length = l4 at *
  generalize (numsB (nm6 p L)).length = l5 at *
  clear e e2 e3 e4
  have g := nums_at [(56 : Int), l0, 56 + l0, l1, 56 + l0 + l1, l2, 56 + l0 + l1 + l2, l3, 56 + l0 + l1 + l2 + l3, l4, 56 + l0 + l1 + l2 + l3 + l4, l5] [69, 88, 76, 66, 0, 1, 0, 6] F (by
    intro n hn
    simp only [List.mem_cons, List.not_mem_nil, or_false] at hn
    rcases hn with rfl | rfl | rfl | rfl | rfl | rfl | rfl | rfl | rfl | rfl | rfl | rfl <;> omega)
  exact ⟨g 0 _ rfl, g 1 _ rfl, g 2 _ rfl, g 3 _ rfl, g 4 _ rfl, g 5 _ rfl, g 6 _ rfl, g 7 _ rfl, g 8 _ rfl, g 9 _ rfl, g 10 _ rfl, g 11 _ rfl, by omega, by omega⟩
end Go.Proofs.Ytmhpcjncngonbaa.Q
