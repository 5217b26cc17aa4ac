/- Texts of this claim, joined; the first one's sentence stands below. -/
import Derived.Test.YtmhpcjncngonbaaZRefMay
import Derived.Test.YtmhpcjncngonbaaZPool
/- What the reference asks of a locale's numbers is what the writer can write, in plain Lean; rows of 65535 at most. -/
namespace Go.Proofs.Ytmhpcjncngonbaa.Q
open Go.RowKit Go.Proofs.Ytmhpcjncngonbaa.Mine Go.Proofs.YtmhpcjncngonbaaW.PrintWords Go.Proofs.YtmhpcjncngonbaaW.PrintLast Go.Proofs.YtmhpcjncngonbaaW.PrintMore
set_option linter.unusedVariables false
set_option linter.unusedSimpArgs false
theorem okN_b (x : Int) : okN (x, 1) = byteB x := by
  rw [Bool.eq_iff_iff, okN_iff, puts1]
  simp only [byteB, Bool.and_eq_true, decide_eq_true_eq]
  omega
theorem okN_4 (x : Int) (h : x < 2147483648) : okN (x, 4) = decide (0 ≤ x) := by
  rw [Bool.eq_iff_iff, okN_iff, puts4, decide_eq_true_eq]
  omega
theorem okN_l (n : Nat) (h : n ≤ 65535) : okN ((n : Int), 2) = true := by
  rw [okN_iff, puts2]
  omega
theorem okR_nr {p : List ByteArray} (hp : p.length ≤ 500) : ∀ xs : List (Int × ByteArray), (∀ x ∈ xs, x.2 ∈ p) → okB (nr p xs) = xs.all fun x => byteB x.1
  | [], _ => rfl
  | x :: xs, h => by
    have e : nr p (x :: xs) = (x.1, 1) :: (ix p x.2, 2) :: nr p xs := rfl
    rw [e, okB_cons, okB_cons, okN_b, okN_ix (h x List.mem_cons_self) hp, okR_nr hp xs (fun y hy => h y (List.mem_cons_of_mem _ hy)), Bool.true_and, List.all_cons]
theorem okC_nc {p : List ByteArray} (hp : p.length ≤ 500) : ∀ xs : List (ByteArray × ByteArray × Int), (∀ x ∈ xs, x.1 ∈ p ∧ x.2.1 ∈ p) → okB (nc p xs) = xs.all fun x => byteB x.2.2
  | [], _ => rfl
  | x :: xs, h => by
    have e : nc p (x :: xs) = (ix p x.1, 2) :: (ix p x.2.1, 2) :: (x.2.2, 1) :: nc p xs := rfl
    rw [e, okB_cons, okB_cons, okB_cons, okN_b, okN_ix (h x List.mem_cons_self).1 hp, okN_ix (h x List.mem_cons_self).2 hp, okC_nc hp xs (fun y hy => h y (List.mem_cons_of_mem _ hy)), Bool.true_and, Bool.true_and, List.all_cons]
theorem okM_nk {p : List ByteArray} (hp : p.length ≤ 500) : ∀ xs : List (Int × Int × ByteArray), (∀ x ∈ xs, x.2.2 ∈ p) → okB (nk p xs) = xs.all fun x => byteB x.1 && byteB x.2.1
  | [], _ => rfl
  | x :: xs, h => by
    have e : nk p (x :: xs) = (x.1, 1) :: (x.2.1, 1) :: (ix p x.2.2, 2) :: nk p xs := rfl
    rw [e, okB_cons, okB_cons, okB_cons, okN_b, okN_b, okN_ix (h x List.mem_cons_self) hp, okM_nk hp xs (fun y hy => h y (List.mem_cons_of_mem _ hy)), Bool.true_and, List.all_cons, Bool.and_assoc]
/-- what the reference asks of a locale's numbers is what the writer can write -/
theorem may_ok {p : List ByteArray} (hp : p.length ≤ 500) (L : Loc) (hb : LocB L) (hs : LocS L) (hm : ∀ s ∈ textsL L, s ∈ p) : mayR L = okB (nmAll p L) := by
  obtain ⟨mt, m0, m1, m2, m3, mr, mc, mk⟩ := texts_mem L
  have hl : ∀ x ∈ [L.s0, L.s1, L.s2, L.s3, L.s4, L.s5, L.s6], x < 2147483648 := fun x hx => (hs x hx).2
  simp only [nmAll, okB_app, nm2, nm3, nm4, nm5, nm6, okB_cons]
  rw [okR_nr hp L.rules (fun x hx => hm _ (mr x hx)), okC_nc hp L.curs (fun x hx => ⟨hm _ (mc x hx).1, hm _ (mc x hx).2⟩), okM_nk hp L.comps (fun x hx => hm _ (mk x hx))]
  rw [okN_ix (hm _ mt) hp, okN_ix (hm _ m0) hp, okN_ix (hm _ m1) hp, okN_ix (hm _ m2) hp, okN_ix (hm _ m3) hp, okN_l _ hb.1, okN_l _ hb.2.1, okN_l _ hb.2.2, okN_4 _ (hl L.s0 (by simp)), okN_4 _ (hl L.s1 (by simp)), okN_4 _ (hl L.s2 (by simp)), okN_4 _ (hl L.s3 (by simp)), okN_4 _ (hl L.s4 (by simp)), okN_4 _ (hl L.s5 (by simp)), okN_4 _ (hl L.s6 (by simp))]
  simp only [mayR, sgnB, okR, okC, okM, List.all_cons, List.all_nil, Bool.true_and, Bool.and_true, show okB [] = true from rfl, Bool.and_assoc]
end Go.Proofs.Ytmhpcjncngonbaa.Q
