/- Texts of this claim, joined; what the kit's print wrote stands under a line of its own, LESS the theorems that this claim does not use (left out by prune16.py). -/
import Derived.Test.YtmhpcjncngonbaaZM8
/- A locale's bundle without what it says twice, and its texts in it; rows of 65535 at most. -/
namespace Go.Proofs.Ytmhpcjncngonbaa.Q
open Go.RowKit Go.Proofs.Ytmhpcjncngonbaa.Mine Go.Proofs.YtmhpcjncngonbaaW.PrintWords Go.Proofs.YtmhpcjncngonbaaW.PrintLast Go.Proofs.YtmhpcjncngonbaaW.PrintMore
set_option linter.unusedVariables false
set_option linter.unusedSimpArgs false
open Go.Proofs.Ytmhpcjncngonbaa.Spec (I Y)
theorem okN_ix {p : List ByteArray} {s : ByteArray} (hs : s ∈ p) (hp : p.length ≤ 500) : okN (ix p s, 2) = true := by
  have := List.idxOf_lt_length_of_mem hs
  exact okN_iff.2 ⟨by unfold ix; omega, puts2.2 (by unfold ix; omega)⟩
/-- a locale whose tag is the first pattern's text -/
def tagL (L : Loc) : Loc := { L with tag := L.p0 }
set_option maxHeartbeats 4000000 in
set_option maxRecDepth 100000 in
theorem holds.calls (A : Option Addr) (c : Nat) (b P Q : List Int) (s : ByteArray) (w : World) (hr : (Kd.int .u8).C w A b.length b) (hc : b.length ≤ c) (hb : b = P ++ (bytesOf s ++ Q)) (hl : b.length < 140737488355328) :
    Calls Try.prog 23 #[.slice A b.length c, .string s] w fun e w' => e = .returned (.bool true) ∧ Below w.heap.size w w' := by
  have hbl : b.length = P.length + s.size + Q.length := by rw [hb, List.length_append, List.length_append, bytesOf_length]; omega
  have HBL := Aside0.mk hbl
  have HCC := Aside0.mk hc
  have HL := Aside0.mk hl
  have HP := Aside0.mk (show (b.take (P.length + s.size)).drop P.length = bytesOf s by
    rw [hb, List.drop_take, List.drop_left, show P.length + s.size - P.length = s.size by omega, List.take_append_of_le_length (by rw [bytesOf_length]; omega), List.take_of_length_le (by rw [bytesOf_length]; omega)])
  have HR := Aside0.mk hr
  clear hr hc hb hl hbl
  go_enter Try.func23, Try.ntmps23
  go_wp2_with fail
  go_loopg [5] (P.length + 1) (fun kq v5 w' => ∃ i : Nat, v5 = .int .i64 (i : Int) ∧ Aside0 (i ≤ P.length) ∧ Aside0 (P.length + 1 - i = kq) ∧ Aside0 ((Kd.int .u8).C w' A b.length b) ∧ Aside0 (Below w.heap.size w w'))
  case atStart => exact ⟨0, rfl, ⟨Nat.zero_le _⟩, ⟨rfl⟩, HR, ⟨Below.refl _ _⟩⟩
  case round =>
    obtain ⟨i, rfl, HI, HKQ, HR, HB⟩ := hrel
    have hw : wrap64 ((i : Int) + (s.size : Int)) = (i : Int) + (s.size : Int) := by have := HI.out; have := HBL.out; have := HL.out; unfold wrap64; omega
    have hle : decide (((i + s.size : Nat) : Int) ≤ (b.length : Int)) = true := decide_eq_true (by have := HI.out; have := HBL.out; omega)
    have hle2 : decide ((i : Int) + (s.size : Int) ≤ (b.length : Int)) = true := decide_eq_true (by have := HI.out; have := HBL.out; omega)
    obtain ⟨i0, hi, _, hsz, _⟩ := info_parts info5
    obtain ⟨A8, hcut, hA, hC⟩ := print_mid_of (P := Try.prog) (Value.int .u8) 0 32 5 .i64 .i64 Try.underlying32 hi hsz A c b (i : Int) ((i : Int) + (s.size : Int)) (by omega) (by omega) (by have := HI.out; have := HBL.out; omega) HCC.out
    have hpc := Kd.C_of_reads (h1 := fun _ => rfl) (hA _ (Kd.reads_of_C HR.out))
    have ht : ((i : Int) + (s.size : Int)).toNat = i + s.size := by omega
    simp only [Int.toNat_natCast, ht] at hcut hpc hC
    have hpl : ((b.take (i + s.size)).drop i).length = s.size := by rw [List.length_drop, List.length_take]; have := HI.out; have := HBL.out; omega
    have HPI := Aside0.mk (show i = P.length → strOfNums ((b.take (i + s.size)).drop i) = s from fun e => by rw [e, HP.out, str_of])
    generalize (b.take (i + s.size)).drop i = piece at hcut hpc hC hpl HPI
    rw [hpl] at hcut hC hpc
    have hcv : (convert 32 9 (.slice A8 s.size (c - i))).run Try.prog wr = .ok (.string (strOfNums piece)) wr := Kd.C_string (P := Try.prog) (A := A8) (c := c - i) Try.underlying32 Try.underlying5 Try.underlying9 hpc
    have heq := toList_eq_iff (strOfNums piece) s
    clear hA hpc hC hpl hsz hi
    by_cases hs : strOfNums piece = s
    · rw [decide_eq_true hs] at heq
      clear hs
      generalize strOfNums piece = st at *
      go_wp2_with fail
      go_ret
      exact ⟨rfl, HB.out⟩
    · have HLT := Aside0.mk (show i < P.length by
        rcases Nat.lt_or_ge i P.length with h | h
        · exact h
        · exact absurd (HPI.out (by have := HI.out; omega)) hs)
      rw [decide_eq_false hs] at heq
      clear hs HPI
      generalize strOfNums piece = st at *
      go_wp2
      go_roundg (P.length + 1 - (i + 1))
      case measure => have := HLT.out; have := HKQ.out; omega
      case rel => exact ⟨i + 1, by have := HLT.out; have := HBL.out; have := HL.out; first | rfl | (congr 1; unfold wrap64; omega), ⟨HLT.out⟩, ⟨rfl⟩, HR, HB⟩
end Go.Proofs.Ytmhpcjncngonbaa.Q
