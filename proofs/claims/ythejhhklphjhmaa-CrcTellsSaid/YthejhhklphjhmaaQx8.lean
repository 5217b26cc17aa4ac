/- Functions of the translation as plain Lean functions, each with a proof that the Go code comes to its answers, wherever the function has one; no other condition. Written by this session's own program (wip/myprint.py). -/
import Derived.Test.YthejhhklphjhmaaQx0
import Derived.Test.YthejhhklphjhmaaQx1
import Derived.Test.YthejhhklphjhmaaQx2
import Derived.Test.YthejhhklphjhmaaQx5
import Derived.Test.YthejhhklphjhmaaQx6
import Derived.Test.YthejhhklphjhmaaQx7
namespace Go.Proofs.Ythejhhklphjhmaa.Q
open Go.RowKit Go.Proofs.Ythejhhklphjhmaa.Mine Go.Proofs.YthejhhklphjhmaaW.PrintWords Go.Proofs.YthejhhklphjhmaaW.PrintLast Go.Proofs.YthejhhklphjhmaaW.PrintMore
attribute [local go_sem] max2_int min2_int max_two min_two max_three min_three max_four min_four   -- for this text's walks alone
set_option linter.unusedVariables false
set_option linter.unusedSimpArgs false

/-! ### exerguelaw08_shown: function 10 -/
def xb (l qs : List Int) (n : Nat) : Nat → List Int
  | 0 => l
  | i + 1 => (xb l qs n i).set (n + i) (Go.bits .xor .u8 (rd (xb l qs n i) ((n + i : Nat) : Int)) (rd qs (i : Int)))
theorem xb_len (l qs : List Int) (n : Nat) : ∀ i, (xb l qs n i).length = l.length
  | 0 => rfl
  | i + 1 => by rw [xb, List.length_set, xb_len l qs n i]
def digs : List Int := [49, 50, 51, 52, 53, 54, 55, 56, 57]
def exerguelaw08_shown.f (k : Nat) : Option Bool := (crc_Put.f k digs).bind fun p => (crc_Cut.f k p).bind fun c => (crc_Of.f k digs).bind fun s => (crc_Of.f k []).bind fun s0 => (crc_On.f k 0 digs).bind fun s1 => (crc_Step.f k 0 1).bind fun s2 => if s = 3421780262 ∧ c = (digs, 0) ∧ s0 = 0 ∧ s1 = 3421780262 ∧ s2 = 1996959894 then some true else none
theorem exerguelaw08_shown.mono : ∀ k, LeO (exerguelaw08_shown.f k) (exerguelaw08_shown.f (k + 1)) := by
  intro k
  unfold exerguelaw08_shown.f
  repeat' first
      | (with_reducible exact crc_Cut.mono _ _)
      | (with_reducible exact crc_Of.mono _ _)
      | (with_reducible exact crc_On.mono _ _ _)
      | (with_reducible exact crc_Put.mono _ _)
      | (with_reducible exact crc_Step.mono _ _ _)
      | (with_reducible exact LeO.refl _)
      | (with_reducible exact LeO.none _)
      | (with_reducible refine LeO.ite ?_ ?_)
      | (with_reducible refine LeO.bind ?_ (fun _ => ?_))
set_option maxHeartbeats 4000000 in
set_option maxRecDepth 100000 in
theorem exerguelaw08_shown.calls (k : Nat) (r : Bool) (w : World) (h : exerguelaw08_shown.f k = some r) :
    Calls Try.prog 10 #[] w fun e w' => e = .returned (.bool r) ∧ Below w.heap.size w w' := by
  obtain ⟨p, A1_, h⟩ := Option.bind_eq_some_iff.mp h
  obtain ⟨c, A2_, h⟩ := Option.bind_eq_some_iff.mp h
  obtain ⟨s, A3_, h⟩ := Option.bind_eq_some_iff.mp h
  obtain ⟨s0, A4_, h⟩ := Option.bind_eq_some_iff.mp h
  obtain ⟨s1, A5_, h⟩ := Option.bind_eq_some_iff.mp h
  obtain ⟨s2, A6_, h⟩ := Option.bind_eq_some_iff.mp h
  have hh : (s = 3421780262 ∧ c = (digs, 0) ∧ s0 = 0 ∧ s1 = 3421780262 ∧ s2 = 1996959894) ∧ true = r := by
    by_cases q : s = 3421780262 ∧ c = (digs, 0) ∧ s0 = 0 ∧ s1 = 3421780262 ∧ s2 = 1996959894
    · rw [if_pos q] at h; exact ⟨q, Option.some.inj h⟩
    · rw [if_neg q] at h; cases h
  obtain ⟨⟨rfl, rfl, rfl, rfl, rfl⟩, rfl⟩ := hh
  clear h
  have A1 := Aside0.mk A1_
  have A2 := Aside0.mk A2_
  have A3 := Aside0.mk A3_
  have A4 := Aside0.mk A4_
  have A5 := Aside0.mk A5_
  have A6 := Aside0.mk A6_
  clear A1_ A2_ A3_ A4_ A5_ A6_
  have hcv := Go.Lib.run_convert_bytes_const (P := Try.prog) w 23 5 #[.int .u8 49, .int .u8 50, .int .u8 51, .int .u8 52, .int .u8 53, .int .u8 54, .int .u8 55, .int .u8 56, .int .u8 57] 9 9 Try.underlying23 Try.underlying5
  have HC : Aside0 ((Kd.int .u8).C (w.alloc (.cells #[.int .u8 49, .int .u8 50, .int .u8 51, .int .u8 52, .int .u8 53, .int .u8 54, .int .u8 55, .int .u8 56, .int .u8 57] 5 (9, 10))) (some ⟨w.heap.size, 0, none⟩) digs.length digs) := ⟨by
    refine ⟨rfl, by decide, fun _ => ⟨_, rfl, fun j q hj => ⟨[.int .u8 q], rfl, rfl, fun i u hi => ?_⟩⟩⟩
    cases i with
    | succ i => simp at hi
    | zero =>
      have hu : u = .int .u8 q := by simpa using hi.symm
      subst hu
      rw [Addr.add_lit]
      have e1 : 0 + (j * (Kd.int .u8).sz + 0) = j := by
        show 0 + (j * 1 + 0) = j
        omega
      rw [e1, World.cell?_alloc_mark, ← Array.getElem?_toList]
      show (digs.map (Value.int .u8))[j]? = _
      rw [List.getElem?_map, hj]
      rfl⟩
  have HB0 := Aside0.mk ((Below.refl w.heap.size w).alloc (Nat.le_refl _) (.cells #[.int .u8 49, .int .u8 50, .int .u8 51, .int .u8 52, .int .u8 53, .int .u8 54, .int .u8 55, .int .u8 56, .int .u8 57] 5 (9, 10)))
  go_enter Try.func10, Try.ntmps10
  go_wp2_with fail
  refine (crc_Put.calls k _ 9 digs p _ HC.out (by decide) A1.out).mono ?_
  rintro e w1 ⟨v1, rfl, ho_, hb_⟩
  have HB1 := Aside0.mk (HB0.out.trans (hb_.mono HB0.out.size))
  have HC1 := Aside0.mk (Kd.C_below HC.out hb_)
  obtain ⟨A1v, c1v, rfl⟩ := Kd.R_slice ho_
  have HP := Aside0.mk (Kd.R_reads' ho_).2.2
  have HPc := Aside0.mk (Kd.R_reads' ho_).2.1
  clear ho_ hb_
  dsimp only
  go_wp2_with fail
  refine (crc_Cut.calls k _ _ p digs 0 _ HP.out HPc.out A2.out).mono ?_
  rintro e w2 ⟨v2, rfl, ho_, hb_⟩
  have HB2 := Aside0.mk (HB1.out.trans (hb_.mono HB1.out.size))
  have HC2 := Aside0.mk (Kd.C_below HC1.out hb_)
  obtain ⟨A2v, c2v, rfl⟩ := Kd.R_slice ho_
  have HD := Aside0.mk (Kd.R_reads' ho_).2.2
  clear ho_ hb_
  dsimp only
  go_wp2_with fail
  refine (crc_Of.calls k _ 9 digs _ _ HC2.out (by decide) A3.out).mono ?_
  rintro e w3 ⟨rfl, hb_⟩
  have HB3 := Aside0.mk (HB2.out.trans (hb_.mono HB2.out.size))
  have HC3 := Aside0.mk (Kd.C_below HC2.out hb_)
  have hstr := Kd.C_string (P := Try.prog) (src := 23) (dst := 9) (c := c2v) Try.underlying23 Try.underlying5 Try.underlying9 (Kd.C_below HD.out hb_)
  have hs9 : strOfNums digs = { data := #[49, 50, 51, 52, 53, 54, 55, 56, 57] } := by rfl
  rw [hs9] at hstr
  clear hb_
  dsimp only
  go_wp2_with fail
  refine (crc_Of.calls k none 0 [] _ _ (Kd.C_nil _ _) (by decide) A4.out).mono ?_
  rintro e w4 ⟨rfl, hb_⟩
  have HB4 := Aside0.mk (HB3.out.trans (hb_.mono HB3.out.size))
  have HC4 := Aside0.mk (Kd.C_below HC3.out hb_)
  clear hb_
  dsimp only
  go_wp2_with fail
  refine (crc_On.calls k 0 _ 9 digs _ _ HC4.out (by decide) A5.out).mono ?_
  rintro e w5 ⟨rfl, hb_⟩
  have HB5 := Aside0.mk (HB4.out.trans (hb_.mono HB4.out.size))
  have HC5 := Aside0.mk (Kd.C_below HC4.out hb_)
  clear hb_
  dsimp only
  go_wp2_with fail
  refine (crc_Of.calls k _ 9 digs _ _ HC5.out (by decide) A3.out).mono ?_
  rintro e w6 ⟨rfl, hb_⟩
  have HB6 := Aside0.mk (HB5.out.trans (hb_.mono HB5.out.size))
  clear hb_
  dsimp only
  go_wp2_with fail
  refine (crc_Step.calls k 0 1 _ _ A6.out).mono ?_
  rintro e w7 ⟨rfl, ⟨m, rfl⟩⟩
  dsimp only
  go_wp2
  go_ret
  exact ⟨rfl, pw_below_drewN HB6.out m⟩

end Go.Proofs.Ythejhhklphjhmaa.Q
