/- Functions of the translation as plain Lean functions, each with a proof that the Go code comes to its answers, wherever the function has one; no other condition. Written by this session's own program (wip/myprint.py). -/
import Derived.Test.YthejhhklphjhmaaQx0
import Derived.Test.YthejhhklphjhmaaQx5
import Derived.Test.YthejhhklphjhmaaQx7
import Derived.Test.YthejhhklphjhmaaQx8
namespace Go.Proofs.Ythejhhklphjhmaa.Q
open Go.RowKit Go.Proofs.Ythejhhklphjhmaa.Mine Go.Proofs.YthejhhklphjhmaaW.PrintWords Go.Proofs.YthejhhklphjhmaaW.PrintLast Go.Proofs.YthejhhklphjhmaaW.PrintMore
attribute [local go_sem] max2_int min2_int max_two min_two max_three min_three max_four min_four   -- for this text's walks alone
set_option linter.unusedVariables false
set_option linter.unusedSimpArgs false

/-! ### exerguelaw08_CrcFinds: function 5 -/
def exerguelaw08_CrcFinds.f (k : Nat) (l0 : List Int) (a1 : Int) (q0 q1 q2 q3 : Int) : Option Bool :=
  (exerguelaw08_shown.f k).bind fun up => if up = true then ((crc_Put.f k l0).bind fun x => if (l0.length : Int) > 2000 ∨ (x.length : Int) < 4 ∨ a1 < 0 ∨ a1 > (x.length : Int) - 4 ∨ [q0, q1, q2, q3] = [0, 0, 0, 0] then some true else
    (crc_Cut.f k (xb x [q0, q1, q2, q3] a1.toNat 4)).bind fun c => if c = ([], 6) then some true else none) else none
set_option maxHeartbeats 4000000 in
set_option maxRecDepth 100000 in
theorem exerguelaw08_CrcFinds.calls (k : Nat) (A0 : Option Addr) (c0 : Nat) (l0 : List Int) (a1 : Int) (q0 q1 q2 q3 : Int) (r : Bool) (w : World) (hr0 : Kd.C (Kd.int .u8) w A0 l0.length l0) (hc0 : l0.length ≤ c0) (h : exerguelaw08_CrcFinds.f k l0 a1 q0 q1 q2 q3 = some r) :
    Calls Try.prog 5 #[.slice A0 l0.length c0, .int .i64 a1, .agg #[.int .u8 q0, .int .u8 q1, .int .u8 q2, .int .u8 q3]] w fun e w' => e = .returned (.bool r) ∧ Below w.heap.size w w' := by
  obtain ⟨up, A0_, h⟩ := Option.bind_eq_some_iff.mp h
  have hup : up = true := by
    by_cases q : up = true
    · exact q
    · rw [if_neg q] at h; cases h
  subst hup
  rw [if_pos rfl] at h
  obtain ⟨x, A1_, h⟩ := Option.bind_eq_some_iff.mp h
  have S0 := Aside0.mk A0_
  have A1 := Aside0.mk A1_
  have H := Aside0.mk h
  have HR0 := Aside0.mk hr0
  have HC0 := Aside0.mk hc0
  have hmax : l0.length ≤ 9223372036854775807 := hr0.2.1
  have heq0 : ∀ W, (Op.equalIn 10000 36 (.agg #[.int .u8 q0, .int .u8 q1, .int .u8 q2, .int .u8 q3]) (.agg #[.int .u8 0, .int .u8 0, .int .u8 0, .int .u8 0])).run Try.prog W = .ok (decide ([q0, q1, q2, q3] = [0, 0, 0, 0])) W := fun W => run_eq4 W 9998 36 5 .u8 _ q0 q1 q2 q3 _ _ _ _ Try.underlying36 Try.underlying5 (show Try.prog.info? 5 = some _ from rfl) (by kernel_rfl) (by kernel_rfl)
  clear h A0_ A1_ hr0 hc0
  have HB0 := Aside0.mk ((Below.refl w.heap.size w).alloc (Nat.le_refl _) (.cells #[.int .u8 q0, .int .u8 q1, .int .u8 q2, .int .u8 q3] 36))
  have HG0 := Aside0.mk (blk_new w (.cells #[.int .u8 q0, .int .u8 q1, .int .u8 q2, .int .u8 q3] 36))
  by_cases hE : (l0.length : Int) > 2000 ∨ (x.length : Int) < 4 ∨ a1 < 0 ∨ a1 > (x.length : Int) - 4 ∨ [q0, q1, q2, q3] = [0, 0, 0, 0]
  · have h := H.out
    rw [if_pos hE] at h
    obtain rfl := Option.some.inj h
    clear h H
    go_enter Try.func5, Try.ntmps5
    go_wp2_with fail
    refine (exerguelaw08_shown.calls k true _ S0.out).mono ?_
    rintro e w1 ⟨rfl, hb_⟩
    have HB1 := Aside0.mk (HB0.out.trans (hb_.mono HB0.out.size))
    have HG1 := Aside0.mk (blk_below HG0.out hb_)
    clear hb_
    dsimp only
    go_wp2_with fail
    refine (crc_Put.calls k _ _ l0 x _ (Kd.C_below HR0.out HB1.out) HC0.out A1.out).mono ?_
    rintro e w2 ⟨v2, rfl, ho_, hb_⟩
    have HB2 := Aside0.mk (HB1.out.trans (hb_.mono HB1.out.size))
    have HG2 := Aside0.mk (blk_below HG1.out hb_)
    obtain ⟨Ax, cx, rfl⟩ := Kd.R_slice ho_
    have hxm : x.length ≤ 9223372036854775807 := (Kd.R_reads' ho_).2.2.2.1
    have hw4 : wrap64 ((x.length : Int) - 4) = (x.length : Int) - 4 := by unfold wrap64; omega
    clear hb_ ho_
    have hg0 := (blk_cell HG2.out 0).trans rfl
    have hg1 := (blk_cell HG2.out 1).trans rfl
    have hg2 := (blk_cell HG2.out 2).trans rfl
    have hg3 := (blk_cell HG2.out 3).trans rfl
    dsimp only
    by_cases h1 : (l0.length : Int) > 2000
    · go_wp2
      go_ret
      exact ⟨rfl, HB2.out⟩
    by_cases h0 : (x.length : Int) < 4
    · go_wp2
      go_ret
      exact ⟨rfl, HB2.out⟩
    by_cases h2 : a1 < 0
    · go_wp2
      go_ret
      exact ⟨rfl, HB2.out⟩
    by_cases h3 : a1 > (x.length : Int) - 4
    · go_wp2
      go_ret
      exact ⟨rfl, HB2.out⟩
    have h4 : [q0, q1, q2, q3] = [0, 0, 0, 0] := by rcases hE with h | h | h | h | h <;> first | exact absurd h (by assumption) | exact h
    simp only [h4, decide_true] at heq0
    clear h4 hE
    go_wp2
    go_ret
    exact ⟨rfl, HB2.out⟩
  · have h := H.out
    rw [if_neg hE] at h
    clear H
    obtain ⟨c, A2_, h⟩ := Option.bind_eq_some_iff.mp h
    have hh : c = ([], 6) ∧ true = r := by
      by_cases q : c = ([], 6)
      · rw [if_pos q] at h; exact ⟨q, Option.some.inj h⟩
      · rw [if_neg q] at h; cases h
    obtain ⟨rfl, rfl⟩ := hh
    clear h
    have A2 := Aside0.mk A2_
    clear A2_
    have h1 : ¬ (l0.length : Int) > 2000 := fun h => hE (.inl h)
    have h0 : ¬ (x.length : Int) < 4 := fun h => hE (.inr (.inl h))
    have h2 : ¬ a1 < 0 := fun h => hE (.inr (.inr (.inl h)))
    have h3 : ¬ a1 > (x.length : Int) - 4 := fun h => hE (.inr (.inr (.inr (.inl h))))
    have h4 : [q0, q1, q2, q3] ≠ [0, 0, 0, 0] := fun h => hE (.inr (.inr (.inr (.inr h))))
    simp only [h4, decide_false] at heq0
    clear hE h4
    obtain ⟨n, rfl⟩ := Int.eq_ofNat_of_zero_le (show 0 ≤ a1 by omega)
    rw [Int.toNat_natCast] at A2
    have hn4 : n + 4 ≤ x.length := by omega
    go_enter Try.func5, Try.ntmps5
    go_wp2_with fail
    refine (exerguelaw08_shown.calls k true _ S0.out).mono ?_
    rintro e w1 ⟨rfl, hb_⟩
    have HB1 := Aside0.mk (HB0.out.trans (hb_.mono HB0.out.size))
    have HG1 := Aside0.mk (blk_below HG0.out hb_)
    clear hb_
    dsimp only
    go_wp2_with fail
    refine (crc_Put.calls k _ _ l0 x _ (Kd.C_below HR0.out HB1.out) HC0.out A1.out).mono ?_
    rintro e w2 ⟨v2, rfl, ho_, hb_⟩
    have HB := Aside0.mk (HB1.out.trans (hb_.mono HB1.out.size))
    have HG := Aside0.mk (blk_below HG1.out hb_)
    have HO133 := Aside0.mk (Kd.R_lower ho_ HB1.out.size)
    have hxm : x.length ≤ 9223372036854775807 := by
      obtain ⟨Ax, cx, rfl⟩ := Kd.R_slice ho_
      exact (Kd.R_reads' ho_).2.2.2.1
    have hw4 : wrap64 ((x.length : Int) - 4) = (x.length : Int) - 4 := by unfold wrap64; omega
    clear hb_ ho_
    obtain ⟨g, cap, rfl, hbg, hlg, cells_, hcells_⟩ := Kd.R_form HO133.out (by omega)
    have HNE := Aside0.mk (blk_ne HG.out hcells_ (by decide))
    clear hcells_
    have HLG := Aside0.mk hbg
    clear hbg hlg
    have hg0 := (blk_cell HG.out 0).trans rfl
    have hg1 := (blk_cell HG.out 1).trans rfl
    have hg2 := (blk_cell HG.out 2).trans rfl
    have hg3 := (blk_cell HG.out 3).trans rfl
    dsimp only
    go_wp2
    clear hg0 hg1 hg2 hg3
    go_loopg [9] 4 (fun kq v9 w' => ∃ i : Nat, v9 = .int .i64 (i : Int) ∧ Aside0 (i + kq = 4) ∧ Aside0 (Kd.R (Kd.int .u8) 5 w' w.heap.size (fun _ => True) (.slice (some ⟨g, 0, none⟩) x.length cap) (xb x [q0, q1, q2, q3] n i)) ∧ Aside0 (w'.heap[w.heap.size]? = some (.cells #[.int .u8 q0, .int .u8 q1, .int .u8 q2, .int .u8 q3] 36 (0, 0))) ∧ Aside0 (Below w.heap.size w w'))
    case atStart => exact ⟨0, rfl, ⟨rfl⟩, HO133, HG, HB⟩
    case round =>
      clear HB HG HO133
      obtain ⟨i, rfl, HI, HO, HG, HB⟩ := hrel
      have hg0 := (blk_cell HG.out 0).trans rfl
      have hg1 := (blk_cell HG.out 1).trans rfl
      have hg2 := (blk_cell HG.out 2).trans rfl
      have hg3 := (blk_cell HG.out 3).trans rfl
      rcases (show i = 0 ∨ i = 1 ∨ i = 2 ∨ i = 3 ∨ i = 4 by have := HI.out; omega) with rfl | rfl | rfl | rfl | rfl
      · obtain ⟨hx, hf⟩ := Kd.R_celln 0 HO.out ((n : Nat) : Int) (by omega) (by omega)
        have HP := Kd.R_putn HO.out ((n : Nat) : Int) (Go.bits .xor .u8 (rd (xb x [q0, q1, q2, q3] n 0) ((n : Nat) : Int)) q0)
        rw [Int.toNat_natCast] at hx hf HP
        have HPA := Aside0.mk HP
        clear HP
        have hwi : IntKind.i64.wrap (n : Int) = (n : Int) := by rw [IntKind.wrap_i64]; omega
        have hlo : (0 ≤ (n : Int)) = True := eq_true (by omega)
        have hhi : ((n : Int) < (x.length : Int)) = True := eq_true (by omega)
        have htn : ((n : Int)).toNat = n := by omega
        go_wp2
        go_region_law fail
        all_goals
          go_wp2
          go_roundg 3
          case measure => have := HI.out; omega
          case rel => exact ⟨1, (by first | rfl | (simp; done)), ⟨by have := HI.out; omega⟩, HPA, ⟨blk_far (blk_drew HG.out) HNE.out _⟩, ⟨(HB.out.drew).setCell HLG.out _⟩⟩
      · obtain ⟨hx, hf⟩ := Kd.R_celln 0 HO.out ((n + 1 : Nat) : Int) (by omega) (by omega)
        have HP := Kd.R_putn HO.out ((n + 1 : Nat) : Int) (Go.bits .xor .u8 (rd (xb x [q0, q1, q2, q3] n 1) ((n + 1 : Nat) : Int)) q1)
        rw [Int.toNat_natCast] at hx hf HP
        have HPA := Aside0.mk HP
        clear HP
        have hwi : IntKind.i64.wrap ((n : Int) + 1) = ((n : Int) + 1) := by rw [IntKind.wrap_i64]; omega
        have hlo : (0 ≤ ((n : Int) + 1)) = True := eq_true (by omega)
        have hhi : (((n : Int) + 1) < (x.length : Int)) = True := eq_true (by omega)
        have htn : (((n : Int) + 1)).toNat = n + 1 := by omega
        go_wp2
        go_region_law fail
        all_goals
          go_wp2
          go_roundg 2
          case measure => have := HI.out; omega
          case rel => exact ⟨2, (by first | rfl | (simp; done)), ⟨by have := HI.out; omega⟩, HPA, ⟨blk_far (blk_drew HG.out) HNE.out _⟩, ⟨(HB.out.drew).setCell HLG.out _⟩⟩
      · obtain ⟨hx, hf⟩ := Kd.R_celln 0 HO.out ((n + 2 : Nat) : Int) (by omega) (by omega)
        have HP := Kd.R_putn HO.out ((n + 2 : Nat) : Int) (Go.bits .xor .u8 (rd (xb x [q0, q1, q2, q3] n 2) ((n + 2 : Nat) : Int)) q2)
        rw [Int.toNat_natCast] at hx hf HP
        have HPA := Aside0.mk HP
        clear HP
        have hwi : IntKind.i64.wrap ((n : Int) + 2) = ((n : Int) + 2) := by rw [IntKind.wrap_i64]; omega
        have hlo : (0 ≤ ((n : Int) + 2)) = True := eq_true (by omega)
        have hhi : (((n : Int) + 2) < (x.length : Int)) = True := eq_true (by omega)
        have htn : (((n : Int) + 2)).toNat = n + 2 := by omega
        go_wp2
        go_region_law fail
        all_goals
          go_wp2
          go_roundg 1
          case measure => have := HI.out; omega
          case rel => exact ⟨3, (by first | rfl | (simp; done)), ⟨by have := HI.out; omega⟩, HPA, ⟨blk_far (blk_drew HG.out) HNE.out _⟩, ⟨(HB.out.drew).setCell HLG.out _⟩⟩
      · obtain ⟨hx, hf⟩ := Kd.R_celln 0 HO.out ((n + 3 : Nat) : Int) (by omega) (by omega)
        have HP := Kd.R_putn HO.out ((n + 3 : Nat) : Int) (Go.bits .xor .u8 (rd (xb x [q0, q1, q2, q3] n 3) ((n + 3 : Nat) : Int)) q3)
        rw [Int.toNat_natCast] at hx hf HP
        have HPA := Aside0.mk HP
        clear HP
        have hwi : IntKind.i64.wrap ((n : Int) + 3) = ((n : Int) + 3) := by rw [IntKind.wrap_i64]; omega
        have hlo : (0 ≤ ((n : Int) + 3)) = True := eq_true (by omega)
        have hhi : (((n : Int) + 3) < (x.length : Int)) = True := eq_true (by omega)
        have htn : (((n : Int) + 3)).toNat = n + 3 := by omega
        go_wp2
        go_region_law fail
        all_goals
          go_wp2
          go_roundg 0
          case measure => have := HI.out; omega
          case rel => exact ⟨4, (by first | rfl | (simp; done)), ⟨by have := HI.out; omega⟩, HPA, ⟨blk_far (blk_drew HG.out) HNE.out _⟩, ⟨(HB.out.drew).setCell HLG.out _⟩⟩
      · have HC8 := Aside0.mk (Kd.R_reads' HO.out)
        have hxl : (xb x [q0, q1, q2, q3] n 4).length = x.length := xb_len _ _ _ _
        have HXL := Aside0.mk hxl
        have hcap : x.length ≤ cap := HC8.out.2.1
        clear hxl
        have HCU := Aside0.mk (show ∀ W, (Kd.int .u8).C W (some ⟨g, 0, none⟩) (xb x [q0, q1, q2, q3] n 4).length (xb x [q0, q1, q2, q3] n 4) → Calls Try.prog 11 #[.slice (some ⟨g, 0, none⟩) x.length cap] W fun e w' => ∃ v0_ : Value, e = .returned (.tuple #[v0_, .int .i64 6]) ∧ Kd.R (Kd.int .u8) 5 w' W.heap.size (fun _ => True) v0_ [] ∧ Below W.heap.size W w' from fun W hW => by
          have := crc_Cut.calls k (some ⟨g, 0, none⟩) cap (xb x [q0, q1, q2, q3] n 4) [] 6 W hW (by rw [HXL.out]; exact hcap) A2.out
          rw [HXL.out] at this
          exact this)
        clear hcap
        go_wp2_with fail
        refine (HCU.out _ HC8.out.2.2).mono ?_
        rintro e w8 ⟨v8, rfl, ho_, hb_⟩
        have HB8 := Aside0.mk (HB.out.trans (hb_.mono HB.out.size))
        obtain ⟨A8, c8, rfl⟩ := Kd.R_slice ho_
        clear hb_ ho_
        dsimp only
        go_wp2
        go_ret
        exact ⟨rfl, HB8.out⟩

end Go.Proofs.Ythejhhklphjhmaa.Q
