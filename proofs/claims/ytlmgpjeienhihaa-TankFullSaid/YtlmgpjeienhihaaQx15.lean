/- TankFull: what the Go code comes to, wherever its plain function has an answer; no other condition. -/
import Derived.Test.YtlmgpjeienhihaaQx0
import Derived.Test.YtlmgpjeienhihaaQx2
import Derived.Test.YtlmgpjeienhihaaQx7
import Derived.Test.YtlmgpjeienhihaaQx8
import Derived.Test.YtlmgpjeienhihaaQx10
namespace Go.Proofs.Ytlmgpjeienhihaa.Q
open Go.RowKit Go.Proofs.Ytlmgpjeienhihaa.Mine Go.Proofs.YtlmgpjeienhihaaW.PrintWords Go.Proofs.YtlmgpjeienhihaaW.PrintLast Go.Proofs.YtlmgpjeienhihaaW.PrintMore
set_option linter.unusedVariables false
set_option linter.unusedSimpArgs false
def exerguelaw04_TankFull.f (k : Nat) (F R : Int) (O l : List Int) : Option Bool :=
  (exerguelaw04_shown.f k).bind fun up => if up = true then (exergueref04_Right.f F R O).bind fun ok => if ok = false ∨ (l.length : Int) > 1000 ∨ F > 1000000 ∨ R > 1000000 then some true else if 0 ≤ F ∧ 0 ≤ R then
    (tank_Put.f k F R O l).bind fun x => (tank_Put.f k (F + 1) (R + 1) O l).bind fun y => if 1 ≤ y.1 ∨ x.2.2.2 ≠ 0 then if 1 ≤ y.2.1 ∨ x.2.2.2 ≠ 0 then if x.2.2.2 = 0 then (if y.2.2.2 = 0 then if y.1 ≤ 2000000 ∧ y.2.1 ≤ 2000000 then (exergueref04_Same.f k x.1 x.2.1 x.2.2.1 (y.1 - 1) (y.2.1 - 1) y.2.2.1).bind fun s => if s = true then some true else none else none else none) else if x.2.2.1.length ≤ y.2.2.1.length then some true else none else none else none else none else none
set_option maxHeartbeats 4000000 in
set_option maxRecDepth 100000 in
theorem exerguelaw04_TankFull.calls (k : Nat) (a0_0 : Int) (a0_1 : Int) (A0_2 : Option Addr) (c0_2 : Nat) (l0_2 : List Int) (A1 : Option Addr) (c1 : Nat) (l1 : List Int) (r : Bool) (w : World) (hr0_2 : Kd.C (Kd.int .i32) w A0_2 l0_2.length l0_2) (hc0_2 : l0_2.length ≤ c0_2) (hr1 : Kd.C (Kd.int .i32) w A1 l1.length l1) (hc1 : l1.length ≤ c1) (h : exerguelaw04_TankFull.f k a0_0 a0_1 l0_2 l1 = some r) :
    Calls Try.prog 7 #[.agg #[.int .i64 a0_0, .int .i64 a0_1, .slice A0_2 l0_2.length c0_2], .slice A1 l1.length c1] w fun e w' => e = .returned (.bool r) ∧ Below w.heap.size w w' := by
  obtain ⟨up, A0_, h⟩ := Option.bind_eq_some_iff.mp h
  have hup : up = true := by
    by_cases q : up = true
    · exact q
    · rw [if_neg q] at h; cases h
  subst hup
  rw [if_pos rfl] at h
  obtain ⟨ok, B0_, h⟩ := Option.bind_eq_some_iff.mp h
  have S0 := Aside0.mk A0_
  have B0 := Aside0.mk B0_
  have H := Aside0.mk h
  have HR0 := Aside0.mk hr0_2
  have HC0 := Aside0.mk hc0_2
  have HR1 := Aside0.mk hr1
  have HC1 := Aside0.mk hc1
  clear h A0_ B0_ hr0_2 hc0_2 hr1 hc1
  have HB0 := Aside0.mk ((Below.refl w.heap.size w).alloc (Nat.le_refl _) (.cells #[.int .i64 a0_0, .int .i64 a0_1, .slice A0_2 l0_2.length c0_2] 24))
  have HG0 := Aside0.mk (blk_new w (.cells #[.int .i64 a0_0, .int .i64 a0_1, .slice A0_2 l0_2.length c0_2] 24))
  by_cases hE : ok = false ∨ (l1.length : Int) > 1000 ∨ a0_0 > 1000000 ∨ a0_1 > 1000000
  · have h := H.out
    rw [if_pos hE] at h
    obtain rfl := Option.some.inj h
    clear h H
    go_enter Try.func7, Try.ntmps7
    go_wp2_with fail
    refine (exerguelaw04_shown.calls k true _ S0.out).mono ?_
    rintro e w1 ⟨rfl, hb_⟩
    have HB1 := Aside0.mk (HB0.out.trans (hb_.mono HB0.out.size))
    have HG1 := Aside0.mk (blk_below HG0.out hb_)
    clear hb_
    have hg0 := (blk_cell HG1.out 0).trans rfl
    have hg1 := (blk_cell HG1.out 1).trans rfl
    have hg2 := (blk_cell HG1.out 2).trans rfl
    dsimp only
    go_wp2_with fail
    refine (exergueref04_Right.calls a0_0 a0_1 _ _ l0_2 ok _ (Kd.C_below HR0.out HB1.out) HC0.out B0.out).mono ?_
    rintro e w2 ⟨rfl, hb_⟩
    have HB2 := Aside0.mk (HB1.out.trans (hb_.mono HB1.out.size))
    have HG2 := Aside0.mk (blk_below HG1.out hb_)
    clear hb_ hg0 hg1 hg2
    have hg0 := (blk_cell HG2.out 0).trans rfl
    have hg1 := (blk_cell HG2.out 1).trans rfl
    have hg2 := (blk_cell HG2.out 2).trans rfl
    dsimp only
    cases ok with
    | false =>
      go_wp2
      go_ret
      exact ⟨rfl, HB2.out⟩
    | true =>
      by_cases h1 : (l1.length : Int) > 1000
      · go_wp2
        go_ret
        exact ⟨rfl, HB2.out⟩
      by_cases h2 : a0_0 > 1000000
      · go_wp2
        go_ret
        exact ⟨rfl, HB2.out⟩
      have h3 : a0_1 > 1000000 := by rcases hE with h | h | h | h <;> first | exact h | exact absurd h (by assumption) | exact absurd h (by simp)
      clear hE
      go_wp2
      go_ret
      exact ⟨rfl, HB2.out⟩
  · have h := H.out
    rw [if_neg hE] at h
    clear H
    have hok : ok = true := by cases ok with | false => exact absurd (.inl rfl) hE | true => rfl
    subst hok
    have h1 : ¬ (l1.length : Int) > 1000 := fun h => hE (.inr (.inl h))
    have h2 : ¬ a0_0 > 1000000 := fun h => hE (.inr (.inr (.inl h)))
    have h3 : ¬ a0_1 > 1000000 := fun h => hE (.inr (.inr (.inr h)))
    clear hE
    have hnn : 0 ≤ a0_0 ∧ 0 ≤ a0_1 := by
      by_cases q : 0 ≤ a0_0 ∧ 0 ≤ a0_1
      · exact q
      · rw [if_neg q] at h; cases h
    rw [if_pos hnn] at h
    obtain ⟨h4, h5⟩ := hnn
    obtain ⟨⟨x1, x2, x3, x4⟩, A1_, h⟩ := Option.bind_eq_some_iff.mp h
    obtain ⟨⟨y1, y2, y3, y4⟩, A2_, h⟩ := Option.bind_eq_some_iff.mp h
    have P1 := Aside0.mk A1_
    have P2 := Aside0.mk A2_
    have H := Aside0.mk h
    clear h A1_ A2_
    go_enter Try.func7, Try.ntmps7
    go_wp2_with fail
    refine (exerguelaw04_shown.calls k true _ S0.out).mono ?_
    rintro e w1 ⟨rfl, hb_⟩
    have HB1 := Aside0.mk (HB0.out.trans (hb_.mono HB0.out.size))
    have HG1 := Aside0.mk (blk_below HG0.out hb_)
    clear hb_
    have hg0 := (blk_cell HG1.out 0).trans rfl
    have hg1 := (blk_cell HG1.out 1).trans rfl
    have hg2 := (blk_cell HG1.out 2).trans rfl
    dsimp only
    go_wp2_with fail
    refine (exergueref04_Right.calls a0_0 a0_1 _ _ l0_2 true _ (Kd.C_below HR0.out HB1.out) HC0.out B0.out).mono ?_
    rintro e w2 ⟨rfl, hb_⟩
    have HB2 := Aside0.mk (HB1.out.trans (hb_.mono HB1.out.size))
    have HG2 := Aside0.mk (blk_below HG1.out hb_)
    clear hb_ hg0 hg1 hg2
    have hg0 := (blk_cell HG2.out 0).trans rfl
    have hg1 := (blk_cell HG2.out 1).trans rfl
    have hg2 := (blk_cell HG2.out 2).trans rfl
    dsimp only
    go_wp2_with fail
    refine (tank_Put.calls k a0_0 a0_1 _ _ l0_2 _ _ l1 x1 x2 x3 x4 _ (Kd.C_below HR0.out HB2.out) HC0.out (Kd.C_below HR1.out HB2.out) HC1.out P1.out).mono ?_
    rintro e w3 ⟨v3, rfl, ho_, hb_⟩
    have HB3 := Aside0.mk (HB2.out.trans (hb_.mono HB2.out.size))
    have HG3 := Aside0.mk (blk_below HG2.out hb_)
    obtain ⟨A3v, c3v, rfl⟩ := Kd.R_slice ho_
    have HX := Aside0.mk (Kd.R_reads' ho_).2.2
    have HXc := Aside0.mk (Kd.R_reads' ho_).2.1
    clear ho_ hb_ hg0 hg1 hg2
    have HB4 := Aside0.mk (HB3.out.alloc HB3.out.size (.cells #[.int .i64 x1, .int .i64 x2, .slice A3v x3.length c3v] 24))
    have HG4 := Aside0.mk (blk_alloc HG3.out (.cells #[.int .i64 x1, .int .i64 x2, .slice A3v x3.length c3v] 24))
    have HX4 := Aside0.mk (Kd.C_alloc HX.out (.cells #[.int .i64 x1, .int .i64 x2, .slice A3v x3.length c3v] 24))
    have HA4 := Aside0.mk (blk_new w3 (.cells #[.int .i64 x1, .int .i64 x2, .slice A3v x3.length c3v] 24))
    have hg0 := (blk_cell HG4.out 0).trans rfl
    have hg1 := (blk_cell HG4.out 1).trans rfl
    have hg2 := (blk_cell HG4.out 2).trans rfl
    dsimp only
    go_wp2_with fail
    have HB5 := Aside0.mk (HB4.out.alloc HB4.out.size (.cells #[.int .i64 (a0_0 + 1), .int .i64 (a0_1 + 1), .slice A0_2 l0_2.length c0_2] 24))
    have HA5 := Aside0.mk (blk_alloc HA4.out (.cells #[.int .i64 (a0_0 + 1), .int .i64 (a0_1 + 1), .slice A0_2 l0_2.length c0_2] 24))
    have HX5 := Aside0.mk (Kd.C_alloc HX4.out (.cells #[.int .i64 (a0_0 + 1), .int .i64 (a0_1 + 1), .slice A0_2 l0_2.length c0_2] 24))
    refine (tank_Put.calls k (a0_0 + 1) (a0_1 + 1) _ _ l0_2 _ _ l1 y1 y2 y3 y4 _ (Kd.C_below HR0.out HB5.out) HC0.out (Kd.C_below HR1.out HB5.out) HC1.out P2.out).mono ?_
    rintro e w5 ⟨v5, rfl, ho_, hb_⟩
    have HB6 := Aside0.mk (HB5.out.trans (hb_.mono HB5.out.size))
    have HA6 := Aside0.mk (blk_below HA5.out hb_)
    have HX6 := Aside0.mk (Kd.C_below HX5.out hb_)
    obtain ⟨A5v, c5v, rfl⟩ := Kd.R_slice ho_
    have HY := Aside0.mk (Kd.R_reads' ho_).2.2
    have HYc := Aside0.mk (Kd.R_reads' ho_).2.1
    clear ho_ hb_ hg0 hg1 hg2
    have h := H.out
    clear H
    by_cases hx4 : x4 = 0
    · subst hx4
      have q1 : 1 ≤ y1 := by
        by_cases q : 1 ≤ y1
        · exact q
        · rw [if_neg (by simpa using q)] at h; cases h
      rw [if_pos (.inl q1)] at h
      have q2 : 1 ≤ y2 := by
        by_cases q : 1 ≤ y2
        · exact q
        · rw [if_neg (by simpa using q)] at h; cases h
      rw [if_pos (.inl q2), if_pos rfl] at h
      have q3 : y4 = 0 := by
        by_cases q : y4 = 0
        · exact q
        · rw [if_neg q] at h; cases h
      subst q3
      rw [if_pos rfl] at h
      have q4 : y1 ≤ 2000000 ∧ y2 ≤ 2000000 := by
        by_cases q : y1 ≤ 2000000 ∧ y2 ≤ 2000000
        · exact q
        · rw [if_neg q] at h; cases h
      rw [if_pos q4] at h
      obtain ⟨q4, q5⟩ := q4
      obtain ⟨sm, A3_, h⟩ := Option.bind_eq_some_iff.mp h
      have hs : sm = true ∧ true = r := by
        by_cases q : sm = true
        · rw [if_pos q] at h; exact ⟨q, Option.some.inj h⟩
        · rw [if_neg q] at h; cases h
      obtain ⟨rfl, rfl⟩ := hs
      have A3 := Aside0.mk A3_
      clear h A3_
      have HB7 := Aside0.mk (HB6.out.alloc HB6.out.size (.cells #[.int .i64 (y1 - 1), .int .i64 (y2 - 1), .slice A5v y3.length c5v] 24))
      have HA7 := Aside0.mk (blk_alloc HA6.out (.cells #[.int .i64 (y1 - 1), .int .i64 (y2 - 1), .slice A5v y3.length c5v] 24))
      have ha0 := (blk_cell HA7.out 0).trans rfl
      have ha1 := (blk_cell HA7.out 1).trans rfl
      have ha2 := (blk_cell HA7.out 2).trans rfl
      dsimp only
      go_wp2_with fail
      refine (exergueref04_Same.calls k x1 x2 _ _ x3 (y1 - 1) (y2 - 1) _ _ y3 true _ (Kd.C_alloc HX6.out _) HXc.out (Kd.C_alloc HY.out _) HYc.out A3.out).mono ?_
      rintro e w7 ⟨rfl, hb_⟩
      have HB8 := Aside0.mk (HB7.out.trans (hb_.mono HB7.out.size))
      clear hb_
      dsimp only
      go_wp2
      go_ret
      exact ⟨rfl, HB8.out⟩
    · rw [if_pos (.inr hx4), if_pos (.inr hx4), if_neg hx4] at h
      have q3 : x3.length ≤ y3.length ∧ true = r := by
        by_cases q : x3.length ≤ y3.length
        · rw [if_pos q] at h; exact ⟨q, Option.some.inj h⟩
        · rw [if_neg q] at h; cases h
      obtain ⟨q3, rfl⟩ := q3
      clear h
      have hx4b : (x4 != 0) = true := bne_iff_ne.mpr hx4
      have hx4c : (x4 == 0) = false := beq_eq_false_iff_ne.mpr hx4
      have q3b : (x3.length : Int) ≤ (y3.length : Int) := by omega
      have HB7 := Aside0.mk (HB6.out.alloc HB6.out.size (.cells #[.int .i64 y1, .int .i64 y2, .slice A5v y3.length c5v] 24))
      have HA7 := Aside0.mk (blk_alloc HA6.out (.cells #[.int .i64 y1, .int .i64 y2, .slice A5v y3.length c5v] 24))
      have ha2 := (blk_cell HA7.out 2).trans rfl
      dsimp only
      go_wp2
      go_ret
      exact ⟨by first | rfl | (simp; done) | (simp [*]; done), HB7.out⟩
end Go.Proofs.Ytlmgpjeienhihaa.Q
