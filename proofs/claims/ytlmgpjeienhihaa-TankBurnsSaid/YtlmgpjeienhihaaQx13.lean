/- TankBurns: what the Go code comes to, wherever its plain function has an answer; no other condition. -/
import Derived.Test.YtlmgpjeienhihaaQx0
import Derived.Test.YtlmgpjeienhihaaQx3
import Derived.Test.YtlmgpjeienhihaaQx2
import Derived.Test.YtlmgpjeienhihaaQx7
import Derived.Test.YtlmgpjeienhihaaQx8
import Derived.Test.YtlmgpjeienhihaaQx10
namespace Go.Proofs.Ytlmgpjeienhihaa.Q
open Go.RowKit Go.Proofs.Ytlmgpjeienhihaa.Mine Go.Proofs.YtlmgpjeienhihaaW.PrintWords Go.Proofs.YtlmgpjeienhihaaW.PrintLast Go.Proofs.YtlmgpjeienhihaaW.PrintMore
set_option linter.unusedVariables false
set_option linter.unusedSimpArgs false
/-- Burn, by what is read of the row that it hands on -/
theorem tank_BurnV.reads (P0 : Nat → Prop) (F R : Int) (A : Option Addr) (c : Nat) (l : List Int) (n r1 r2 : Int) (r3 : List Int) (r4 : Int) (W : World) (hF : Kd.F (Kd.int .i32) W P0 A l.length l) (hc : l.length ≤ c) (h : tank_BurnV.f F R l n = some (r1, r2, r3, r4)) :
    Calls Try.prog 13 #[.agg #[.int .i64 F, .int .i64 R, .slice A l.length c], .int .i64 n] W fun e w' => ∃ (A' : Option Addr) (c' : Nat), e = .returned (.tuple #[.agg #[.int .i64 r1, .int .i64 r2, .slice A' r3.length c'], .int .i64 r4]) ∧ r3.length ≤ c' ∧ Kd.F (Kd.int .i32) w' (fun k_ => P0 k_ ∨ W.heap.size ≤ k_) A' r3.length r3 ∧ Below W.heap.size W w' := by
  refine (tank_BurnV.calls F R P0 A c l n r1 r2 r3 r4 W (Kd.V_mk hc hF) h).mono ?_
  rintro e w' ⟨v, rfl, ⟨A', c', rfl, hl, hF⟩, hb⟩
  exact ⟨A', c', rfl, hl, hF, hb⟩
def exerguelaw04_TankBurns.f (k : Nat) (F R : Int) (O : List Int) (n m : Int) : Option Bool :=
  (exerguelaw04_shown.f k).bind fun up => if up = true then (exergueref04_Right.f F R O).bind fun ok => if ok = false then some true else if 0 ≤ n ∧ n < 65536 ∧ 0 ≤ m ∧ m < 65536 then
    (tank_BurnV.f F R O (n + m)).bind fun a => (tank_BurnV.f F R O n).bind fun b => (if b.2.2.2 = 0 then tank_BurnV.f b.1 b.2.1 b.2.2.1 m else some b).bind fun c =>
      (exergueref04_Same.f k a.1 a.2.1 a.2.2.1 c.1 c.2.1 c.2.2.1).bind fun s => if s = true ∧ a.2.2.2 = c.2.2.2 ∧ a.2.1 = R ∧ a.2.2.1.length = O.length ∧ (if n + m ≤ F then a.2.2.2 = 0 else a.2.2.2 ≠ 0 ∧ a.1 = 0) then some true else none else none else none
set_option maxHeartbeats 4000000 in
set_option maxRecDepth 100000 in
theorem exerguelaw04_TankBurns.calls (k : Nat) (a0_0 : Int) (a0_1 : Int) (A0_2 : Option Addr) (c0_2 : Nat) (l0_2 : List Int) (a1 : Int) (a2 : Int) (r : Bool) (w : World) (hr0_2 : Kd.C (Kd.int .i32) w A0_2 l0_2.length l0_2) (hc0_2 : l0_2.length ≤ c0_2) (h : exerguelaw04_TankBurns.f k a0_0 a0_1 l0_2 a1 a2 = some r) :
    Calls Try.prog 5 #[.agg #[.int .i64 a0_0, .int .i64 a0_1, .slice A0_2 l0_2.length c0_2], .int .u16 a1, .int .u16 a2] w fun e w' => e = .returned (.bool r) ∧ Below w.heap.size w w' := by
  obtain ⟨up, A0_, h⟩ := Option.bind_eq_some_iff.mp h
  have hup : up = true := by
    by_cases q : up = true
    · exact q
    · rw [if_neg q] at h; cases h
  subst hup
  rw [if_pos rfl] at h
  obtain ⟨ok, B0_, h⟩ := Option.bind_eq_some_iff.mp h
  have S0 := Aside0.mk A0_
  have B0 := Aside0.mk B0_
  have H := Aside0.mk h
  have HR0 := Aside0.mk hr0_2
  have HC0 := Aside0.mk hc0_2
  clear h A0_ B0_ hr0_2 hc0_2
  have HB0 := Aside0.mk ((Below.refl w.heap.size w).alloc (Nat.le_refl _) (.cells #[.int .i64 a0_0, .int .i64 a0_1, .slice A0_2 l0_2.length c0_2] 24))
  have HG0 := Aside0.mk (blk_new w (.cells #[.int .i64 a0_0, .int .i64 a0_1, .slice A0_2 l0_2.length c0_2] 24))
  cases ok with
  | false =>
    have h := H.out
    rw [if_pos rfl] at h
    obtain rfl := Option.some.inj h
    clear h H
    go_enter Try.func5, Try.ntmps5
    go_wp2_with fail
    refine (exerguelaw04_shown.calls k true _ S0.out).mono ?_
    rintro e w1 ⟨rfl, hb_⟩
    have HB1 := Aside0.mk (HB0.out.trans (hb_.mono HB0.out.size))
    have HG1 := Aside0.mk (blk_below HG0.out hb_)
    clear hb_
    have hg0 := (blk_cell HG1.out 0).trans rfl
    have hg1 := (blk_cell HG1.out 1).trans rfl
    have hg2 := (blk_cell HG1.out 2).trans rfl
    dsimp only
    go_wp2_with fail
    refine (exergueref04_Right.calls a0_0 a0_1 _ _ l0_2 false _ (Kd.C_below HR0.out HB1.out) HC0.out B0.out).mono ?_
    rintro e w2 ⟨rfl, hb_⟩
    have HB2 := Aside0.mk (HB1.out.trans (hb_.mono HB1.out.size))
    have HG2 := Aside0.mk (blk_below HG1.out hb_)
    clear hb_ hg0 hg1 hg2
    have hg0 := (blk_cell HG2.out 0).trans rfl
    have hg1 := (blk_cell HG2.out 1).trans rfl
    have hg2 := (blk_cell HG2.out 2).trans rfl
    dsimp only
    go_wp2
    go_ret
    exact ⟨rfl, HB2.out⟩
  | true =>
    have h := H.out
    rw [if_neg (by simp)] at h
    clear H
    have hnn : 0 ≤ a1 ∧ a1 < 65536 ∧ 0 ≤ a2 ∧ a2 < 65536 := by
      by_cases q : 0 ≤ a1 ∧ a1 < 65536 ∧ 0 ≤ a2 ∧ a2 < 65536
      · exact q
      · rw [if_neg q] at h; cases h
    rw [if_pos hnn] at h
    obtain ⟨n1, n2, n3, n4⟩ := hnn
    obtain ⟨⟨x1, x2, x3, x4⟩, A1_, h⟩ := Option.bind_eq_some_iff.mp h
    obtain ⟨⟨y1, y2, y3, y4⟩, A2_, h⟩ := Option.bind_eq_some_iff.mp h
    obtain ⟨⟨z1, z2, z3, z4⟩, A3_, h⟩ := Option.bind_eq_some_iff.mp h
    obtain ⟨sm, A4_, h⟩ := Option.bind_eq_some_iff.mp h
    have hs : (sm = true ∧ x4 = z4 ∧ x2 = a0_1 ∧ x3.length = l0_2.length ∧ (if a1 + a2 ≤ a0_0 then x4 = 0 else x4 ≠ 0 ∧ x1 = 0)) ∧ true = r := by
      by_cases q : sm = true ∧ x4 = z4 ∧ x2 = a0_1 ∧ x3.length = l0_2.length ∧ (if a1 + a2 ≤ a0_0 then x4 = 0 else x4 ≠ 0 ∧ x1 = 0)
      · rw [if_pos q] at h; exact ⟨q, Option.some.inj h⟩
      · rw [if_neg q] at h; cases h
    obtain ⟨⟨rfl, rfl, rfl, hlen, hif⟩, rfl⟩ := hs
    clear h
    have P1 := Aside0.mk A1_
    have P2 := Aside0.mk A2_
    have P3 := Aside0.mk A3_
    have P4 := Aside0.mk A4_
    have HIF := Aside0.mk hif
    have HLE := Aside0.mk hlen
    clear A1_ A2_ A3_ A4_ hif hlen
    go_enter Try.func5, Try.ntmps5
    go_wp2_with fail
    refine (exerguelaw04_shown.calls k true _ S0.out).mono ?_
    rintro e w1 ⟨rfl, hb_⟩
    have HB1 := Aside0.mk (HB0.out.trans (hb_.mono HB0.out.size))
    have HG1 := Aside0.mk (blk_below HG0.out hb_)
    clear hb_
    have hg0 := (blk_cell HG1.out 0).trans rfl
    have hg1 := (blk_cell HG1.out 1).trans rfl
    have hg2 := (blk_cell HG1.out 2).trans rfl
    dsimp only
    go_wp2_with fail
    refine (exergueref04_Right.calls a0_0 x2 _ _ l0_2 true _ (Kd.C_below HR0.out HB1.out) HC0.out B0.out).mono ?_
    rintro e w2 ⟨rfl, hb_⟩
    have HB2 := Aside0.mk (HB1.out.trans (hb_.mono HB1.out.size))
    have HG2 := Aside0.mk (blk_below HG1.out hb_)
    clear hb_ hg0 hg1 hg2
    have hg0 := (blk_cell HG2.out 0).trans rfl
    have hg1 := (blk_cell HG2.out 1).trans rfl
    have hg2 := (blk_cell HG2.out 2).trans rfl
    dsimp only
    go_wp2_with fail
    refine (tank_BurnV.reads (fun k_ => k_ < w.heap.size) a0_0 x2 _ _ l0_2 (a1 + a2) x1 x2 x3 x4 _ (Kd.F_below (Kd.C_F (Kd.heap_int .i32) HR0.out) HB2.out) HC0.out P1.out).mono ?_
    rintro e w3 ⟨A3v, c3v, rfl, hl_, hC_, hb_⟩
    have HB3 := Aside0.mk (HB2.out.trans (hb_.mono HB2.out.size))
    have HG3 := Aside0.mk (blk_below HG2.out hb_)
    have HX := Aside0.mk (Kd.F_mono (Kd.F_bound hC_) (fun k_ hk => hk.2) : Kd.F (Kd.int .i32) w3 (fun k_ => k_ < w3.heap.size) A3v x3.length x3)
    have HXc := Aside0.mk hl_
    clear hl_ hC_ hb_ hg0 hg1 hg2
    have HB4 := Aside0.mk (HB3.out.alloc HB3.out.size (.cells #[.int .i64 x1, .int .i64 x2, .slice A3v x3.length c3v] 24))
    have HG4 := Aside0.mk (blk_alloc HG3.out (.cells #[.int .i64 x1, .int .i64 x2, .slice A3v x3.length c3v] 24))
    have HX4 := Aside0.mk (Kd.F_alloc HX.out (.cells #[.int .i64 x1, .int .i64 x2, .slice A3v x3.length c3v] 24))
    have HA4 := Aside0.mk (blk_new w3 (.cells #[.int .i64 x1, .int .i64 x2, .slice A3v x3.length c3v] 24))
    have hg0 := (blk_cell HG4.out 0).trans rfl
    have hg1 := (blk_cell HG4.out 1).trans rfl
    have hg2 := (blk_cell HG4.out 2).trans rfl
    dsimp only
    go_wp2_with fail
    refine (tank_BurnV.reads (fun k_ => k_ < w.heap.size) a0_0 x2 _ _ l0_2 a1 y1 y2 y3 y4 _ (Kd.F_below (Kd.C_F (Kd.heap_int .i32) HR0.out) HB4.out) HC0.out P2.out).mono ?_
    rintro e w5 ⟨A5v, c5v, rfl, hl_, hC_, hb_⟩
    have HB5 := Aside0.mk (HB4.out.trans (hb_.mono HB4.out.size))
    have HG5 := Aside0.mk (blk_below HG4.out hb_)
    have HA5 := Aside0.mk (blk_below HA4.out hb_)
    have HX5 := Aside0.mk (Kd.F_below HX4.out hb_)
    have HY := Aside0.mk (Kd.F_mono (Kd.F_bound hC_) (fun k_ hk => hk.2) : Kd.F (Kd.int .i32) w5 (fun k_ => k_ < w5.heap.size) A5v y3.length y3)
    have HYc := Aside0.mk hl_
    clear hl_ hC_ hb_ hg0 hg1 hg2
    have HB6 := Aside0.mk (HB5.out.alloc HB5.out.size (.cells #[.int .i64 y1, .int .i64 y2, .slice A5v y3.length c5v] 24))
    have HG6 := Aside0.mk (blk_alloc HG5.out (.cells #[.int .i64 y1, .int .i64 y2, .slice A5v y3.length c5v] 24))
    have HA6 := Aside0.mk (blk_alloc HA5.out (.cells #[.int .i64 y1, .int .i64 y2, .slice A5v y3.length c5v] 24))
    have HX6 := Aside0.mk (Kd.F_alloc HX5.out (.cells #[.int .i64 y1, .int .i64 y2, .slice A5v y3.length c5v] 24))
    have HY6 := Aside0.mk (Kd.F_alloc HY.out (.cells #[.int .i64 y1, .int .i64 y2, .slice A5v y3.length c5v] 24))
    have HD6 := Aside0.mk (blk_new w5 (.cells #[.int .i64 y1, .int .i64 y2, .slice A5v y3.length c5v] 24))
    by_cases hy4 : y4 = 0
    · subst hy4
      have P3b := Aside0.mk (show tank_BurnV.f y1 y2 y3 a2 = some (z1, z2, z3, x4) by have := P3.out; rwa [if_pos rfl] at this)
      dsimp only
      go_wp2_with fail
      refine (tank_BurnV.reads (fun k_ => k_ < w5.heap.size) y1 y2 _ _ y3 a2 z1 z2 z3 x4 _ HY6.out HYc.out P3b.out).mono ?_
      rintro e w7 ⟨A7v, c7v, rfl, hl_, hC_, hb_⟩
      have HB7 := Aside0.mk (HB6.out.trans (hb_.mono HB6.out.size))
      have HG7 := Aside0.mk (blk_below HG6.out hb_)
      have HA7 := Aside0.mk (blk_below HA6.out hb_)
      have HD7 := Aside0.mk (blk_below HD6.out hb_)
      have HX7 := Aside0.mk (Kd.F_below HX6.out hb_)
      have HZ := Aside0.mk hC_
      have HZc := Aside0.mk hl_
      clear hl_ hC_ hb_
      have hna : w3.heap.size ≠ w5.heap.size := Nat.ne_of_lt (blk_lt HA5.out)
      have hnt : w.heap.size ≠ w5.heap.size := Nat.ne_of_lt (blk_lt HG5.out)
      have hna' : w5.heap.size ≠ w3.heap.size := hna.symm
      have hnt' : w5.heap.size ≠ w.heap.size := hnt.symm
      have hg0 := (blk_cell HG7.out 0).trans rfl
      have hg1 := (blk_cell HG7.out 1).trans rfl
      have hg2 := (blk_cell HG7.out 2).trans rfl
      have ha0 := (blk_cell HA7.out 0).trans rfl
      have ha1 := (blk_cell HA7.out 1).trans rfl
      have ha2 := (blk_cell HA7.out 2).trans rfl
      have hd0 := (blk_cell HD7.out 0).trans rfl
      have hd1 := (blk_cell HD7.out 1).trans rfl
      have hd2 := (blk_cell HD7.out 2).trans rfl
      have hf0 := blk_frozen HD7.out 0
      have hf1 := blk_frozen HD7.out 1
      have hf2 := blk_frozen HD7.out 2
      dsimp only
      have HNT := Aside0.mk hnt
      have HNA := Aside0.mk hna
      have HOKX := Aside0.mk (show ∀ k_, k_ < w3.heap.size → k_ ≠ w5.heap.size from fun k_ hk => by have := blk_lt HA5.out; omega)
      have HOKZ := Aside0.mk (show ∀ k_, (k_ < w5.heap.size ∨ (w5.alloc (.cells #[.int .i64 y1, .int .i64 y2, .slice A5v y3.length c5v] 24)).heap.size ≤ k_) → k_ ≠ w5.heap.size from fun k_ hk => by
        rcases hk with hk | hk
        · omega
        · have : w5.heap.size + 1 ≤ k_ := by simpa using hk
          omega)
      have hif := HIF.out
      by_cases q : a1 + a2 ≤ a0_0
      · rw [if_pos q] at hif
        subst hif
        have hlen : ((x3.length : Int) == (l0_2.length : Int)) = true := by rw [HLE.out]; simp
        have hlen2 : (x3.length : Int) = (l0_2.length : Int) := by rw [HLE.out]
        go_wp2_with fail
        refine (exergueref04_Same.calls k _ x2 _ _ x3 z1 z2 _ _ z3 true _ (Kd.F_now (Kd.F_far (Kd.F_far (Kd.F_far HX7.out HOKX.out _) HOKX.out _) HOKX.out _)) HXc.out (Kd.F_now (Kd.F_far (Kd.F_far (Kd.F_far HZ.out HOKZ.out _) HOKZ.out _) HOKZ.out _)) HZc.out P4.out).mono ?_
        rintro e w8 ⟨rfl, hb_⟩
        have HB8 := Aside0.mk ((((HB7.out.setCell (p := ⟨w5.heap.size, 0, none⟩) HB5.out.size _).setCell (p := ⟨w5.heap.size, 1, none⟩) HB5.out.size _).setCell (p := ⟨w5.heap.size, 2, none⟩) HB5.out.size _).trans (hb_.mono (by simpa using HB7.out.size)))
        have HG8 := Aside0.mk (blk_below (blk_far (blk_far (blk_far HG7.out HNT.out _) HNT.out _) HNT.out _) hb_)
        have HA8 := Aside0.mk (blk_below (blk_far (blk_far (blk_far HA7.out HNA.out _) HNA.out _) HNA.out _) hb_)
        clear hb_
        have hg0' := (blk_cell HG8.out 0).trans rfl
        have hg1' := (blk_cell HG8.out 1).trans rfl
        have hg2' := (blk_cell HG8.out 2).trans rfl
        have ha0' := (blk_cell HA8.out 0).trans rfl
        have ha1' := (blk_cell HA8.out 1).trans rfl
        have ha2' := (blk_cell HA8.out 2).trans rfl
        dsimp only
        go_wp2
        go_ret
        exact ⟨by first | rfl | (simp; done) | (simp [*]; done), HB8.out⟩
      · rw [if_neg q] at hif
        obtain ⟨q1, rfl⟩ := hif
        have hq1 : (x4 == 0) = false := beq_eq_false_iff_ne.mpr q1
        have hlen : ((x3.length : Int) == (l0_2.length : Int)) = true := by rw [HLE.out]; simp
        have hlen2 : (x3.length : Int) = (l0_2.length : Int) := by rw [HLE.out]
        go_wp2_with fail
        refine (exergueref04_Same.calls k _ x2 _ _ x3 z1 z2 _ _ z3 true _ (Kd.F_now (Kd.F_far (Kd.F_far (Kd.F_far HX7.out HOKX.out _) HOKX.out _) HOKX.out _)) HXc.out (Kd.F_now (Kd.F_far (Kd.F_far (Kd.F_far HZ.out HOKZ.out _) HOKZ.out _) HOKZ.out _)) HZc.out P4.out).mono ?_
        rintro e w8 ⟨rfl, hb_⟩
        have HB8 := Aside0.mk ((((HB7.out.setCell (p := ⟨w5.heap.size, 0, none⟩) HB5.out.size _).setCell (p := ⟨w5.heap.size, 1, none⟩) HB5.out.size _).setCell (p := ⟨w5.heap.size, 2, none⟩) HB5.out.size _).trans (hb_.mono (by simpa using HB7.out.size)))
        have HG8 := Aside0.mk (blk_below (blk_far (blk_far (blk_far HG7.out HNT.out _) HNT.out _) HNT.out _) hb_)
        have HA8 := Aside0.mk (blk_below (blk_far (blk_far (blk_far HA7.out HNA.out _) HNA.out _) HNA.out _) hb_)
        clear hb_
        have hg0' := (blk_cell HG8.out 0).trans rfl
        have hg1' := (blk_cell HG8.out 1).trans rfl
        have hg2' := (blk_cell HG8.out 2).trans rfl
        have ha0' := (blk_cell HA8.out 0).trans rfl
        have ha1' := (blk_cell HA8.out 1).trans rfl
        have ha2' := (blk_cell HA8.out 2).trans rfl
        dsimp only
        go_wp2
        go_ret
        exact ⟨by first | rfl | (simp; done) | (simp [*]; done), HB8.out⟩
    · have P3b := P3.out
      rw [if_neg hy4] at P3b
      simp only [Option.some.injEq, Prod.mk.injEq] at P3b
      obtain ⟨rfl, rfl, rfl, rfl⟩ := P3b
      have hy4b : (y4 == 0) = false := beq_eq_false_iff_ne.mpr hy4
      have hg0 := (blk_cell HG6.out 0).trans rfl
      have hg1 := (blk_cell HG6.out 1).trans rfl
      have hg2 := (blk_cell HG6.out 2).trans rfl
      have ha0 := (blk_cell HA6.out 0).trans rfl
      have ha1 := (blk_cell HA6.out 1).trans rfl
      have ha2 := (blk_cell HA6.out 2).trans rfl
      have hif := HIF.out
      have q : ¬ a1 + a2 ≤ a0_0 := fun q => by rw [if_pos q] at hif; exact hy4 hif
      rw [if_neg q] at hif
      obtain ⟨_, rfl⟩ := hif
      have hlen : ((x3.length : Int) == (l0_2.length : Int)) = true := by rw [HLE.out]; simp
      have hlen2 : (x3.length : Int) = (l0_2.length : Int) := by rw [HLE.out]
      dsimp only
      go_wp2_with fail
      refine (exergueref04_Same.calls k _ x2 _ _ x3 y1 y2 _ _ y3 true _ (Kd.F_now HX6.out) HXc.out (Kd.F_now HY6.out) HYc.out P4.out).mono ?_
      rintro e w8 ⟨rfl, hb_⟩
      have HB8 := Aside0.mk (HB6.out.trans (hb_.mono HB6.out.size))
      have HG8 := Aside0.mk (blk_below HG6.out hb_)
      have HA8 := Aside0.mk (blk_below HA6.out hb_)
      clear hb_
      have hg0' := (blk_cell HG8.out 0).trans rfl
      have hg1' := (blk_cell HG8.out 1).trans rfl
      have hg2' := (blk_cell HG8.out 2).trans rfl
      have ha0' := (blk_cell HA8.out 0).trans rfl
      have ha1' := (blk_cell HA8.out 1).trans rfl
      have ha2' := (blk_cell HA8.out 2).trans rfl
      dsimp only
      go_wp2
      go_ret
      exact ⟨by first | rfl | (simp; done) | (simp [*]; done), HB8.out⟩
end Go.Proofs.Ytlmgpjeienhihaa.Q
