/- Texts of this claim, joined; the first one's sentence stands below. -/
import Derived.Test.YtmhpcjncngonbaaZM4
import Derived.Test.YtmhpcjncngonbaaZQx41
/- What the reference asks of a locale's numbers; rows of 65535 at most. -/
namespace Go.Proofs.Ytmhpcjncngonbaa.Q
open Go.RowKit Go.Proofs.Ytmhpcjncngonbaa.Mine Go.Proofs.YtmhpcjncngonbaaW.PrintWords Go.Proofs.YtmhpcjncngonbaaW.PrintLast Go.Proofs.YtmhpcjncngonbaaW.PrintMore
set_option linter.unusedVariables false
set_option linter.unusedSimpArgs false
/-- a number of one byte -/
def byteB (x : Int) : Bool := decide (0 ≤ x) && decide (x ≤ 255)
theorem Byteful_f (x : Int) : exergueref16_byteful.f x = some (byteB x) := by
  unfold exergueref16_byteful.f byteB
  by_cases h : x ≥ 0
  · rw [if_pos h, decide_eq_true (show 0 ≤ x from h), Bool.true_and]
  · rw [if_neg h, decide_eq_false (show ¬ 0 ≤ x from h), Bool.false_and]
def sgnB (L : Loc) : Bool := [L.s0, L.s1, L.s2, L.s3, L.s4, L.s5, L.s6].all fun x => decide (0 ≤ x)
def okR (L : Loc) : Bool := L.rules.all fun x => byteB x.1
def okC (L : Loc) : Bool := L.curs.all fun x => byteB x.2.2
def okM (L : Loc) : Bool := L.comps.all fun x => byteB x.1 && byteB x.2.1
/-- what the reference asks of a locale's numbers -/
def mayR (L : Loc) : Bool := sgnB L && (okR L && (okC L && okM L))
set_option maxHeartbeats 16000000 in
set_option maxRecDepth 100000 in
theorem may.calls (L : Loc) (a : Lat) (w : World) (h : LocC L a w) (hb : LocB L) :
    Calls Try.prog 40 #[locV L a] w fun e w' => e = .returned (.bool (mayR L)) ∧ Below w.heap.size w w' := by
  obtain ⟨A3, c3, A4, c4, A5, c5⟩ := a
  obtain ⟨w1, hw1⟩ : ∃ w1, w1 = (w.alloc (.cells (boxL L ⟨A3, c3, A4, c4, A5, c5⟩) 29)).alloc (.cells #[.int .i32 L.s0, .int .i32 L.s1, .int .i32 L.s2, .int .i32 L.s3, .int .i32 L.s4, .int .i32 L.s5, .int .i32 L.s6] 23) := ⟨_, rfl⟩
  have hbel : Below w.heap.size w w1 := by rw [hw1]; exact ((Below.refl w.heap.size w).alloc (Nat.le_refl _) _).alloc (by simp) _
  have hsz : w1.heap.size = w.heap.size + 2 := by rw [hw1]; simp
  have hbx : w1.heap[w.heap.size]? = some (.cells (boxL L ⟨A3, c3, A4, c4, A5, c5⟩) 29 (0, 0)) := by rw [hw1]; exact blk_alloc (blk_new w _) _
  have hsx : w1.heap[w.heap.size + 1]? = some (.cells #[.int .i32 L.s0, .int .i32 L.s1, .int .i32 L.s2, .int .i32 L.s3, .int .i32 L.s4, .int .i32 L.s5, .int .i32 L.s6] 23 (0, 0)) := by
    rw [hw1]
    have := blk_new (w.alloc (.cells (boxL L ⟨A3, c3, A4, c4, A5, c5⟩) 29)) (.cells #[.int .i32 L.s0, .int .i32 L.s1, .int .i32 L.s2, .int .i32 L.s3, .int .i32 L.s4, .int .i32 L.s5, .int .i32 L.s6] 23)
    rwa [show (w.alloc (.cells (boxL L ⟨A3, c3, A4, c4, A5, c5⟩) 29)).heap.size = w.heap.size + 1 by simp] at this
  have HLB := Aside0.mk hb
  have HBEL := Aside0.mk hbel
  have HL := Aside0.mk (h.below hbel)
  have HSZ := Aside0.mk hsz
  have HBX := Aside0.mk hbx
  have HSX := Aside0.mk hsx
  have HW1 := Aside0.mk hw1
  have HMR := Aside0.mk (show mayR L = (sgnB L && (okR L && (okC L && okM L))) from rfl)
  have hs0 : w1.cell? ⟨w.heap.size + 1, 0, none⟩ = some (.int .i32 L.s0) := (blk_cell hsx 0).trans rfl
  have hs1 : w1.cell? ⟨w.heap.size + 1, 1, none⟩ = some (.int .i32 L.s1) := (blk_cell hsx 1).trans rfl
  have hs2 : w1.cell? ⟨w.heap.size + 1, 2, none⟩ = some (.int .i32 L.s2) := (blk_cell hsx 2).trans rfl
  have hs3 : w1.cell? ⟨w.heap.size + 1, 3, none⟩ = some (.int .i32 L.s3) := (blk_cell hsx 3).trans rfl
  have hs4 : w1.cell? ⟨w.heap.size + 1, 4, none⟩ = some (.int .i32 L.s4) := (blk_cell hsx 4).trans rfl
  have hs5 : w1.cell? ⟨w.heap.size + 1, 5, none⟩ = some (.int .i32 L.s5) := (blk_cell hsx 5).trans rfl
  have hs6 : w1.cell? ⟨w.heap.size + 1, 6, none⟩ = some (.int .i32 L.s6) := (blk_cell hsx 6).trans rfl
  have hc12 : w1.cell? ⟨w.heap.size, 12, none⟩ = some (.slice A3 L.rules.length c3) := (blk_cell hbx 12).trans rfl
  have hc13 : w1.cell? ⟨w.heap.size, 13, none⟩ = some (.slice A4 L.curs.length c4) := (blk_cell hbx 13).trans rfl
  have hc14 : w1.cell? ⟨w.heap.size, 14, none⟩ = some (.slice A5 L.comps.length c5) := (blk_cell hbx 14).trans rfl
  clear h hb hbel hbx hsx hw1 hsz
  go_enter Try.func40, Try.ntmps40
  go_upto_region 2 with fail
  rw [← HW1.out]
  by_cases g0 : L.s0 < 0
  case pos =>
    have q0 : decide (L.s0 < 0) = true := decide_eq_true g0
    have HN := Aside0.mk (show mayR L = false by
      rw [HMR.out]
      have hz : sgnB L = false := by
        simp only [sgnB, List.all_cons, List.all_nil, Bool.and_true, Bool.and_eq_false_iff, decide_eq_false_iff_not]
        omega
      rw [hz, Bool.false_and])
    clear g0
    go_wp2_with fail
    go_ret
    exact ⟨by (try rw [HN.out]) <;> rfl, HBEL.out⟩
  case neg =>
  have q0 : decide (L.s0 < 0) = false := decide_eq_false g0
  by_cases g1 : L.s1 < 0
  case pos =>
    have q1 : decide (L.s1 < 0) = true := decide_eq_true g1
    have HN := Aside0.mk (show mayR L = false by
      rw [HMR.out]
      have hz : sgnB L = false := by
        simp only [sgnB, List.all_cons, List.all_nil, Bool.and_true, Bool.and_eq_false_iff, decide_eq_false_iff_not]
        omega
      rw [hz, Bool.false_and])
    clear g0 g1
    go_wp2_with fail
    go_ret
    exact ⟨by (try rw [HN.out]) <;> rfl, HBEL.out⟩
  case neg =>
  have q1 : decide (L.s1 < 0) = false := decide_eq_false g1
  by_cases g2 : L.s2 < 0
  case pos =>
    have q2 : decide (L.s2 < 0) = true := decide_eq_true g2
    have HN := Aside0.mk (show mayR L = false by
      rw [HMR.out]
      have hz : sgnB L = false := by
        simp only [sgnB, List.all_cons, List.all_nil, Bool.and_true, Bool.and_eq_false_iff, decide_eq_false_iff_not]
        omega
      rw [hz, Bool.false_and])
    clear g0 g1 g2
    go_wp2_with fail
    go_ret
    exact ⟨by (try rw [HN.out]) <;> rfl, HBEL.out⟩
  case neg =>
  have q2 : decide (L.s2 < 0) = false := decide_eq_false g2
  by_cases g3 : L.s3 < 0
  case pos =>
    have q3 : decide (L.s3 < 0) = true := decide_eq_true g3
    have HN := Aside0.mk (show mayR L = false by
      rw [HMR.out]
      have hz : sgnB L = false := by
        simp only [sgnB, List.all_cons, List.all_nil, Bool.and_true, Bool.and_eq_false_iff, decide_eq_false_iff_not]
        omega
      rw [hz, Bool.false_and])
    clear g0 g1 g2 g3
    go_wp2_with fail
    go_ret
    exact ⟨by (try rw [HN.out]) <;> rfl, HBEL.out⟩
  case neg =>
  have q3 : decide (L.s3 < 0) = false := decide_eq_false g3
  by_cases g4 : L.s4 < 0
  case pos =>
    have q4 : decide (L.s4 < 0) = true := decide_eq_true g4
    have HN := Aside0.mk (show mayR L = false by
      rw [HMR.out]
      have hz : sgnB L = false := by
        simp only [sgnB, List.all_cons, List.all_nil, Bool.and_true, Bool.and_eq_false_iff, decide_eq_false_iff_not]
        omega
      rw [hz, Bool.false_and])
    clear g0 g1 g2 g3 g4
    go_wp2_with fail
    go_ret
    exact ⟨by (try rw [HN.out]) <;> rfl, HBEL.out⟩
  case neg =>
  have q4 : decide (L.s4 < 0) = false := decide_eq_false g4
  by_cases g5 : L.s5 < 0
  case pos =>
    have q5 : decide (L.s5 < 0) = true := decide_eq_true g5
    have HN := Aside0.mk (show mayR L = false by
      rw [HMR.out]
      have hz : sgnB L = false := by
        simp only [sgnB, List.all_cons, List.all_nil, Bool.and_true, Bool.and_eq_false_iff, decide_eq_false_iff_not]
        omega
      rw [hz, Bool.false_and])
    clear g0 g1 g2 g3 g4 g5
    go_wp2_with fail
    go_ret
    exact ⟨by (try rw [HN.out]) <;> rfl, HBEL.out⟩
  case neg =>
  have q5 : decide (L.s5 < 0) = false := decide_eq_false g5
  by_cases g6 : L.s6 < 0
  case pos =>
    have q6 : decide (L.s6 < 0) = true := decide_eq_true g6
    have HN := Aside0.mk (show mayR L = false by
      rw [HMR.out]
      have hz : sgnB L = false := by
        simp only [sgnB, List.all_cons, List.all_nil, Bool.and_true, Bool.and_eq_false_iff, decide_eq_false_iff_not]
        omega
      rw [hz, Bool.false_and])
    clear g0 g1 g2 g3 g4 g5 g6
    go_wp2_with fail
    go_ret
    exact ⟨by (try rw [HN.out]) <;> rfl, HBEL.out⟩
  case neg =>
  have q6 : decide (L.s6 < 0) = false := decide_eq_false g6
  have HS := Aside0.mk (show sgnB L = true by
    simp only [sgnB, List.all_cons, List.all_nil, Bool.and_true, Bool.and_eq_true, decide_eq_true_eq]
    omega)
  clear g0 g1 g2 g3 g4 g5 g6
  have l1 : decide ((L.rules.length : Int) > 65535) = false := decide_eq_false (by have := HLB.out.1; omega)
  have l2 : decide ((L.curs.length : Int) > 65535) = false := decide_eq_false (by have := HLB.out.2.1; omega)
  have l3 : decide ((L.comps.length : Int) > 65535) = false := decide_eq_false (by have := HLB.out.2.2; omega)
  have l4 : decide (65535 < (L.rules.length : Int)) = false := l1
  have l5 : decide (65535 < (L.curs.length : Int)) = false := l2
  have l6 : decide (65535 < (L.comps.length : Int)) = false := l3
  go_upto_region 6 with fail
  clear q0 q1 q2 q3 q4 q5 q6 l1 l2 l3 l4 l5 l6 hs0 hs1 hs2 hs3 hs4 hs5 hs6 hc12 hc13 hc14
  have HM1 := Aside0.mk (show mayR L = ((L.rules.drop 0).all (fun x => byteB x.1) && (okC L && okM L)) by rw [HMR.out, HS.out, Bool.true_and]; rfl)
  have HB1 := Aside0.mk (Below.refl w1.heap.size w1)
  go_wp2_with fail
  go_loopg [4] L.rules.length (fun kq vc w' => ∃ (j : Nat), vc = .int .i64 (j : Int) ∧ Aside0 (j ≤ L.rules.length) ∧ Aside0 (L.rules.length - j = kq) ∧ Aside0 (mayR L = ((L.rules.drop j).all (fun x => byteB x.1) && (okC L && okM L))) ∧ Aside0 (Below w1.heap.size w1 w'))
  case atStart => exact ⟨0, rfl, ⟨Nat.zero_le _⟩, ⟨rfl⟩, HM1, HB1⟩
  case round =>
    obtain ⟨j, rfl, HJ, HKQ, HMJ, HBJ⟩ := hrel
    have HXJ := Aside0.mk (show wr.heap[w.heap.size]? = some (.cells (boxL L ⟨A3, c3, A4, c4, A5, c5⟩) 29 (0, 0)) from (HBJ.out.block w.heap.size (by have := HSZ.out; omega)).trans HBX.out)
    have hcl : wr.cell? ⟨w.heap.size, 12, none⟩ = some (.slice A3 L.rules.length c3) := (blk_cell HXJ.out 12).trans rfl
    have hm := HLB.out.1
    by_cases hlt : j < L.rules.length
    case neg =>
      have hj : j = L.rules.length := by have := HJ.out; omega
      subst hj
      have HM2 := Aside0.mk (show mayR L = ((L.curs.drop 0).all (fun x => byteB x.2.2) && okM L) by have h := HMJ.out; rw [List.drop_length, List.all_nil, Bool.true_and] at h; exact h)
      clear hlt HMJ HKQ HJ hm HXJ
      go_wp2_with fail
      go_loopg [6] L.curs.length (fun kq vc w' => ∃ (j : Nat), vc = .int .i64 (j : Int) ∧ Aside0 (j ≤ L.curs.length) ∧ Aside0 (L.curs.length - j = kq) ∧ Aside0 (mayR L = ((L.curs.drop j).all (fun x => byteB x.2.2) && okM L)) ∧ Aside0 (Below w1.heap.size w1 w'))
      case atStart => exact ⟨0, rfl, ⟨Nat.zero_le _⟩, ⟨rfl⟩, HM2, HBJ⟩
      case round =>
        obtain ⟨j, rfl, HJ, HKQ, HMJ, HBJ⟩ := hrel
        have HXJ := Aside0.mk (show wr.heap[w.heap.size]? = some (.cells (boxL L ⟨A3, c3, A4, c4, A5, c5⟩) 29 (0, 0)) from (HBJ.out.block w.heap.size (by have := HSZ.out; omega)).trans HBX.out)
        have hcl : wr.cell? ⟨w.heap.size, 13, none⟩ = some (.slice A4 L.curs.length c4) := (blk_cell HXJ.out 13).trans rfl
        have hm := HLB.out.2.1
        by_cases hlt : j < L.curs.length
        case neg =>
          have hj : j = L.curs.length := by have := HJ.out; omega
          subst hj
          have HM3 := Aside0.mk (show mayR L = (L.comps.drop 0).all (fun x => byteB x.1 && byteB x.2.1) by have h := HMJ.out; rw [List.drop_length, List.all_nil, Bool.true_and] at h; exact h)
          clear hlt HMJ HKQ HJ hm HXJ
          go_wp2_with fail
          go_loopg [8] L.comps.length (fun kq vc w' => ∃ (j : Nat), vc = .int .i64 (j : Int) ∧ Aside0 (j ≤ L.comps.length) ∧ Aside0 (L.comps.length - j = kq) ∧ Aside0 (mayR L = ((L.comps.drop j).all (fun x => byteB x.1 && byteB x.2.1))) ∧ Aside0 (Below w1.heap.size w1 w'))
          case atStart => exact ⟨0, rfl, ⟨Nat.zero_le _⟩, ⟨rfl⟩, HM3, HBJ⟩
          case round =>
            obtain ⟨j, rfl, HJ, HKQ, HMJ, HBJ⟩ := hrel
            have HXJ := Aside0.mk (show wr.heap[w.heap.size]? = some (.cells (boxL L ⟨A3, c3, A4, c4, A5, c5⟩) 29 (0, 0)) from (HBJ.out.block w.heap.size (by have := HSZ.out; omega)).trans HBX.out)
            have hcl : wr.cell? ⟨w.heap.size, 14, none⟩ = some (.slice A5 L.comps.length c5) := (blk_cell HXJ.out 14).trans rfl
            have hm := HLB.out.2.2
            by_cases hlt : j < L.comps.length
            case neg =>
              have hj : j = L.comps.length := by have := HJ.out; omega
              subst hj
              have HM4 := Aside0.mk (show mayR L = true by have h := HMJ.out; rw [List.drop_length, List.all_nil] at h; exact h)
              clear hlt HMJ HKQ HJ hm HXJ
              go_wp2_with fail
              go_ret
              exact ⟨by (try rw [HM4.out]) <;> rfl, HBEL.out.trans (HBJ.out.mono HBEL.out.size)⟩
            case pos =>
              have hlt2 : (j : Int) < (L.comps.length : Int) := by omega
              obtain ⟨x, hx⟩ : ∃ x, L.comps[j]? = some x := ⟨_, List.getElem?_eq_getElem hlt⟩
              obtain ⟨ad, ead, hcell0, hcell1, hcell2⟩ := at_comp (HL.out.below HBJ.out).2.2.1.1 j hlt x hx
              have ead2 : A5 = some ad := ead
              clear ead
              subst ead2
              have eL : L.comps.drop j = x :: L.comps.drop (j + 1) := by
                rw [List.drop_eq_getElem_cons hlt]; congr 1
                rw [List.getElem?_eq_getElem hlt] at hx; exact Option.some.inj hx
              have hmj := HMJ.out
              rw [eL, List.all_cons] at hmj
              have HMX := Aside0.mk hmj
              have HLT := Aside0.mk hlt
              have HT := Aside0.mk (exergueref16_byteful.calls (x.1) _ wr (Byteful_f _))
              have HGX := Aside0.mk hx
              clear hmj eL hx hlt
              go_wp2_with fail
              refine HT.out.mono ?_
              rintro e w2 ⟨rfl, hd⟩
              have HD := Aside0.mk hd.below
              have HB2 := Aside0.mk (HBJ.out.trans (HD.out.mono HBJ.out.size))
              clear hd
              dsimp only
              cases e1 : byteB x.1 with
              | false =>
                have HN := Aside0.mk (show mayR L = false by rw [HMX.out, e1]; simp)
                go_wp2_with fail
                go_ret
                exact ⟨by (try rw [HN.out]) <;> rfl, HBEL.out.trans (HB2.out.mono HBEL.out.size)⟩
              | true =>
                have HXK := Aside0.mk (show w2.heap[w.heap.size]? = some (.cells (boxL L ⟨A3, c3, A4, c4, some ad, c5⟩) 29 (0, 0)) from (HB2.out.block w.heap.size (by have := HSZ.out; omega)).trans HBX.out)
                have hcl2 : w2.cell? ⟨w.heap.size, 14, none⟩ = some (.slice (some ad) L.comps.length c5) := (blk_cell HXK.out 14).trans rfl
                obtain ⟨x', hx'⟩ : ∃ x, L.comps[j]? = some x := ⟨_, List.getElem?_eq_getElem HLT.out⟩
                obtain ⟨ad2, ead2, hk0, hk1, hk2⟩ := at_comp (HL.out.below HB2.out).2.2.1.1 j HLT.out x HGX.out
                have ead3 : some ad = some ad2 := ead2
                clear ead2 x' hx'
                cases ead3
                have HT2 := Aside0.mk (exergueref16_byteful.calls (x.2.1) _ w2 (Byteful_f _))
                go_wp2_with fail
                refine HT2.out.mono ?_
                rintro e w3 ⟨rfl, hd⟩
                have HD2 := Aside0.mk hd.below
                have HB2 := Aside0.mk (HB2.out.trans (HD2.out.mono HB2.out.size))
                clear hd
                dsimp only
                cases e2 : byteB x.2.1 with
                | false =>
                  have HN := Aside0.mk (show mayR L = false by rw [HMX.out, e1, e2]; simp)
                  go_wp2_with fail
                  go_ret
                  exact ⟨by (try rw [HN.out]) <;> rfl, HBEL.out.trans (HB2.out.mono HBEL.out.size)⟩
                | true =>
                  have HN := Aside0.mk (show mayR L = ((L.comps.drop (j + 1)).all (fun x => byteB x.1 && byteB x.2.1)) by rw [HMX.out, e1, e2]; simp)
                  go_wp2_with fail
                  go_roundg (L.comps.length - (j + 1))
                  case measure => have := HLT.out; have := HKQ.out; omega
                  case rel => exact ⟨j + 1, by have h1 := HLT.out; first | rfl | (congr 1; unfold wrap64; omega), ⟨HLT.out⟩, ⟨rfl⟩, HN, HB2⟩
        case pos =>
          have hlt2 : (j : Int) < (L.curs.length : Int) := by omega
          obtain ⟨x, hx⟩ : ∃ x, L.curs[j]? = some x := ⟨_, List.getElem?_eq_getElem hlt⟩
          obtain ⟨ad, ead, hcell0, hcell1, hcell2⟩ := at_cur (HL.out.below HBJ.out).2.1.1 j hlt x hx
          have ead2 : A4 = some ad := ead
          clear ead
          subst ead2
          have eL : L.curs.drop j = x :: L.curs.drop (j + 1) := by
            rw [List.drop_eq_getElem_cons hlt]; congr 1
            rw [List.getElem?_eq_getElem hlt] at hx; exact Option.some.inj hx
          have hmj := HMJ.out
          rw [eL, List.all_cons] at hmj
          have HMX := Aside0.mk hmj
          have HLT := Aside0.mk hlt
          have HT := Aside0.mk (exergueref16_byteful.calls (x.2.2) _ wr (Byteful_f _))
          clear hmj eL hx hlt
          go_wp2_with fail
          refine HT.out.mono ?_
          rintro e w2 ⟨rfl, hd⟩
          have HD := Aside0.mk hd.below
          have HB2 := Aside0.mk (HBJ.out.trans (HD.out.mono HBJ.out.size))
          clear hd
          dsimp only
          cases e1 : byteB x.2.2 with
          | false =>
            have HN := Aside0.mk (show mayR L = false by rw [HMX.out, e1]; simp)
            go_wp2_with fail
            go_ret
            exact ⟨by (try rw [HN.out]) <;> rfl, HBEL.out.trans (HB2.out.mono HBEL.out.size)⟩
          | true =>
            have HN := Aside0.mk (show mayR L = ((L.curs.drop (j + 1)).all (fun x => byteB x.2.2) && okM L) by rw [HMX.out, e1]; simp)
            go_wp2_with fail
            go_roundg (L.curs.length - (j + 1))
            case measure => have := HLT.out; have := HKQ.out; omega
            case rel => exact ⟨j + 1, by have h1 := HLT.out; first | rfl | (congr 1; unfold wrap64; omega), ⟨HLT.out⟩, ⟨rfl⟩, HN, HB2⟩
    case pos =>
      have hlt2 : (j : Int) < (L.rules.length : Int) := by omega
      obtain ⟨x, hx⟩ : ∃ x, L.rules[j]? = some x := ⟨_, List.getElem?_eq_getElem hlt⟩
      obtain ⟨ad, ead, hcell0, hcell1⟩ := at_rule (HL.out.below HBJ.out).1.1 j hlt x hx
      have ead2 : A3 = some ad := ead
      clear ead
      subst ead2
      have eL : L.rules.drop j = x :: L.rules.drop (j + 1) := by
        rw [List.drop_eq_getElem_cons hlt]; congr 1
        rw [List.getElem?_eq_getElem hlt] at hx; exact Option.some.inj hx
      have hmj := HMJ.out
      rw [eL, List.all_cons] at hmj
      have HMX := Aside0.mk hmj
      have HLT := Aside0.mk hlt
      have HT := Aside0.mk (exergueref16_byteful.calls (x.1) _ wr (Byteful_f _))
      clear hmj eL hx hlt
      go_wp2_with fail
      refine HT.out.mono ?_
      rintro e w2 ⟨rfl, hd⟩
      have HD := Aside0.mk hd.below
      have HB2 := Aside0.mk (HBJ.out.trans (HD.out.mono HBJ.out.size))
      clear hd
      dsimp only
      cases e1 : byteB x.1 with
      | false =>
        have HN := Aside0.mk (show mayR L = false by rw [HMX.out, e1]; simp)
        go_wp2_with fail
        go_ret
        exact ⟨by (try rw [HN.out]) <;> rfl, HBEL.out.trans (HB2.out.mono HBEL.out.size)⟩
      | true =>
        have HN := Aside0.mk (show mayR L = ((L.rules.drop (j + 1)).all (fun x => byteB x.1) && (okC L && okM L)) by rw [HMX.out, e1]; simp)
        go_wp2_with fail
        go_roundg (L.rules.length - (j + 1))
        case measure => have := HLT.out; have := HKQ.out; omega
        case rel => exact ⟨j + 1, by have h1 := HLT.out; first | rfl | (congr 1; unfold wrap64; omega), ⟨HLT.out⟩, ⟨rfl⟩, HN, HB2⟩
end Go.Proofs.Ytmhpcjncngonbaa.Q
