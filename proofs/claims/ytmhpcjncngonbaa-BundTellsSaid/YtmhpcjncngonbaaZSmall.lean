/- Texts of this claim, joined; the first one's sentence stands below. -/
import Derived.Test.YtmhpcjncngonbaaZM6
/- What the reference's Small comes to; texts as long as memory has room. -/
namespace Go.Proofs.Ytmhpcjncngonbaa.Q
open Go.RowKit Go.Proofs.Ytmhpcjncngonbaa.Mine Go.Proofs.YtmhpcjncngonbaaW.PrintWords Go.Proofs.YtmhpcjncngonbaaW.PrintLast Go.Proofs.YtmhpcjncngonbaaW.PrintMore
set_option linter.unusedVariables false
set_option linter.unusedSimpArgs false
/-- how long a locale's texts are together -/
def sumT (L : Loc) : Nat := L.tag.size + L.p0.size + L.p1.size + L.p2.size + L.p3.size + (L.rules.map fun x => x.2.size).sum + (L.curs.map fun x => x.1.size + x.2.1.size).sum + (L.comps.map fun x => x.2.2.size).sum
def smallB (L : Loc) : Bool := decide (L.rules.length ≤ 8) && (decide (L.curs.length ≤ 105) && (decide (L.comps.length ≤ 95) && decide (sumT L ≤ 6000)))
/-- each of a locale's texts is of a size that memory has room for -/
def LocT (L : Loc) : Prop := (L.tag.size ≤ 140737488351232 ∧ L.p0.size ≤ 140737488351232 ∧ L.p1.size ≤ 140737488351232 ∧ L.p2.size ≤ 140737488351232 ∧ L.p3.size ≤ 140737488351232) ∧ (∀ x ∈ L.rules, x.2.size ≤ 140737488351232) ∧ (∀ x ∈ L.curs, x.1.size ≤ 140737488351232 ∧ x.2.1.size ≤ 140737488351232) ∧ (∀ x ∈ L.comps, x.2.2.size ≤ 140737488351232)
theorem sum_step {α : Type} (f : α → Nat) (xs : List α) (j : Nat) (x : α) (h : xs[j]? = some x) : ((xs.take (j + 1)).map f).sum = ((xs.take j).map f).sum + f x := by
  rw [List.take_add_one, h]
  simp
theorem sum_le {α : Type} (f : α → Nat) (b : Nat) : ∀ (xs : List α), (∀ x ∈ xs, f x ≤ b) → (xs.map f).sum ≤ b * xs.length
  | [], _ => Nat.le_refl _
  | x :: xs, h => by
    have h1 := h x List.mem_cons_self
    have h2 := sum_le f b xs (fun y hy => h y (List.mem_cons_of_mem _ hy))
    rw [List.map_cons, List.sum_cons, List.length_cons, Nat.mul_add, Nat.mul_one]
    omega
theorem sum_take_le {α : Type} (f : α → Nat) (b : Nat) (xs : List α) (j : Nat) (h : ∀ x ∈ xs, f x ≤ b) : ((xs.take j).map f).sum ≤ b * xs.length := by
  refine Nat.le_trans (sum_le f b _ (fun x hx => h x (List.mem_of_mem_take hx))) (Nat.mul_le_mul_left _ ?_)
  rw [List.length_take]
  omega
theorem wrap_add {a b c : Nat} (h : c = a + b) (hc : c ≤ 1000000000000000) : wrap64 ((a : Int) + (b : Int)) = (c : Int) := by unfold wrap64; omega
/-- a locale's block -/
def One (L : Loc) (a : Lat) (w w' : World) : Prop := LocC L a w' ∧ w'.heap[w.heap.size]? = some (.cells (boxL L a) 29 (0, 0)) ∧ Below w.heap.size w w'
theorem One.drew {L : Loc} {a : Lat} {w w' : World} (h : One L a w w') : One L a w w'.drew :=
  have hb := (Below.refl w'.heap.size w').drew
  ⟨h.1.below hb, h.2.1, h.2.2.trans (hb.mono h.2.2.size)⟩
theorem One.start {L : Loc} {a : Lat} {w : World} (hL : LocC L a w) : One L a w (w.alloc (.cells (boxL L a) 29)) := by
  have h1 : Below w.heap.size w (w.alloc (.cells (boxL L a) 29)) := (Below.refl w.heap.size w).alloc (Nat.le_refl _) _
  exact ⟨hL.below h1, blk_new w _, h1⟩
set_option maxHeartbeats 16000000 in
set_option maxRecDepth 100000 in
theorem small.calls (L : Loc) (a : Lat) (w : World) (hL : LocC L a w) (hT : LocT L) :
    Calls Try.prog 11 #[locV L a] w fun e w' => e = .returned (.bool (smallB L)) ∧ Below w.heap.size w w' := by
  obtain ⟨w1, hw1⟩ : ∃ w1, w1 = w.alloc (.cells (boxL L a) 29) := ⟨_, rfl⟩
  have HT := Aside0.mk (show One L a w w1 by rw [hw1]; exact One.start hL)
  have HE := Aside0.mk hw1
  have HLT := Aside0.mk hT
  obtain ⟨A3, c3, A4, c4, A5, c5⟩ := a
  obtain ⟨m1, hm1⟩ : ∃ m1, m1 = L.tag.size + L.p0.size := ⟨_, rfl⟩
  obtain ⟨m2, hm2⟩ : ∃ m2, m2 = m1 + L.p1.size := ⟨_, rfl⟩
  obtain ⟨m3, hm3⟩ : ∃ m3, m3 = m2 + L.p2.size := ⟨_, rfl⟩
  obtain ⟨n0, hn0⟩ : ∃ n0, n0 = m3 + L.p3.size := ⟨_, rfl⟩
  have HN0 := Aside0.mk (show n0 = L.tag.size + L.p0.size + L.p1.size + L.p2.size + L.p3.size by omega)
  have HNB := Aside0.mk (show n0 ≤ 5 * 140737488351232 by have := hT.1; omega)
  have b1 : m1 ≤ 1000000000000000 := by have := hT.1; omega
  have b2 : m2 ≤ 1000000000000000 := by have := hT.1; omega
  have b3 : m3 ≤ 1000000000000000 := by have := hT.1; omega
  have b4 : n0 ≤ 1000000000000000 := by have := hT.1; omega
  have hw0 : wrap64 ((L.tag.size : Int) + (L.p0.size : Int)) = (m1 : Int) := wrap_add hm1 b1
  have hw2 : wrap64 ((m1 : Int) + (L.p1.size : Int)) = (m2 : Int) := wrap_add hm2 b2
  have hw3 : wrap64 ((m2 : Int) + (L.p2.size : Int)) = (m3 : Int) := wrap_add hm3 b3
  have hw4 : wrap64 ((m3 : Int) + (L.p3.size : Int)) = (n0 : Int) := wrap_add hn0 b4
  have hcell : ∀ w', One L ⟨A3, c3, A4, c4, A5, c5⟩ w w' → w'.cell? ⟨w.heap.size, 8, none⟩ = some (.string L.p0) ∧ w'.cell? ⟨w.heap.size, 9, none⟩ = some (.string L.p1) ∧ w'.cell? ⟨w.heap.size, 10, none⟩ = some (.string L.p2) ∧ w'.cell? ⟨w.heap.size, 11, none⟩ = some (.string L.p3) := fun w' h => ⟨(blk_cell h.2.1 8).trans rfl, (blk_cell h.2.1 9).trans rfl, (blk_cell h.2.1 10).trans rfl, (blk_cell h.2.1 11).trans rfl⟩
  have HCL := Aside0.mk hcell
  have HW := Aside0.mk (⟨hw0, hw2, hw3, hw4⟩ : _ ∧ _ ∧ _ ∧ _)
  clear b1 b2 b3 b4 hL hT hw1 hn0 hm1 hm2 hm3 hw0 hw2 hw3 hw4 hcell
  go_enter Try.func11, Try.ntmps11
  go_wp2_with fail
  rw [← HE.out]
  go_loopg [3, 4] 4 (fun kq v3 v4 w' => Aside0 (One L ⟨A3, c3, A4, c4, A5, c5⟩ w w') ∧ ((v4 = .int .i64 0 ∧ kq = 4 ∧ v3 = .int .i64 (L.tag.size : Int)) ∨ (v4 = .int .i64 1 ∧ kq = 3 ∧ v3 = .int .i64 (m1 : Int)) ∨ (v4 = .int .i64 2 ∧ kq = 2 ∧ v3 = .int .i64 (m2 : Int)) ∨ (v4 = .int .i64 3 ∧ kq = 1 ∧ v3 = .int .i64 (m3 : Int)) ∨ (v4 = .int .i64 4 ∧ kq = 0 ∧ v3 = .int .i64 (n0 : Int))))
  case atStart => exact ⟨HT, .inl ⟨rfl, rfl, rfl⟩⟩
  case round =>
    obtain ⟨HT, hrel⟩ := hrel
    obtain ⟨hp0, hp1, hp2, hp3⟩ := HCL.out _ HT.out
    rcases hrel with ⟨rfl, rfl, rfl⟩ | ⟨rfl, rfl, rfl⟩ | ⟨rfl, rfl, rfl⟩ | ⟨rfl, rfl, rfl⟩ | ⟨rfl, rfl, rfl⟩
    · go_wp2
      go_roundg 3
      case measure => decide
      case rel => exact ⟨HT, .inr (.inl ⟨rfl, rfl, by rw [HW.out.1]⟩)⟩
    · go_wp2
      go_roundg 2
      case measure => decide
      case rel => exact ⟨HT, .inr (.inr (.inl ⟨rfl, rfl, by rw [HW.out.2.1]⟩))⟩
    · go_wp2
      go_roundg 1
      case measure => decide
      case rel => exact ⟨HT, .inr (.inr (.inr (.inl ⟨rfl, rfl, by rw [HW.out.2.2.1]⟩)))⟩
    · go_wp2
      go_roundg 0
      case measure => decide
      case rel => exact ⟨HT, .inr (.inr (.inr (.inr ⟨rfl, rfl, by rw [HW.out.2.2.2]⟩)))⟩
    · clear hp0 hp1 hp2 hp3
      have hc3 : wr.cell? ⟨w.heap.size, 12, none⟩ = some (.slice A3 L.rules.length c3) := (blk_cell HT.out.2.1 12).trans rfl
      have hc4 : wr.cell? ⟨w.heap.size, 13, none⟩ = some (.slice A4 L.curs.length c4) := (blk_cell HT.out.2.1 13).trans rfl
      have hc5 : wr.cell? ⟨w.heap.size, 14, none⟩ = some (.slice A5 L.comps.length c5) := (blk_cell HT.out.2.1 14).trans rfl
      by_cases h3 : L.rules.length ≤ 8
      case neg =>
        have HN := Aside0.mk (show smallB L = false by unfold smallB; rw [decide_eq_false h3]; simp)
        have d1 : decide ((L.rules.length : Int) > 8) = true := decide_eq_true (by omega)
        have d2 : decide (8 < (L.rules.length : Int)) = true := decide_eq_true (by omega)
        clear h3
        go_wp2_with fail
        go_ret
        exact ⟨by rw [HN.out]; rfl, HT.out.2.2⟩
      have d3 : decide ((L.rules.length : Int) > 8) = false := decide_eq_false (by omega)
      have f3 : decide (8 < (L.rules.length : Int)) = false := decide_eq_false (by omega)
      have H3 := Aside0.mk h3
      clear h3
      by_cases h4 : L.curs.length ≤ 105
      case neg =>
        have HN := Aside0.mk (show smallB L = false by unfold smallB; rw [decide_eq_false h4]; simp)
        have d1 : decide ((L.curs.length : Int) > 105) = true := decide_eq_true (by omega)
        have d2 : decide (105 < (L.curs.length : Int)) = true := decide_eq_true (by omega)
        clear h4
        go_wp2_with fail
        go_ret
        exact ⟨by rw [HN.out]; rfl, HT.out.2.2⟩
      have d4 : decide ((L.curs.length : Int) > 105) = false := decide_eq_false (by omega)
      have f4 : decide (105 < (L.curs.length : Int)) = false := decide_eq_false (by omega)
      have H4 := Aside0.mk h4
      clear h4
      by_cases h5 : L.comps.length ≤ 95
      case neg =>
        have HN := Aside0.mk (show smallB L = false by unfold smallB; rw [decide_eq_false h5]; simp)
        have d1 : decide ((L.comps.length : Int) > 95) = true := decide_eq_true (by omega)
        have d2 : decide (95 < (L.comps.length : Int)) = true := decide_eq_true (by omega)
        clear h5
        go_wp2_with fail
        go_ret
        exact ⟨by rw [HN.out]; rfl, HT.out.2.2⟩
      have d5 : decide ((L.comps.length : Int) > 95) = false := decide_eq_false (by omega)
      have f5 : decide (95 < (L.comps.length : Int)) = false := decide_eq_false (by omega)
      have H5 := Aside0.mk h5
      clear h5
      go_wp2_with fail
      clear hc3 hc4 hc5 d3 d4 d5 f3 f4 f5
      go_loopg [3, 5] (L.rules.length) (fun kq v3 v5 w' => ∃ j s : Nat, v5 = .int .i64 (j : Int) ∧ v3 = .int .i64 (s : Int) ∧ Aside0 (j ≤ L.rules.length) ∧ Aside0 (L.rules.length - j = kq) ∧ Aside0 (One L ⟨A3, c3, A4, c4, A5, c5⟩ w w') ∧ Aside0 (s = n0 + ((L.rules.take j).map (fun x : Int × ByteArray => x.2.size)).sum))
      case atStart => exact ⟨0, n0, rfl, rfl, ⟨Nat.zero_le _⟩, ⟨rfl⟩, HT, ⟨rfl⟩⟩
      case round =>
        obtain ⟨j, s, rfl, rfl, HJ, HKQ, HT, HS⟩ := hrel
        have hc : wr.cell? ⟨w.heap.size, 12, none⟩ = some (.slice A3 L.rules.length c3) := (blk_cell HT.out.2.1 12).trans rfl
        by_cases hlt : j < L.rules.length
        · have hlt2 : (j : Int) < (L.rules.length : Int) := by omega
          obtain ⟨x, hx⟩ : ∃ x, L.rules[j]? = some x := ⟨_, List.getElem?_eq_getElem hlt⟩
          obtain ⟨ad, hA, hp1, hp2⟩ := at_rule HT.out.1.1.1 j hlt x hx
          simp only at hA
          subst hA
          have HS2 := Aside0.mk (show s + x.2.size = n0 + ((L.rules.take (j + 1)).map (fun x : Int × ByteArray => x.2.size)).sum by rw [sum_step _ _ _ x hx, HS.out, Nat.add_assoc])
          have HLE := Aside0.mk (show s + x.2.size ≤ 9000000000000000000 by
            have h1 := HS2.out
            have h2 := sum_take_le (fun x : Int × ByteArray => x.2.size) (2 * 140737488351232) L.rules (j + 1) (fun y hy => by have := HLT.out.2.1 y hy; first | omega | (have := HLT.out.2.1; omega))
            have h3 := H3.out
            have h4 := HNB.out
            omega)
          have HL := Aside0.mk hlt
          clear hlt hx
          have HWA := Aside0.mk (show wrap64 ((s : Int) + (x.2.size : Int)) = ((s + x.2.size : Nat) : Int) by have := HLE.out; unfold wrap64; omega)
          go_wp2
          go_roundg (L.rules.length - (j + 1))
          case measure => have := HL.out; have := HKQ.out; omega
          case rel => exact ⟨j + 1, s + x.2.size, by have h1 := HL.out; have h3 := H3.out; first | rfl | (congr 1; unfold wrap64; omega), by rw [HWA.out], ⟨HL.out⟩, ⟨rfl⟩, HT, HS2⟩
        · have hj : j = L.rules.length := by have := HJ.out; omega
          subst hj
          have hs := HS.out
          rw [List.take_length] at hs
          obtain ⟨s3, hs3⟩ : ∃ s3, s3 = s := ⟨_, rfl⟩
          subst hs3
          have HS3 := Aside0.mk hs
          have HB3 := Aside0.mk (show s3 ≤ 13 * (2 * 140737488351232) by have h1 := sum_le (fun x : Int × ByteArray => x.2.size) (2 * 140737488351232) L.rules (fun y hy => by have := HLT.out.2.1 y hy; omega); have h2 := H3.out; have h3 := HNB.out; omega)
          clear hlt HS HKQ HJ hs
          go_wp2_with fail
          go_loopg [3, 6] (L.curs.length) (fun kq v3 v5 w' => ∃ j s : Nat, v5 = .int .i64 (j : Int) ∧ v3 = .int .i64 (s : Int) ∧ Aside0 (j ≤ L.curs.length) ∧ Aside0 (L.curs.length - j = kq) ∧ Aside0 (One L ⟨A3, c3, A4, c4, A5, c5⟩ w w') ∧ Aside0 (s = s3 + ((L.curs.take j).map (fun x : ByteArray × ByteArray × Int => x.1.size + x.2.1.size)).sum))
          case atStart => exact ⟨0, s3, rfl, rfl, ⟨Nat.zero_le _⟩, ⟨rfl⟩, HT, ⟨rfl⟩⟩
          case round =>
            obtain ⟨j, s, rfl, rfl, HJ, HKQ, HT, HS⟩ := hrel
            have hc : wr.cell? ⟨w.heap.size, 13, none⟩ = some (.slice A4 L.curs.length c4) := (blk_cell HT.out.2.1 13).trans rfl
            by_cases hlt : j < L.curs.length
            · have hlt2 : (j : Int) < (L.curs.length : Int) := by omega
              obtain ⟨x, hx⟩ : ∃ x, L.curs[j]? = some x := ⟨_, List.getElem?_eq_getElem hlt⟩
              obtain ⟨ad, hA, hp1, hp2, hp3⟩ := at_cur HT.out.1.2.1.1 j hlt x hx
              simp only at hA
              subst hA
              have HS2 := Aside0.mk (show s + (x.1.size + x.2.1.size) = s3 + ((L.curs.take (j + 1)).map (fun x : ByteArray × ByteArray × Int => x.1.size + x.2.1.size)).sum by rw [sum_step _ _ _ x hx, HS.out, Nat.add_assoc])
              have HLE := Aside0.mk (show s + (x.1.size + x.2.1.size) ≤ 9000000000000000000 by
                have h1 := HS2.out
                have h2 := sum_take_le (fun x : ByteArray × ByteArray × Int => x.1.size + x.2.1.size) (2 * 140737488351232) L.curs (j + 1) (fun y hy => by have := HLT.out.2.2.1 y hy; first | omega | (have := HLT.out.2.2.1; omega))
                have h3 := H4.out
                have h4 := HB3.out
                omega)
              have HL := Aside0.mk hlt
              clear hlt hx
              have hw1 : wrap64 ((s : Int) + (x.1.size : Int)) = ((s + x.1.size : Nat) : Int) := by have := HLE.out; unfold wrap64; omega
              have hw2 : wrap64 (((s + x.1.size : Nat) : Int) + (x.2.1.size : Int)) = ((s + (x.1.size + x.2.1.size) : Nat) : Int) := by have := HLE.out; unfold wrap64; omega
              have HWA := Aside0.mk (⟨hw1, hw2⟩ : _ ∧ _)
              clear hw1 hw2
              go_wp2_with fail
              go_region_law fail
              all_goals
                go_wp2
                go_roundg (L.curs.length - (j + 1))
                case measure => have := HL.out; have := HKQ.out; omega
                case rel => exact ⟨j + 1, s + (x.1.size + x.2.1.size), by have h1 := HL.out; have h3 := H4.out; first | rfl | (congr 1; unfold wrap64; omega), by rw [HWA.out.1, HWA.out.2], ⟨HL.out⟩, ⟨rfl⟩, ⟨HT.out.drew⟩, HS2⟩
            · have hj : j = L.curs.length := by have := HJ.out; omega
              subst hj
              have hs := HS.out
              rw [List.take_length] at hs
              obtain ⟨s4, hs4⟩ : ∃ s4, s4 = s := ⟨_, rfl⟩
              subst hs4
              have HS4 := Aside0.mk hs
              have HB4 := Aside0.mk (show s4 ≤ 118 * (2 * 140737488351232) by have h1 := sum_le (fun x : ByteArray × ByteArray × Int => x.1.size + x.2.1.size) (2 * 140737488351232) L.curs (fun y hy => by have := HLT.out.2.2.1 y hy; omega); have h2 := H4.out; have h3 := HB3.out; omega)
              clear hlt HS HKQ HJ hs
              go_wp2_with fail
              go_loopg [3, 7] (L.comps.length) (fun kq v3 v5 w' => ∃ j s : Nat, v5 = .int .i64 (j : Int) ∧ v3 = .int .i64 (s : Int) ∧ Aside0 (j ≤ L.comps.length) ∧ Aside0 (L.comps.length - j = kq) ∧ Aside0 (One L ⟨A3, c3, A4, c4, A5, c5⟩ w w') ∧ Aside0 (s = s4 + ((L.comps.take j).map (fun x : Int × Int × ByteArray => x.2.2.size)).sum))
              case atStart => exact ⟨0, s4, rfl, rfl, ⟨Nat.zero_le _⟩, ⟨rfl⟩, HT, ⟨rfl⟩⟩
              case round =>
                obtain ⟨j, s, rfl, rfl, HJ, HKQ, HT, HS⟩ := hrel
                have hc : wr.cell? ⟨w.heap.size, 14, none⟩ = some (.slice A5 L.comps.length c5) := (blk_cell HT.out.2.1 14).trans rfl
                by_cases hlt : j < L.comps.length
                · have hlt2 : (j : Int) < (L.comps.length : Int) := by omega
                  obtain ⟨x, hx⟩ : ∃ x, L.comps[j]? = some x := ⟨_, List.getElem?_eq_getElem hlt⟩
                  obtain ⟨ad, hA, hp1, hp2, hp3⟩ := at_comp HT.out.1.2.2.1.1 j hlt x hx
                  simp only at hA
                  subst hA
                  have HS2 := Aside0.mk (show s + x.2.2.size = s4 + ((L.comps.take (j + 1)).map (fun x : Int × Int × ByteArray => x.2.2.size)).sum by rw [sum_step _ _ _ x hx, HS.out, Nat.add_assoc])
                  have HLE := Aside0.mk (show s + x.2.2.size ≤ 9000000000000000000 by
                    have h1 := HS2.out
                    have h2 := sum_take_le (fun x : Int × Int × ByteArray => x.2.2.size) (2 * 140737488351232) L.comps (j + 1) (fun y hy => by have := HLT.out.2.2.2 y hy; first | omega | (have := HLT.out.2.2.2; omega))
                    have h3 := H5.out
                    have h4 := HB4.out
                    omega)
                  have HL := Aside0.mk hlt
                  clear hlt hx
                  have HWA := Aside0.mk (show wrap64 ((s : Int) + (x.2.2.size : Int)) = ((s + x.2.2.size : Nat) : Int) by have := HLE.out; unfold wrap64; omega)
                  go_wp2
                  go_roundg (L.comps.length - (j + 1))
                  case measure => have := HL.out; have := HKQ.out; omega
                  case rel => exact ⟨j + 1, s + x.2.2.size, by have h1 := HL.out; have h3 := H5.out; first | rfl | (congr 1; unfold wrap64; omega), by rw [HWA.out], ⟨HL.out⟩, ⟨rfl⟩, HT, HS2⟩
                · have hj : j = L.comps.length := by have := HJ.out; omega
                  subst hj
                  have hs := HS.out
                  rw [List.take_length] at hs
                  obtain ⟨s5, hs5⟩ : ∃ s5, s5 = s := ⟨_, rfl⟩
                  subst hs5
                  have HS5 := Aside0.mk hs
                  clear hlt HS HKQ HJ hs
                  go_wp2_with fail
                  go_ret
                  have hfin : decide ((s5 : Int) ≤ 6000) = smallB L := by
                    have e3 := HS3.out
                    have e4 := HS4.out
                    have e5 := HS5.out
                    unfold smallB
                    rw [decide_eq_true H3.out, decide_eq_true H4.out, decide_eq_true H5.out, Bool.true_and, Bool.true_and, Bool.true_and, decide_eq_decide]
                    unfold sumT
                    rw [← HN0.out, ← e3, ← e4, ← e5]
                    omega
                  exact ⟨by rw [← hfin]; rfl, HT.out.2.2⟩
end Go.Proofs.Ytmhpcjncngonbaa.Q
