/- Texts of this claim, joined; the first one's sentence stands below. -/
import Derived.Test.YtmhpcjncngonbaaZM4
/- What the reference's Texts comes to; rows of 65535 at most. -/
namespace Go.Proofs.Ytmhpcjncngonbaa.Q
open Go.RowKit Go.Proofs.Ytmhpcjncngonbaa.Mine Go.Proofs.YtmhpcjncngonbaaW.PrintWords Go.Proofs.YtmhpcjncngonbaaW.PrintLast Go.Proofs.YtmhpcjncngonbaaW.PrintMore
set_option linter.unusedVariables false
set_option linter.unusedSimpArgs false
set_option maxHeartbeats 8000000 in
set_option maxRecDepth 100000 in
theorem exergueref16_Texts.calls (L : Loc) (a : Lat) (w : World) (h : LocC L a w) (hb : LocB L) :
    Calls Try.prog 22 #[locV L a] w fun e w' => ∃ v0_ : Value, e = .returned v0_ ∧ Kd.R Kd.string 9 w' w.heap.size (fun _ => True) v0_ (textsL L) ∧ Below w.heap.size w w' := by
  obtain ⟨A3, c3, A4, c4, A5, c5⟩ := a
  obtain ⟨w1, hw1⟩ : ∃ w1, w1 = w.alloc (.cells (boxL L ⟨A3, c3, A4, c4, A5, c5⟩) 29) := ⟨_, rfl⟩
  have hbel : Below w.heap.size w w1 := by rw [hw1]; exact (Below.refl w.heap.size w).alloc (Nat.le_refl _) _
  have hsz : w1.heap.size = w.heap.size + 1 := by rw [hw1]; simp
  have hbx : w1.heap[w.heap.size]? = some (.cells (boxL L ⟨A3, c3, A4, c4, A5, c5⟩) 29 (0, 0)) := by rw [hw1]; exact blk_new w _
  have HLB := Aside0.mk hb
  have HBEL := Aside0.mk hbel
  have HL := Aside0.mk (h.below hbel)
  have HSZ := Aside0.mk hsz
  have HBX := Aside0.mk hbx
  have HW1 := Aside0.mk hw1
  have hc0 : w1.cell? ⟨w.heap.size, 0, none⟩ = some (.string L.tag) := (blk_cell hbx 0).trans rfl
  have hc8 : w1.cell? ⟨w.heap.size, 8, none⟩ = some (.string L.p0) := (blk_cell hbx 8).trans rfl
  have hc9 : w1.cell? ⟨w.heap.size, 9, none⟩ = some (.string L.p1) := (blk_cell hbx 9).trans rfl
  have hc10 : w1.cell? ⟨w.heap.size, 10, none⟩ = some (.string L.p2) := (blk_cell hbx 10).trans rfl
  have hc11 : w1.cell? ⟨w.heap.size, 11, none⟩ = some (.string L.p3) := (blk_cell hbx 11).trans rfl
  have HT0 := Aside0.mk (show ∃ T0, T0 = [L.tag, L.p0, L.p1, L.p2, L.p3] ++ L.rules.flatMap (fun x => [x.2]) from ⟨_, rfl⟩)
  obtain ⟨T0, hT0⟩ := HT0.out
  obtain ⟨T1, hT1⟩ : ∃ T1, T1 = T0 ++ L.curs.flatMap (fun x => [x.1, x.2.1]) := ⟨_, rfl⟩
  obtain ⟨T2, hT2⟩ : ∃ T2, T2 = T1 ++ L.comps.flatMap (fun x => [x.2.2]) := ⟨_, rfl⟩
  clear HT0
  have HT3 := Aside0.mk (show textsL L = T2 by rw [hT2, hT1, hT0]; rfl)
  have HT0 := Aside0.mk hT0
  have HT1 := Aside0.mk hT1
  have HT2 := Aside0.mk hT2
  clear h hb hbel hbx hw1 hsz hT0 hT1 hT2
  have HO5 := Aside0.mk (show Kd.R Kd.string 9 (w1.alloc (.cells #[.string L.tag, .string L.p0, .string L.p1, .string L.p2, .string L.p3] 9)) w1.heap.size (fun _ => True) (.slice (some ⟨w.heap.size + 1, 0, none⟩) 5 5) [L.tag, L.p0, L.p1, L.p2, L.p3] by
    rw [show (⟨w.heap.size + 1, 0, none⟩ : Addr) = ⟨w1.heap.size, 0, none⟩ by rw [HSZ.out]]
    exact R_lit_new Value.string (fun _ => rfl) w1 #[.string L.tag, .string L.p0, .string L.p1, .string L.p2, .string L.p3] 9 w1.heap.size (fun _ => True) [L.tag, L.p0, L.p1, L.p2, L.p3] rfl (Nat.le_refl _) trivial (by simp))
  have HB5 := Aside0.mk ((Below.refl w1.heap.size w1).alloc (Nat.le_refl _) (.cells #[.string L.tag, .string L.p0, .string L.p1, .string L.p2, .string L.p3] 9))
  go_enter Try.func22, Try.ntmps22
  go_wp2_with fail
  rw [← HW1.out]
  go_wp2_with fail
  clear hc0 hc8 hc9 hc10 hc11
  go_wp2_with fail
  go_loopg [3, 4] L.rules.length (fun kq v3 v4 w' => ∃ (j : Nat) (acc : List ByteArray), v4 = .int .i64 (j : Int) ∧ Aside0 (j ≤ L.rules.length) ∧ Aside0 (L.rules.length - j = kq) ∧ Aside0 (acc.length = 5 + j) ∧ Aside0 (acc ++ (L.rules.drop j).flatMap (fun x => [x.2]) = T0) ∧ Aside0 (Kd.R Kd.string 9 w' w1.heap.size (fun _ => True) v3 acc) ∧ Aside0 (Below w1.heap.size w1 w'))
  case atStart => exact ⟨0, _, rfl, ⟨Nat.zero_le _⟩, ⟨rfl⟩, ⟨rfl⟩, ⟨HT0.out.symm⟩, HO5, HB5⟩
  case round =>
    obtain ⟨j, acc, rfl, HJ, HKQ, HSL, HTJ, HOJ, HBJ⟩ := hrel
    have HXJ := Aside0.mk (show wr.heap[w.heap.size]? = some (.cells (boxL L ⟨A3, c3, A4, c4, A5, c5⟩) 29 (0, 0)) from (HBJ.out.block w.heap.size (by have := HSZ.out; omega)).trans HBX.out)
    have hc12 : wr.cell? ⟨w.heap.size, 12, none⟩ = some (.slice A3 L.rules.length c3) := (blk_cell HXJ.out 12).trans rfl
    have hm := HLB.out.1
    by_cases hlt : j < L.rules.length
    · have hlt2 : (j : Int) < (L.rules.length : Int) := by omega
      obtain ⟨x, hx⟩ : ∃ x, L.rules[j]? = some x := ⟨_, List.getElem?_eq_getElem hlt⟩
      obtain ⟨ad, ead, hcell0, hcell1⟩ := at_rule (HL.out.below HBJ.out).1.1 j hlt x hx
      have ead2 : A3 = some ad := ead
      clear ead
      subst ead2
      have eL : L.rules.drop j = x :: L.rules.drop (j + 1) := by
        rw [List.drop_eq_getElem_cons hlt]; congr 1
        rw [List.getElem?_eq_getElem hlt] at hx; exact Option.some.inj hx
      rw [eL] at HTJ
      have HTX := Aside0.mk (show (acc ++ [x.2]) ++ (L.rules.drop (j + 1)).flatMap (fun x => [x.2]) = T0 by have := HTJ.out; rw [List.flatMap_cons, ← List.append_assoc] at this; exact this)
      have HLT2 := Aside0.mk hlt
      have HLEN := Aside0.mk (show (acc.length + 1) * 16 ≤ 140737488355328 by have := HSL.out; have h1 := HLB.out.1; have h2 := HLB.out.2.1; have h3 := HLB.out.2.2; omega)
      have HSL2 := Aside0.mk (show (acc ++ [x.2]).length = 5 + (j + 1) by have := HSL.out; rw [List.length_append]; simp; omega)
      have HXX := Aside0.mk hx
      clear hlt hx eL
      have HOC7 := Aside0.mk (Kd.R_alloc HOJ.out (.cells #[.string x.2] 9))
      have HBD7 := Aside0.mk (HBJ.out.alloc HBJ.out.size (.cells #[.string x.2] 9))
      have HLE7 := Aside0.mk (show (acc.length + 1) * 16 ≤ 140737488355328 by have := HSL.out; have h1 := HLB.out.1; have h2 := HLB.out.2.1; have h3 := HLB.out.2.2; (try simp only [List.length_append, List.length_cons, List.length_nil]); omega)
      have HRC7 := Aside0.mk (lit_reads Value.string (fun _ => rfl) wr #[.string x.2] 9 [x.2] rfl (by simp))
      go_wp2_with (first | ((with_reducible refine gate_builtin (b := .append) (xs := #[.tmp 29, .tmp 36]) rfl ?_); at_builtin; refine Kd.R_append_rows Kd.string (w0 := w1) w1.heap.size rfl (.tmp 29) (.tmp 36) 48 9 (.string ⟨#[]⟩) 16 rfl Try.underlying48 info9 rfl (by decide) (by omega) u3 acc [x.2] _ _ _ (fun _ => True) (fun _ => False) rfl rfl ?aO ?aR (fun _ _ h => h) (fun _ h => h.elim) ?aF ?aB ?aS ?aL ?_; (case aF => exact (fun _ _ => trivial)); (case aO => exact HOC7.out); (case aR => exact HRC7.out); (case aB => exact HBD7.out); (case aS => exact HBD7.out.size); (case aL => exact HLE7.out); intro v7 w7 ho_ hb_ _ _; have HO7 := Aside0.mk ho_; have HB7 := Aside0.mk hb_; clear ho_ hb_))
      go_roundg (L.rules.length - (j + 1))
      case measure => have := HLT2.out; have := HKQ.out; omega
      case rel => exact ⟨j + 1, _, by have h1 := HLT2.out; first | rfl | (congr 1; unfold wrap64; omega), ⟨HLT2.out⟩, ⟨rfl⟩, HSL2, HTX, HO7, HB7⟩
    · have hj : j = L.rules.length := by have := HJ.out; omega
      subst hj
      have e1 := HTJ.out
      rw [List.drop_length, List.flatMap_nil, List.append_nil] at e1
      have HE0 := Aside0.mk e1
      have HO0_ := HOJ
      have HX0_ := HXJ
      have HB0_ := HBJ
      have HS0_ := HSL
      clear hlt e1 HOJ HXJ HBJ HSL HTJ HKQ HJ hm
      go_wp2_with fail
      go_loopg [3, 5] L.curs.length (fun kq v3 v5 w' => ∃ (j : Nat) (acc : List ByteArray), v5 = .int .i64 (j : Int) ∧ Aside0 (j ≤ L.curs.length) ∧ Aside0 (L.curs.length - j = kq) ∧ Aside0 (acc.length = 5 + L.rules.length + 2 * j) ∧ Aside0 (acc ++ (L.curs.drop j).flatMap (fun x => [x.1, x.2.1]) = T1) ∧ Aside0 (Kd.R Kd.string 9 w' w1.heap.size (fun _ => True) v3 acc) ∧ Aside0 (Below w1.heap.size w1 w'))
      case atStart => exact ⟨0, _, rfl, ⟨Nat.zero_le _⟩, ⟨rfl⟩, ⟨by have := HS0_.out; omega⟩, ⟨by rw [HE0.out]; exact HT1.out.symm⟩, HO0_, HB0_⟩
      case round =>
        obtain ⟨j, acc, rfl, HJ, HKQ, HSL, HTJ, HOJ, HBJ⟩ := hrel
        have HXJ := Aside0.mk (show wr.heap[w.heap.size]? = some (.cells (boxL L ⟨A3, c3, A4, c4, A5, c5⟩) 29 (0, 0)) from (HBJ.out.block w.heap.size (by have := HSZ.out; omega)).trans HBX.out)
        have hc13 : wr.cell? ⟨w.heap.size, 13, none⟩ = some (.slice A4 L.curs.length c4) := (blk_cell HXJ.out 13).trans rfl
        have hm := HLB.out.2.1
        by_cases hlt : j < L.curs.length
        · have hlt2 : (j : Int) < (L.curs.length : Int) := by omega
          obtain ⟨x, hx⟩ : ∃ x, L.curs[j]? = some x := ⟨_, List.getElem?_eq_getElem hlt⟩
          obtain ⟨ad, ead, hcell0, hcell1, hcell2⟩ := at_cur (HL.out.below HBJ.out).2.1.1 j hlt x hx
          have ead2 : A4 = some ad := ead
          clear ead
          subst ead2
          have eL : L.curs.drop j = x :: L.curs.drop (j + 1) := by
            rw [List.drop_eq_getElem_cons hlt]; congr 1
            rw [List.getElem?_eq_getElem hlt] at hx; exact Option.some.inj hx
          rw [eL] at HTJ
          have HTX := Aside0.mk (show (acc ++ [x.1, x.2.1]) ++ (L.curs.drop (j + 1)).flatMap (fun x => [x.1, x.2.1]) = T1 by have := HTJ.out; rw [List.flatMap_cons, ← List.append_assoc] at this; exact this)
          have HLT2 := Aside0.mk hlt
          have HLEN := Aside0.mk (show (acc.length + 2) * 16 ≤ 140737488355328 by have := HSL.out; have h1 := HLB.out.1; have h2 := HLB.out.2.1; have h3 := HLB.out.2.2; omega)
          have HSL2 := Aside0.mk (show (acc ++ [x.1, x.2.1]).length = 5 + L.rules.length + 2 * (j + 1) by have := HSL.out; rw [List.length_append]; simp; omega)
          have HXX := Aside0.mk hx
          clear hlt hx eL
          have HOC7 := Aside0.mk (Kd.R_alloc HOJ.out (.cells #[.string x.1] 9))
          have HBD7 := Aside0.mk (HBJ.out.alloc HBJ.out.size (.cells #[.string x.1] 9))
          have HLE7 := Aside0.mk (show (acc.length + 1) * 16 ≤ 140737488355328 by have := HSL.out; have h1 := HLB.out.1; have h2 := HLB.out.2.1; have h3 := HLB.out.2.2; (try simp only [List.length_append, List.length_cons, List.length_nil]); omega)
          have HRC7 := Aside0.mk (lit_reads Value.string (fun _ => rfl) wr #[.string x.1] 9 [x.1] rfl (by simp))
          go_wp2_with (first | ((with_reducible refine gate_builtin (b := .append) (xs := #[.tmp 45, .tmp 52]) rfl ?_); at_builtin; refine Kd.R_append_rows Kd.string (w0 := w1) w1.heap.size rfl (.tmp 45) (.tmp 52) 48 9 (.string ⟨#[]⟩) 16 rfl Try.underlying48 info9 rfl (by decide) (by omega) u3 acc [x.1] _ _ _ (fun _ => True) (fun _ => False) rfl rfl ?aO ?aR (fun _ _ h => h) (fun _ h => h.elim) ?aF ?aB ?aS ?aL ?_; (case aF => exact (fun _ _ => trivial)); (case aO => exact HOC7.out); (case aR => exact HRC7.out); (case aB => exact HBD7.out); (case aS => exact HBD7.out.size); (case aL => exact HLE7.out); intro v7 w7 ho_ hb_ _ _; have HO7 := Aside0.mk ho_; have HB7 := Aside0.mk hb_; clear ho_ hb_; have HX7 := Aside0.mk (show w7.heap[w.heap.size]? = some (.cells (boxL L ⟨A3, c3, some ad, c4, A5, c5⟩) 29 (0, 0)) from (HB7.out.block w.heap.size (by have := HSZ.out; omega)).trans HBX.out); have hd7 : w7.cell? ⟨w.heap.size, 13, none⟩ = some (.slice (some ad) L.curs.length c4) := (blk_cell HX7.out 13).trans rfl; obtain ⟨ad2, ead2, he0, he1, he2⟩ := at_cur (HL.out.below HB7.out).2.1.1 j HLT2.out x HXX.out; have ead3 : some ad = some ad2 := ead2; clear ead2; cases ead3; have HOC8 := Aside0.mk (Kd.R_alloc HO7.out (.cells #[.string x.2.1] 9)); have HBD8 := Aside0.mk (HB7.out.alloc HB7.out.size (.cells #[.string x.2.1] 9)); have HLE8 := Aside0.mk (show ((acc ++ [x.1]).length + 1) * 16 ≤ 140737488355328 by have := HSL.out; have h1 := HLB.out.1; have h2 := HLB.out.2.1; have h3 := HLB.out.2.2; (try simp only [List.length_append, List.length_cons, List.length_nil]); omega); have HRC8 := Aside0.mk (lit_reads Value.string (fun _ => rfl) w7 #[.string x.2.1] 9 [x.2.1] rfl (by simp))) | ((with_reducible refine gate_builtin (b := .append) (xs := #[.tmp 54, .tmp 61]) rfl ?_); at_builtin; refine Kd.R_append_rows Kd.string (w0 := w1) w1.heap.size rfl (.tmp 54) (.tmp 61) 48 9 (.string ⟨#[]⟩) 16 rfl Try.underlying48 info9 rfl (by decide) (by omega) v7 (acc ++ [x.1]) [x.2.1] _ _ _ (fun _ => True) (fun _ => False) rfl rfl ?aO ?aR (fun _ _ h => h) (fun _ h => h.elim) ?aF ?aB ?aS ?aL ?_; (case aF => exact (fun _ _ => trivial)); (case aO => exact HOC8.out); (case aR => exact HRC8.out); (case aB => exact HBD8.out); (case aS => exact HBD8.out.size); (case aL => exact HLE8.out); intro v8 w8 ho_ hb_ _ _; have HO8 := Aside0.mk ho_; have HB8 := Aside0.mk hb_; clear ho_ hb_))
          rw [List.append_assoc] at HO8
          go_roundg (L.curs.length - (j + 1))
          case measure => have := HLT2.out; have := HKQ.out; omega
          case rel => exact ⟨j + 1, _, by have h1 := HLT2.out; first | rfl | (congr 1; unfold wrap64; omega), ⟨HLT2.out⟩, ⟨rfl⟩, HSL2, HTX, HO8, HB8⟩
        · have hj : j = L.curs.length := by have := HJ.out; omega
          subst hj
          have e1 := HTJ.out
          rw [List.drop_length, List.flatMap_nil, List.append_nil] at e1
          have HE1 := Aside0.mk e1
          have HO1_ := HOJ
          have HX1_ := HXJ
          have HB1_ := HBJ
          have HS1_ := HSL
          clear hlt e1 HOJ HXJ HBJ HSL HTJ HKQ HJ hm
          go_wp2_with fail
          go_loopg [3, 6] L.comps.length (fun kq v3 v6 w' => ∃ (j : Nat) (acc : List ByteArray), v6 = .int .i64 (j : Int) ∧ Aside0 (j ≤ L.comps.length) ∧ Aside0 (L.comps.length - j = kq) ∧ Aside0 (acc.length = 5 + L.rules.length + 2 * L.curs.length + j) ∧ Aside0 (acc ++ (L.comps.drop j).flatMap (fun x => [x.2.2]) = T2) ∧ Aside0 (Kd.R Kd.string 9 w' w1.heap.size (fun _ => True) v3 acc) ∧ Aside0 (Below w1.heap.size w1 w'))
          case atStart => exact ⟨0, _, rfl, ⟨Nat.zero_le _⟩, ⟨rfl⟩, ⟨by have := HS1_.out; omega⟩, ⟨by rw [HE1.out]; exact HT2.out.symm⟩, HO1_, HB1_⟩
          case round =>
            obtain ⟨j, acc, rfl, HJ, HKQ, HSL, HTJ, HOJ, HBJ⟩ := hrel
            have HXJ := Aside0.mk (show wr.heap[w.heap.size]? = some (.cells (boxL L ⟨A3, c3, A4, c4, A5, c5⟩) 29 (0, 0)) from (HBJ.out.block w.heap.size (by have := HSZ.out; omega)).trans HBX.out)
            have hc14 : wr.cell? ⟨w.heap.size, 14, none⟩ = some (.slice A5 L.comps.length c5) := (blk_cell HXJ.out 14).trans rfl
            have hm := HLB.out.2.2
            by_cases hlt : j < L.comps.length
            · have hlt2 : (j : Int) < (L.comps.length : Int) := by omega
              obtain ⟨x, hx⟩ : ∃ x, L.comps[j]? = some x := ⟨_, List.getElem?_eq_getElem hlt⟩
              obtain ⟨ad, ead, hcell0, hcell1, hcell2⟩ := at_comp (HL.out.below HBJ.out).2.2.1.1 j hlt x hx
              have ead2 : A5 = some ad := ead
              clear ead
              subst ead2
              have eL : L.comps.drop j = x :: L.comps.drop (j + 1) := by
                rw [List.drop_eq_getElem_cons hlt]; congr 1
                rw [List.getElem?_eq_getElem hlt] at hx; exact Option.some.inj hx
              rw [eL] at HTJ
              have HTX := Aside0.mk (show (acc ++ [x.2.2]) ++ (L.comps.drop (j + 1)).flatMap (fun x => [x.2.2]) = T2 by have := HTJ.out; rw [List.flatMap_cons, ← List.append_assoc] at this; exact this)
              have HLT2 := Aside0.mk hlt
              have HLEN := Aside0.mk (show (acc.length + 1) * 16 ≤ 140737488355328 by have := HSL.out; have h1 := HLB.out.1; have h2 := HLB.out.2.1; have h3 := HLB.out.2.2; omega)
              have HSL2 := Aside0.mk (show (acc ++ [x.2.2]).length = 5 + L.rules.length + 2 * L.curs.length + (j + 1) by have := HSL.out; rw [List.length_append]; simp; omega)
              have HXX := Aside0.mk hx
              clear hlt hx eL
              have HOC7 := Aside0.mk (Kd.R_alloc HOJ.out (.cells #[.string x.2.2] 9))
              have HBD7 := Aside0.mk (HBJ.out.alloc HBJ.out.size (.cells #[.string x.2.2] 9))
              have HLE7 := Aside0.mk (show (acc.length + 1) * 16 ≤ 140737488355328 by have := HSL.out; have h1 := HLB.out.1; have h2 := HLB.out.2.1; have h3 := HLB.out.2.2; (try simp only [List.length_append, List.length_cons, List.length_nil]); omega)
              have HRC7 := Aside0.mk (lit_reads Value.string (fun _ => rfl) wr #[.string x.2.2] 9 [x.2.2] rfl (by simp))
              go_wp2_with (first | ((with_reducible refine gate_builtin (b := .append) (xs := #[.tmp 70, .tmp 77]) rfl ?_); at_builtin; refine Kd.R_append_rows Kd.string (w0 := w1) w1.heap.size rfl (.tmp 70) (.tmp 77) 48 9 (.string ⟨#[]⟩) 16 rfl Try.underlying48 info9 rfl (by decide) (by omega) u3 acc [x.2.2] _ _ _ (fun _ => True) (fun _ => False) rfl rfl ?aO ?aR (fun _ _ h => h) (fun _ h => h.elim) ?aF ?aB ?aS ?aL ?_; (case aF => exact (fun _ _ => trivial)); (case aO => exact HOC7.out); (case aR => exact HRC7.out); (case aB => exact HBD7.out); (case aS => exact HBD7.out.size); (case aL => exact HLE7.out); intro v7 w7 ho_ hb_ _ _; have HO7 := Aside0.mk ho_; have HB7 := Aside0.mk hb_; clear ho_ hb_))
              go_roundg (L.comps.length - (j + 1))
              case measure => have := HLT2.out; have := HKQ.out; omega
              case rel => exact ⟨j + 1, _, by have h1 := HLT2.out; first | rfl | (congr 1; unfold wrap64; omega), ⟨HLT2.out⟩, ⟨rfl⟩, HSL2, HTX, HO7, HB7⟩
            · have hj : j = L.comps.length := by have := HJ.out; omega
              subst hj
              have e1 := HTJ.out
              rw [List.drop_length, List.flatMap_nil, List.append_nil] at e1
              have HE2 := Aside0.mk e1
              have HO2_ := HOJ
              have HX2_ := HXJ
              have HB2_ := HBJ
              have HS2_ := HSL
              clear hlt e1 HOJ HXJ HBJ HSL HTJ HKQ HJ hm
              go_wp2
              go_ret
              exact ⟨_, rfl, Kd.R_mono (Kd.R_lower (by rw [HT3.out, ← HE2.out]; exact HO2_.out) (Nat.le_trans (Nat.le_succ _) (Nat.le_of_eq HSZ.out.symm))) (fun _ _ => trivial), HBEL.out.trans (HB2_.out.mono (Nat.le_trans (Nat.le_succ _) (Nat.le_of_eq HSZ.out.symm)))⟩
end Go.Proofs.Ytmhpcjncngonbaa.Q
