/- Texts of this claim, joined; the first one's sentence stands below. -/
import Derived.Test.YtmhpcjncngonbaaZRefTwo
import Derived.Test.YtmhpcjncngonbaaZRefMay
import Derived.Test.YtmhpcjncngonbaaZRefPutPool
import Derived.Deep.RegionHeld3
/- What the reference's sections come to; rows of 65535 at most. -/
namespace Go.Proofs.Ytmhpcjncngonbaa.Q
open Go.RowKit Go.Proofs.Ytmhpcjncngonbaa.Mine Go.Proofs.YtmhpcjncngonbaaW.PrintWords Go.Proofs.YtmhpcjncngonbaaW.PrintLast Go.Proofs.YtmhpcjncngonbaaW.PrintMore
set_option linter.unusedVariables false
set_option linter.unusedSimpArgs false
theorem RowB.lower {w w1 w' : World} {l l' : List Int} {e : Ending} (h : RowB w1 l e w') (hb : Below w.heap.size w w1) (e1 : l = l') : RowB w l' e w' := by
  obtain ⟨v, h1, h2, h3⟩ := h
  subst e1
  exact ⟨v, h1, Kd.R_mono (Kd.R_lower h2 hb.size) (fun k hk => Nat.le_trans hb.size hk), hb.trans (h3.mono hb.size)⟩
set_option maxHeartbeats 32000000 in
set_option maxRecDepth 100000 in
theorem sec2.calls (L : Loc) (a : Lat) (p : List ByteArray) (A : Option Addr) (c : Nat) (w : World) (hL : LocC L a w) (hb : LocB L) (hp : Kd.string.C w A p.length p) (hc : p.length ≤ c) (h5 : p.length ≤ 500) (hm : ∀ s ∈ textsL L, s ∈ p) (hs : sgnB L = true) :
    Calls Try.prog 41 #[locV L a, .slice A p.length c, .int .i64 2] w fun e w' => RowB w (numsB (nm2 p L)) e w' := by
  obtain ⟨A3, c3, A4, c4, A5, c5⟩ := a
  obtain ⟨w1, hw1⟩ : ∃ w1, w1 = w.alloc (.cells (boxL L ⟨A3, c3, A4, c4, A5, c5⟩) 29) := ⟨_, rfl⟩
  have hbel : Below w.heap.size w w1 := by rw [hw1]; exact (Below.refl w.heap.size w).alloc (Nat.le_refl _) _
  have hsz : w1.heap.size = w.heap.size + 1 := by rw [hw1]; simp
  have hbx : w1.heap[w.heap.size]? = some (.cells (boxL L ⟨A3, c3, A4, c4, A5, c5⟩) 29 (0, 0)) := by rw [hw1]; exact blk_new w _
  have HLB := Aside0.mk hb
  have HBEL := Aside0.mk hbel
  have HL := Aside0.mk (hL.below hbel)
  have HSZ := Aside0.mk hsz
  have HBX := Aside0.mk hbx
  have HW1 := Aside0.mk hw1
  have HP := Aside0.mk (Kd.C_below hp hbel)
  have HC := Aside0.mk hc
  have H5 := Aside0.mk h5
  have HM := Aside0.mk hm
  have HR0 := Aside0.mk (show (Kd.int .u8).R 5 w1 w1.heap.size (fun k => w1.heap.size ≤ k) (.slice none 0 0) [] from Kd.R_nil _ _ _ _ _)
  have HB0 := Aside0.mk (Below.refl w1.heap.size w1)
  have HT := Aside0.mk (ref.calls [] (.slice none 0 0) A c p L.tag w1 w1 HB0.out HR0.out HP.out hc (hm _ List.mem_cons_self) h5 (by simp))
  have HKP := Aside0.mk (show ∀ w', Below w1.heap.size w1 w' → (fun w' => Below w1.heap.size w1 w' ∧ w'.cell? ⟨w.heap.size, 1, none⟩ = some (.int .i32 L.s0) ∧ w'.cell? ⟨w.heap.size, 2, none⟩ = some (.int .i32 L.s1) ∧ w'.cell? ⟨w.heap.size, 3, none⟩ = some (.int .i32 L.s2) ∧ w'.cell? ⟨w.heap.size, 4, none⟩ = some (.int .i32 L.s3) ∧ w'.cell? ⟨w.heap.size, 5, none⟩ = some (.int .i32 L.s4) ∧ w'.cell? ⟨w.heap.size, 6, none⟩ = some (.int .i32 L.s5) ∧ w'.cell? ⟨w.heap.size, 7, none⟩ = some (.int .i32 L.s6)) w' from fun w' h => by
    have hx := blk_below hbx h
    exact ⟨h, (blk_cell hx 1).trans rfl, (blk_cell hx 2).trans rfl, (blk_cell hx 3).trans rfl, (blk_cell hx 4).trans rfl, (blk_cell hx 5).trans rfl, (blk_cell hx 6).trans rfl, (blk_cell hx 7).trans rfl⟩)
  have hcl : w1.cell? ⟨w.heap.size, 0, none⟩ = some (.string L.tag) := (blk_cell hbx 0).trans rfl
  have HSG := Aside0.mk (show ∀ x ∈ [L.s0, L.s1, L.s2, L.s3, L.s4, L.s5, L.s6], 0 ≤ x ∧ x < 2147483648 from fun x hx => ⟨of_decide_eq_true (List.all_eq_true.1 hs x hx), (hL.2.2.2 x hx).2⟩)
  have wr0 : IntKind.i64.wrap L.s0 = L.s0 := by have := HSG.out L.s0 (by simp); rw [IntKind.wrap_i64]; omega
  have wr1 : IntKind.i64.wrap L.s1 = L.s1 := by have := HSG.out L.s1 (by simp); rw [IntKind.wrap_i64]; omega
  have wr2 : IntKind.i64.wrap L.s2 = L.s2 := by have := HSG.out L.s2 (by simp); rw [IntKind.wrap_i64]; omega
  have wr3 : IntKind.i64.wrap L.s3 = L.s3 := by have := HSG.out L.s3 (by simp); rw [IntKind.wrap_i64]; omega
  have wr4 : IntKind.i64.wrap L.s4 = L.s4 := by have := HSG.out L.s4 (by simp); rw [IntKind.wrap_i64]; omega
  have wr5 : IntKind.i64.wrap L.s5 = L.s5 := by have := HSG.out L.s5 (by simp); rw [IntKind.wrap_i64]; omega
  have wr6 : IntKind.i64.wrap L.s6 = L.s6 := by have := HSG.out L.s6 (by simp); rw [IntKind.wrap_i64]; omega
  have ws0 : wrap64 L.s0 = L.s0 := by have := HSG.out L.s0 (by simp); unfold wrap64; omega
  have ws1 : wrap64 L.s1 = L.s1 := by have := HSG.out L.s1 (by simp); unfold wrap64; omega
  have ws2 : wrap64 L.s2 = L.s2 := by have := HSG.out L.s2 (by simp); unfold wrap64; omega
  have ws3 : wrap64 L.s3 = L.s3 := by have := HSG.out L.s3 (by simp); unfold wrap64; omega
  have ws4 : wrap64 L.s4 = L.s4 := by have := HSG.out L.s4 (by simp); unfold wrap64; omega
  have ws5 : wrap64 L.s5 = L.s5 := by have := HSG.out L.s5 (by simp); unfold wrap64; omega
  have ws6 : wrap64 L.s6 = L.s6 := by have := HSG.out L.s6 (by simp); unfold wrap64; omega
  clear hL hb hp hc h5 hm hbel hsz hbx hw1 hs
  go_enter Try.func41, Try.ntmps41
  go_wp2_with fail
  rw [← HW1.out]
  clear hcl
  refine HT.out.mono ?_
  rintro e w2 ⟨v2, rfl, hr, hb⟩
  rw [List.nil_append] at hr
  have HR1 := Aside0.mk hr
  have HB1 := Aside0.mk hb
  obtain ⟨hb, hc1, hc2, hc3, hc4, hc5, hc6, hc7⟩ := HKP.out w2 hb
  clear hr
  dsimp only
  go_upto_region 8 with fail
  go_region_held3 (fun w' => Below w1.heap.size w1 w' ∧ w'.cell? ⟨w.heap.size, 1, none⟩ = some (.int .i32 L.s0) ∧ w'.cell? ⟨w.heap.size, 2, none⟩ = some (.int .i32 L.s1) ∧ w'.cell? ⟨w.heap.size, 3, none⟩ = some (.int .i32 L.s2) ∧ w'.cell? ⟨w.heap.size, 4, none⟩ = some (.int .i32 L.s3) ∧ w'.cell? ⟨w.heap.size, 5, none⟩ = some (.int .i32 L.s4) ∧ w'.cell? ⟨w.heap.size, 6, none⟩ = some (.int .i32 L.s5) ∧ w'.cell? ⟨w.heap.size, 7, none⟩ = some (.int .i32 L.s6)) (exact HKP.out _ (by first | assumption | exact Below.drew (by assumption) | exact And.left (by assumption))) (first | (have g_ := HR4.out; clear g_; go_at_call 42; refine (four.calls _ _ _ w1 _ (by first | assumption | exact Below.drew (by assumption) | exact And.left (by assumption)) (by first | exact HR4.out | exact Kd.R_drew HR4.out) (HSG.out L.s3 (by simp)).1 (by have := (HSG.out L.s3 (by simp)).2; omega) (by simp [bytesB_len])).mono ?_; rintro e w6 ⟨v6, rfl, hr_, hb_⟩; have HR5 := Aside0.mk hr_; obtain ⟨hb3, hd13, hd23, hd33, hd43, hd53, hd63, hd73⟩ := HKP.out w6 hb_; clear hr_ hb_) | (have g_ := HR3.out; clear g_; go_at_call 42; refine (four.calls _ _ _ w1 _ (by first | assumption | exact Below.drew (by assumption) | exact And.left (by assumption)) (by first | exact HR3.out | exact Kd.R_drew HR3.out) (HSG.out L.s2 (by simp)).1 (by have := (HSG.out L.s2 (by simp)).2; omega) (by simp [bytesB_len])).mono ?_; rintro e w5 ⟨v5, rfl, hr_, hb_⟩; have HR4 := Aside0.mk hr_; obtain ⟨hb2, hd12, hd22, hd32, hd42, hd52, hd62, hd72⟩ := HKP.out w5 hb_; clear hr_ hb_) | (have g_ := HR2.out; clear g_; go_at_call 42; refine (four.calls _ _ _ w1 _ (by first | assumption | exact Below.drew (by assumption) | exact And.left (by assumption)) (by first | exact HR2.out | exact Kd.R_drew HR2.out) (HSG.out L.s1 (by simp)).1 (by have := (HSG.out L.s1 (by simp)).2; omega) (by simp [bytesB_len])).mono ?_; rintro e w4 ⟨v4, rfl, hr_, hb_⟩; have HR3 := Aside0.mk hr_; obtain ⟨hb1, hd11, hd21, hd31, hd41, hd51, hd61, hd71⟩ := HKP.out w4 hb_; clear hr_ hb_) | (have g_ := HR1.out; clear g_; go_at_call 42; refine (four.calls _ _ _ w1 _ (by first | assumption | exact Below.drew (by assumption) | exact And.left (by assumption)) (by first | exact HR1.out | exact Kd.R_drew HR1.out) (HSG.out L.s0 (by simp)).1 (by have := (HSG.out L.s0 (by simp)).2; omega) (by simp [bytesB_len])).mono ?_; rintro e w3 ⟨v3, rfl, hr_, hb_⟩; have HR2 := Aside0.mk hr_; obtain ⟨hb0, hd10, hd20, hd30, hd40, hd50, hd60, hd70⟩ := HKP.out w3 hb_; clear hr_ hb_))
  clear wr0 wr1 wr2 wr3 ws0 ws1 ws2 ws3
  go_upto_region 9 with fail
  go_region_held3 (fun w' => Below w1.heap.size w1 w' ∧ w'.cell? ⟨w.heap.size, 1, none⟩ = some (.int .i32 L.s0) ∧ w'.cell? ⟨w.heap.size, 2, none⟩ = some (.int .i32 L.s1) ∧ w'.cell? ⟨w.heap.size, 3, none⟩ = some (.int .i32 L.s2) ∧ w'.cell? ⟨w.heap.size, 4, none⟩ = some (.int .i32 L.s3) ∧ w'.cell? ⟨w.heap.size, 5, none⟩ = some (.int .i32 L.s4) ∧ w'.cell? ⟨w.heap.size, 6, none⟩ = some (.int .i32 L.s5) ∧ w'.cell? ⟨w.heap.size, 7, none⟩ = some (.int .i32 L.s6)) (exact HKP.out _ (by first | assumption | exact Below.drew (by assumption) | exact And.left (by assumption))) (first | (have g_ := HR7.out; clear g_; go_at_call 42; refine (four.calls _ _ _ w1 _ (by first | assumption | exact Below.drew (by assumption) | exact And.left (by assumption)) (by first | exact HR7.out | exact Kd.R_drew HR7.out) (HSG.out L.s6 (by simp)).1 (by have := (HSG.out L.s6 (by simp)).2; omega) (by simp [bytesB_len])).mono ?_; rintro e w9 ⟨v9, rfl, hr_, hb_⟩; have HR8 := Aside0.mk hr_; obtain ⟨hb6, hd16, hd26, hd36, hd46, hd56, hd66, hd76⟩ := HKP.out w9 hb_; clear hr_ hb_) | (have g_ := HR6.out; clear g_; go_at_call 42; refine (four.calls _ _ _ w1 _ (by first | assumption | exact Below.drew (by assumption) | exact And.left (by assumption)) (by first | exact HR6.out | exact Kd.R_drew HR6.out) (HSG.out L.s5 (by simp)).1 (by have := (HSG.out L.s5 (by simp)).2; omega) (by simp [bytesB_len])).mono ?_; rintro e w8 ⟨v8, rfl, hr_, hb_⟩; have HR7 := Aside0.mk hr_; obtain ⟨hb5, hd15, hd25, hd35, hd45, hd55, hd65, hd75⟩ := HKP.out w8 hb_; clear hr_ hb_) | (have g_ := HR5.out; clear g_; go_at_call 42; refine (four.calls _ _ _ w1 _ (by first | assumption | exact Below.drew (by assumption) | exact And.left (by assumption)) (by first | exact HR5.out | exact Kd.R_drew HR5.out) (HSG.out L.s4 (by simp)).1 (by have := (HSG.out L.s4 (by simp)).2; omega) (by simp [bytesB_len])).mono ?_; rintro e w7 ⟨v7, rfl, hr_, hb_⟩; have HR6 := Aside0.mk hr_; obtain ⟨hb4, hd14, hd24, hd34, hd44, hd54, hd64, hd74⟩ := HKP.out w7 hb_; clear hr_ hb_))
  go_wp2_with fail
  go_ret
  exact RowB.lower ⟨_, rfl, HR8.out, by assumption⟩ HBEL.out (by simp [nm2, numsB, List.append_assoc])
set_option maxHeartbeats 32000000 in
set_option maxRecDepth 100000 in
theorem sec1.calls (L : Loc) (a : Lat) (p : List ByteArray) (A : Option Addr) (c : Nat) (w : World) (hL : LocC L a w) (hb : LocB L) (hp : Kd.string.C w A p.length p) (hc : p.length ≤ c) (h5 : p.length ≤ 500) (hm : ∀ s ∈ textsL L, s ∈ p) (hq : isPoolB p = true) :
    Calls Try.prog 41 #[locV L a, .slice A p.length c, .int .i64 1] w fun e w' => RowB w (firstP p) e w' := by
  obtain ⟨A3, c3, A4, c4, A5, c5⟩ := a
  obtain ⟨w1, hw1⟩ : ∃ w1, w1 = w.alloc (.cells (boxL L ⟨A3, c3, A4, c4, A5, c5⟩) 29) := ⟨_, rfl⟩
  have hbel : Below w.heap.size w w1 := by rw [hw1]; exact (Below.refl w.heap.size w).alloc (Nat.le_refl _) _
  have hsz : w1.heap.size = w.heap.size + 1 := by rw [hw1]; simp
  have hbx : w1.heap[w.heap.size]? = some (.cells (boxL L ⟨A3, c3, A4, c4, A5, c5⟩) 29 (0, 0)) := by rw [hw1]; exact blk_new w _
  have HLB := Aside0.mk hb
  have HBEL := Aside0.mk hbel
  have HL := Aside0.mk (hL.below hbel)
  have HSZ := Aside0.mk hsz
  have HBX := Aside0.mk hbx
  have HW1 := Aside0.mk hw1
  have HP := Aside0.mk (Kd.C_below hp hbel)
  have HC := Aside0.mk hc
  have H5 := Aside0.mk h5
  have HM := Aside0.mk hm
  have HR0 := Aside0.mk (show (Kd.int .u8).R 5 w1 w1.heap.size (fun k => w1.heap.size ≤ k) (.slice none 0 0) [] from Kd.R_nil _ _ _ _ _)
  have HB0 := Aside0.mk (Below.refl w1.heap.size w1)
  have HT := Aside0.mk (refPutPool_yes.calls 1002 none 0 [] A c p w1 (Kd.R_reads' HR0.out).2.2 (Nat.le_refl _) (by simp) HP.out hc (by rw [Pool_f p (by decide), hq]) (isPoolB_facts hq).2.1 (isPoolB_facts hq).2.2)
  clear hL hb hp hc h5 hm hbel hsz hbx hw1
  go_enter Try.func41, Try.ntmps41
  go_wp2_with fail
  rw [← HW1.out]
  refine HT.out.mono ?_
  rintro e w2 ⟨v2, rfl, hr, hb⟩
  have HR1 := Aside0.mk (show (Kd.int .u8).R 5 w2 w1.heap.size (fun k => w1.heap.size ≤ k) v2 (firstP p) from Kd.R_mono (Kd.R_bound hr) (fun k hk => hk.2.1))
  have HB1 := Aside0.mk hb
  clear hr hb
  dsimp only
  go_wp2_with fail
  go_ret
  exact RowB.lower ⟨_, rfl, HR1.out, HB1.out⟩ HBEL.out rfl
def pn (L : Loc) : Nat → ByteArray
  | 0 => L.p0
  | 1 => L.p1
  | 2 => L.p2
  | _ => L.p3
theorem pn_cell {w : World} {g : Nat} {L : Loc} {a : Lat} (h : w.heap[g]? = some (.cells (boxL L a) 29 (0, 0))) : ∀ j, j < 4 → w.cell? ⟨g, 8 + j, none⟩ = some (.string (pn L j))
  | 0, _ => (blk_cell h 8).trans rfl
  | 1, _ => (blk_cell h 9).trans rfl
  | 2, _ => (blk_cell h 10).trans rfl
  | 3, _ => (blk_cell h 11).trans rfl
theorem pn_mem (L : Loc) : ∀ j, pn L j ∈ textsL L
  | 0 => by simp [pn, textsL]
  | 1 => by simp [pn, textsL]
  | 2 => by simp [pn, textsL]
  | _ + 3 => by simp [pn, textsL]
theorem nm3_drop (p : List ByteArray) (L : Loc) : ∀ j, j < 4 → (nm3 p L).drop j = (ix p (pn L j), 2) :: (nm3 p L).drop (j + 1)
  | 0, _ => rfl
  | 1, _ => rfl
  | 2, _ => rfl
  | 3, _ => rfl
set_option maxHeartbeats 32000000 in
set_option maxRecDepth 100000 in
theorem sec3.calls (L : Loc) (a : Lat) (p : List ByteArray) (A : Option Addr) (c : Nat) (w : World) (hL : LocC L a w) (hb : LocB L) (hp : Kd.string.C w A p.length p) (hc : p.length ≤ c) (h5 : p.length ≤ 500) (hm : ∀ s ∈ textsL L, s ∈ p) :
    Calls Try.prog 41 #[locV L a, .slice A p.length c, .int .i64 3] w fun e w' => RowB w (numsB (nm3 p L)) e w' := by
  obtain ⟨A3, c3, A4, c4, A5, c5⟩ := a
  obtain ⟨w1, hw1⟩ : ∃ w1, w1 = w.alloc (.cells (boxL L ⟨A3, c3, A4, c4, A5, c5⟩) 29) := ⟨_, rfl⟩
  have hbel : Below w.heap.size w w1 := by rw [hw1]; exact (Below.refl w.heap.size w).alloc (Nat.le_refl _) _
  have hsz : w1.heap.size = w.heap.size + 1 := by rw [hw1]; simp
  have hbx : w1.heap[w.heap.size]? = some (.cells (boxL L ⟨A3, c3, A4, c4, A5, c5⟩) 29 (0, 0)) := by rw [hw1]; exact blk_new w _
  have HLB := Aside0.mk hb
  have HBEL := Aside0.mk hbel
  have HL := Aside0.mk (hL.below hbel)
  have HSZ := Aside0.mk hsz
  have HBX := Aside0.mk hbx
  have HW1 := Aside0.mk hw1
  have HP := Aside0.mk (Kd.C_below hp hbel)
  have HC := Aside0.mk hc
  have H5 := Aside0.mk h5
  have HM := Aside0.mk hm
  have HR0 := Aside0.mk (show (Kd.int .u8).R 5 w1 w1.heap.size (fun k => w1.heap.size ≤ k) (.slice none 0 0) [] from Kd.R_nil _ _ _ _ _)
  have HB0 := Aside0.mk (Below.refl w1.heap.size w1)
  clear hL hb hp hc h5 hm hbel hsz hbx hw1
  go_enter Try.func41, Try.ntmps41
  go_wp2_with fail
  rw [← HW1.out]
  go_loopg [7, 10] 4 (fun kq v7 v10 w' => ∃ (j : Nat) (acc : List Int), v10 = .int .i64 (j : Int) ∧ Aside0 (j ≤ 4) ∧ Aside0 (4 - j = kq) ∧ Aside0 (acc.length = 2 * j) ∧ Aside0 (acc ++ numsB ((nm3 p L).drop j) = numsB (nm3 p L)) ∧ Aside0 ((Kd.int .u8).R 5 w' w1.heap.size (fun k => w1.heap.size ≤ k) v7 acc) ∧ Aside0 (Below w1.heap.size w1 w'))
  case atStart => exact ⟨0, [], rfl, ⟨by decide⟩, ⟨rfl⟩, ⟨rfl⟩, ⟨rfl⟩, HR0, HB0⟩
  case round =>
    obtain ⟨j, acc, rfl, HJ, HKQ, HAL, HNN, HRJ, HBJ⟩ := hrel
    have HXJ := Aside0.mk (show wr.heap[w.heap.size]? = some (.cells (boxL L ⟨A3, c3, A4, c4, A5, c5⟩) 29 (0, 0)) from (HBJ.out.block w.heap.size (by have := HSZ.out; omega)).trans HBX.out)
    by_cases hlt : j < 4
    · have hlt2 : (j : Int) < 4 := by omega
      have hpj := pn_cell HXJ.out j hlt
      have HT := Aside0.mk (ref.calls acc u7 A c p (pn L j) w1 wr HBJ.out HRJ.out HP.out HC.out (HM.out _ (pn_mem L j)) H5.out (by have := HAL.out; omega))
      have HNX := Aside0.mk (show (acc ++ bytesB (ix p (pn L j)) 2) ++ numsB ((nm3 p L).drop (j + 1)) = numsB (nm3 p L) by
        have h := HNN.out
        rw [nm3_drop p L j hlt, numsB_cons, ← List.append_assoc] at h
        exact h)
      have HLT := Aside0.mk hlt
      clear hlt
      go_wp2_with fail
      refine HT.out.mono ?_
      rintro e w2 ⟨v2, rfl, hr, hb⟩
      have HR2 := Aside0.mk hr
      have HB2 := Aside0.mk hb
      clear hr hb hpj
      dsimp only
      go_wp2_with fail
      go_roundg (4 - (j + 1))
      case measure => have := HLT.out; have := HKQ.out; omega
      case rel => exact ⟨j + 1, _, by have h1 := HLT.out; first | rfl | (congr 1; unfold wrap64; omega), ⟨HLT.out⟩, ⟨rfl⟩, ⟨by rw [List.length_append, bytesB_len, HAL.out]; omega⟩, HNX, HR2, HB2⟩
    · have hj : j = 4 := by have := HJ.out; omega
      subst hj
      have HE := Aside0.mk (show acc = numsB (nm3 p L) by
        have h := HNN.out
        rw [show (nm3 p L).drop 4 = [] from rfl, show numsB [] = [] from rfl, List.append_nil] at h
        exact h)
      clear hlt HNN HKQ HJ
      go_wp2_with fail
      go_ret
      exact RowB.lower ⟨_, rfl, HRJ.out, HBJ.out⟩ HBEL.out HE.out
end Go.Proofs.Ytmhpcjncngonbaa.Q
