/- Texts of this claim, joined; the first one's sentence stands below. -/
import Derived.Test.YtmhpcjncngonbaaZRefSec
import Derived.Test.YtmhpcjncngonbaaZPool
import Derived.Deep.RegionHeldLaw
/- What the reference's section of rules comes to; rows of 65535 at most. -/
namespace Go.Proofs.Ytmhpcjncngonbaa.Q
open Go.RowKit Go.Proofs.Ytmhpcjncngonbaa.Mine Go.Proofs.YtmhpcjncngonbaaW.PrintWords Go.Proofs.YtmhpcjncngonbaaW.PrintLast Go.Proofs.YtmhpcjncngonbaaW.PrintMore
set_option linter.unusedVariables false
set_option linter.unusedSimpArgs false
theorem below_drew1 {B : Nat} {u w : World} (h : Below B u w) : Below B u w.drew := h.drew
theorem nr_drop (p : List ByteArray) (xs : List (Int × ByteArray)) (x : Int × ByteArray) (j : Nat) (e : xs.drop j = x :: xs.drop (j + 1)) : numsB (nr p (xs.drop j)) = [x.1 % 256] ++ (bytesB (ix p x.2) 2 ++ numsB (nr p (xs.drop (j + 1)))) := by
  rw [e]
  show numsB ((x.1, 1) :: (ix p x.2, 2) :: nr p (xs.drop (j + 1))) = _
  rw [numsB_cons, numsB_cons]
  congr 1
  show [x.1 / 256 ^ 0 % 256] = _
  simp
set_option maxHeartbeats 32000000 in
set_option maxRecDepth 100000 in
theorem sec4.calls (L : Loc) (a : Lat) (p : List ByteArray) (A : Option Addr) (c : Nat) (w : World) (hL : LocC L a w) (hb : LocB L) (hp : Kd.string.C w A p.length p) (hc : p.length ≤ c) (h5 : p.length ≤ 500) (hm : ∀ s ∈ textsL L, s ∈ p) (hs : okR L = true) :
    Calls Try.prog 41 #[locV L a, .slice A p.length c, .int .i64 4] w fun e w' => RowB w (numsB (nm4 p L)) e w' := by
  obtain ⟨A3, c3, A4, c4, A5, c5⟩ := a
  obtain ⟨w1, hw1⟩ : ∃ w1, w1 = w.alloc (.cells (boxL L ⟨A3, c3, A4, c4, A5, c5⟩) 29) := ⟨_, rfl⟩
  have hbel : Below w.heap.size w w1 := by rw [hw1]; exact (Below.refl w.heap.size w).alloc (Nat.le_refl _) _
  have hsz : w1.heap.size = w.heap.size + 1 := by rw [hw1]; simp
  have hbx : w1.heap[w.heap.size]? = some (.cells (boxL L ⟨A3, c3, A4, c4, A5, c5⟩) 29 (0, 0)) := by rw [hw1]; exact blk_new w _
  have HLB := Aside0.mk hb
  have HBEL := Aside0.mk hbel
  have HL := Aside0.mk (hL.below hbel)
  have HSZ := Aside0.mk hsz
  have HBX := Aside0.mk hbx
  have HW1 := Aside0.mk hw1
  have HP := Aside0.mk (Kd.C_below hp hbel)
  have HC := Aside0.mk hc
  have H5 := Aside0.mk h5
  have HM := Aside0.mk hm
  have HR0 := Aside0.mk (show (Kd.int .u8).R 5 w1 w1.heap.size (fun k => w1.heap.size ≤ k) (.slice none 0 0) [] from Kd.R_nil _ _ _ _ _)
  have HB0 := Aside0.mk (Below.refl w1.heap.size w1)
  have HT := Aside0.mk (two.calls [] (.slice none 0 0) (L.rules.length : Int) w1 w1 HB0.out HR0.out (by omega) (by have := hb.1; omega) (by simp))
  have hcl : w1.cell? ⟨w.heap.size, 12, none⟩ = some (.slice A3 L.rules.length c3) := (blk_cell hbx 12).trans rfl
  have HOK := Aside0.mk (List.all_eq_true.1 hs)
  clear hL hb hp hc h5 hm hbel hsz hbx hw1 hs
  go_enter Try.func41, Try.ntmps41
  go_wp2_with fail
  rw [← HW1.out]
  clear hcl
  refine HT.out.mono ?_
  rintro e w2 ⟨v2, rfl, hr, hb⟩
  rw [List.nil_append] at hr
  have HR1 := Aside0.mk hr
  have HB1 := Aside0.mk hb
  clear hr hb
  dsimp only
  go_wp2_with fail
  go_loopg [7, 11] L.rules.length (fun kq v7 v11 w' => ∃ (j : Nat) (acc : List Int), v11 = .int .i64 (j : Int) ∧ Aside0 (j ≤ L.rules.length) ∧ Aside0 (L.rules.length - j = kq) ∧ Aside0 (acc.length = 2 + 3 * j) ∧ Aside0 (acc ++ numsB (nr p (L.rules.drop j)) = numsB (nm4 p L)) ∧ Aside0 ((Kd.int .u8).R 5 w' w1.heap.size (fun k => w1.heap.size ≤ k) v7 acc) ∧ Aside0 (Below w1.heap.size w1 w'))
  case atStart => exact ⟨0, _, rfl, ⟨Nat.zero_le _⟩, ⟨rfl⟩, ⟨by rw [bytesB_len]⟩, ⟨by rw [List.drop_zero, nm4, numsB_cons]; rfl⟩, HR1, HB1⟩
  case round =>
    obtain ⟨j, acc, rfl, HJ, HKQ, HAL, HNN, HRJ, HBJ⟩ := hrel
    have HXJ := Aside0.mk (show wr.heap[w.heap.size]? = some (.cells (boxL L ⟨A3, c3, A4, c4, A5, c5⟩) 29 (0, 0)) from (HBJ.out.block w.heap.size (by have := HSZ.out; omega)).trans HBX.out)
    have hcl : wr.cell? ⟨w.heap.size, 12, none⟩ = some (.slice A3 L.rules.length c3) := (blk_cell HXJ.out 12).trans rfl
    have hmx := HLB.out.1
    by_cases hlt : j < L.rules.length
    case neg =>
      have hj : j = L.rules.length := by have := HJ.out; omega
      subst hj
      have HE := Aside0.mk (show acc = numsB (nm4 p L) by
        have h := HNN.out
        rw [List.drop_length, show numsB (nr p []) = [] from rfl, List.append_nil] at h
        exact h)
      clear hlt HNN HKQ HJ hmx
      go_wp2_with fail
      go_ret
      exact RowB.lower ⟨_, rfl, HRJ.out, HBJ.out⟩ HBEL.out HE.out
    case pos =>
      have hlt2 : (j : Int) < (L.rules.length : Int) := by omega
      obtain ⟨x, hx⟩ : ∃ x, L.rules[j]? = some x := ⟨_, List.getElem?_eq_getElem hlt⟩
      obtain ⟨ad, ead, hcell0, hcell1⟩ := at_rule (HL.out.below HBJ.out).1.1 j hlt x hx
      have ead2 : A3 = some ad := ead
      clear ead
      subst ead2
      have eL : L.rules.drop j = x :: L.rules.drop (j + 1) := by
        rw [List.drop_eq_getElem_cons hlt]; congr 1
        rw [List.getElem?_eq_getElem hlt] at hx; exact Option.some.inj hx
      have hxm : x ∈ L.rules := List.mem_of_getElem? hx
      have hby := HOK.out x hxm
      simp only [byteB, Bool.and_eq_true, decide_eq_true_eq] at hby
      have hxt : x.2 ∈ textsL L := (texts_mem L).2.2.2.2.2.1 x hxm
      have HNX := Aside0.mk (show ((acc ++ [x.1]) ++ bytesB (ix p x.2) 2) ++ numsB (nr p (L.rules.drop (j + 1))) = numsB (nm4 p L) by
        have h := HNN.out
        rw [nr_drop p L.rules x j eL, show x.1 % 256 = x.1 by omega] at h
        simpa only [List.append_assoc] using h)
      have HKP := Aside0.mk (show ∀ w', Below w1.heap.size w1 w' → (fun w' => Below w1.heap.size w1 w' ∧ w'.cell? ⟨w.heap.size, 12, none⟩ = some (.slice (some ad) L.rules.length c3) ∧ w'.cell? (ad.add (j * 2)) = some (.int .i64 x.1) ∧ w'.cell? ⟨(ad.add (j * 2)).block, (ad.add (j * 2)).off + 1, none⟩ = some (.string x.2)) w' from fun w' h => by
        have hxx := blk_below HBX.out h
        obtain ⟨ad2, e2, h0, h1⟩ := at_rule (HL.out.below h).1.1 j hlt x hx
        cases (show some ad = some ad2 from e2)
        exact ⟨h, (blk_cell hxx 12).trans rfl, h0, h1⟩)
      have hw8 : IntKind.u8.wrap x.1 = x.1 := by rw [IntKind.wrap_u8]; omega
      have hw9 : x.1 % 256 = x.1 := by omega
      have HLT := Aside0.mk hlt
      have HLA := Aside0.mk (show (acc.length + 1) * 1 ≤ 140737488355328 by have := HAL.out; omega)
      have HLL := Aside0.mk (show (acc ++ [x.1]).length < 140737488000000 by have := HAL.out; rw [List.length_append]; simp only [List.length_cons, List.length_nil]; omega)
      have HXT := Aside0.mk (HM.out _ hxt)
      obtain ⟨Av, cv, hv⟩ := Kd.R_slice HRJ.out
      subst hv
      have HRL := Aside0.mk (Kd.R_alloc HRJ.out (.cells #[.int .u8 x.1] 5))
      have HRC := Aside0.mk (lit_reads (fun v => Value.int .u8 v) (fun _ => rfl) wr #[.int .u8 x.1] 5 [x.1] rfl (by simp))
      have HBb := HBJ.out
      clear hlt hx eL hxm hby hxt
      go_upto_region 20 with fail
      go_region_held_law (fun w' => Below w1.heap.size w1 w' ∧ w'.cell? ⟨w.heap.size, 12, none⟩ = some (.slice (some ad) L.rules.length c3) ∧ w'.cell? (ad.add (j * 2)) = some (.int .i64 x.1) ∧ w'.cell? ⟨(ad.add (j * 2)).block, (ad.add (j * 2)).off + 1, none⟩ = some (.string x.2)) (exact HKP.out _ (by first | assumption | exact below_drew1 (by assumption) | exact below_alloc (by assumption) _ | exact below_alloc (below_drew1 (by assumption)) _ | exact below_drew1 (below_alloc (by assumption) _) | exact And.left (by assumption))) (first | (have g_ := HR3.out; clear g_; go_simp; go_at_call 57; refine (ref.calls _ _ A c p x.2 w1 _ (by first | assumption | exact below_drew1 (by assumption) | exact And.left (by assumption)) HR3.out HP.out HC.out HXT.out H5.out HLL.out).mono ?_; rintro e w4 ⟨v4, rfl, hr_, hb_⟩; have HR4 := Aside0.mk hr_; obtain ⟨hb4, hd1, hd2, hd3⟩ := HKP.out w4 hb_; clear hr_ hb_; dsimp only) | ((refine step_of_list rfl ?_; refine Kd.R_append_rows (Kd.int .u8) (w0 := w1) w1.heap.size rfl (.tmp 94) (.tmp 102) 32 5 (.int .u8 0) 1 rfl Try.underlying32 info5 rfl (by decide) (by omega) (.slice Av acc.length cv) acc [x.1] _ _ _ (fun k => w1.heap.size ≤ k) (fun _ => False) rfl rfl ?aO ?aR (fun _ _ h => h) (fun _ h => h.elim) ?aF ?aB ?aS ?aL ?_; (case aF => exact (fun k hk => Nat.le_trans HBJ.out.size (Nat.le_trans (by simp) hk))); (case aO => first | exact HRL.out | exact Kd.R_alloc (Kd.R_drew HRJ.out) _); (case aR => exact lit_reads (fun v => Value.int .u8 v) (fun _ => rfl) _ #[.int .u8 x.1] 5 [x.1] rfl (by simp)); (case aB => first | exact below_alloc HBJ.out _ | exact below_alloc (below_drew1 HBJ.out) _); (case aS => exact Nat.le_trans HBJ.out.size (by simp)); (case aL => exact HLA.out); intro v3 w3 hr_ hb_ _ _; have HR3 := Aside0.mk hr_; obtain ⟨hb3, hd1, hd2, hd3⟩ := HKP.out w3 hb_; clear hr_ hb_; refine ⟨rfl, ?_⟩)))
      all_goals
        go_wp2_with fail
        go_roundg (L.rules.length - (j + 1))
        case measure => have := HLT.out; have := HKQ.out; omega
        case rel => exact ⟨j + 1, _, by have h1 := HLT.out; first | rfl | (congr 1; unfold wrap64; omega), ⟨HLT.out⟩, ⟨rfl⟩, ⟨by rw [List.length_append, bytesB_len, List.length_append, HAL.out]; simp only [List.length_cons, List.length_nil]; omega⟩, HNX, HR4, ⟨by first | assumption | exact below_drew1 (by assumption)⟩⟩
end Go.Proofs.Ytmhpcjncngonbaa.Q
