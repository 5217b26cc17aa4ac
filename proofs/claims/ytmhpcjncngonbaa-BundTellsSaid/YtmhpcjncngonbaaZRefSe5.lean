/- Texts of this claim, joined; the first one's sentence stands below. -/
import Derived.Test.YtmhpcjncngonbaaZRefSe4
import Derived.Deep.RegionHeldLaw
/- What the reference's section of curs comes to; rows of 65535 at most. -/
namespace Go.Proofs.Ytmhpcjncngonbaa.Q
open Go.RowKit Go.Proofs.Ytmhpcjncngonbaa.Mine Go.Proofs.YtmhpcjncngonbaaW.PrintWords Go.Proofs.YtmhpcjncngonbaaW.PrintLast Go.Proofs.YtmhpcjncngonbaaW.PrintMore
set_option linter.unusedVariables false
set_option linter.unusedSimpArgs false
theorem nc_drop (p : List ByteArray) (xs : List (ByteArray × ByteArray × Int)) (x : ByteArray × ByteArray × Int) (j : Nat) (e : xs.drop j = x :: xs.drop (j + 1)) : numsB (nc p (xs.drop j)) = bytesB (ix p x.1) 2 ++ (bytesB (ix p x.2.1) 2 ++ ([x.2.2 % 256] ++ numsB (nc p (xs.drop (j + 1))))) := by
  rw [e]
  show numsB ((ix p x.1, 2) :: (ix p x.2.1, 2) :: (x.2.2, 1) :: nc p (xs.drop (j + 1))) = _
  rw [numsB_cons, numsB_cons, numsB_cons]
  show _ ++ (_ ++ ([x.2.2 / 256 ^ 0 % 256] ++ _)) = _
  simp
theorem refK.calls (g : Nat) (y : Int) (l : List Int) (v : Value) (A : Option Addr) (c : Nat) (p : List ByteArray) (s : ByteArray) (w1 w : World) (hB : Below w1.heap.size w1 w) (hR : (Kd.int .u8).R 5 w w1.heap.size (fun k => w1.heap.size ≤ k ∧ k ≠ g) v l) (hy : (Kd.int .u8).C w (some ⟨g, 0, none⟩) 1 [y]) (hp : Kd.string.C w1 A p.length p) (hc : p.length ≤ c) (hm : s ∈ p) (h5 : p.length ≤ 500) (hl : l.length < 140737488000000) :
    Calls Try.prog 57 #[v, .slice A p.length c, .string s] w fun e w' => ∃ v', e = .returned v' ∧ (Kd.int .u8).R 5 w' w1.heap.size (fun k => w1.heap.size ≤ k ∧ k ≠ g) v' (l ++ bytesB (ix p s) 2) ∧ Below w1.heap.size w1 w' ∧ (Kd.int .u8).C w' (some ⟨g, 0, none⟩) 1 [y] := by
  have hg : g < w.heap.size := Kd.C_lt hy (by decide) (by decide)
  refine (exergueref16_ref.calls 600 _ v l A c p s _ w1 w hB hR (fun W hk => C_keptB (by decide) id hp hB W (hk.mono (fun k h => h.1))) hc (ref_f l p s hm h5 hl)).mono ?_
  rintro e w' ⟨v', rfl, h2, h3, h4⟩
  refine ⟨v', rfl, Kd.R_mono h2 (fun k hk => hk.elim id fun h => ⟨Nat.le_trans hB.size h, by omega⟩), h3, Kd.C_foot_neS id hy ?_ w' h4⟩
  intro ad e _
  cases e
  exact fun h => h.2 rfl
set_option maxHeartbeats 32000000 in
set_option maxRecDepth 100000 in
theorem sec5.calls (L : Loc) (a : Lat) (p : List ByteArray) (A : Option Addr) (c : Nat) (w : World) (hL : LocC L a w) (hb : LocB L) (hp : Kd.string.C w A p.length p) (hc : p.length ≤ c) (h5 : p.length ≤ 500) (hm : ∀ s ∈ textsL L, s ∈ p) (hs : okC L = true) :
    Calls Try.prog 41 #[locV L a, .slice A p.length c, .int .i64 5] w fun e w' => RowB w (numsB (nm5 p L)) e w' := by
  obtain ⟨A3, c3, A4, c4, A5, c5⟩ := a
  obtain ⟨w1, hw1⟩ : ∃ w1, w1 = w.alloc (.cells (boxL L ⟨A3, c3, A4, c4, A5, c5⟩) 29) := ⟨_, rfl⟩
  have hbel : Below w.heap.size w w1 := by rw [hw1]; exact (Below.refl w.heap.size w).alloc (Nat.le_refl _) _
  have hsz : w1.heap.size = w.heap.size + 1 := by rw [hw1]; simp
  have hbx : w1.heap[w.heap.size]? = some (.cells (boxL L ⟨A3, c3, A4, c4, A5, c5⟩) 29 (0, 0)) := by rw [hw1]; exact blk_new w _
  have HLB := Aside0.mk hb
  have HBEL := Aside0.mk hbel
  have HL := Aside0.mk (hL.below hbel)
  have HSZ := Aside0.mk hsz
  have HBX := Aside0.mk hbx
  have HW1 := Aside0.mk hw1
  have HP := Aside0.mk (Kd.C_below hp hbel)
  have HC := Aside0.mk hc
  have H5 := Aside0.mk h5
  have HM := Aside0.mk hm
  have HR0 := Aside0.mk (show (Kd.int .u8).R 5 w1 w1.heap.size (fun k => w1.heap.size ≤ k) (.slice none 0 0) [] from Kd.R_nil _ _ _ _ _)
  have HB0 := Aside0.mk (Below.refl w1.heap.size w1)
  have HT := Aside0.mk (two.calls [] (.slice none 0 0) (L.curs.length : Int) w1 w1 HB0.out HR0.out (by omega) (by have := hb.2.1; omega) (by simp))
  have hcl : w1.cell? ⟨w.heap.size, 13, none⟩ = some (.slice A4 L.curs.length c4) := (blk_cell hbx 13).trans rfl
  have HOK := Aside0.mk (List.all_eq_true.1 hs)
  clear hL hb hp hc h5 hm hbel hsz hbx hw1 hs
  go_enter Try.func41, Try.ntmps41
  go_wp2_with fail
  rw [← HW1.out]
  clear hcl
  refine HT.out.mono ?_
  rintro e w2 ⟨v2, rfl, hr, hb⟩
  rw [List.nil_append] at hr
  have HR1 := Aside0.mk hr
  have HB1 := Aside0.mk hb
  clear hr hb
  dsimp only
  go_wp2_with fail
  go_loopg [7, 12] L.curs.length (fun kq v7 v12 w' => ∃ (j : Nat) (acc : List Int), v12 = .int .i64 (j : Int) ∧ Aside0 (j ≤ L.curs.length) ∧ Aside0 (L.curs.length - j = kq) ∧ Aside0 (acc.length = 2 + 5 * j) ∧ Aside0 (acc ++ numsB (nc p (L.curs.drop j)) = numsB (nm5 p L)) ∧ Aside0 ((Kd.int .u8).R 5 w' w1.heap.size (fun k => w1.heap.size ≤ k) v7 acc) ∧ Aside0 (Below w1.heap.size w1 w'))
  case atStart => exact ⟨0, _, rfl, ⟨Nat.zero_le _⟩, ⟨rfl⟩, ⟨by rw [bytesB_len]⟩, ⟨by rw [List.drop_zero, nm5, numsB_cons]; rfl⟩, HR1, HB1⟩
  case round =>
    obtain ⟨j, acc, rfl, HJ, HKQ, HAL, HNN, HRJ, HBJ⟩ := hrel
    have HXJ := Aside0.mk (show wr.heap[w.heap.size]? = some (.cells (boxL L ⟨A3, c3, A4, c4, A5, c5⟩) 29 (0, 0)) from (HBJ.out.block w.heap.size (by have := HSZ.out; omega)).trans HBX.out)
    have hcl : wr.cell? ⟨w.heap.size, 13, none⟩ = some (.slice A4 L.curs.length c4) := (blk_cell HXJ.out 13).trans rfl
    have hmx := HLB.out.2.1
    by_cases hlt : j < L.curs.length
    case neg =>
      have hj : j = L.curs.length := by have := HJ.out; omega
      subst hj
      have HE := Aside0.mk (show acc = numsB (nm5 p L) by
        have h := HNN.out
        rw [List.drop_length, show numsB (nc p []) = [] from rfl, List.append_nil] at h
        exact h)
      clear hlt HNN HKQ HJ hmx
      go_wp2_with fail
      go_ret
      exact RowB.lower ⟨_, rfl, HRJ.out, HBJ.out⟩ HBEL.out HE.out
    case pos =>
      have hlt2 : (j : Int) < (L.curs.length : Int) := by omega
      obtain ⟨x, hx⟩ : ∃ x, L.curs[j]? = some x := ⟨_, List.getElem?_eq_getElem hlt⟩
      obtain ⟨ad, ead, hcell0, hcell1, hcell2⟩ := at_cur (HL.out.below HBJ.out).2.1.1 j hlt x hx
      have ead2 : A4 = some ad := ead
      clear ead
      subst ead2
      have eL : L.curs.drop j = x :: L.curs.drop (j + 1) := by
        rw [List.drop_eq_getElem_cons hlt]; congr 1
        rw [List.getElem?_eq_getElem hlt] at hx; exact Option.some.inj hx
      have hxm : x ∈ L.curs := List.mem_of_getElem? hx
      have hby := HOK.out x hxm
      simp only [byteB, Bool.and_eq_true, decide_eq_true_eq] at hby
      have hxt := (texts_mem L).2.2.2.2.2.2.1 x hxm
      have HNX := Aside0.mk (show (((acc ++ bytesB (ix p x.1) 2) ++ bytesB (ix p x.2.1) 2) ++ [x.2.2]) ++ numsB (nc p (L.curs.drop (j + 1))) = numsB (nm5 p L) by
        have h := HNN.out
        rw [nc_drop p L.curs x j eL, show x.2.2 % 256 = x.2.2 by omega] at h
        simpa only [List.append_assoc] using h)
      have HKP := Aside0.mk (show ∀ w', Below w1.heap.size w1 w' → (fun w' => Below w1.heap.size w1 w' ∧ w'.cell? ⟨w.heap.size, 13, none⟩ = some (.slice (some ad) L.curs.length c4) ∧ w'.cell? (ad.add (j * 3)) = some (.string x.1) ∧ w'.cell? ⟨(ad.add (j * 3)).block, (ad.add (j * 3)).off + 1, none⟩ = some (.string x.2.1) ∧ w'.cell? ⟨(ad.add (j * 3)).block, (ad.add (j * 3)).off + 2, none⟩ = some (.int .i64 x.2.2)) w' from fun w' h => by
        have hxx := blk_below HBX.out h
        obtain ⟨ad2, e2, h0, h1, h2⟩ := at_cur (HL.out.below h).2.1.1 j hlt x hx
        cases (show some ad = some ad2 from e2)
        exact ⟨h, (blk_cell hxx 13).trans rfl, h0, h1, h2⟩)
      have hw8 : IntKind.u8.wrap x.2.2 = x.2.2 := by rw [IntKind.wrap_u8]; omega
      have hw9 : x.2.2 % 256 = x.2.2 := by omega
      have HLT := Aside0.mk hlt
      have HLA := Aside0.mk (show (((acc ++ bytesB (ix p x.1) 2) ++ bytesB (ix p x.2.1) 2).length + 1) * 1 ≤ 140737488355328 by have := HAL.out; simp only [List.length_append, bytesB_len]; omega)
      have HL1 := Aside0.mk (show acc.length < 140737488000000 by have := HAL.out; omega)
      have HL2 := Aside0.mk (show (acc ++ bytesB (ix p x.1) 2).length < 140737488000000 by have := HAL.out; simp only [List.length_append, bytesB_len]; omega)
      have HX1 := Aside0.mk (HM.out _ hxt.1)
      have HX2 := Aside0.mk (HM.out _ hxt.2)
      have HBb := HBJ.out
      clear hlt hx eL hxm hby hxt
      go_upto_region 26 with fail
      go_region_held_law (fun w' => Below w1.heap.size w1 w' ∧ w'.cell? ⟨w.heap.size, 13, none⟩ = some (.slice (some ad) L.curs.length c4) ∧ w'.cell? (ad.add (j * 3)) = some (.string x.1) ∧ w'.cell? ⟨(ad.add (j * 3)).block, (ad.add (j * 3)).off + 1, none⟩ = some (.string x.2.1) ∧ w'.cell? ⟨(ad.add (j * 3)).block, (ad.add (j * 3)).off + 2, none⟩ = some (.int .i64 x.2.2)) (exact HKP.out _ (by first | assumption | exact below_drew1 (by assumption) | exact below_alloc (by assumption) _ | exact below_alloc (below_drew1 (by assumption)) _ | exact below_drew1 (below_alloc (by assumption) _) | exact And.left (by assumption))) (first | (have g_ := HK1.out; clear g_; go_simp; go_at_call 57; refine (refK.calls gl x.2.2 _ _ A c p x.2.1 w1 _ (by first | assumption | exact below_drew1 (by assumption) | exact And.left (by assumption)) HK1.out HCK1.out HP.out HC.out HX2.out H5.out HL2.out).mono ?_; rintro e w5 ⟨v5, rfl, hr_, hb_, hc_⟩; have HGL2 := Aside0.mk (Kd.C_lt hc_ (by decide) (by decide)); have HK2 := Aside0.mk hr_; have HCK2 := Aside0.mk hc_; clear hc_; obtain ⟨hbb2, hd1, hd2, hd3, hd4⟩ := HKP.out w5 hb_; clear hr_ hb_; dsimp only) | (have g_ := HA1.out; clear g_; go_simp; go_at_call 57; (show Calls _ 57 _ (World.alloc _ _) _); refine (refK.calls _ x.2.2 _ _ A c p x.2.1 w1 _ (by first | exact below_alloc (by assumption) _ | exact below_alloc (below_drew1 (by assumption)) _) (by first | exact Kd.R_mono (Kd.R_alloc (Kd.R_bound HA1.out) _) (fun k hk => ⟨hk.2.1, by have := hk.2.2; omega⟩) | exact Kd.R_mono (Kd.R_alloc (Kd.R_drew (Kd.R_bound HA1.out)) _) (fun k hk => ⟨hk.2.1, by have := hk.2.2; omega⟩)) (lit_reads (fun v => Value.int .u8 v) (fun _ => rfl) _ #[.int .u8 x.2.2] 5 [x.2.2] rfl (by simp)) HP.out HC.out HX2.out H5.out HL2.out).mono ?_; rintro e w5 ⟨v5, rfl, hr_, hb_, hc_⟩; obtain ⟨gl, hgl⟩ : ∃ g, g = w4.heap.size := ⟨_, rfl⟩; rw [← hgl] at hr_ hc_; have HGL2 := Aside0.mk (Kd.C_lt hc_ (by decide) (by decide)); have HK2 := Aside0.mk hr_; have HCK2 := Aside0.mk hc_; clear hc_; obtain ⟨hbb2, hd1, hd2, hd3, hd4⟩ := HKP.out w5 hb_; clear hr_ hb_; dsimp only) | (have g_ := HA1.out; clear g_; go_simp; go_at_call 57; refine (ref.calls _ _ A c p x.2.1 w1 _ (by first | assumption | exact below_drew1 (by assumption) | exact And.left (by assumption)) (by first | exact HA1.out | exact Kd.R_drew HA1.out) HP.out HC.out HX2.out H5.out HL2.out).mono ?_; rintro e w5 ⟨v5, rfl, hr_, hb_⟩; have HA2 := Aside0.mk hr_; obtain ⟨hbb2, hd1, hd2, hd3, hd4⟩ := HKP.out w5 hb_; clear hr_ hb_; dsimp only) | (go_simp; go_at_call 57; refine (refK.calls wr.heap.size x.2.2 _ _ A c p x.1 w1 _ (by first | exact below_drew1 (below_alloc (by assumption) _) | exact below_alloc (by assumption) _ | exact below_alloc (below_drew1 (by assumption)) _) (by first | exact Kd.R_mono (Kd.R_drew (Kd.R_alloc (Kd.R_bound HRJ.out) _)) (fun k hk => ⟨hk.2.1, by have := hk.2.2; omega⟩) | exact Kd.R_mono (Kd.R_alloc (Kd.R_bound HRJ.out) _) (fun k hk => ⟨hk.2.1, by have := hk.2.2; omega⟩) | exact Kd.R_mono (Kd.R_alloc (Kd.R_drew (Kd.R_bound HRJ.out)) _) (fun k hk => ⟨hk.2.1, by have := hk.2.2; omega⟩)) (by first | exact Kd.C_below (lit_reads (fun v => Value.int .u8 v) (fun _ => rfl) wr #[.int .u8 x.2.2] 5 [x.2.2] rfl (by simp)) (below_drew1 (Below.refl _ _)) | exact lit_reads (fun v => Value.int .u8 v) (fun _ => rfl) _ #[.int .u8 x.2.2] 5 [x.2.2] rfl (by simp)) HP.out HC.out HX1.out H5.out HL1.out).mono ?_; rintro e w4 ⟨v4, rfl, hr_, hb_, hc_⟩; obtain ⟨gl, hgl⟩ : ∃ g, g = wr.heap.size := ⟨_, rfl⟩; rw [← hgl] at hr_ hc_; have HGL1 := Aside0.mk (Kd.C_lt hc_ (by decide) (by decide)); have HK1 := Aside0.mk hr_; have HCK1 := Aside0.mk hc_; clear hc_; obtain ⟨hbb1, hd1, hd2, hd3, hd4⟩ := HKP.out w4 hb_; clear hr_ hb_; dsimp only) | (go_simp; go_at_call 57; refine (ref.calls _ _ A c p x.1 w1 _ (by first | assumption | exact below_drew1 (by assumption) | exact And.left (by assumption)) (by first | exact HRJ.out | exact Kd.R_drew HRJ.out) HP.out HC.out HX1.out H5.out HL1.out).mono ?_; rintro e w4 ⟨v4, rfl, hr_, hb_⟩; have HA1 := Aside0.mk hr_; obtain ⟨hbb1, hd1, hd2, hd3, hd4⟩ := HKP.out w4 hb_; clear hr_ hb_; dsimp only) | (have g_ := HA2.out; clear g_; refine step_of_list rfl ?_; refine Kd.R_append_rows (Kd.int .u8) (w0 := w1) w1.heap.size rfl (.tmp 142) (.tmp 150) 32 5 (.int .u8 0) 1 rfl Try.underlying32 info5 rfl (by decide) (by omega) _ ((acc ++ bytesB (ix p x.1) 2) ++ bytesB (ix p x.2.1) 2) [x.2.2] _ _ _ (fun k => w1.heap.size ≤ k) (fun _ => False) rfl rfl ?aO ?aR (fun _ _ h => h) (fun _ h => h.elim) ?aF ?aB ?aS ?aL ?_; (case aO => first | exact Kd.R_alloc HA2.out _ | exact Kd.R_alloc (Kd.R_drew HA2.out) _); (case aR => exact lit_reads (fun v => Value.int .u8 v) (fun _ => rfl) _ #[.int .u8 x.2.2] 5 [x.2.2] rfl (by simp)); (case aF => exact (fun k hk => by have := hbb2.size; simp at hk; omega)); (case aB => first | exact below_alloc hbb2 _ | exact below_alloc (below_drew1 hbb2) _); (case aS => have := hbb2.size; first | exact this | (simp; omega)); (case aL => exact HLA.out); intro v6 w6 hr_ hb_ _ _; have HR6 := Aside0.mk (Kd.R_mono hr_ (fun k hk => hk)); obtain ⟨hb6, hd1, hd2, hd3, hd4⟩ := HKP.out w6 hb_; clear hr_ hb_; refine ⟨rfl, ?_⟩) | (have g_ := HK2.out; clear g_; refine step_of_list rfl ?_; refine Kd.R_append_rows (Kd.int .u8) (w0 := w1) w1.heap.size rfl (.tmp 142) (.tmp 150) 32 5 (.int .u8 0) 1 rfl Try.underlying32 info5 rfl (by decide) (by omega) _ ((acc ++ bytesB (ix p x.1) 2) ++ bytesB (ix p x.2.1) 2) [x.2.2] _ _ _ (fun k => w1.heap.size ≤ k ∧ k ≠ gl) (fun _ => False) rfl rfl ?aO ?aR (fun _ _ h => h) (fun _ h => h.elim) ?aF ?aB ?aS ?aL ?_; (case aO => exact HK2.out); (case aR => exact (show (Kd.int .u8).C _ (some ⟨gl, 0, none⟩) 1 [x.2.2] from HCK2.out) |> (fun h_ => by rw [hgl] at h_; exact h_)); (case aF => exact (fun k hk => ⟨Nat.le_trans hbb2.size hk, fun e => absurd (Nat.lt_of_lt_of_le HGL2.out hk) (by rw [e]; exact Nat.lt_irrefl _)⟩)); (case aB => first | exact hbb2 | exact below_drew1 hbb2); (case aS => have := hbb2.size; first | exact this | (simp; omega)); (case aL => exact HLA.out); intro v6 w6 hr_ hb_ _ _; have HR6 := Aside0.mk (Kd.R_mono hr_ (fun k hk => hk.1)); obtain ⟨hb6, hd1, hd2, hd3, hd4⟩ := HKP.out w6 hb_; clear hr_ hb_; refine ⟨rfl, ?_⟩))
      all_goals
        go_wp2_with fail
        go_roundg (L.curs.length - (j + 1))
        case measure => have := HLT.out; have := HKQ.out; omega
        case rel => exact ⟨j + 1, _, by have h1 := HLT.out; first | rfl | (congr 1; unfold wrap64; omega), ⟨HLT.out⟩, ⟨rfl⟩, ⟨by simp only [List.length_append, bytesB_len, HAL.out, List.length_cons, List.length_nil]; omega⟩, HNX, HR6, ⟨by first | assumption | exact below_drew1 (by assumption)⟩⟩
end Go.Proofs.Ytmhpcjncngonbaa.Q
