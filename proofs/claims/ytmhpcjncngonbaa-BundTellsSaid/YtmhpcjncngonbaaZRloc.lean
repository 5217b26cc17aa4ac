/- Texts of this claim, joined; the first one's sentence stands below. -/
import Derived.Test.YtmhpcjncngonbaaZM5
import Derived.RegionDies
/- What the reader's locale comes to; any reader. -/
namespace Go.Proofs.Ytmhpcjncngonbaa.Q
open Go.RowKit Go.Proofs.Ytmhpcjncngonbaa.Mine Go.Proofs.YtmhpcjncngonbaaW.PrintWords Go.Proofs.YtmhpcjncngonbaaW.PrintLast Go.Proofs.YtmhpcjncngonbaaW.PrintMore
set_option linter.unusedVariables false
set_option linter.unusedSimpArgs false
/-- a locale's rows, each its own -/
def LocR (L : Loc) (a : Lat) (w : World) (base : Nat) : Prop :=
  Kd.rule.R 58 w base (fun _ => True) (.slice a.A3 L.rules.length a.c3) L.rules ∧ Kd.cur.R 60 w base (fun _ => True) (.slice a.A4 L.curs.length a.c4) L.curs ∧ Kd.comp.R 62 w base (fun _ => True) (.slice a.A5 L.comps.length a.c5) L.comps ∧ LocS L
theorem LocR.c {L : Loc} {a : Lat} {w : World} {base : Nat} (h : LocR L a w base) : LocC L a w := by
  obtain ⟨h3, h4, h5, hs⟩ := h
  have q3 := Kd.R_reads' h3
  have q4 := Kd.R_reads' h4
  have q5 := Kd.R_reads' h5
  exact ⟨⟨q3.2.2, q3.2.1⟩, ⟨q4.2.2, q4.2.1⟩, ⟨q5.2.2, q5.2.1⟩, hs⟩
/-- what a reading comes to -/
def locPost (B : List Int) (w0 : World) (e : Ending) (w' : World) : Prop :=
  (∀ L, readL B = some L → ∃ a, e = .returned (locV L a) ∧ LocR L a w' w0.heap.size ∧ LocB L) ∧ (readL B = none → e = wrongP) ∧ Below w0.heap.size w0 w'
theorem locPost.no {B : List Int} {w0 w' : World} (h : readL B = none) (hb : Below w0.heap.size w0 w') : locPost B w0 wrongP w' :=
  ⟨fun L hL => by rw [h] at hL; (cases hL), fun _ => rfl, hb⟩
/-- the pool is laid into the reader -/
theorem Rd.start {g : Nat} {B : List Int} {pool : List ByteArray} {at_ : Int} {w0 w : World} (h : Rd g B pool at_ w0 w) {v : Value} {pool2 : List ByteArray} (hr : Kd.string.R 9 w (g + 1) (fun k => g + 1 ≤ k) v pool2) (q : Int) (hq : -9223372036854775808 ≤ q ∧ q < 9223372036854775808) :
    Rd g B pool2 q w0 ((w.setCell ⟨g, 2, none⟩ v).setCell ⟨g, 1, none⟩ (.int .i64 q)) := by
  obtain ⟨A, c, v', hw, h1, h2, _, hB, h3, h4, _⟩ := h
  have h5 := blk_put hw 2 v rfl
  exact ⟨A, c, v, blk_put h5 1 _ rfl, h1, h2, Kd.R_set (Kd.R_set hr hw ne9_92 2 _) h5 ne9_92 1 _, (hB.setCell (Nat.le_refl g) _).setCell (Nat.le_refl g) _, h3, h4, hq⟩
set_option maxHeartbeats 16000000 in
set_option maxRecDepth 100000 in
theorem rlocale.calls (g : Nat) (B : List Int) (w0 w : World) (h : Rd g B [] 0 w0 w) :
    Calls Try.prog 53 #[.pointer (some ⟨g, 0, none⟩)] w fun e w' => locPost B w0 e w' := by
  obtain ⟨w1, hw1⟩ : ∃ w1, w1 = w.alloc (.cells (boxF ⟨#[]⟩ (fun _ => 0) (fun _ => ⟨#[]⟩) (.slice none 0 0) (.slice none 0 0) (.slice none 0 0)) 29) := ⟨_, rfl⟩
  have hb1 : Below w.heap.size w w1 := by rw [hw1]; exact (Below.refl w.heap.size w).alloc (Nat.le_refl _) _
  have HR1 := Aside0.mk (h.below hb1)
  have HX1 := Aside0.mk (show w1.heap[w.heap.size]? = some (.cells (boxF ⟨#[]⟩ (fun _ => 0) (fun _ => ⟨#[]⟩) (.slice none 0 0) (.slice none 0 0) (.slice none 0 0)) 29 (0, 0)) by rw [hw1]; exact blk_new w _)
  have HGL := Aside0.mk h.lt
  have HE1 := Aside0.mk hw1
  obtain ⟨A, c, v, hw0, hC, hc, hpo, hB, hg, hok, hat⟩ := h
  have hcbw : w.cell? ⟨g, 0, none⟩ = some (.slice A B.length c) := (blk_cell hw0 0).trans rfl
  have hw := blk_below hw0 hb1
  have hB := hB.trans (hb1.mono (Nat.le_of_lt HGL.out))
  have HOK := Aside0.mk hok
  have hcb : w1.cell? ⟨g, 0, none⟩ = some (.slice A B.length c) := (blk_cell hw 0).trans rfl
  have hcbx := hcb
  rw [hw1] at hcbx
  simp only [boxF] at hcbx
  have HTP := Aside0.mk (takePool.calls A c B 56 w1 (Kd.C_below hC (hg ▸ hB)) hc hok (by decide) (by decide))
  have HRL := Aside0.mk (show readL B = if (takePool B 56).2.2 ≠ 0 then none else (rtext B (takePool B 56).1 (takePool B 56).2.1).bind fun t => rK1 B (takePool B 56).1 t.1 t.2 from rfl)
  have HQ := Aside0.mk (show (takePool B 56).2.2 = 0 → -9223372036854775808 ≤ (takePool B 56).2.1 ∧ (takePool B 56).2.1 < 9223372036854775808 from fun h0 => by
    have h1 := takePool_put hok h0
    have h2 : B.length ≤ 9223372036854775807 := hC.2.1
    omega)
  generalize (takePool B 56).1 = pool at HTP HRL
  generalize (takePool B 56).2.1 = q at HTP HRL HQ
  generalize (takePool B 56).2.2 = z at HTP HRL HQ
  clear hw0 hw hC hc hpo hB hg hok hat hw1 hb1
  by_cases hz : z = 0
  case neg =>
    have HN := Aside0.mk (HRL.out.trans (if_pos hz))
    have hb3 : (z == 0) = false := beq_eq_false_iff_ne.2 hz
    have hb4 : (z != 0) = true := bne_iff_ne.2 hz
    clear hz
    go_enter Try.func53, Try.ntmps53
    go_wp2_with fail
    rw [← HE1.out]
    clear hcbw hcbx
    refine HTP.out.mono ?_
    rintro e w2 ⟨v2, rfl, _, hb⟩
    have HB2 := Aside0.mk ((HR1.out.below hb).bel.1)
    clear hb
    dsimp only
    go_wp2
    exact ⟨rfl, locPost.no HN.out (Below.refl _ _ |>.trans HB2.out)⟩
  subst hz
  have HRL2 := Aside0.mk (HRL.out.trans (if_neg (by simp)))
  have HQ2 := Aside0.mk (HQ.out rfl)
  clear HRL HQ
  go_enter Try.func53, Try.ntmps53
  go_wp2_with fail
  rw [← HE1.out]
  clear hcbw hcbx
  refine HTP.out.mono ?_
  rintro e w2 ⟨v2, rfl, ho, hb⟩
  obtain ⟨Ap, cp, hv2⟩ := Kd.R_slice ho
  subst hv2
  have hR2 := HR1.out.below hb
  have HX2 := Aside0.mk (blk_below HX1.out hb)
  have HR3 := Aside0.mk (hR2.start (Kd.R_mono (Kd.R_lower (Kd.R_bound ho) HR1.out.lt) (fun k hk => Nat.le_trans HR1.out.lt hk.2.1)) q HQ2.out)
  obtain ⟨w3, hw3⟩ : ∃ w3, w3 = (w2.setCell ⟨g, 2, none⟩ (.slice Ap pool.length cp)).setCell ⟨g, 1, none⟩ (.int .i64 q) := ⟨_, rfl⟩
  have hsz3 : w3.heap.size = w2.heap.size := by rw [hw3]; simp
  have hX3 : w3.heap[w.heap.size]? = some (.cells (boxF ⟨#[]⟩ (fun _ => 0) (fun _ => ⟨#[]⟩) (.slice none 0 0) (.slice none 0 0) (.slice none 0 0)) 29 (0, 0)) := by
    rw [hw3]
    exact blk_far (blk_far HX2.out (p := ⟨g, 2, none⟩) (by show w.heap.size ≠ g; have := HGL.out; omega) _) (p := ⟨g, 1, none⟩) (by show w.heap.size ≠ g; have := HGL.out; omega) _
  rw [← hw3] at HR3
  obtain ⟨w4, hw4⟩ : ∃ w4, w4 = w3.alloc (.cells (boxF ⟨#[]⟩ (fun _ => 0) (fun _ => ⟨#[]⟩) (.slice none 0 0) (.slice none 0 0) (.slice none 0 0)) 29) := ⟨_, rfl⟩
  have hb4 : Below w3.heap.size w3 w4 := by rw [hw4]; exact (Below.refl w3.heap.size w3).alloc (Nat.le_refl _) _
  have HL4 := Aside0.mk (show Ls g w.heap.size w2.heap.size B pool q w0 ⟨#[]⟩ (fun _ => 0) (fun _ => ⟨#[]⟩) (.slice none 0 0) (.slice none 0 0) (.slice none 0 0) w4 from
    ⟨HR3.out.below hb4, by rw [hw4, ← hsz3]; exact blk_new w3 _, blk_below hX3 hb4, by have := hR2.lt; omega, blk_lt HX2.out, HGL.out⟩)
  have HE4 := Aside0.mk (show w4 = ((w2.setCell ⟨g, 2, none⟩ (.slice Ap pool.length cp)).setCell ⟨g, 1, none⟩ (.int .i64 q)).alloc (.cells (boxF ⟨#[]⟩ (fun _ => 0) (fun _ => ⟨#[]⟩) (.slice none 0 0) (.slice none 0 0) (.slice none 0 0)) 29) by rw [hw4, hw3])
  obtain ⟨A2, c2, v3, hw, _⟩ := hR2
  have hc1 : w2.cell? ⟨g, 1, none⟩ = some (.int .i64 0) := (blk_cell hw 1).trans rfl
  have hc2 : w2.cell? ⟨g, 2, none⟩ = some v3 := (blk_cell hw 2).trans rfl
  have hf1 := blk_frozen hw 1
  have hf2 := blk_frozen hw 2
  clear hw ho hb hw3 hsz3 hX3 hw4 hb4
  dsimp only
  go_wp2_with fail
  rw [← HE4.out]
  clear hc1 hc2 hf1 hf2
  generalize w2.heap.size = gl at HL4 ⊢
  cases ht : rtext B pool q with
  | none =>
    have HN := Aside0.mk (show readL B = none by rw [HRL2.out, ht]; rfl)
    have HT := Aside0.mk (rtext_no.calls g B pool q w0 w4 HL4.out.1 ht)
    refine HT.out.mono ?_
    rintro e w5 ⟨rfl, ⟨_, h1⟩, _⟩
    dsimp only [wrongP]
    exact ⟨rfl, locPost.no HN.out h1.bel.1⟩
  | some t =>
    obtain ⟨tag, q1⟩ := t
    have HRL3 := Aside0.mk (show readL B = rK1 B pool tag q1 by rw [HRL2.out, ht]; rfl)
    have HT := Aside0.mk (rtext_yes.calls g B pool q tag q1 w0 w4 HL4.out.1 ht)
    clear ht
    refine HT.out.mono ?_
    rintro e w5 ⟨rfl, h1, h2⟩
    have HL5 := Aside0.mk (HL4.out.next h1 h2)
    have HL6 := Aside0.mk (HL5.out.set (tag' := tag) (f' := fun _ => 0) (p' := fun _ => ⟨#[]⟩) (v3' := .slice none 0 0) (v4' := .slice none 0 0) (v5' := .slice none 0 0) 0 (.string tag) rfl)
    have hct : w5.cell? ⟨gl, 0, none⟩ = some (.string ⟨#[]⟩) := (blk_cell HL5.out.2.1 0).trans rfl
    have hft := blk_frozen HL5.out.2.1 0
    clear h1 h2
    dsimp only
    obtain ⟨w7, hw7⟩ : ∃ w7, w7 = (w5.setCell ⟨gl, 0, none⟩ (.string tag)).alloc (.cells (ptrsV gl) 118) := ⟨_, rfl⟩
    have HL7 := Aside0.mk (show Ls g w.heap.size gl B pool q1 w0 tag (fun _ => 0) (fun _ => ⟨#[]⟩) (.slice none 0 0) (.slice none 0 0) (.slice none 0 0) w7 by rw [hw7]; exact HL6.out.below ((Below.refl _ _).alloc (Nat.le_refl _) _))
    have HP7 := Aside0.mk (show w7.heap[w5.heap.size]? = some (.cells (ptrsV gl) 118 (0, 0)) by
      rw [hw7]
      have := blk_new (w5.setCell ⟨gl, 0, none⟩ (.string tag)) (.cells (ptrsV gl) 118)
      rw [show (w5.setCell ⟨gl, 0, none⟩ (.string tag)).heap.size = w5.heap.size by simp] at this
      exact this)
    have HE7 := Aside0.mk hw7
    have HBP := Aside0.mk (show gl < w5.heap.size from blk_lt HL5.out.2.1)
    have HRL4 := Aside0.mk (show readL B = (rsigns B (7 - 0) q1 fun _ => 0).bind fun u => rK2 B pool tag u.1 u.2 from HRL3.out)
    clear hw7
    go_wp2_with fail
    simp only [ptrsV] at HE7
    rw [← HE7.out]
    clear hct hft
    generalize w5.heap.size = bp at HP7 HBP ⊢
    go_loopg [55] 7 (fun kq v55 w' => ∃ (j : Nat) (q : Int) (f : Nat → Int), v55 = .int .i64 (j : Int) ∧ Aside0 (j ≤ 7) ∧ Aside0 (7 - j = kq) ∧ Aside0 (Ls g w.heap.size gl B pool q w0 tag f (fun _ => ⟨#[]⟩) (.slice none 0 0) (.slice none 0 0) (.slice none 0 0) w') ∧ Aside0 (readL B = (rsigns B (7 - j) q f).bind fun u => rK2 B pool tag u.1 u.2) ∧ Aside0 (∀ i, -2147483648 ≤ f i ∧ f i < 2147483648) ∧ Aside0 (w'.heap[bp]? = some (.cells (ptrsV gl) 118 (0, 0))))
    case atStart => exact ⟨0, q1, fun _ => 0, rfl, ⟨by decide⟩, ⟨rfl⟩, HL7, HRL4, ⟨fun _ => ⟨by show (-2147483648 : Int) ≤ 0; omega, by show (0 : Int) < 2147483648; omega⟩⟩, HP7⟩
    case round =>
      obtain ⟨j, qj, f, rfl, HJ, HKQ, HLJ, HRJ, HFR, HPJ⟩ := hrel
      by_cases hlt : j < 7
      · have hlt2 : (j : Int) < 7 := by omega
        have hcp := ptrs_cell HPJ.out j hlt
        obtain ⟨k, hk⟩ : ∃ k, 7 - j = k + 1 := ⟨6 - j, by omega⟩
        have hj6 : 6 - k = j := by omega
        have hrj := HRJ.out
        rw [hk, rsigns, hj6] at hrj
        cases hs : rsign B qj with
        | none =>
          have HN := Aside0.mk (show readL B = none by rw [hrj, hs]; rfl)
          have HS := Aside0.mk (rsign_no.calls g B pool qj w0 _ HLJ.out.1 hs)
          clear hs hrj hk hj6 hlt
          go_wp2_with fail
          refine HS.out.mono ?_
          rintro e w8 ⟨rfl, h1, _⟩
          dsimp only [wrongP]
          exact ⟨rfl, locPost.no HN.out h1.bel.1⟩
        | some t =>
          obtain ⟨x, q2⟩ := t
          have HRX := Aside0.mk (show readL B = (rsigns B (7 - (j + 1)) q2 (upd f j x)).bind fun u => rK2 B pool tag u.1 u.2 by
            rw [hrj, hs, show 7 - (j + 1) = k by omega]; rfl)
          have HRG := Aside0.mk (rsign_range hs)
          have HS := Aside0.mk (rsign_yes.calls g B pool qj x q2 w0 _ HLJ.out.1 hs)
          have HLT := Aside0.mk hlt
          clear hs hrj hk hj6 hlt
          go_wp2_with fail
          refine HS.out.mono ?_
          rintro e w8 ⟨rfl, h1, h2⟩
          have HL8 := Aside0.mk (HLJ.out.next h1 h2)
          have HP8 := Aside0.mk (KeepBut.blk h2 HPJ.out (by have := HBP.out; have := HLJ.out.2.2.2.1; omega) (by simp))
          have hcs := boxF_s HL8.out.2.1 j HLT.out
          have hfs := blk_frozen HL8.out.2.1 (1 + j)
          have HL9 := Aside0.mk (HL8.out.set (1 + j) (.int .i32 x) (boxF_sign tag f _ _ _ _ x j HLT.out))
          have HP9 := Aside0.mk (blk_far HP8.out (p := ⟨gl, 1 + j, none⟩) (by show bp ≠ gl; have := HBP.out; omega) (.int .i32 x))
          clear h1 h2 hcp
          dsimp only
          go_wp2
          go_roundg (7 - (j + 1))
          case measure => have := HLT.out; have := HKQ.out; omega
          case rel => exact ⟨j + 1, q2, upd f j x, by have h1 := HLT.out; first | rfl | (congr 1; unfold wrap64; omega), ⟨HLT.out⟩, ⟨rfl⟩, HL9, HRX, ⟨fun i => by unfold upd; split; exact HRG.out; exact HFR.out i⟩, HP9⟩
      · have hj : j = 7 := by have := HJ.out; omega
        subst hj
        have HRL5 := Aside0.mk (show readL B = rK2 B pool tag f qj from HRJ.out)
        clear hlt HRJ HPJ HKQ HJ
        have HRL6 := Aside0.mk (show readL B = (rpats B pool (4 - 0) qj fun _ => ⟨#[]⟩).bind fun u => rK3 B pool tag f u.1 u.2 from HRL5.out)
        go_wp2_with fail
        go_loopg [64] 4 (fun kq v64 w' => ∃ (j : Nat) (q : Int) (p : Nat → ByteArray), v64 = .int .i64 (j : Int) ∧ Aside0 (j ≤ 4) ∧ Aside0 (4 - j = kq) ∧ Aside0 (Ls g w.heap.size gl B pool q w0 tag f p (.slice none 0 0) (.slice none 0 0) (.slice none 0 0) w') ∧ Aside0 (readL B = (rpats B pool (4 - j) q p).bind fun u => rK3 B pool tag f u.1 u.2))
        case atStart => exact ⟨0, qj, _, rfl, ⟨by decide⟩, ⟨rfl⟩, HLJ, HRL6⟩
        case round =>
          obtain ⟨j, qp, p, rfl, HJ, HKQ, HLP, HRJ⟩ := hrel
          by_cases hlt : j < 4
          · have hlt2 : (j : Int) < 4 := by omega
            obtain ⟨k, hk⟩ : ∃ k, 4 - j = k + 1 := ⟨3 - j, by omega⟩
            have hj6 : 3 - k = j := by omega
            have hrj := HRJ.out
            rw [hk, rpats, hj6] at hrj
            cases hs : rtext B pool qp with
            | none =>
              have HN := Aside0.mk (show readL B = none by rw [hrj, hs]; rfl)
              have HS := Aside0.mk (rtext_no.calls g B pool qp w0 _ HLP.out.1 hs)
              clear hs hrj hk hj6 hlt
              go_wp2_with fail
              refine HS.out.mono ?_
              rintro e w8 ⟨rfl, ⟨_, h1⟩, _⟩
              dsimp only [wrongP]
              exact ⟨rfl, locPost.no HN.out h1.bel.1⟩
            | some t =>
              obtain ⟨x, q2⟩ := t
              have HRX := Aside0.mk (show readL B = (rpats B pool (4 - (j + 1)) q2 (upd p j x)).bind fun u => rK3 B pool tag f u.1 u.2 by
                rw [hrj, hs, show 4 - (j + 1) = k by omega]; rfl)
              have HS := Aside0.mk (rtext_yes.calls g B pool qp x q2 w0 _ HLP.out.1 hs)
              have HLT := Aside0.mk hlt
              clear hs hrj hk hj6 hlt
              go_wp2_with fail
              refine HS.out.mono ?_
              rintro e w8 ⟨rfl, h1, h2⟩
              have HL8 := Aside0.mk (HLP.out.next h1 h2)
              have hcs := boxF_p HL8.out.2.1 j HLT.out
              have hfs := blk_frozen HL8.out.2.1 (8 + j)
              have HL9 := Aside0.mk (HL8.out.set (8 + j) (.string x) (boxF_pat tag f p _ _ _ x j HLT.out))
              clear h1 h2
              dsimp only
              go_wp2
              go_roundg (4 - (j + 1))
              case measure => have := HLT.out; have := HKQ.out; omega
              case rel => exact ⟨j + 1, q2, upd p j x, by have h1 := HLT.out; first | rfl | (congr 1; unfold wrap64; omega), ⟨HLT.out⟩, ⟨rfl⟩, HL9, HRX⟩
          · have hj : j = 4 := by have := HJ.out; omega
            subst hj
            have HRL7 := Aside0.mk (show readL B = rK3 B pool tag f p qp from HRJ.out)
            clear hlt HRJ HKQ HJ
            cases hn : rnum B 2 qp with
            | none =>
              have HN := Aside0.mk (show readL B = none by rw [HRL7.out, rK3, hn]; rfl)
              have HS := Aside0.mk (rnum_no.calls g B pool qp 2 w0 _ HLP.out.1 hn)
              clear hn
              go_wp2_with fail
              refine HS.out.mono ?_
              rintro e w8 ⟨rfl, h1, _⟩
              dsimp only [wrongP]
              exact ⟨rfl, locPost.no HN.out h1.bel.1⟩
            | some t =>
            obtain ⟨n, b0⟩ := t
            have hr := rnum_some HOK.out hn
            obtain ⟨N, rfl⟩ := Int.eq_ofNat_of_zero_le hr.2.2.2.2.2.2.1
            have HNB := Aside0.mk (show N ≤ 65535 by have h1 := hr.2.2.2.2.2.2.2.1; have h2 : (256 : Int) ^ (2 : Int).toNat = 65536 := by decide
                                                     rw [h2] at h1; omega)
            have HRL8 := Aside0.mk (show readL B = (rrules B pool (N - 0) b0 []).bind fun u => rK4 B pool tag f p u.1 u.2 by rw [HRL7.out, rK3, hn, Option.bind_some, Int.toNat_natCast]; rfl)
            have HS := Aside0.mk (rnum_yes.calls g B pool qp 2 (N : Int) b0 w0 _ HLP.out.1 hn)
            clear hn hr
            go_wp2_with fail
            refine HS.out.mono ?_
            rintro e w8 ⟨rfl, h1, h2⟩
            have HL8 := Aside0.mk (HLP.out.next h1 h2)
            clear h1 h2
            dsimp only
            go_wp2_with fail
            go_loopg [75] N (fun kq v75 w' => ∃ (j : Nat) (q : Int) (acc : List (Int × ByteArray)) (v3 : Value), v75 = .int .i64 (j : Int) ∧ Aside0 (j ≤ N) ∧ Aside0 (N - j = kq) ∧ Aside0 (acc.length = j) ∧ Aside0 (Ls g w.heap.size gl B pool q w0 tag f p v3 (.slice none 0 0) (.slice none 0 0) w') ∧ Aside0 (Kd.rule.R 58 w' (gl + 1) (fun k => gl + 1 ≤ k) v3 acc) ∧ Aside0 (readL B = (rrules B pool (N - j) q acc).bind fun u => rK4 B pool tag f p u.1 u.2))
            case atStart => exact ⟨0, b0, [], _, rfl, ⟨Nat.zero_le _⟩, ⟨rfl⟩, ⟨rfl⟩, HL8, ⟨Kd.R_nil _ _ _ _ _⟩, HRL8⟩
            case round =>
              obtain ⟨j, qr, acc, v3, rfl, HJ, HKQ, HAL, HLR, HOR, HRJ⟩ := hrel
              by_cases hlt : j < N
              · have hlt2 : (j : Int) < (N : Int) := by omega
                obtain ⟨k, hk⟩ : ∃ k, N - j = k + 1 := ⟨N - j - 1, by omega⟩
                have hrj := HRJ.out
                rw [hk, rrules] at hrj
                cases hn : rnum B 1 qr with
                | none =>
                  have HN := Aside0.mk (show readL B = none by rw [hrj, hn]; rfl)
                  have HS := Aside0.mk (rnum_no.calls g B pool qr 1 w0 _ HLR.out.1 hn)
                  clear hn hrj hk hlt
                  go_wp2_with fail
                  refine HS.out.mono ?_
                  rintro e w9 ⟨rfl, h1, _⟩
                  dsimp only [wrongP]
                  exact ⟨rfl, locPost.no HN.out h1.bel.1⟩
                | some t =>
                obtain ⟨x, q1⟩ := t
                rw [hn, Option.bind_some] at hrj
                dsimp only at hrj
                have HS := Aside0.mk (rnum_yes.calls g B pool qr 1 x q1 w0 _ HLR.out.1 hn)
                have HLT := Aside0.mk hlt
                have HKK := Aside0.mk hk
                have HRX := Aside0.mk hrj
                obtain ⟨A3, c3, hv3⟩ := Kd.R_slice HOR.out
                subst hv3
                clear hn hrj hk hlt
                go_wp2_with fail
                refine HS.out.mono ?_
                rintro e w9 ⟨rfl, h1, h2⟩
                have HL9 := Aside0.mk (HLR.out.next h1 h2)
                have HO9 := Aside0.mk (Kd.R_keep HOR.out h2 (fun k hk => by have := HLR.out.2.2.2.1; omega))
                have hc9 : w9.cell? ⟨gl, 12, none⟩ = some (.slice A3 acc.length c3) := (blk_cell HL9.out.2.1 12).trans rfl
                clear h1 h2
                dsimp only
                cases hs : rtext B pool q1 with
                | none =>
                  have HN := Aside0.mk (show readL B = none by rw [HRX.out, hs]; rfl)
                  have HT := Aside0.mk (rtext_no.calls g B pool q1 w0 _ HL9.out.1.drew hs)
                  clear hs
                  go_wp2_with fail
                  go_region_dies
                  all_goals
                    refine HT.out.mono ?_
                    rintro e w10 ⟨rfl, ⟨_, h1⟩, _⟩
                    dsimp only [wrongP]
                    exact ⟨rfl, locPost.no HN.out h1.bel.1⟩
                | some t =>
                  obtain ⟨s, q2⟩ := t
                  have HRY := Aside0.mk (show readL B = (rrules B pool (N - (j + 1)) q2 (acc ++ [(x, s)])).bind fun u => rK4 B pool tag f p u.1 u.2 by
                    rw [HRX.out, hs, show N - (j + 1) = k by have := HKK.out; omega]; rfl)
                  have HT := Aside0.mk (rtext_yes.calls g B pool q1 s q2 w0 _ HL9.out.1.drew hs)
                  have HLA := Aside0.mk (show (acc.length + 1) * 24 ≤ 140737488355328 by have := HAL.out; have := HLT.out; have := HNB.out; omega)
                  clear hs
                  go_wp2_with fail
                  go_region_law (first | (go_simp; go_at_call 70; refine HT.out.mono ?_; rintro e w10 ⟨rfl, h1, h2⟩; have hk10 := KeepBut.trans (KeepBut.of_below ((Below.refl w9.heap.size w9).drew) g none) h2 (.inl rfl); have HL10 := Aside0.mk (HL9.out.next h1 hk10); have HO10 := Aside0.mk (Kd.R_keep HO9.out hk10 (fun k hk => by have := HLR.out.2.2.2.1; omega)); have hc10 : w10.cell? ⟨gl, 12, none⟩ = some (.slice A3 acc.length c3) := (blk_cell HL10.out.2.1 12).trans rfl; have hc10b : (w10.alloc (.cells #[.int .i64 x, .string s] 58)).cell? ⟨gl, 12, none⟩ = some (.slice A3 acc.length c3) := (blk_cell (blk_alloc HL10.out.2.1 _) 12).trans rfl; clear h1 h2 hk10) | (refine step_of_list rfl ?_; refine Kd.R_append Kd.rule (w0 := w10) (gl + 1) rfl (.tmp 80) (.tmp 85) 25 58 (.agg #[.int .i64 0, .string ⟨#[]⟩]) 24 rfl Try.underlying25 info58 rfl (by decide) (by omega) (.slice A3 acc.length c3) acc (x, s) [.int .i64 x, .string s] (fun k => gl + 1 ≤ k) (fun _ => False) rfl rfl ⟨[.int .i64 x], [.string s], rfl, rfl, rfl⟩ (fun _ hk => hk.elim) ?aF HO10.out (Below.refl _ _) (blk_lt HL10.out.2.1) HLA.out ?_; (case aF => exact (fun k hk => by have := blk_lt HL10.out.2.1; omega)); intro v11 w11 ho_ hb_ hg_ _; obtain ⟨A11, c11, hv11⟩ := Kd.R_slice ho_; subst hv11; have HL11 := Aside0.mk (HL10.out.grown HO10.out (by decide) hg_); have HO11 := Aside0.mk ho_; have hc11 : w11.cell? ⟨gl, 12, none⟩ = some (.slice A3 acc.length c3) := (blk_cell HL11.out.2.1 12).trans rfl; have hf11 := blk_frozen HL11.out.2.1 12; clear ho_ hb_ hg_; refine ⟨rfl, ?_⟩) | go_simp)
                  all_goals
                    have e1 : (acc ++ [(x, s)]).length = acc.length + 1 := by rw [List.length_append]; rfl
                    have hO12 := HO11.out
                    rw [e1] at hO12
                    have HL12 := Aside0.mk (HL11.out.set (tag' := tag) (f' := f) (p' := p) (v3' := .slice A11 (acc.length + 1) c11) (v4' := .slice none 0 0) (v5' := .slice none 0 0) 12 (.slice A11 (acc.length + 1) c11) rfl)
                    have HO12 := Aside0.mk (Kd.R_set hO12 HL11.out.2.1 (t := 29) (by decide) 12 (.slice A11 (acc.length + 1) c11))
                    have HA12 := Aside0.mk (show (acc ++ [(x, s)]).length = j + 1 by rw [e1, HAL.out])
                    clear e1 hO12
                    go_wp2
                    go_roundg (N - (j + 1))
                    case measure => have := HLT.out; have := HKQ.out; omega
                    case rel => exact ⟨j + 1, q2, acc ++ [(x, s)], _, by have h1 := HLT.out; have h2 := HNB.out; first | rfl | (congr 1; unfold wrap64; omega), ⟨HLT.out⟩, ⟨rfl⟩, HA12, HL12, HO12, HRY⟩
              · have hj : j = N := by have := HJ.out; omega
                subst hj
                have HRL9 := Aside0.mk (show readL B = rK4 B pool tag f p acc qr by have := HRJ.out; rw [Nat.sub_self, rrules] at this; exact this)
                obtain ⟨A3, c3, hv3⟩ := Kd.R_slice HOR.out
                subst hv3
                have HN3 := Aside0.mk (show acc.length ≤ 65535 by rw [HAL.out]; exact HNB.out)
                clear hlt HRJ HKQ HJ HAL
                cases hn : rnum B 2 qr with
                | none =>
                  have HN := Aside0.mk (show readL B = none by rw [HRL9.out, rK4, hn]; rfl)
                  have HS := Aside0.mk (rnum_no.calls g B pool qr 2 w0 _ HLR.out.1 hn)
                  clear hn
                  go_wp2_with fail
                  refine HS.out.mono ?_
                  rintro e w8 ⟨rfl, h1, _⟩
                  dsimp only [wrongP]
                  exact ⟨rfl, locPost.no HN.out h1.bel.1⟩
                | some t =>
                obtain ⟨n, b4⟩ := t
                have hr := rnum_some HOK.out hn
                obtain ⟨M, rfl⟩ := Int.eq_ofNat_of_zero_le hr.2.2.2.2.2.2.1
                have HMB := Aside0.mk (show M ≤ 65535 by
                  have h1 := hr.2.2.2.2.2.2.2.1
                  have h2 : (256 : Int) ^ (2 : Int).toNat = 65536 := by decide
                  rw [h2] at h1; omega)
                have HRL10 := Aside0.mk (show readL B = (rcurs B pool (M - 0) b4 []).bind fun u => rK5 B pool tag f p acc u.1 u.2 by rw [HRL9.out, rK4, hn, Option.bind_some, Int.toNat_natCast]; rfl)
                have HS := Aside0.mk (rnum_yes.calls g B pool qr 2 (M : Int) b4 w0 _ HLR.out.1 hn)
                clear hn hr
                go_wp2_with fail
                refine HS.out.mono ?_
                rintro e w12 ⟨rfl, h1, h2⟩
                have HL12 := Aside0.mk (HLR.out.next h1 h2)
                have HO12 := Aside0.mk (Kd.R_keep HOR.out h2 (fun k hk => by have := HLR.out.2.2.2.1; omega))
                clear h1 h2
                dsimp only
                go_wp2_with fail
                go_loopg [91] M (fun kq v91 w' => ∃ (j : Nat) (q : Int) (ac4 : List (ByteArray × ByteArray × Int)) (v4 : Value), v91 = .int .i64 (j : Int) ∧ Aside0 (j ≤ M) ∧ Aside0 (M - j = kq) ∧ Aside0 (ac4.length = j) ∧ Aside0 (Ls g w.heap.size gl B pool q w0 tag f p (.slice A3 acc.length c3) v4 (.slice none 0 0) w') ∧ Aside0 (Kd.rule.R 58 w' (gl + 1) (fun k => gl + 1 ≤ k) (.slice A3 acc.length c3) acc) ∧ Aside0 (Kd.cur.R 60 w' (gl + 1) (fun k => gl + 1 ≤ k) v4 ac4) ∧ Aside0 (readL B = (rcurs B pool (M - j) q ac4).bind fun u => rK5 B pool tag f p acc u.1 u.2))
                case atStart => exact ⟨0, b4, [], _, rfl, ⟨Nat.zero_le _⟩, ⟨rfl⟩, ⟨rfl⟩, HL12, HO12, ⟨Kd.R_nil _ _ _ _ _⟩, HRL10⟩
                case round =>
                  obtain ⟨j, qr, ac4, v4, rfl, HJ, HKQ, HAL, HLR, HO3, HOR, HRJ⟩ := hrel
                  by_cases hlt : j < M
                  · have hlt2 : (j : Int) < (M : Int) := by omega
                    obtain ⟨k, hk⟩ : ∃ k, M - j = k + 1 := ⟨M - j - 1, by omega⟩
                    have hrj := HRJ.out
                    rw [hk, rcurs] at hrj
                    obtain ⟨A4, c4, hv4⟩ := Kd.R_slice HOR.out
                    subst hv4
                    have HLT := Aside0.mk hlt
                    have HKK := Aside0.mk hk
                    clear hk hlt
                    cases hn : rtext B pool qr with
                    | none =>
                      have HN := Aside0.mk (show readL B = none by rw [hrj, hn]; rfl)
                      have HS := Aside0.mk (rtext_no.calls g B pool qr w0 _ HLR.out.1 hn)
                      clear hn hrj
                      go_wp2_with fail
                      refine HS.out.mono ?_
                      rintro e w9 ⟨rfl, ⟨_, h1⟩, _⟩
                      dsimp only [wrongP]
                      exact ⟨rfl, locPost.no HN.out h1.bel.1⟩
                    | some t =>
                    obtain ⟨x, q1⟩ := t
                    rw [hn, Option.bind_some] at hrj
                    dsimp only at hrj
                    have HS := Aside0.mk (rtext_yes.calls g B pool qr x q1 w0 _ HLR.out.1 hn)
                    have HRX := Aside0.mk hrj
                    clear hn hrj
                    go_wp2_with fail
                    refine HS.out.mono ?_
                    rintro e w8 ⟨rfl, h1, h2⟩
                    have HL8 := Aside0.mk (HLR.out.next h1 h2)
                    have HK8 := Aside0.mk h2
                    clear h1 h2
                    dsimp only
                    have hrj := HRX.out
                    cases hn : rtext B pool q1 with
                    | none =>
                      have HN := Aside0.mk (show readL B = none by rw [hrj, hn]; rfl)
                      have HS := Aside0.mk (rtext_no.calls g B pool q1 w0 _ HL8.out.1 hn)
                      clear hn hrj
                      go_wp2_with fail
                      refine HS.out.mono ?_
                      rintro e w9 ⟨rfl, ⟨_, h1⟩, _⟩
                      dsimp only [wrongP]
                      exact ⟨rfl, locPost.no HN.out h1.bel.1⟩
                    | some t =>
                    obtain ⟨y, q3⟩ := t
                    rw [hn, Option.bind_some] at hrj
                    dsimp only at hrj
                    have HS := Aside0.mk (rtext_yes.calls g B pool q1 y q3 w0 _ HL8.out.1 hn)
                    have HRZ := Aside0.mk hrj
                    clear hn hrj
                    go_wp2_with fail
                    refine HS.out.mono ?_
                    rintro e w9 ⟨rfl, h1, h2⟩
                    have hk9 := KeepBut.trans HK8.out h2 (.inl rfl)
                    have HL9 := Aside0.mk (HL8.out.next h1 h2)
                    have HO39 := Aside0.mk (Kd.R_keep HO3.out hk9 (fun k hk => by have := HLR.out.2.2.2.1; omega))
                    have HO9 := Aside0.mk (Kd.R_keep HOR.out hk9 (fun k hk => by have := HLR.out.2.2.2.1; omega))
                    have hc9 : w9.cell? ⟨gl, 13, none⟩ = some (.slice A4 ac4.length c4) := (blk_cell HL9.out.2.1 13).trans rfl
                    clear h1 h2 hk9
                    dsimp only
                    cases hs : rnum B 1 q3 with
                    | none =>
                      have HN := Aside0.mk (show readL B = none by rw [HRZ.out, hs]; rfl)
                      have HT := Aside0.mk (rnum_no.calls g B pool q3 1 w0 _ HL9.out.1.drew hs)
                      clear hs
                      go_wp2_with fail
                      go_region_dies
                      all_goals
                        refine HT.out.mono ?_
                        rintro e w10 ⟨rfl, h1, _⟩
                        dsimp only [wrongP]
                        exact ⟨rfl, locPost.no HN.out h1.bel.1⟩
                    | some t =>
                      obtain ⟨s, q2⟩ := t
                      have HRY := Aside0.mk (show readL B = (rcurs B pool (M - (j + 1)) q2 (ac4 ++ [(x, y, s)])).bind fun u => rK5 B pool tag f p acc u.1 u.2 by
                        rw [HRZ.out, hs, show M - (j + 1) = k by have := HKK.out; omega]; rfl)
                      have HT := Aside0.mk (rnum_yes.calls g B pool q3 1 s q2 w0 _ HL9.out.1.drew hs)
                      have HLA := Aside0.mk (show (ac4.length + 1) * 40 ≤ 140737488355328 by have := HAL.out; have := HLT.out; have := HMB.out; omega)
                      clear hs
                      go_wp2_with fail
                      go_region_law (first | (go_simp; go_at_call 72; refine HT.out.mono ?_; rintro e w10 ⟨rfl, h1, h2⟩; have hk10 := KeepBut.trans (KeepBut.of_below ((Below.refl w9.heap.size w9).drew) g none) h2 (.inl rfl); have HL10 := Aside0.mk (HL9.out.next h1 hk10); have HO10 := Aside0.mk (Kd.R_keep HO9.out hk10 (fun k hk => by have := HLR.out.2.2.2.1; omega)); have HO310 := Aside0.mk (Kd.R_keep HO39.out hk10 (fun k hk => by have := HLR.out.2.2.2.1; omega)); have hc10 : w10.cell? ⟨gl, 13, none⟩ = some (.slice A4 ac4.length c4) := (blk_cell HL10.out.2.1 13).trans rfl; have hc10b : (w10.alloc (.cells #[.string x, .string y, .int .i64 s] 60)).cell? ⟨gl, 13, none⟩ = some (.slice A4 ac4.length c4) := (blk_cell (blk_alloc HL10.out.2.1 _) 13).trans rfl; clear h1 h2 hk10) | (refine step_of_list rfl ?_; refine Kd.R_append Kd.cur (w0 := w10) (gl + 1) rfl (.tmp 98) (.tmp 104) 26 60 (.agg #[.string ⟨#[]⟩, .string ⟨#[]⟩, .int .i64 0]) 40 rfl Try.underlying26 info60 rfl (by decide) (by omega) (.slice A4 ac4.length c4) ac4 (x, y, s) [.string x, .string y, .int .i64 s] (fun k => gl + 1 ≤ k) (fun _ => False) rfl rfl ⟨[.string x], [.string y, .int .i64 s], rfl, rfl, [.string y], [.int .i64 s], rfl, rfl, rfl⟩ (fun _ hk => hk.elim) ?aF HO10.out (Below.refl _ _) (blk_lt HL10.out.2.1) HLA.out ?_; (case aF => exact (fun k hk => by have := blk_lt HL10.out.2.1; omega)); intro v11 w11 ho_ hb_ hg_ _; obtain ⟨A11, c11, hv11⟩ := Kd.R_slice ho_; subst hv11; have HL11 := Aside0.mk (HL10.out.grown HO10.out (by decide) hg_); have HO311 := Aside0.mk (row_grown HO310.out HO10.out (by decide) hg_); have HO11 := Aside0.mk ho_; have hc11 : w11.cell? ⟨gl, 13, none⟩ = some (.slice A4 ac4.length c4) := (blk_cell HL11.out.2.1 13).trans rfl; have hf11 := blk_frozen HL11.out.2.1 13; clear ho_ hb_ hg_; refine ⟨rfl, ?_⟩) | go_simp)
                      all_goals
                        have e1 : (ac4 ++ [(x, y, s)]).length = ac4.length + 1 := by rw [List.length_append]; rfl
                        have hO12 := HO11.out
                        rw [e1] at hO12
                        have HL12 := Aside0.mk (HL11.out.set (tag' := tag) (f' := f) (p' := p) (v3' := .slice A3 acc.length c3) (v4' := .slice A11 (ac4.length + 1) c11) (v5' := .slice none 0 0) 13 (.slice A11 (ac4.length + 1) c11) rfl)
                        have HO12 := Aside0.mk (Kd.R_set hO12 HL11.out.2.1 (t := 29) (by decide) 13 (.slice A11 (ac4.length + 1) c11))
                        have HO312 := Aside0.mk (Kd.R_set HO311.out HL11.out.2.1 (t := 29) (by decide) 13 (.slice A11 (ac4.length + 1) c11))
                        have HA12 := Aside0.mk (show (ac4 ++ [(x, y, s)]).length = j + 1 by rw [e1, HAL.out])
                        clear e1 hO12
                        go_wp2
                        go_roundg (M - (j + 1))
                        case measure => have := HLT.out; have := HKQ.out; omega
                        case rel => exact ⟨j + 1, q2, ac4 ++ [(x, y, s)], _, by have h1 := HLT.out; have h2 := HMB.out; first | rfl | (congr 1; unfold wrap64; omega), ⟨HLT.out⟩, ⟨rfl⟩, HA12, HL12, HO312, HO12, HRY⟩
                  · have hj : j = M := by have := HJ.out; omega
                    subst hj
                    have HRL11 := Aside0.mk (show readL B = rK5 B pool tag f p acc ac4 qr by have := HRJ.out; rw [Nat.sub_self, rcurs] at this; exact this)
                    obtain ⟨A4, c4, hv4⟩ := Kd.R_slice HOR.out
                    subst hv4
                    have HN4 := Aside0.mk (show ac4.length ≤ 65535 by rw [HAL.out]; exact HMB.out)
                    clear hlt HRJ HKQ HJ HAL
                    cases hn : rnum B 2 qr with
                    | none =>
                      have HN := Aside0.mk (show readL B = none by rw [HRL11.out, rK5, hn]; rfl)
                      have HS := Aside0.mk (rnum_no.calls g B pool qr 2 w0 _ HLR.out.1 hn)
                      clear hn
                      go_wp2_with fail
                      refine HS.out.mono ?_
                      rintro e w8 ⟨rfl, h1, _⟩
                      dsimp only [wrongP]
                      exact ⟨rfl, locPost.no HN.out h1.bel.1⟩
                    | some t =>
                    obtain ⟨n, b5⟩ := t
                    have hr := rnum_some HOK.out hn
                    obtain ⟨M5, rfl⟩ := Int.eq_ofNat_of_zero_le hr.2.2.2.2.2.2.1
                    have HMB5 := Aside0.mk (show M5 ≤ 65535 by
                      have h1 := hr.2.2.2.2.2.2.2.1
                      have h2 : (256 : Int) ^ (2 : Int).toNat = 65536 := by decide
                      rw [h2] at h1; omega)
                    have HRL12 := Aside0.mk (show readL B = (rcomps B pool (M5 - 0) b5 []).bind fun u => some (mkLoc tag f p acc ac4 u.1) by rw [HRL11.out, rK5, hn, Option.bind_some, Int.toNat_natCast]; rfl)
                    have HS := Aside0.mk (rnum_yes.calls g B pool qr 2 (M5 : Int) b5 w0 _ HLR.out.1 hn)
                    clear hn hr
                    go_wp2_with fail
                    refine HS.out.mono ?_
                    rintro e w12 ⟨rfl, h1, h2⟩
                    have HL12 := Aside0.mk (HLR.out.next h1 h2)
                    have HO12 := Aside0.mk (Kd.R_keep HO3.out h2 (fun k hk => by have := HLR.out.2.2.2.1; omega))
                    have HO412 := Aside0.mk (Kd.R_keep HOR.out h2 (fun k hk => by have := HLR.out.2.2.2.1; omega))
                    clear h1 h2
                    dsimp only
                    go_wp2_with fail
                    go_loopg [110] M5 (fun kq v110 w' => ∃ (j : Nat) (q : Int) (ac5 : List (Int × Int × ByteArray)) (v5 : Value), v110 = .int .i64 (j : Int) ∧ Aside0 (j ≤ M5) ∧ Aside0 (M5 - j = kq) ∧ Aside0 (ac5.length = j) ∧ Aside0 (Ls g w.heap.size gl B pool q w0 tag f p (.slice A3 acc.length c3) (.slice A4 ac4.length c4) v5 w') ∧ Aside0 (Kd.rule.R 58 w' (gl + 1) (fun k => gl + 1 ≤ k) (.slice A3 acc.length c3) acc) ∧ Aside0 (Kd.cur.R 60 w' (gl + 1) (fun k => gl + 1 ≤ k) (.slice A4 ac4.length c4) ac4) ∧ Aside0 (Kd.comp.R 62 w' (gl + 1) (fun k => gl + 1 ≤ k) v5 ac5) ∧ Aside0 (readL B = (rcomps B pool (M5 - j) q ac5).bind fun u => some (mkLoc tag f p acc ac4 u.1)))
                    case atStart => exact ⟨0, b5, [], _, rfl, ⟨Nat.zero_le _⟩, ⟨rfl⟩, ⟨rfl⟩, HL12, HO12, HO412, ⟨Kd.R_nil _ _ _ _ _⟩, HRL12⟩
                    case round =>
                      obtain ⟨j, qr, ac5, v5, rfl, HJ, HKQ, HAL, HLR, HO3, HO4, HOR, HRJ⟩ := hrel
                      by_cases hlt : j < M5
                      · have hlt2 : (j : Int) < (M5 : Int) := by omega
                        obtain ⟨k, hk⟩ : ∃ k, M5 - j = k + 1 := ⟨M5 - j - 1, by omega⟩
                        have hrj := HRJ.out
                        rw [hk, rcomps] at hrj
                        obtain ⟨A5, c5, hv5⟩ := Kd.R_slice HOR.out
                        subst hv5
                        have HLT := Aside0.mk hlt
                        have HKK := Aside0.mk hk
                        clear hk hlt
                        cases hn : rnum B 1 qr with
                        | none =>
                          have HN := Aside0.mk (show readL B = none by rw [hrj, hn]; rfl)
                          have HS := Aside0.mk (rnum_no.calls g B pool qr 1 w0 _ HLR.out.1 hn)
                          clear hn hrj
                          go_wp2_with fail
                          refine HS.out.mono ?_
                          rintro e w9 ⟨rfl, h1, _⟩
                          dsimp only [wrongP]
                          exact ⟨rfl, locPost.no HN.out h1.bel.1⟩
                        | some t =>
                        obtain ⟨x, q1⟩ := t
                        rw [hn, Option.bind_some] at hrj
                        dsimp only at hrj
                        have HS := Aside0.mk (rnum_yes.calls g B pool qr 1 x q1 w0 _ HLR.out.1 hn)
                        have HRX := Aside0.mk hrj
                        clear hn hrj
                        go_wp2_with fail
                        refine HS.out.mono ?_
                        rintro e w8 ⟨rfl, h1, h2⟩
                        have HL8 := Aside0.mk (HLR.out.next h1 h2)
                        have HK8 := Aside0.mk h2
                        clear h1 h2
                        dsimp only
                        have hrj := HRX.out
                        cases hn : rnum B 1 q1 with
                        | none =>
                          have HN := Aside0.mk (show readL B = none by rw [hrj, hn]; rfl)
                          have HS := Aside0.mk (rnum_no.calls g B pool q1 1 w0 _ HL8.out.1 hn)
                          clear hn hrj
                          go_wp2_with fail
                          refine HS.out.mono ?_
                          rintro e w9 ⟨rfl, h1, _⟩
                          dsimp only [wrongP]
                          exact ⟨rfl, locPost.no HN.out h1.bel.1⟩
                        | some t =>
                        obtain ⟨y, q3⟩ := t
                        rw [hn, Option.bind_some] at hrj
                        dsimp only at hrj
                        have HS := Aside0.mk (rnum_yes.calls g B pool q1 1 y q3 w0 _ HL8.out.1 hn)
                        have HRZ := Aside0.mk hrj
                        clear hn hrj
                        go_wp2_with fail
                        refine HS.out.mono ?_
                        rintro e w9 ⟨rfl, h1, h2⟩
                        have hk9 := KeepBut.trans HK8.out h2 (.inl rfl)
                        have HL9 := Aside0.mk (HL8.out.next h1 h2)
                        have HO39 := Aside0.mk (Kd.R_keep HO3.out hk9 (fun k hk => by have := HLR.out.2.2.2.1; omega))
                        have HO49 := Aside0.mk (Kd.R_keep HO4.out hk9 (fun k hk => by have := HLR.out.2.2.2.1; omega))
                        have HO9 := Aside0.mk (Kd.R_keep HOR.out hk9 (fun k hk => by have := HLR.out.2.2.2.1; omega))
                        have hc9 : w9.cell? ⟨gl, 14, none⟩ = some (.slice A5 ac5.length c5) := (blk_cell HL9.out.2.1 14).trans rfl
                        clear h1 h2 hk9
                        dsimp only
                        cases hs : rtext B pool q3 with
                        | none =>
                          have HN := Aside0.mk (show readL B = none by rw [HRZ.out, hs]; rfl)
                          have HT := Aside0.mk (rtext_no.calls g B pool q3 w0 _ HL9.out.1.drew hs)
                          clear hs
                          go_wp2_with fail
                          go_region_dies
                          all_goals
                            refine HT.out.mono ?_
                            rintro e w10 ⟨rfl, ⟨_, h1⟩, _⟩
                            dsimp only [wrongP]
                            exact ⟨rfl, locPost.no HN.out h1.bel.1⟩
                        | some t =>
                          obtain ⟨s, q2⟩ := t
                          have HRY := Aside0.mk (show readL B = (rcomps B pool (M5 - (j + 1)) q2 (ac5 ++ [(x, y, s)])).bind fun u => some (mkLoc tag f p acc ac4 u.1) by
                            rw [HRZ.out, hs, show M5 - (j + 1) = k by have := HKK.out; omega]; rfl)
                          have HT := Aside0.mk (rtext_yes.calls g B pool q3 s q2 w0 _ HL9.out.1.drew hs)
                          have HLA := Aside0.mk (show (ac5.length + 1) * 32 ≤ 140737488355328 by have := HAL.out; have := HLT.out; have := HMB5.out; omega)
                          clear hs
                          go_wp2_with fail
                          go_region_law (first | (go_simp; go_at_call 70; refine HT.out.mono ?_; rintro e w10 ⟨rfl, h1, h2⟩; have hk10 := KeepBut.trans (KeepBut.of_below ((Below.refl w9.heap.size w9).drew) g none) h2 (.inl rfl); have HL10 := Aside0.mk (HL9.out.next h1 hk10); have HO10 := Aside0.mk (Kd.R_keep HO9.out hk10 (fun k hk => by have := HLR.out.2.2.2.1; omega)); have HO310 := Aside0.mk (Kd.R_keep HO39.out hk10 (fun k hk => by have := HLR.out.2.2.2.1; omega)); have HO410 := Aside0.mk (Kd.R_keep HO49.out hk10 (fun k hk => by have := HLR.out.2.2.2.1; omega)); have hc10 : w10.cell? ⟨gl, 14, none⟩ = some (.slice A5 ac5.length c5) := (blk_cell HL10.out.2.1 14).trans rfl; have hc10b : (w10.alloc (.cells #[.int .i64 x, .int .i64 y, .string s] 62)).cell? ⟨gl, 14, none⟩ = some (.slice A5 ac5.length c5) := (blk_cell (blk_alloc HL10.out.2.1 _) 14).trans rfl; clear h1 h2 hk10) | (refine step_of_list rfl ?_; refine Kd.R_append Kd.comp (w0 := w10) (gl + 1) rfl (.tmp 117) (.tmp 123) 27 62 (.agg #[.int .i64 0, .int .i64 0, .string ⟨#[]⟩]) 32 rfl Try.underlying27 info62 rfl (by decide) (by omega) (.slice A5 ac5.length c5) ac5 (x, y, s) [.int .i64 x, .int .i64 y, .string s] (fun k => gl + 1 ≤ k) (fun _ => False) rfl rfl ⟨[.int .i64 x], [.int .i64 y, .string s], rfl, rfl, [.int .i64 y], [.string s], rfl, rfl, rfl⟩ (fun _ hk => hk.elim) ?aF HO10.out (Below.refl _ _) (blk_lt HL10.out.2.1) HLA.out ?_; (case aF => exact (fun k hk => by have := blk_lt HL10.out.2.1; omega)); intro v11 w11 ho_ hb_ hg_ _; obtain ⟨A11, c11, hv11⟩ := Kd.R_slice ho_; subst hv11; have HL11 := Aside0.mk (HL10.out.grown HO10.out (by decide) hg_); have HO311 := Aside0.mk (row_grown HO310.out HO10.out (by decide) hg_); have HO411 := Aside0.mk (row_grown HO410.out HO10.out (by decide) hg_); have HO11 := Aside0.mk ho_; have hc11 : w11.cell? ⟨gl, 14, none⟩ = some (.slice A5 ac5.length c5) := (blk_cell HL11.out.2.1 14).trans rfl; have hf11 := blk_frozen HL11.out.2.1 14; clear ho_ hb_ hg_; refine ⟨rfl, ?_⟩) | go_simp)
                          all_goals
                            have e1 : (ac5 ++ [(x, y, s)]).length = ac5.length + 1 := by rw [List.length_append]; rfl
                            have hO12 := HO11.out
                            rw [e1] at hO12
                            have HL12 := Aside0.mk (HL11.out.set (tag' := tag) (f' := f) (p' := p) (v3' := .slice A3 acc.length c3) (v4' := .slice A4 ac4.length c4) (v5' := .slice A11 (ac5.length + 1) c11) 14 (.slice A11 (ac5.length + 1) c11) rfl)
                            have HO12 := Aside0.mk (Kd.R_set hO12 HL11.out.2.1 (t := 29) (by decide) 14 (.slice A11 (ac5.length + 1) c11))
                            have HO312 := Aside0.mk (Kd.R_set HO311.out HL11.out.2.1 (t := 29) (by decide) 14 (.slice A11 (ac5.length + 1) c11))
                            have HO412 := Aside0.mk (Kd.R_set HO411.out HL11.out.2.1 (t := 29) (by decide) 14 (.slice A11 (ac5.length + 1) c11))
                            have HA12 := Aside0.mk (show (ac5 ++ [(x, y, s)]).length = j + 1 by rw [e1, HAL.out])
                            clear e1 hO12
                            go_wp2
                            go_roundg (M5 - (j + 1))
                            case measure => have := HLT.out; have := HKQ.out; omega
                            case rel => exact ⟨j + 1, q2, ac5 ++ [(x, y, s)], _, by have h1 := HLT.out; have h2 := HMB5.out; first | rfl | (congr 1; unfold wrap64; omega), ⟨HLT.out⟩, ⟨rfl⟩, HA12, HL12, HO312, HO412, HO12, HRY⟩
                      · have hj : j = M5 := by have := HJ.out; omega
                        subst hj
                        have HRL13 := Aside0.mk (show readL B = some (mkLoc tag f p acc ac4 ac5) by have := HRJ.out; rw [Nat.sub_self, rcomps] at this; exact this)
                        obtain ⟨A5, c5, hv5⟩ := Kd.R_slice HOR.out
                        subst hv5
                        have HN5 := Aside0.mk (show ac5.length ≤ 65535 by rw [HAL.out]; exact HMB5.out)
                        clear hlt HRJ HKQ HJ HAL
                        obtain ⟨hx0, hx1, hx2, hx3, hx4, hx5, hx6, hx7, hx8, hx9, hx10, hx11, hx12, hx13, hx14⟩ := boxFCells HLR.out.2.1
                        obtain ⟨hy0, hy1, hy2, hy3, hy4, hy5, hy6, hy7, hy8, hy9, hy10, hy11, hy12, hy13, hy14⟩ := boxFCells HLR.out.2.2.1
                        have hfz := fun i => blk_frozen HLR.out.2.2.1 i
                        go_wp2_with fail
                        have hbox := fill_box HLR.out.2.2.1 tag f p (.slice A3 acc.length c3) (.slice A4 ac4.length c4) (.slice A5 ac5.length c5)
                        clear hx0 hx1 hx2 hx3 hx4 hx5 hx6 hx7 hx8 hx9 hx10 hx11 hx12 hx13 hx14 hy0 hy1 hy2 hy3 hy4 hy5 hy6 hy7 hy8 hy9 hy10 hy11 hy12 hy13 hy14 hfz
                        refine bodyPost_ret (results_cell_row rfl _ _ w.heap.size 29 _ (0, 0) _ rfl hbox Try.underlying29 rfl (by kernel_rfl)) rfl ?_
                        have r3 := fill_row (t := 29) (by decide) [.string tag, .int .i32 (f 0), .int .i32 (f 1), .int .i32 (f 2), .int .i32 (f 3), .int .i32 (f 4), .int .i32 (f 5), .int .i32 (f 6), .string (p 0), .string (p 1), .string (p 2), .string (p 3), .slice A3 acc.length c3, .slice A4 ac4.length c4, .slice A5 ac5.length c5] wr 0 _ HLR.out.2.2.1 HO3.out
                        have r4 := fill_row (t := 29) (by decide) [.string tag, .int .i32 (f 0), .int .i32 (f 1), .int .i32 (f 2), .int .i32 (f 3), .int .i32 (f 4), .int .i32 (f 5), .int .i32 (f 6), .string (p 0), .string (p 1), .string (p 2), .string (p 3), .slice A3 acc.length c3, .slice A4 ac4.length c4, .slice A5 ac5.length c5] wr 0 _ HLR.out.2.2.1 HO4.out
                        have r5 := fill_row (t := 29) (by decide) [.string tag, .int .i32 (f 0), .int .i32 (f 1), .int .i32 (f 2), .int .i32 (f 3), .int .i32 (f 4), .int .i32 (f 5), .int .i32 (f 6), .string (p 0), .string (p 1), .string (p 2), .string (p 3), .slice A3 acc.length c3, .slice A4 ac4.length c4, .slice A5 ac5.length c5] wr 0 _ HLR.out.2.2.1 HOR.out
                        have hbel := HLR.out.1.bel
                        have hbf := fill_below (g := w0.heap.size) (r := w.heap.size) (by have := HGL.out; have := hbel.2; omega) [.string tag, .int .i32 (f 0), .int .i32 (f 1), .int .i32 (f 2), .int .i32 (f 3), .int .i32 (f 4), .int .i32 (f 5), .int .i32 (f 6), .string (p 0), .string (p 1), .string (p 2), .string (p 3), .slice A3 acc.length c3, .slice A4 ac4.length c4, .slice A5 ac5.length c5] wr 0 hbel.1
                        refine ⟨fun L hL => ?_, fun hN => (by rw [HRL13.out] at hN; cases hN), hbf⟩
                        rw [HRL13.out] at hL
                        obtain rfl := Option.some.inj hL
                        have hgl : w0.heap.size ≤ gl + 1 := by have := HLR.out.2.2.2; have := hbel.2; omega
                        refine ⟨⟨A3, c3, A4, c4, A5, c5⟩, rfl, ⟨Kd.R_mono (Kd.R_lower r3 hgl) (fun _ _ => trivial), Kd.R_mono (Kd.R_lower r4 hgl) (fun _ _ => trivial), Kd.R_mono (Kd.R_lower r5 hgl) (fun _ _ => trivial), ?_⟩, HN3.out, HN4.out, HN5.out⟩
                        intro y hy
                        simp only [mkLoc, List.mem_cons, List.not_mem_nil, or_false] at hy
                        rcases hy with rfl | rfl | rfl | rfl | rfl | rfl | rfl <;> exact HFR.out _
end Go.Proofs.Ytmhpcjncngonbaa.Q
