/- The law PackTexts, walked: true for each input of its kinds; no other condition. -/
import Derived.Test.YtmgkfklkdedpgaaShown
import Derived.Test.YtmgkfklkdedpgaaSpecA
namespace Go.Proofs.Ytmgkfklkdedpgaa.Q
open Go.RowKit Go.Proofs.Ytmgkfklkdedpgaa.Mine Go.Proofs.YtmgkfklkdedpgaaW.PrintWords Go.Proofs.YtmgkfklkdedpgaaW.PrintLast Go.Proofs.YtmgkfklkdedpgaaW.PrintMore
set_option linter.unusedVariables false
set_option linter.unusedSimpArgs false
def wideB (l : List ByteArray) : Bool := decide (l.length < 8796093022208) && l.all fun s => decide (s.size ≤ 140737488351232)
theorem wideB_ok {l : List ByteArray} (h : wideB l = true) : l.length < 8796093022208 ∧ ∀ s ∈ l, s.size ≤ 140737488351232 := by
  unfold wideB at h
  rw [Bool.and_eq_true, decide_eq_true_eq, List.all_eq_true] at h
  exact ⟨h.1, fun s hs => by simpa using h.2 s hs⟩
def exerguelaw09_PackTexts.f (k : Nat) (l0 : List ByteArray) (l1 : List Int) : Option Bool := if wideB l0 = true then some true else none
set_option maxHeartbeats 8000000 in
set_option maxRecDepth 100000 in
theorem exerguelaw09_PackTexts.calls (k : Nat) (A0 : Option Addr) (c0 : Nat) (l0 : List ByteArray) (A1 : Option Addr) (c1 : Nat) (l1 : List Int) (r : Bool) (w : World) (hr0 : Kd.C Kd.string w A0 l0.length l0) (hc0 : l0.length ≤ c0) (hr1 : Kd.C (Kd.int .i64) w A1 l1.length l1) (hc1 : l1.length ≤ c1) (h : exerguelaw09_PackTexts.f k l0 l1 = some r) :
    Calls Try.prog 5 #[.slice A0 l0.length c0, .slice A1 l1.length c1] w fun e w' => e = .returned (.bool r) ∧ Below w.heap.size w w' := by
  unfold exerguelaw09_PackTexts.f at h
  split at h
  case isFalse => cases h
  rename_i hc
  obtain ⟨hlen, hsz⟩ := wideB_ok hc
  obtain rfl := Option.some.inj h
  clear h hc
  obtain ⟨b, hb, hbi⟩ := Short_f (k := l0.length + 1) l0 hlen hsz (Nat.lt_succ_self _)
  have HR0 := Aside0.mk hr0
  have HC0 := Aside0.mk hc0
  have HR1 := Aside0.mk hr1
  have HC1 := Aside0.mk hc1
  have HSH := Aside0.mk hb
  have HB0 := Aside0.mk (Below.refl w.heap.size w)
  clear hr0 hc0 hr1 hc1 hb hsz
  cases b with
  | false =>
    clear hbi
    go_enter Try.func5, Try.ntmps5
    go_wp2_with fail
    refine (shown.calls _).mono ?_
    rintro e w1 ⟨rfl, hb⟩
    have HB1 := Aside0.mk hb
    clear hb
    dsimp only
    go_wp2_with fail
    refine (exergueref09_Short.calls _ A0 c0 l0 false _ (Kd.C_below HR0.out HB1.out) HC0.out HSH.out).mono ?_
    rintro e w2 ⟨rfl, ⟨m2, rfl⟩⟩
    dsimp only
    go_wp2
    go_ret
    exact ⟨rfl, pw_below_drewN HB1.out _⟩
  | true =>
    obtain ⟨hl6, _⟩ := hbi rfl
    clear hbi
    by_cases h6 : l1.length > 600
    · have hd : decide (600 < l1.length) = true := decide_eq_true h6
      have hd2 : decide (600 < (l1.length : Int)) = true := decide_eq_true (by omega)
      clear h6
      go_enter Try.func5, Try.ntmps5
      go_wp2_with fail
      refine (shown.calls _).mono ?_
      rintro e w1 ⟨rfl, hb⟩
      have HB1 := Aside0.mk hb
      clear hb
      dsimp only
      go_wp2_with fail
      refine (exergueref09_Short.calls _ A0 c0 l0 true _ (Kd.C_below HR0.out HB1.out) HC0.out HSH.out).mono ?_
      rintro e w2 ⟨rfl, ⟨m2, rfl⟩⟩
      dsimp only
      go_wp2
      go_ret
      exact ⟨rfl, pw_below_drewN HB1.out _⟩
    · have hd : decide (600 < l1.length) = false := decide_eq_false h6
      have hd2 : decide (600 < (l1.length : Int)) = false := decide_eq_false (by omega)
      have G1 := Aside0.mk (show pack_Gather.f l0 = some (gpool l0, grefs (gpool l0) l0) from if_pos hlen)
      have G2 := Aside0.mk (refGather_f (k := 2 * l0.length + 2) l0 hlen (by omega))
      have S1 := Aside0.mk (Spread_f (k := l1.length + 1) l0 l1 (by omega) (by omega))
      have S2 := Aside0.mk (refSpread_f (k := l1.length + 1) l0 l1 (by omega) (by omega))
      have hpl := gpool_len l0
      have hgl : (grefs (gpool l0) l0).length = l0.length := by simp [grefs]
      generalize grefs (gpool l0) l0 = rs at G1 G2 hgl
      generalize gpool l0 = ps at G1 G2 hpl
      have T1 := Aside0.mk (Texts_f (k := ps.length + 1) ps ps (by omega) (by omega))
      have I1 := Aside0.mk (Ints_f (k := rs.length + 1) rs rs (by omega) (by omega))
      have hsl : (spreadN l0 l1).1.length ≤ l1.length := by unfold spreadN; split <;> simp
      generalize spreadN l0 l1 = t at S1 S2 hsl
      obtain ⟨xs, er⟩ := t
      have T2 := Aside0.mk (Texts_f (k := xs.length + 1) xs xs (by have : xs.length ≤ l1.length := hsl; omega) (by omega))
      rw [decide_eq_true rfl] at T1 I1 T2
      clear h6 hlen hl6 hpl hgl hsl
      go_enter Try.func5, Try.ntmps5
      go_wp2_with fail
      refine (shown.calls _).mono ?_
      rintro e w1 ⟨rfl, hb⟩
      have HB1 := Aside0.mk hb
      clear hb
      dsimp only
      go_wp2_with fail
      refine (exergueref09_Short.calls _ A0 c0 l0 true _ (Kd.C_below HR0.out HB1.out) HC0.out HSH.out).mono ?_
      rintro e w2 ⟨rfl, ⟨m2, rfl⟩⟩
      have HB2 := Aside0.mk (pw_below_drewN HB1.out m2)
      generalize w1.drewN m2 = w2 at HB2 ⊢
      dsimp only
      go_wp2_with fail
      refine (pack_Gather.calls A0 c0 l0 ps rs _ (Kd.C_below HR0.out HB2.out) HC0.out G1.out).mono ?_
      rintro e w3 ⟨v1, v2, rfl, ho, hi, hb⟩
      obtain ⟨A3, c3, rfl⟩ := Kd.R_slice ho
      obtain ⟨A4, c4, rfl⟩ := Kd.R_slice hi
      have HP := Aside0.mk (Kd.R_reads' ho).2.2
      have HPc := Aside0.mk (Kd.R_reads' ho).2.1
      have HI := Aside0.mk (Kd.R_reads' hi).2.2
      have HIc := Aside0.mk (Kd.R_reads' hi).2.1
      have HB3 := Aside0.mk (HB2.out.trans (hb.mono HB2.out.size))
      clear ho hi hb
      dsimp only
      go_wp2_with fail
      refine (exergueref09_Gather.calls _ A0 c0 l0 ps rs _ (Kd.C_below HR0.out HB3.out) HC0.out G2.out).mono ?_
      rintro e w4 ⟨v3, v4, rfl, ho, hi, hb⟩
      obtain ⟨A5, c5, rfl⟩ := Kd.R_slice ho
      obtain ⟨A6, c6, rfl⟩ := Kd.R_slice hi
      have HQ := Aside0.mk (Kd.R_reads' ho).2.2
      have HQc := Aside0.mk (Kd.R_reads' ho).2.1
      have HJ := Aside0.mk (Kd.R_reads' hi).2.2
      have HJc := Aside0.mk (Kd.R_reads' hi).2.1
      have HP4 := Aside0.mk (Kd.C_below HP.out hb)
      have HI4 := Aside0.mk (Kd.C_below HI.out hb)
      have HB4 := Aside0.mk (HB3.out.trans (hb.mono HB3.out.size))
      clear ho hi hb HP HI
      dsimp only
      go_wp2_with fail
      refine (pack_Spread.calls _ A0 c0 l0 A1 c1 l1 xs er _ (Kd.C_below HR0.out HB4.out) HC0.out (Kd.C_below HR1.out HB4.out) HC1.out S1.out).mono ?_
      rintro e w5 ⟨v5, rfl, ho, hb⟩
      obtain ⟨A7, c7, rfl⟩ := Kd.R_slice ho
      have HX := Aside0.mk (Kd.R_reads' ho).2.2
      have HXc := Aside0.mk (Kd.R_reads' ho).2.1
      have HP5 := Aside0.mk (Kd.C_below HP4.out hb)
      have HI5 := Aside0.mk (Kd.C_below HI4.out hb)
      have HQ5 := Aside0.mk (Kd.C_below HQ.out hb)
      have HJ5 := Aside0.mk (Kd.C_below HJ.out hb)
      have HB5 := Aside0.mk (HB4.out.trans (hb.mono HB4.out.size))
      clear ho hb HP4 HI4 HQ HJ
      dsimp only
      go_wp2_with fail
      refine (exergueref09_Spread.calls _ A0 c0 l0 A1 c1 l1 xs er _ (Kd.C_below HR0.out HB5.out) HC0.out (Kd.C_below HR1.out HB5.out) HC1.out S2.out).mono ?_
      rintro e w6 ⟨v6, rfl, ho, hb⟩
      obtain ⟨A8, c8, rfl⟩ := Kd.R_slice ho
      have HY := Aside0.mk (Kd.R_reads' ho).2.2
      have HYc := Aside0.mk (Kd.R_reads' ho).2.1
      have HP6 := Aside0.mk (Kd.C_below HP5.out hb)
      have HI6 := Aside0.mk (Kd.C_below HI5.out hb)
      have HQ6 := Aside0.mk (Kd.C_below HQ5.out hb)
      have HJ6 := Aside0.mk (Kd.C_below HJ5.out hb)
      have HX6 := Aside0.mk (Kd.C_below HX.out hb)
      have HB6 := Aside0.mk (HB5.out.trans (hb.mono HB5.out.size))
      clear ho hb HP5 HI5 HQ5 HJ5 HX
      dsimp only
      go_wp2_with fail
      (with_reducible refine (exergueref09_Texts.calls _ A3 c3 ps A5 c5 ps true _ HP6.out HPc.out HQ6.out HQc.out T1.out).mono ?_)
      rintro e w7 ⟨rfl, ⟨m7, rfl⟩⟩
      dsimp only
      go_wp2_with fail
      (with_reducible refine (exergueref09_Ints.calls _ A4 c4 rs A6 c6 rs true _ (Kd.C_drewN HI6.out _) HIc.out (Kd.C_drewN HJ6.out _) HJc.out I1.out).mono ?_)
      rintro e w8 ⟨rfl, ⟨m8, rfl⟩⟩
      dsimp only
      go_wp2_with fail
      (with_reducible refine (exergueref09_Texts.calls _ A7 c7 xs A8 c8 xs true _ (Kd.C_drewN HX6.out _) HXc.out (Kd.C_drewN HY.out _) HYc.out T2.out).mono ?_)
      rintro e w9 ⟨rfl, ⟨m9, rfl⟩⟩
      dsimp only
      go_wp2
      go_ret
      exact ⟨by first | rfl | (simp; done), pw_below_drewN HB6.out _⟩
end Go.Proofs.Ytmgkfklkdedpgaa.Q
