/- The law PackTaken, walked: true for each input of its kinds; no other condition. -/
import Derived.Test.YtmgkfklkdedpgaaShown
import Derived.Test.YtmgkfklkdedpgaaSpecA
import Derived.Test.YtmgkfklkdedpgaaSpecB
namespace Go.Proofs.Ytmgkfklkdedpgaa.Q
open Go.RowKit Go.Proofs.Ytmgkfklkdedpgaa.Mine Go.Proofs.YtmgkfklkdedpgaaW.PrintWords Go.Proofs.YtmgkfklkdedpgaaW.PrintLast Go.Proofs.YtmgkfklkdedpgaaW.PrintMore
set_option linter.unusedVariables false
set_option linter.unusedSimpArgs false
def byteB (l : List Int) : Bool := l.all fun x => decide (0 ≤ x ∧ x < 256)
theorem byteB_ok {l : List Int} (h : byteB l = true) : bytesOk l := fun x hx => by
  have := List.all_eq_true.1 h x hx
  simpa using this
theorem cut_slc (A0 : Option Addr) (c0 : Nat) (l0 : List Int) (a b : Int) (h0 : 0 ≤ a) (h1 : a ≤ b) (h2 : b ≤ l0.length) (hc : l0.length ≤ c0) :
    ∃ (A' : Option Addr) (c' : Nat), (∀ W : World, (Instr.slice 22 (.slice A0 l0.length c0) (some (.int .i64 a)) (some (.int .i64 b)) none).run Try.prog W = .ok (.slice A' (slc l0 a b).length c') W) ∧ (∀ W : World, (Kd.int .u8).C W A0 l0.length l0 → (Kd.int .u8).C W A' (slc l0 a b).length (slc l0 a b)) ∧ (slc l0 a b).length ≤ c' := by
  obtain ⟨i0, hi0, hz0, hz1, _⟩ := info_parts info5
  have hcut := cut_mid (P := Try.prog) 22 5 .i64 .i64 Try.underlying22 hi0 1 hz1 A0 l0.length c0 a b h0 h1 h2 hc
  have hlen : (slc l0 a b).length = b.toNat - a.toNat := by unfold slc; rw [List.length_drop, List.length_take]; omega
  refine ⟨_, _, fun W => by rw [hlen]; exact hcut W, fun W hW => ?_, by rw [hlen]; omega⟩
  have hC := Kd.C_mid (lo := a.toNat) (hi := b.toNat) (c := c0) hW (by omega) (by omega) hc
  exact hC
def exerguelaw09_PackTaken.f (k : Nat) (l0 : List Int) (p s : Int) : Option Bool := if byteB l0 = true ∧ (-9223372036854775808 ≤ p ∧ p < 9223372036854775808) then some true else none
set_option maxHeartbeats 8000000 in
set_option maxRecDepth 100000 in
theorem exerguelaw09_PackTaken.calls (k : Nat) (A0 : Option Addr) (c0 : Nat) (l0 : List Int) (p s : Int) (r : Bool) (w : World) (hr0 : Kd.C (Kd.int .u8) w A0 l0.length l0) (hc0 : l0.length ≤ c0) (h : exerguelaw09_PackTaken.f k l0 p s = some r) :
    Calls Try.prog 8 #[.slice A0 l0.length c0, .int .i64 p, .int .i64 s] w fun e w' => e = .returned (.bool r) ∧ Below w.heap.size w w' := by
  unfold exerguelaw09_PackTaken.f at h
  split at h
  case isFalse => cases h
  rename_i hc
  obtain ⟨hby, hp0, hp1⟩ := hc
  have hbo := byteB_ok hby
  obtain rfl := Option.some.inj h
  clear h hby
  have HR0 := Aside0.mk hr0
  have HC0 := Aside0.mk hc0
  by_cases h6 : l0.length > 20000
  · have hd : decide (20000 < l0.length) = true := decide_eq_true h6
    have hd2 : decide (20000 < (l0.length : Int)) = true := decide_eq_true (by omega)
    clear h6 hr0 hc0 hbo hp0 hp1
    go_enter Try.func8, Try.ntmps8
    go_wp2_with fail
    refine (shown.calls _).mono ?_
    rintro e w1 ⟨rfl, hb⟩
    have HB1 := Aside0.mk hb
    clear hb
    dsimp only
    go_wp2
    go_ret
    exact ⟨rfl, HB1.out⟩
  have hd : decide (20000 < l0.length) = false := decide_eq_false h6
  have hd2 : decide (20000 < (l0.length : Int)) = false := decide_eq_false (by omega)
  have H6 := Aside0.mk (show l0.length ≤ 20000 by omega)
  have HTK := Aside0.mk (fun (W : World) (hW : Kd.C (Kd.int .u8) W A0 l0.length l0) => take.calls A0 c0 l0 p s W hW hc0 hbo hp0 hp1)
  have HPK := Aside0.mk (fun (W : World) (hW : Kd.C (Kd.int .u8) W A0 l0.length l0) => takePool.calls A0 c0 l0 p W hW hc0 hbo hp0 hp1)
  by_cases ht : (takeN l0 p s).2.2 = 0
  · obtain ⟨ha0, hs1, hs4, hle, hto, ⟨hn0, hn1⟩, hput, hys⟩ := takeN_put hbo ht
    obtain ⟨A2, c2, hcut, hcutC, hcutc⟩ := cut_slc A0 c0 l0 p (p + s) ha0 (by omega) hle hc0
    rw [show takeN l0 p s = ((takeN l0 p s).1, p + s, 0) by rw [← hto, ← ht]] at HTK
    have HPY := Aside0.mk (fun W => put_yes.calls none 0 [] (takeN l0 p s).1 s W (Kd.C_nil _ _) (Nat.le_refl _) (by decide) hn0 hn1 hput)
    rw [hys, List.nil_append] at HPY
    have hyl := slc_len (l := l0) ha0 (show p ≤ p + s by omega) hle
    generalize slc l0 p (p + s) = ys at HPY hcut hcutC hcutc hyl
    generalize (takeN l0 p s).1 = n at HTK HPY hn0 hn1
    have HROW := Row_f (k := 10) ys ys (by omega) (by omega)
    rw [decide_eq_true rfl] at HROW
    have HRW := Aside0.mk HROW
    have HCC := Aside0.mk hcutC
    have HCc := Aside0.mk hcutc
    have hd3 : decide ((l0.length : Int) < p + s) = false := decide_eq_false (by omega)
    have hw : wrap64 (p + s) = p + s := wr (by omega) (by have := H6.out; omega)
    clear HROW hcutC hcutc hys hput hto ht hyl
    by_cases hk : (takePool l0 p).2.2 = 0
    · obtain ⟨hpl, hq0, hq1, hq2, hzs⟩ := takePool_put hbo hk
      obtain ⟨A7, c7, hcut7, hcutC7, hcutc7⟩ := cut_slc A0 c0 l0 p (takePool l0 p).2.1 hq0 hq1 hq2 hc0
      have hzl := slc_len (l := l0) hq0 hq1 hq2
      obtain ⟨_, hp5, _⟩ := isPoolB_facts hpl
      rw [hk] at HPK
      have HPP := Aside0.mk (fun W (A : Option Addr) (c : Nat) (hA : Kd.C Kd.string W A (takePool l0 p).1.length (takePool l0 p).1) (hc : (takePool l0 p).1.length ≤ c) => putPool_yes.calls none 0 [] A c (takePool l0 p).1 W (Kd.C_nil _ _) (Nat.le_refl _) (by decide) hA hc hpl)
      rw [List.nil_append, hzs] at HPP
      generalize slc l0 p (takePool l0 p).2.1 = zs at HPP hcut7 hcutC7 hcutc7 hzl
      generalize (takePool l0 p).2.1 = q at HPK hq1 hq2 hcut7 hzl
      generalize (takePool l0 p).1 = ts at HPK HPP
      have HROW7 := Row_f (k := 20001) zs zs (by have := H6.out; omega) (by have := H6.out; omega)
      rw [decide_eq_true rfl] at HROW7
      have HRW7 := Aside0.mk HROW7
      have HCC7 := Aside0.mk hcutC7
      have HCc7 := Aside0.mk hcutc7
      have hd7 : decide (p ≤ q) = true := decide_eq_true hq1
      have hd8 : decide (q ≤ (l0.length : Int)) = true := decide_eq_true hq2
      clear HROW7 hcutC7 hcutc7 hzs hpl hk hzl hp5
      clear hr0 hc0 hbo h6
      go_enter Try.func8, Try.ntmps8
      go_wp2_with fail
      refine (shown.calls _).mono ?_
      rintro e w1 ⟨rfl, hb⟩
      have HB1 := Aside0.mk hb
      clear hb
      dsimp only
      go_wp2_with fail
      refine (HTK.out _ (Kd.C_below HR0.out HB1.out)).mono ?_
      rintro e w2 ⟨rfl, rfl⟩
      dsimp only
      go_wp2_with fail
      refine (HPY.out _).mono ?_
      rintro e w3 ⟨v3, rfl, ho, hb⟩
      have HB3 := Aside0.mk (HB1.out.trans (hb.mono HB1.out.size))
      obtain ⟨A3, c3, rfl⟩ := Kd.R_slice ho
      have HX := Aside0.mk (Kd.R_reads' ho).2.2
      have HXc := Aside0.mk (Kd.R_reads' ho).2.1
      clear ho hb
      dsimp only
      go_wp2_with fail
      (with_reducible refine (exergueref01_Row.calls _ A3 c3 ys A2 c2 ys true _ HX.out HXc.out (HCC.out _ (Kd.C_below HR0.out HB3.out)) HCc.out HRW.out).mono ?_)
      rintro e w4 ⟨rfl, ⟨m4, rfl⟩⟩
      have HB4 := Aside0.mk (pw_below_drewN HB3.out m4)
      generalize w3.drewN m4 = w4 at HB4 ⊢
      dsimp only
      go_wp2_with fail
      refine (HPK.out _ (Kd.C_below HR0.out HB4.out)).mono ?_
      rintro e w5 ⟨v5, rfl, ho, hb⟩
      have HB5 := Aside0.mk (HB4.out.trans (hb.mono HB4.out.size))
      obtain ⟨A5, c5, rfl⟩ := Kd.R_slice ho
      have HP := Aside0.mk (Kd.R_reads' ho).2.2
      have HPc := Aside0.mk (Kd.R_reads' ho).2.1
      clear ho hb
      dsimp only
      go_wp2_with fail
      refine (HPP.out _ A5 c5 HP.out HPc.out).mono ?_
      rintro e w6 ⟨v6, rfl, ho, hb⟩
      have HB6 := Aside0.mk (HB5.out.trans (hb.mono HB5.out.size))
      obtain ⟨A6, c6, rfl⟩ := Kd.R_slice ho
      have HZ := Aside0.mk (Kd.R_reads' ho).2.2
      have HZc := Aside0.mk (Kd.R_reads' ho).2.1
      clear ho hb
      dsimp only
      go_wp2_with fail
      (with_reducible refine (exergueref01_Row.calls _ A6 c6 zs A7 c7 zs true _ HZ.out HZc.out (HCC7.out _ (Kd.C_below HR0.out HB6.out)) HCc7.out HRW7.out).mono ?_)
      rintro e w7 ⟨rfl, ⟨m7, rfl⟩⟩
      dsimp only
      go_wp2
      go_ret
      exact ⟨by first | rfl | (simp; done), pw_below_drewN HB6.out _⟩
    · obtain ⟨hk1, hk2⟩ := takePool_not hk
      rw [hk1, hk2] at HPK
      have hb7 : ((takePool l0 p).2.2 == 0) = false := beq_eq_false_iff_ne.2 hk
      have hb8 : ((takePool l0 p).2.2 != 0) = true := bne_iff_ne.2 hk
      generalize (takePool l0 p).2.2 = g at HPK hb7 hb8
      clear hk hk1 hk2
      clear hr0 hc0 hbo h6
      go_enter Try.func8, Try.ntmps8
      go_wp2_with fail
      refine (shown.calls _).mono ?_
      rintro e w1 ⟨rfl, hb⟩
      have HB1 := Aside0.mk hb
      clear hb
      dsimp only
      go_wp2_with fail
      refine (HTK.out _ (Kd.C_below HR0.out HB1.out)).mono ?_
      rintro e w2 ⟨rfl, rfl⟩
      dsimp only
      go_wp2_with fail
      refine (HPY.out _).mono ?_
      rintro e w3 ⟨v3, rfl, ho, hb⟩
      have HB3 := Aside0.mk (HB1.out.trans (hb.mono HB1.out.size))
      obtain ⟨A3, c3, rfl⟩ := Kd.R_slice ho
      have HX := Aside0.mk (Kd.R_reads' ho).2.2
      have HXc := Aside0.mk (Kd.R_reads' ho).2.1
      clear ho hb
      dsimp only
      go_wp2_with fail
      (with_reducible refine (exergueref01_Row.calls _ A3 c3 ys A2 c2 ys true _ HX.out HXc.out (HCC.out _ (Kd.C_below HR0.out HB3.out)) HCc.out HRW.out).mono ?_)
      rintro e w4 ⟨rfl, ⟨m4, rfl⟩⟩
      have HB4 := Aside0.mk (pw_below_drewN HB3.out m4)
      generalize w3.drewN m4 = w4 at HB4 ⊢
      dsimp only
      go_wp2_with fail
      refine (HPK.out _ (Kd.C_below HR0.out HB4.out)).mono ?_
      rintro e w5 ⟨v5, rfl, ho, hb⟩
      have HB5 := Aside0.mk (HB4.out.trans (hb.mono HB4.out.size))
      obtain ⟨A5, c5, rfl⟩ := Kd.R_slice ho
      have HP := Aside0.mk (Kd.R_reads' ho).2.2
      have HPc := Aside0.mk (Kd.R_reads' ho).2.1
      clear ho hb
      dsimp only
      go_wp2
      go_ret
      exact ⟨by first | rfl | (simp; done), HB5.out⟩
  · have HTN := Aside0.mk (takeN_no ht)
    have hb3 : ((takeN l0 p s).2.2 == 0) = false := beq_eq_false_iff_ne.2 ht
    have hb4 : ((takeN l0 p s).2.2 != 0) = true := bne_iff_ne.2 ht
    rw [takeN_no ht] at HTK
    dsimp only at HTK
    generalize (takeN l0 p s).2.2 = t3 at HTK hb3 hb4
    clear ht HTN
    by_cases hk : (takePool l0 p).2.2 = 0
    · obtain ⟨hpl, hq0, hq1, hq2, hzs⟩ := takePool_put hbo hk
      obtain ⟨A7, c7, hcut7, hcutC7, hcutc7⟩ := cut_slc A0 c0 l0 p (takePool l0 p).2.1 hq0 hq1 hq2 hc0
      have hzl := slc_len (l := l0) hq0 hq1 hq2
      obtain ⟨_, hp5, _⟩ := isPoolB_facts hpl
      rw [hk] at HPK
      have HPP := Aside0.mk (fun W (A : Option Addr) (c : Nat) (hA : Kd.C Kd.string W A (takePool l0 p).1.length (takePool l0 p).1) (hc : (takePool l0 p).1.length ≤ c) => putPool_yes.calls none 0 [] A c (takePool l0 p).1 W (Kd.C_nil _ _) (Nat.le_refl _) (by decide) hA hc hpl)
      rw [List.nil_append, hzs] at HPP
      generalize slc l0 p (takePool l0 p).2.1 = zs at HPP hcut7 hcutC7 hcutc7 hzl
      generalize (takePool l0 p).2.1 = q at HPK hq1 hq2 hcut7 hzl
      generalize (takePool l0 p).1 = ts at HPK HPP
      have HROW7 := Row_f (k := 20001) zs zs (by have := H6.out; omega) (by have := H6.out; omega)
      rw [decide_eq_true rfl] at HROW7
      have HRW7 := Aside0.mk HROW7
      have HCC7 := Aside0.mk hcutC7
      have HCc7 := Aside0.mk hcutc7
      have hd7 : decide (p ≤ q) = true := decide_eq_true hq1
      have hd8 : decide (q ≤ (l0.length : Int)) = true := decide_eq_true hq2
      clear HROW7 hcutC7 hcutc7 hzs hpl hk hzl hp5
      clear hr0 hc0 hbo h6
      go_enter Try.func8, Try.ntmps8
      go_wp2_with fail
      refine (shown.calls _).mono ?_
      rintro e w1 ⟨rfl, hb⟩
      have HB1 := Aside0.mk hb
      clear hb
      dsimp only
      go_wp2_with fail
      refine (HTK.out _ (Kd.C_below HR0.out HB1.out)).mono ?_
      rintro e w2 ⟨rfl, rfl⟩
      dsimp only
      go_wp2_with fail
      have HB4 := HB1
      refine (HPK.out _ (Kd.C_below HR0.out HB4.out)).mono ?_
      rintro e w5 ⟨v5, rfl, ho, hb⟩
      have HB5 := Aside0.mk (HB4.out.trans (hb.mono HB4.out.size))
      obtain ⟨A5, c5, rfl⟩ := Kd.R_slice ho
      have HP := Aside0.mk (Kd.R_reads' ho).2.2
      have HPc := Aside0.mk (Kd.R_reads' ho).2.1
      clear ho hb
      dsimp only
      go_wp2_with fail
      refine (HPP.out _ A5 c5 HP.out HPc.out).mono ?_
      rintro e w6 ⟨v6, rfl, ho, hb⟩
      have HB6 := Aside0.mk (HB5.out.trans (hb.mono HB5.out.size))
      obtain ⟨A6, c6, rfl⟩ := Kd.R_slice ho
      have HZ := Aside0.mk (Kd.R_reads' ho).2.2
      have HZc := Aside0.mk (Kd.R_reads' ho).2.1
      clear ho hb
      dsimp only
      go_wp2_with fail
      (with_reducible refine (exergueref01_Row.calls _ A6 c6 zs A7 c7 zs true _ HZ.out HZc.out (HCC7.out _ (Kd.C_below HR0.out HB6.out)) HCc7.out HRW7.out).mono ?_)
      rintro e w7 ⟨rfl, ⟨m7, rfl⟩⟩
      dsimp only
      go_wp2
      go_ret
      exact ⟨by first | rfl | (simp; done), pw_below_drewN HB6.out _⟩
    · obtain ⟨hk1, hk2⟩ := takePool_not hk
      rw [hk1, hk2] at HPK
      have hb7 : ((takePool l0 p).2.2 == 0) = false := beq_eq_false_iff_ne.2 hk
      have hb8 : ((takePool l0 p).2.2 != 0) = true := bne_iff_ne.2 hk
      generalize (takePool l0 p).2.2 = g at HPK hb7 hb8
      clear hk hk1 hk2
      clear hr0 hc0 hbo h6
      go_enter Try.func8, Try.ntmps8
      go_wp2_with fail
      refine (shown.calls _).mono ?_
      rintro e w1 ⟨rfl, hb⟩
      have HB1 := Aside0.mk hb
      clear hb
      dsimp only
      go_wp2_with fail
      refine (HTK.out _ (Kd.C_below HR0.out HB1.out)).mono ?_
      rintro e w2 ⟨rfl, rfl⟩
      dsimp only
      go_wp2_with fail
      have HB4 := HB1
      refine (HPK.out _ (Kd.C_below HR0.out HB4.out)).mono ?_
      rintro e w5 ⟨v5, rfl, ho, hb⟩
      have HB5 := Aside0.mk (HB4.out.trans (hb.mono HB4.out.size))
      obtain ⟨A5, c5, rfl⟩ := Kd.R_slice ho
      have HP := Aside0.mk (Kd.R_reads' ho).2.2
      have HPc := Aside0.mk (Kd.R_reads' ho).2.1
      clear ho hb
      dsimp only
      go_wp2
      go_ret
      exact ⟨by first | rfl | (simp; done), HB5.out⟩
end Go.Proofs.Ytmgkfklkdedpgaa.Q
