/- The law PackNumbers, walked: true for each input of its kinds; no other condition. -/
import Derived.Test.YtmgkfklkdedpgaaShown
import Derived.Test.YtmgkfklkdedpgaaRefTake
import Derived.Test.YtmgkfklkdedpgaaRefPut
import Derived.Test.YtmgkfklkdedpgaaSpecA
namespace Go.Proofs.Ytmgkfklkdedpgaa.Q
open Go.RowKit Go.Proofs.Ytmgkfklkdedpgaa.Mine Go.Proofs.YtmgkfklkdedpgaaW.PrintWords Go.Proofs.YtmgkfklkdedpgaaW.PrintLast Go.Proofs.YtmgkfklkdedpgaaW.PrintMore
set_option linter.unusedVariables false
set_option linter.unusedSimpArgs false
def byteB (l : List Int) : Bool := l.all fun x => decide (0 ≤ x ∧ x < 256)
theorem byteB_ok {l : List Int} (h : byteB l = true) : bytesOk l := fun x hx => by
  have := List.all_eq_true.1 h x hx
  simpa using this
def exerguelaw09_PackNumbers.f (k : Nat) (l0 : List Int) (n s p : Int) : Option Bool :=
  if byteB l0 = true ∧ (0 ≤ n ∧ n < 4294967296) ∧ (-9223372036854775808 ≤ p ∧ p < 9223372036854775808) then some true else none
set_option maxHeartbeats 8000000 in
set_option maxRecDepth 100000 in
theorem exerguelaw09_PackNumbers.calls (k : Nat) (A0 : Option Addr) (c0 : Nat) (l0 : List Int) (n s p : Int) (r : Bool) (w : World) (hr0 : Kd.C (Kd.int .u8) w A0 l0.length l0) (hc0 : l0.length ≤ c0) (h : exerguelaw09_PackNumbers.f k l0 n s p = some r) :
    Calls Try.prog 3 #[.agg #[.slice A0 l0.length c0, .int .u32 n, .int .i64 s, .int .i64 p]] w fun e w' => e = .returned (.bool r) ∧ Below w.heap.size w w' := by
  unfold exerguelaw09_PackNumbers.f at h
  split at h
  case isFalse => cases h
  rename_i hc
  obtain ⟨hby, ⟨hn0, hn1⟩, hp0, hp1⟩ := hc
  obtain rfl := Option.some.inj h
  have hbo := byteB_ok hby
  clear h hby
  have HB0 := Aside0.mk ((Below.refl w.heap.size w).alloc (Nat.le_refl _) (.cells #[.slice A0 l0.length c0, .int .u32 n, .int .i64 s, .int .i64 p] 25))
  have HR0 := Aside0.mk hr0
  have HC0 := Aside0.mk hc0
  have HBO := Aside0.mk hbo
  by_cases hl : l0.length > 1000
  · have hd : decide (1000 < l0.length) = true := decide_eq_true hl
    have hd2 : decide (1000 < (l0.length : Int)) = true := decide_eq_true (by omega)
    clear hr0 hc0 hbo hl
    go_enter Try.func3, Try.ntmps3
    go_wp2_with fail
    refine (shown.calls _).mono ?_
    rintro e w1 ⟨rfl, hb⟩
    have HB1 := Aside0.mk (HB0.out.trans (hb.mono HB0.out.size))
    clear hb
    dsimp only
    go_wp2
    go_ret
    exact ⟨rfl, HB1.out⟩
  have hd : decide (1000 < l0.length) = false := decide_eq_false hl
  have hd2 : decide (1000 < (l0.length : Int)) = false := decide_eq_false (by omega)
  have HL := Aside0.mk (show l0.length ≤ 1000 by omega)
  have HTK := Aside0.mk (fun (W : World) (hW : Kd.C (Kd.int .u8) W A0 l0.length l0) => take.calls A0 c0 l0 p s W hW hc0 hbo hp0 hp1)
  have HRT := Aside0.mk (fun (W : World) (hW : Kd.C (Kd.int .u8) W A0 l0.length l0) => refTake.calls A0 c0 l0 p s W hW hc0 hbo hp0 hp1)
  have HQ := Aside0.mk (show (0 ≤ n ∧ n < 4294967296) from ⟨hn0, hn1⟩)
  generalize takeN l0 p s = t at HTK HRT
  obtain ⟨t1, t2, t3⟩ := t
  clear hr0 hc0 hbo hl hp0 hp1
  cases hp : putsB n s with
  | true =>
    have HP := Aside0.mk hp
    clear hp
    obtain ⟨ys, hys⟩ : ∃ ys, ys = l0 ++ bytesB n s.toNat := ⟨_, rfl⟩
    have HYL := Aside0.mk (show ys.length < 2000 by
      rw [hys, List.length_append, bytesB_len]
      have := isSz_iff.1 (by have := HP.out; simp only [putsB, Bool.and_eq_true] at this; exact this.1 : isSz s = true)
      have := HL.out
      omega)
    have HPY := Aside0.mk (fun W hW => hys ▸ put_yes.calls A0 c0 l0 n s W hW HC0.out (by have := HL.out; omega) HQ.out.1 HQ.out.2 HP.out)
    have HRY := Aside0.mk (fun W hW => hys ▸ refPut_yes.calls A0 c0 l0 n s W hW HC0.out (by have := HL.out; omega) HQ.out.1 HQ.out.2 HP.out)
    have hrow := Row_f (k := 2000) ys ys (by have := HYL.out; omega) HYL.out
    rw [decide_eq_true rfl] at hrow
    have HRW := Aside0.mk hrow
    clear hys hrow
    go_enter Try.func3, Try.ntmps3
    go_wp2_with fail
    refine (shown.calls _).mono ?_
    rintro e w1 ⟨rfl, hb⟩
    have HB1 := Aside0.mk (HB0.out.trans (hb.mono HB0.out.size))
    clear hb
    dsimp only
    go_wp2_with fail
    refine (HPY.out _ (Kd.C_below HR0.out HB1.out)).mono ?_
    rintro e w2 ⟨v2, rfl, ho, hb⟩
    have HB2 := Aside0.mk (HB1.out.trans (hb.mono HB1.out.size))
    obtain ⟨A2, c2, rfl⟩ := Kd.R_slice ho
    have HX := Aside0.mk (Kd.R_reads' ho).2.2
    have HXc := Aside0.mk (Kd.R_reads' ho).2.1
    clear ho hb
    dsimp only
    go_wp2_with fail
    refine (HRY.out _ (Kd.C_below HR0.out HB2.out)).mono ?_
    rintro e w3 ⟨v3, rfl, ho, hb⟩
    have HB3 := Aside0.mk (HB2.out.trans (hb.mono HB2.out.size))
    obtain ⟨A3, c3, rfl⟩ := Kd.R_slice ho
    have HY := Aside0.mk (Kd.R_reads' ho).2.2
    have HYc := Aside0.mk (Kd.R_reads' ho).2.1
    have HX3 := Aside0.mk (Kd.C_below HX.out hb)
    clear ho hb HX
    dsimp only
    go_wp2_with fail
    refine (HTK.out _ (Kd.C_below HR0.out HB3.out)).mono ?_
    rintro e w4 ⟨rfl, rfl⟩
    dsimp only
    go_wp2_with fail
    refine (HRT.out _ (Kd.C_below HR0.out HB3.out)).mono ?_
    rintro e w4 ⟨rfl, rfl⟩
    dsimp only
    have HROW := Aside0.mk (exergueref01_Row.calls _ A2 c2 ys A3 c3 ys true _ HX3.out HXc.out HY.out HYc.out HRW.out)
    go_wp2_with fail
    (with_reducible refine HROW.out.mono ?_)
    rintro e w5 ⟨rfl, ⟨m5, rfl⟩⟩
    dsimp only
    go_wp2
    go_ret
    exact ⟨by first | rfl | (simp; done), pw_below_drewN HB3.out _⟩
  | false =>
    have HP := Aside0.mk hp
    clear hp
    go_enter Try.func3, Try.ntmps3
    go_wp2_with fail
    refine (shown.calls _).mono ?_
    rintro e w1 ⟨rfl, hb⟩
    have HB1 := Aside0.mk (HB0.out.trans (hb.mono HB0.out.size))
    clear hb
    dsimp only
    go_wp2_with fail
    refine (put_no.calls (.slice A0 l0.length c0) n s _ HQ.out.1 HQ.out.2 HP.out).mono ?_
    rintro e w2 ⟨rfl, rfl⟩
    dsimp only
    go_wp2_with fail
    refine (refPut_no.calls A0 c0 l0 n s _ (Kd.C_below HR0.out HB1.out) HC0.out (by have := HL.out; omega) HQ.out.1 HQ.out.2 HP.out).mono ?_
    rintro e w3 ⟨rfl, hb⟩
    have HB3 := Aside0.mk (HB1.out.trans (hb.mono HB1.out.size))
    clear hb
    dsimp only
    go_wp2_with fail
    refine (HTK.out _ (Kd.C_below HR0.out HB3.out)).mono ?_
    rintro e w4 ⟨rfl, rfl⟩
    dsimp only
    go_wp2_with fail
    refine (HRT.out _ (Kd.C_below HR0.out HB3.out)).mono ?_
    rintro e w4 ⟨rfl, rfl⟩
    dsimp only
    have hrow := Row_f (k := l0.length + 1) l0 l0 (by have := HL.out; omega) (Nat.lt_succ_self _)
    rw [decide_eq_true rfl] at hrow
    have HROW := Aside0.mk (exergueref01_Row.calls _ A0 c0 _ A0 c0 _ true _ (Kd.C_below HR0.out HB3.out) HC0.out (Kd.C_below HR0.out HB3.out) HC0.out hrow)
    clear hrow
    go_wp2_with fail
    (with_reducible refine HROW.out.mono ?_)
    rintro e w5 ⟨rfl, ⟨m5, rfl⟩⟩
    dsimp only
    go_wp2
    go_ret
    exact ⟨by first | rfl | (simp; done), pw_below_drewN HB3.out _⟩
end Go.Proofs.Ytmgkfklkdedpgaa.Q
