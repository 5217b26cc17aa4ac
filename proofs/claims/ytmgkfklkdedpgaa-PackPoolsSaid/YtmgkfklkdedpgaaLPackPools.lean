/- The law PackPools, walked: true for each input of its kinds; no other condition. -/
import Derived.Test.YtmgkfklkdedpgaaShown
import Derived.Test.YtmgkfklkdedpgaaSpecA
import Derived.Test.YtmgkfklkdedpgaaPutPool
import Derived.Test.YtmgkfklkdedpgaaTakePool2
import Derived.Test.YtmgkfklkdedpgaaRefPutPool
import Derived.Test.YtmgkfklkdedpgaaRefTakePool
namespace Go.Proofs.Ytmgkfklkdedpgaa.Q
open Go.RowKit Go.Proofs.Ytmgkfklkdedpgaa.Mine Go.Proofs.YtmgkfklkdedpgaaW.PrintWords Go.Proofs.YtmgkfklkdedpgaaW.PrintLast Go.Proofs.YtmgkfklkdedpgaaW.PrintMore
set_option linter.unusedVariables false
set_option linter.unusedSimpArgs false
def wideB (l : List ByteArray) : Bool := decide (l.length < 8796093022208) && l.all fun s => decide (s.size ≤ 140737488351232)
theorem wideB_ok {l : List ByteArray} (h : wideB l = true) : l.length < 8796093022208 ∧ ∀ s ∈ l, s.size ≤ 140737488351232 := by
  unfold wideB at h
  rw [Bool.and_eq_true, decide_eq_true_eq, List.all_eq_true] at h
  exact ⟨h.1, fun s hs => by simpa using h.2 s hs⟩
def byteB (l : List Int) : Bool := l.all fun x => decide (0 ≤ x ∧ x < 256)
theorem byteB_ok {l : List Int} (h : byteB l = true) : bytesOk l := fun x hx => by
  have := List.all_eq_true.1 h x hx
  simpa using this
theorem textsN_len (l : List Int) : ∀ (n : Nat) (p : Int) (acc : List ByteArray) (t : List ByteArray × Int), textsN l n p acc = some t → t.1.length = acc.length + n
  | 0, p, acc, t, h => by rw [textsN] at h; rw [← Option.some.inj h]; rfl
  | n + 1, p, acc, t, h => by
    rw [textsN] at h
    obtain ⟨s, _, h2⟩ := Option.bind_eq_some_iff.1 h
    have := textsN_len l n s.2 (acc ++ [s.1]) t h2
    rw [this, List.length_append, List.length_cons, List.length_nil]
    omega
theorem takePool_len {l : List Int} {p : Int} (hb : bytesOk l) : (takePool l p).1.length < 65536 := by
  unfold takePool
  by_cases h0 : (takeN l p 2).2.2 = 0
  · rw [if_neg (by simpa using h0)]
    obtain ⟨_, _, _, he, hn0, hn1⟩ := takeN_ok hb h0
    have hlt : (takeN l p 2).1.toNat < 65536 := by rw [he]; have : beN ((l.drop p.toNat).take (Int.toNat 2)) < 65536 := hn1; dsimp only; omega
    cases ht : textsN l (takeN l p 2).1.toNat (p + 2) [] with
    | none => simp
    | some t =>
      dsimp only
      split
      · have := textsN_len l _ _ _ _ ht
        simp at this
        show t.1.length < 65536
        omega
      · simp
  · rw [if_pos h0]; simp
def exerguelaw09_PackPools.f (k : Nat) (l0 : List Int) (l1 : List ByteArray) (p : Int) : Option Bool := if wideB l1 = true ∧ byteB l0 = true ∧ (-9223372036854775808 ≤ p ∧ p < 9223372036854775808) then some true else none
set_option maxHeartbeats 8000000 in
set_option maxRecDepth 100000 in
theorem exerguelaw09_PackPools.calls (k : Nat) (A0 : Option Addr) (c0 : Nat) (l0 : List Int) (A1 : Option Addr) (c1 : Nat) (l1 : List ByteArray) (p : Int) (r : Bool) (w : World) (hr0 : Kd.C (Kd.int .u8) w A0 l0.length l0) (hc0 : l0.length ≤ c0) (hr1 : Kd.C Kd.string w A1 l1.length l1) (hc1 : l1.length ≤ c1) (h : exerguelaw09_PackPools.f k l0 l1 p = some r) :
    Calls Try.prog 7 #[.slice A0 l0.length c0, .slice A1 l1.length c1, .int .i64 p] w fun e w' => e = .returned (.bool r) ∧ Below w.heap.size w w' := by
  unfold exerguelaw09_PackPools.f at h
  split at h
  case isFalse => cases h
  rename_i hc
  obtain ⟨hwide, hby, hp0, hp1⟩ := hc
  obtain ⟨hlen, hsz⟩ := wideB_ok hwide
  have hbo := byteB_ok hby
  obtain rfl := Option.some.inj h
  clear h hwide hby
  obtain ⟨b, hb, hbi⟩ := Short_f (k := l1.length + 1) l1 hlen hsz (Nat.lt_succ_self _)
  have HR0 := Aside0.mk hr0
  have HC0 := Aside0.mk hc0
  have HR1 := Aside0.mk hr1
  have HC1 := Aside0.mk hc1
  have HSH := Aside0.mk hb
  clear hb hsz
  cases b with
  | false =>
    clear hbi hr0 hc0 hr1 hc1 hbo hp0 hp1 hlen
    go_enter Try.func7, Try.ntmps7
    go_wp2_with fail
    refine (shown.calls _).mono ?_
    rintro e w1 ⟨rfl, hb⟩
    have HB1 := Aside0.mk hb
    clear hb
    dsimp only
    go_wp2_with fail
    refine (exergueref09_Short.calls _ A1 c1 l1 false _ (Kd.C_below HR1.out HB1.out) HC1.out HSH.out).mono ?_
    rintro e w2 ⟨rfl, ⟨m2, rfl⟩⟩
    dsimp only
    go_wp2
    go_ret
    exact ⟨rfl, pw_below_drewN HB1.out _⟩
  | true =>
    obtain ⟨hl6, _⟩ := hbi rfl
    clear hbi
    by_cases h6 : l0.length > 20000
    · have hd : decide (20000 < l0.length) = true := decide_eq_true h6
      have hd2 : decide (20000 < (l0.length : Int)) = true := decide_eq_true (by omega)
      clear h6 hr0 hc0 hr1 hc1 hbo hp0 hp1 hlen
      go_enter Try.func7, Try.ntmps7
      go_wp2_with fail
      refine (shown.calls _).mono ?_
      rintro e w1 ⟨rfl, hb⟩
      have HB1 := Aside0.mk hb
      clear hb
      dsimp only
      go_wp2_with fail
      refine (exergueref09_Short.calls _ A1 c1 l1 true _ (Kd.C_below HR1.out HB1.out) HC1.out HSH.out).mono ?_
      rintro e w2 ⟨rfl, ⟨m2, rfl⟩⟩
      dsimp only
      go_wp2
      go_ret
      exact ⟨rfl, pw_below_drewN HB1.out _⟩
    · have hd : decide (20000 < l0.length) = false := decide_eq_false h6
      have hd2 : decide (20000 < (l0.length : Int)) = false := decide_eq_false (by omega)
      have H6 := Aside0.mk (show l0.length ≤ 20000 by omega)
      have HTK := Aside0.mk (fun (W : World) (hW : Kd.C (Kd.int .u8) W A0 l0.length l0) => takePool.calls A0 c0 l0 p W hW hc0 hbo hp0 hp1)
      have HRT := Aside0.mk (fun (W : World) (hW : Kd.C (Kd.int .u8) W A0 l0.length l0) => refTakePool.calls 2000 (fun r _ => Pool_f r (by decide)) A0 c0 l0 p W hW hc0 hbo hp0 hp1 (by omega))
      have htl := takePool_len (p := p) hbo
      generalize takePool l0 p = t at HTK HRT htl
      obtain ⟨ts, q, er⟩ := t
      have T1 := Aside0.mk (Texts_f (k := 65537) ts ts (by have : ts.length < 65536 := htl; omega) (by have : ts.length < 65536 := htl; omega))
      rw [decide_eq_true rfl] at T1
      have HL := Aside0.mk hlen
      clear h6 hr0 hc0 hr1 hc1 hbo hp0 hp1 hlen htl hl6
      cases hpl : isPoolB l1 with
      | true =>
        obtain ⟨_, hp5, hp4⟩ := isPoolB_facts hpl
        have hpb := poolBytes_len l1 hp4
        have HPR := Aside0.mk (show exergueref09_Pool.f 2000 l1 = some true by rw [Pool_f l1 (by decide), hpl])
        obtain ⟨ys, hys⟩ : ∃ ys, ys = l0 ++ bytesB l1.length 2 ++ poolBytes l1 := ⟨_, rfl⟩
        have HYL := Aside0.mk (show ys.length < 300000 by
          rw [hys, List.length_append, List.length_append, bytesB_len]
          have := H6.out
          omega)
        have HPY := Aside0.mk (fun W h0 h1 => hys ▸ putPool_yes.calls A0 c0 l0 A1 c1 l1 W h0 HC0.out (by have := H6.out; omega) h1 HC1.out hpl)
        have HRY := Aside0.mk (fun W h0 h1 => hys ▸ refPutPool_yes.calls 2000 A0 c0 l0 A1 c1 l1 W h0 HC0.out (by have := H6.out; omega) h1 HC1.out HPR.out hp5 hp4)
        clear hpb hp5 hp4 hpl hys
        have hrow := Row_f (k := 300000) ys ys (by have := HYL.out; omega) HYL.out
        rw [decide_eq_true rfl] at hrow
        have HRW := Aside0.mk hrow
        clear hrow
        go_enter Try.func7, Try.ntmps7
        go_wp2_with fail
        refine (shown.calls _).mono ?_
        rintro e w1 ⟨rfl, hb⟩
        have HB1 := Aside0.mk hb
        clear hb
        dsimp only
        go_wp2_with fail
        refine (exergueref09_Short.calls _ A1 c1 l1 true _ (Kd.C_below HR1.out HB1.out) HC1.out HSH.out).mono ?_
        rintro e w2 ⟨rfl, ⟨m2, rfl⟩⟩
        have HB2 := Aside0.mk (pw_below_drewN HB1.out m2)
        generalize w1.drewN m2 = w2 at HB2 ⊢
        dsimp only
        go_wp2_with fail
        refine (HPY.out _ (Kd.C_below HR0.out HB2.out) (Kd.C_below HR1.out HB2.out)).mono ?_
        rintro e w3 ⟨v3, rfl, ho, hb⟩
        have HB3 := Aside0.mk (HB2.out.trans (hb.mono HB2.out.size))
        obtain ⟨A3, c3, rfl⟩ := Kd.R_slice ho
        have HX := Aside0.mk (Kd.R_reads' ho).2.2
        have HXc := Aside0.mk (Kd.R_reads' ho).2.1
        clear ho hb
        dsimp only
        go_wp2_with fail
        refine (HRY.out _ (Kd.C_below HR0.out HB3.out) (Kd.C_below HR1.out HB3.out)).mono ?_
        rintro e w4 ⟨v4, rfl, ho, hb⟩
        have HB4 := Aside0.mk (HB3.out.trans (hb.mono HB3.out.size))
        obtain ⟨A4, c4, rfl⟩ := Kd.R_slice ho
        have HY := Aside0.mk (Kd.R_reads' ho).2.2
        have HYc := Aside0.mk (Kd.R_reads' ho).2.1
        have HX4 := Aside0.mk (Kd.C_below HX.out hb)
        clear ho hb HX
        dsimp only
        go_wp2_with fail
        refine (HTK.out _ (Kd.C_below HR0.out HB4.out)).mono ?_
        rintro e w5 ⟨v5, rfl, ho, hb⟩
        have HB5 := Aside0.mk (HB4.out.trans (hb.mono HB4.out.size))
        obtain ⟨A5, c5, rfl⟩ := Kd.R_slice ho
        have HP := Aside0.mk (Kd.R_reads' ho).2.2
        have HPc := Aside0.mk (Kd.R_reads' ho).2.1
        have HX5 := Aside0.mk (Kd.C_below HX4.out hb)
        have HY5 := Aside0.mk (Kd.C_below HY.out hb)
        clear ho hb
        dsimp only
        go_wp2_with fail
        refine (HRT.out _ (Kd.C_below HR0.out HB5.out)).mono ?_
        rintro e w6 ⟨v6, rfl, ho, hb⟩
        have HB6 := Aside0.mk (HB5.out.trans (hb.mono HB5.out.size))
        obtain ⟨A6, c6, rfl⟩ := Kd.R_slice ho
        have HQ := Aside0.mk (Kd.R_reads' ho).2.2
        have HQc := Aside0.mk (Kd.R_reads' ho).2.1
        have HP6 := Aside0.mk (Kd.C_below HP.out hb)
        have HX6 := Aside0.mk (Kd.C_below HX5.out hb)
        have HY6 := Aside0.mk (Kd.C_below HY5.out hb)
        clear ho hb
        dsimp only
        go_wp2_with fail
        (with_reducible refine (exergueref01_Row.calls _ A3 c3 ys A4 c4 ys true _ HX6.out HXc.out HY6.out HYc.out HRW.out).mono ?_)
        rintro e w7 ⟨rfl, ⟨m7, rfl⟩⟩
        dsimp only
        go_wp2_with fail
        (with_reducible refine (exergueref09_Texts.calls _ A5 c5 ts A6 c6 ts true _ (Kd.C_drewN HP6.out _) HPc.out (Kd.C_drewN HQ.out _) HQc.out T1.out).mono ?_)
        rintro e w8 ⟨rfl, ⟨m8, rfl⟩⟩
        dsimp only
        go_wp2
        go_ret
        exact ⟨by first | rfl | (simp; done), pw_below_drewN HB6.out _⟩
      | false =>
        have HPR := Aside0.mk (show exergueref09_Pool.f 2000 l1 = some false by rw [Pool_f l1 (by decide), hpl])
        have HPL := Aside0.mk hpl
        have hrow := Row_f (k := 300000) l0 l0 (by have := H6.out; omega) (by have := H6.out; omega)
        rw [decide_eq_true rfl] at hrow
        have HRW := Aside0.mk hrow
        clear hrow hpl
        go_enter Try.func7, Try.ntmps7
        go_wp2_with fail
        refine (shown.calls _).mono ?_
        rintro e w1 ⟨rfl, hb⟩
        have HB1 := Aside0.mk hb
        clear hb
        dsimp only
        go_wp2_with fail
        refine (exergueref09_Short.calls _ A1 c1 l1 true _ (Kd.C_below HR1.out HB1.out) HC1.out HSH.out).mono ?_
        rintro e w2 ⟨rfl, ⟨m2, rfl⟩⟩
        have HB2 := Aside0.mk (pw_below_drewN HB1.out m2)
        generalize w1.drewN m2 = w2 at HB2 ⊢
        dsimp only
        go_wp2_with fail
        refine (putPool_no.calls (.slice A0 l0.length c0) A1 c1 l1 _ (Kd.C_below HR1.out HB2.out) HC1.out HL.out HPL.out).mono ?_
        rintro e w3 ⟨rfl, hb⟩
        have HB3 := Aside0.mk (HB2.out.trans (hb.mono HB2.out.size))
        clear hb
        dsimp only
        go_wp2_with fail
        refine (refPutPool_no.calls 2000 (.slice A0 l0.length c0) A1 c1 l1 _ (Kd.C_below HR1.out HB3.out) HC1.out HPR.out).mono ?_
        rintro e w4 ⟨rfl, hb⟩
        have HB4 := Aside0.mk (HB3.out.trans (hb.mono HB3.out.size))
        clear hb
        dsimp only
        go_wp2_with fail
        refine (HTK.out _ (Kd.C_below HR0.out HB4.out)).mono ?_
        rintro e w5 ⟨v5, rfl, ho, hb⟩
        have HB5 := Aside0.mk (HB4.out.trans (hb.mono HB4.out.size))
        obtain ⟨A5, c5, rfl⟩ := Kd.R_slice ho
        have HP := Aside0.mk (Kd.R_reads' ho).2.2
        have HPc := Aside0.mk (Kd.R_reads' ho).2.1
        clear ho hb
        dsimp only
        go_wp2_with fail
        refine (HRT.out _ (Kd.C_below HR0.out HB5.out)).mono ?_
        rintro e w6 ⟨v6, rfl, ho, hb⟩
        have HB6 := Aside0.mk (HB5.out.trans (hb.mono HB5.out.size))
        obtain ⟨A6, c6, rfl⟩ := Kd.R_slice ho
        have HQ := Aside0.mk (Kd.R_reads' ho).2.2
        have HQc := Aside0.mk (Kd.R_reads' ho).2.1
        have HP6 := Aside0.mk (Kd.C_below HP.out hb)
        clear ho hb
        dsimp only
        go_wp2_with fail
        (with_reducible refine (exergueref01_Row.calls _ A0 c0 l0 A0 c0 l0 true _ (Kd.C_below HR0.out HB6.out) HC0.out (Kd.C_below HR0.out HB6.out) HC0.out HRW.out).mono ?_)
        rintro e w7 ⟨rfl, ⟨m7, rfl⟩⟩
        dsimp only
        go_wp2_with fail
        (with_reducible refine (exergueref09_Texts.calls _ A5 c5 ts A6 c6 ts true _ (Kd.C_drewN HP6.out _) HPc.out (Kd.C_drewN HQ.out _) HQc.out T1.out).mono ?_)
        rintro e w8 ⟨rfl, ⟨m8, rfl⟩⟩
        dsimp only
        go_wp2
        go_ret
        exact ⟨by first | rfl | (simp; done), pw_below_drewN HB6.out _⟩
end Go.Proofs.Ytmgkfklkdedpgaa.Q
