/- The law PackSpreads, walked: true for each input of its kinds; no other condition. -/
import Derived.Test.YtmgkfklkdedpgaaShown
import Derived.Test.YtmgkfklkdedpgaaSpecA
namespace Go.Proofs.Ytmgkfklkdedpgaa.Q
open Go.RowKit Go.Proofs.Ytmgkfklkdedpgaa.Mine Go.Proofs.YtmgkfklkdedpgaaW.PrintWords Go.Proofs.YtmgkfklkdedpgaaW.PrintLast Go.Proofs.YtmgkfklkdedpgaaW.PrintMore
set_option linter.unusedVariables false
set_option linter.unusedSimpArgs false
def wideB (l : List ByteArray) : Bool := decide (l.length < 8796093022208) && l.all fun s => decide (s.size ≤ 140737488351232)
theorem wideB_ok {l : List ByteArray} (h : wideB l = true) : l.length < 8796093022208 ∧ ∀ s ∈ l, s.size ≤ 140737488351232 := by
  unfold wideB at h
  rw [Bool.and_eq_true, decide_eq_true_eq, List.all_eq_true] at h
  exact ⟨h.1, fun s hs => by simpa using h.2 s hs⟩
def inR (l : List ByteArray) (x : Int) : Bool := decide (0 ≤ x ∧ x < l.length)
theorem all_snoc {l : List ByteArray} {r : List Int} {n : Nat} (h : n < r.length) : (r.take (n + 1)).all (inR l) = ((r.take n).all (inR l) && inR l r[n]) := by
  rw [List.take_succ_eq_append_getElem h, List.all_append]
  simp
def exerguelaw09_PackSpreads.f (k : Nat) (l0 : List ByteArray) (l1 : List Int) : Option Bool := if wideB l0 = true then some true else none
set_option maxHeartbeats 8000000 in
set_option maxRecDepth 100000 in
theorem exerguelaw09_PackSpreads.calls (k : Nat) (A0 : Option Addr) (c0 : Nat) (l0 : List ByteArray) (A1 : Option Addr) (c1 : Nat) (l1 : List Int) (r : Bool) (w : World) (hr0 : Kd.C Kd.string w A0 l0.length l0) (hc0 : l0.length ≤ c0) (hr1 : Kd.C (Kd.int .i64) w A1 l1.length l1) (hc1 : l1.length ≤ c1) (h : exerguelaw09_PackSpreads.f k l0 l1 = some r) :
    Calls Try.prog 6 #[.slice A0 l0.length c0, .slice A1 l1.length c1] w fun e w' => e = .returned (.bool r) ∧ Below w.heap.size w w' := by
  unfold exerguelaw09_PackSpreads.f at h
  split at h
  case isFalse => cases h
  rename_i hc
  obtain ⟨hlen, hsz⟩ := wideB_ok hc
  obtain rfl := Option.some.inj h
  clear h hc
  obtain ⟨b, hb, hbi⟩ := Short_f (k := l0.length + 1) l0 hlen hsz (Nat.lt_succ_self _)
  have HR0 := Aside0.mk hr0
  have HC0 := Aside0.mk hc0
  have HR1 := Aside0.mk hr1
  have HC1 := Aside0.mk hc1
  have HSH := Aside0.mk hb
  have HB0 := Aside0.mk (Below.refl w.heap.size w)
  clear hr0 hc0 hr1 hc1 hb hsz
  cases b with
  | false =>
    clear hbi
    go_enter Try.func6, Try.ntmps6
    go_wp2_with fail
    refine (shown.calls _).mono ?_
    rintro e w1 ⟨rfl, hb⟩
    have HB1 := Aside0.mk hb
    clear hb
    dsimp only
    go_wp2_with fail
    refine (exergueref09_Short.calls _ A0 c0 l0 false _ (Kd.C_below HR0.out HB1.out) HC0.out HSH.out).mono ?_
    rintro e w2 ⟨rfl, ⟨m2, rfl⟩⟩
    dsimp only
    go_wp2
    go_ret
    exact ⟨rfl, pw_below_drewN HB1.out _⟩
  | true =>
    obtain ⟨hl6, _⟩ := hbi rfl
    clear hbi
    by_cases h6 : l1.length > 600
    · have hd : decide (600 < l1.length) = true := decide_eq_true h6
      have hd2 : decide (600 < (l1.length : Int)) = true := decide_eq_true (by omega)
      clear h6
      go_enter Try.func6, Try.ntmps6
      go_wp2_with fail
      refine (shown.calls _).mono ?_
      rintro e w1 ⟨rfl, hb⟩
      have HB1 := Aside0.mk hb
      clear hb
      dsimp only
      go_wp2_with fail
      refine (exergueref09_Short.calls _ A0 c0 l0 true _ (Kd.C_below HR0.out HB1.out) HC0.out HSH.out).mono ?_
      rintro e w2 ⟨rfl, ⟨m2, rfl⟩⟩
      dsimp only
      go_wp2
      go_ret
      exact ⟨rfl, pw_below_drewN HB1.out _⟩
    · have hd : decide (600 < l1.length) = false := decide_eq_false h6
      have hd2 : decide (600 < (l1.length : Int)) = false := decide_eq_false (by omega)
      have S1 := Aside0.mk (Spread_f (k := l1.length + 1) l0 l1 (by omega) (by omega))
      have HSP := Aside0.mk (show spreadN l0 l1 = if l1.all (inR l0) = true then (l1.map (rdOf ByteArray.empty l0), 0) else ([], 7) from rfl)
      generalize spreadN l0 l1 = t at S1 HSP
      obtain ⟨xs, er⟩ := t
      have H6 := Aside0.mk (show l1.length ≤ 600 by omega)
      have HL := Aside0.mk (show l0.length < 8796093022208 from hlen)
      clear h6 hlen hl6
      go_enter Try.func6, Try.ntmps6
      go_wp2_with fail
      refine (shown.calls _).mono ?_
      rintro e w1 ⟨rfl, hb⟩
      have HB1 := Aside0.mk hb
      clear hb
      dsimp only
      go_wp2_with fail
      refine (exergueref09_Short.calls _ A0 c0 l0 true _ (Kd.C_below HR0.out HB1.out) HC0.out HSH.out).mono ?_
      rintro e w2 ⟨rfl, ⟨m2, rfl⟩⟩
      have HB2 := Aside0.mk (pw_below_drewN HB1.out m2)
      generalize w1.drewN m2 = w2 at HB2 ⊢
      dsimp only
      go_wp2_with fail
      refine (pack_Spread.calls _ A0 c0 l0 A1 c1 l1 xs er _ (Kd.C_below HR0.out HB2.out) HC0.out (Kd.C_below HR1.out HB2.out) HC1.out S1.out).mono ?_
      rintro e w5 ⟨v5, rfl, ho, hb⟩
      obtain ⟨A7, c7, rfl⟩ := Kd.R_slice ho
      have HX := Aside0.mk (Kd.R_reads' ho).2.2
      have HB5 := Aside0.mk (HB2.out.trans (hb.mono HB2.out.size))
      clear ho hb
      dsimp only
      go_wp2_with fail
      go_loopg [8, 9] l1.length (fun kq v8 v9 wr => ∃ n : Nat, v9 = .int .i64 (n : Int) ∧ v8 = .bool ((l1.take n).all (inR l0)) ∧ Aside0 (n ≤ l1.length) ∧ Aside0 (l1.length - n = kq) ∧ wr = w5)
      case atStart => exact ⟨0, rfl, rfl, ⟨Nat.zero_le _⟩, ⟨rfl⟩, rfl⟩
      case round =>
        obtain ⟨n, rfl, rfl, HN, HK, rfl⟩ := hrel
        have hm6 : l1.length ≤ 600 := H6.out
        by_cases hlt : n < l1.length
        · have HLT := Aside0.mk hlt
          have hsn := all_snoc (l := l0) hlt
          obtain ⟨ad, hA, hcell⟩ := Kd.at_int (Kd.C_below HR1.out HB5.out) (n : Int) (by omega) (by omega)
          rw [rd_at hlt, Int.toNat_natCast] at hcell
          generalize l1[n] = x at hcell hsn
          generalize hbn : (l1.take n).all (inR l0) = bn at hsn ⊢
          have HSN := Aside0.mk hsn
          have HBN := Aside0.mk hbn
          clear hsn hbn
          cases hA
          cases bn with
          | false =>
            go_wp2_with fail
            go_roundg (l1.length - (n + 1))
            case measure => have := HLT.out; have := HK.out; omega
            case rel => exact ⟨n + 1, by go_num, by rw [HSN.out]; rfl, ⟨HLT.out⟩, ⟨rfl⟩, rfl⟩
          | true =>
            by_cases q0 : 0 ≤ x
            · by_cases q1 : x < (l0.length : Int)
              · have e1 : inR l0 x = true := decide_eq_true ⟨q0, q1⟩
                have E1 := Aside0.mk e1
                have d0 : decide (0 ≤ x) = true := decide_eq_true q0
                have d1 : decide (x < (l0.length : Int)) = true := decide_eq_true q1
                clear e1
                go_wp2_with fail
                go_roundg (l1.length - (n + 1))
                case measure => have := HLT.out; have := HK.out; omega
                case rel => exact ⟨n + 1, by go_num, by rw [HSN.out, E1.out]; first | rfl | (simp; done), ⟨HLT.out⟩, ⟨rfl⟩, rfl⟩
              · have E1 := Aside0.mk (show inR l0 x = false from decide_eq_false (fun h => q1 h.2))
                have d0 : decide (0 ≤ x) = true := decide_eq_true q0
                have d1 : decide (x < (l0.length : Int)) = false := decide_eq_false q1
                clear q1
                go_wp2_with fail
                go_roundg (l1.length - (n + 1))
                case measure => have := HLT.out; have := HK.out; omega
                case rel => exact ⟨n + 1, by go_num, by rw [HSN.out, E1.out]; first | rfl | (simp; done), ⟨HLT.out⟩, ⟨rfl⟩, rfl⟩
            · have E1 := Aside0.mk (show inR l0 x = false from decide_eq_false (fun h => q0 h.1))
              have d0 : decide (0 ≤ x) = false := decide_eq_false q0
              clear q0
              go_wp2_with fail
              go_roundg (l1.length - (n + 1))
              case measure => have := HLT.out; have := HK.out; omega
              case rel => exact ⟨n + 1, by go_num, by rw [HSN.out, E1.out]; first | rfl | (simp; done), ⟨HLT.out⟩, ⟨rfl⟩, rfl⟩
        · have hn : n = l1.length := by have := HN.out; omega
          subst hn
          rw [List.take_length]
          have hsp := HSP.out
          cases hall : l1.all (inR l0) with
          | false =>
            rw [hall, if_neg (by simp)] at hsp
            obtain ⟨rfl, rfl⟩ := Prod.mk.inj hsp
            clear hsp hall HSP
            go_wp2
            go_ret
            exact ⟨by first | rfl | (simp; done), HB5.out⟩
          | true =>
            have HALL := Aside0.mk hall
            rw [hall, if_pos rfl] at hsp
            obtain ⟨hxs, rfl⟩ := Prod.mk.inj hsp
            have HXS := Aside0.mk hxs
            have hxl : xs.length = l1.length := by rw [hxs, List.length_map]
            have hX := HX.out
            rw [hxl] at hX
            have HX2 := Aside0.mk hX
            have hb1 : (xs.length == l1.length) = true := beq_iff_eq.2 hxl
            have hb2 : ((xs.length : Int) == (l1.length : Int)) = true := beq_iff_eq.2 (by omega)
            have hb3 : ((xs.length : Int) != (l1.length : Int)) = false := by rw [bne, hb2]; rfl
            have hb4 : (xs.length != l1.length) = false := by rw [bne, hb1]; rfl
            rw [hxl]
            clear hsp hall HSP hxs hxl hX hb1 hb2 hb3 hb4
            go_wp2_with fail
            clear HK HN hlt
            go_loopg [10] l1.length (fun kq v10 w' => ∃ (n m : Nat), v10 = .int .i64 (n : Int) ∧ Aside0 (n ≤ l1.length) ∧ Aside0 (l1.length - n = kq) ∧ w' = wr.drewN m)
            case atStart => exact ⟨0, 0, rfl, ⟨Nat.zero_le _⟩, ⟨rfl⟩, rfl⟩
            case round =>
              obtain ⟨n, m, rfl, HN, HK, rfl⟩ := hrel
              by_cases hlt : n < l1.length
              · have HLT := Aside0.mk hlt
                obtain ⟨ad, hA, hcell⟩ := Kd.at_int (Kd.C_below HR1.out HB5.out) (n : Int) (by omega) (by omega)
                rw [rd_at hlt, Int.toNat_natCast] at hcell
                have hin : 0 ≤ l1[n] ∧ l1[n] < (l0.length : Int) := by
                  have := List.all_eq_true.1 HALL.out l1[n] (List.getElem_mem hlt)
                  simpa [inR] using this
                obtain ⟨ad0, hA0, hcell0⟩ := Kd.at_string (Kd.C_below HR0.out HB5.out) l1[n] hin.1 hin.2
                obtain ⟨ad7, hA7, hcell7⟩ := Kd.at_string HX2.out (n : Int) (by omega) (by omega)
                have hxn : rdOf ByteArray.empty xs (n : Int) = rdOf ByteArray.empty l0 l1[n] := by
                  rw [HXS.out, rs_at (by rw [List.length_map]; exact hlt), List.getElem_map]
                rw [hxn, Int.toNat_natCast] at hcell7
                generalize rdOf ByteArray.empty l0 l1[n] = s at hcell0 hcell7
                generalize l1[n] = x at hcell hin hcell0
                obtain ⟨hx0, hx1⟩ := hin
                cases hA
                cases hA0
                cases hA7
                clear hxn
                go_wp2
                go_quiet (fail)
                go_wp2
                go_roundg (l1.length - (n + 1))
                case measure => have := HLT.out; have := HK.out; omega
                case rel => exact ⟨n + 1, _, by go_num, ⟨HLT.out⟩, ⟨rfl⟩, rfl⟩
              · go_wp2
                go_ret
                exact ⟨rfl, pw_below_drewN HB5.out _⟩
end Go.Proofs.Ytmgkfklkdedpgaa.Q
