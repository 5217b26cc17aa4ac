/- The law PackBack, walked: true for each input of its kinds; no other condition. -/
import Derived.Test.YtmgkfklkdedpgaaShown
import Derived.Test.YtmgkfklkdedpgaaSpecA
import Derived.Test.YtmgkfklkdedpgaaSpecC
namespace Go.Proofs.Ytmgkfklkdedpgaa.Q
open Go.RowKit Go.Proofs.Ytmgkfklkdedpgaa.Mine Go.Proofs.YtmgkfklkdedpgaaW.PrintWords Go.Proofs.YtmgkfklkdedpgaaW.PrintLast Go.Proofs.YtmgkfklkdedpgaaW.PrintMore
set_option linter.unusedVariables false
set_option linter.unusedSimpArgs false
def wideB (l : List ByteArray) : Bool := decide (l.length < 8796093022208) && l.all fun s => decide (s.size ≤ 140737488351232)
theorem wideB_ok {l : List ByteArray} (h : wideB l = true) : l.length < 8796093022208 ∧ ∀ s ∈ l, s.size ≤ 140737488351232 := by
  unfold wideB at h
  rw [Bool.and_eq_true, decide_eq_true_eq, List.all_eq_true] at h
  exact ⟨h.1, fun s hs => by simpa using h.2 s hs⟩
def byteB (l : List Int) : Bool := l.all fun x => decide (0 ≤ x ∧ x < 256)
theorem byteB_ok {l : List Int} (h : byteB l = true) : bytesOk l := fun x hx => by
  have := List.all_eq_true.1 h x hx
  simpa using this
theorem bytesOk_app {a b : List Int} (ha : bytesOk a) (hb : bytesOk b) : bytesOk (a ++ b) := fun x hx => (List.mem_append.1 hx).elim (ha x) (hb x)
theorem poolBytes_ok : ∀ l, bytesOk (poolBytes l)
  | [] => fun x hx => by cases hx
  | s :: l => by rw [poolBytes]; exact bytesOk_app (bytesOk_app (bytesB_ok _ _) (bytesOf_ok s)) (poolBytes_ok l)
def exerguelaw09_PackBack.f (k : Nat) (l0 : List Int) (n s : Int) (l1 : List ByteArray) : Option Bool := if wideB l1 = true ∧ byteB l0 = true ∧ (0 ≤ n ∧ n < 4294967296) then some true else none
set_option maxHeartbeats 8000000 in
set_option maxRecDepth 100000 in
theorem exerguelaw09_PackBack.calls (k : Nat) (A0 : Option Addr) (c0 : Nat) (l0 : List Int) (n s : Int) (A1 : Option Addr) (c1 : Nat) (l1 : List ByteArray) (r : Bool) (w : World) (hr0 : Kd.C (Kd.int .u8) w A0 l0.length l0) (hc0 : l0.length ≤ c0) (hr1 : Kd.C Kd.string w A1 l1.length l1) (hc1 : l1.length ≤ c1) (h : exerguelaw09_PackBack.f k l0 n s l1 = some r) :
    Calls Try.prog 9 #[.agg #[.slice A0 l0.length c0, .int .u32 n, .int .i64 s, .slice A1 l1.length c1]] w fun e w' => e = .returned (.bool r) ∧ Below w.heap.size w w' := by
  unfold exerguelaw09_PackBack.f at h
  split at h
  case isFalse => cases h
  rename_i hc
  obtain ⟨hwide, hby, hn0, hn1⟩ := hc
  obtain ⟨hlen, hsz⟩ := wideB_ok hwide
  have HBO := Aside0.mk (byteB_ok hby)
  obtain rfl := Option.some.inj h
  clear h hwide hby
  obtain ⟨b, hb, hbi⟩ := Short_f (k := l1.length + 1) l1 hlen hsz (Nat.lt_succ_self _)
  have HB0 := Aside0.mk ((Below.refl w.heap.size w).alloc (Nat.le_refl _) (.cells #[.slice A0 l0.length c0, .int .u32 n, .int .i64 s, .slice A1 l1.length c1] 61))
  have HR0 := Aside0.mk hr0
  have HC0 := Aside0.mk hc0
  have HR1 := Aside0.mk hr1
  have HC1 := Aside0.mk hc1
  have HSH := Aside0.mk hb
  have HN := Aside0.mk (show 0 ≤ n ∧ n < 4294967296 from ⟨hn0, hn1⟩)
  clear hb hsz hr0 hc0 hr1 hc1
  cases b with
  | false =>
    clear hbi hlen
    go_enter Try.func9, Try.ntmps9
    go_wp2_with fail
    refine (shown.calls _).mono ?_
    rintro e w1 ⟨rfl, hb⟩
    have HB1 := Aside0.mk (HB0.out.trans (hb.mono HB0.out.size))
    clear hb
    dsimp only
    go_wp2_with fail
    refine (exergueref09_Short.calls _ A1 c1 l1 false _ (Kd.C_below HR1.out HB1.out) HC1.out HSH.out).mono ?_
    rintro e w2 ⟨rfl, ⟨m2, rfl⟩⟩
    dsimp only
    go_wp2
    go_ret
    exact ⟨rfl, pw_below_drewN HB1.out _⟩
  | true =>
    obtain ⟨hl6, _⟩ := hbi rfl
    clear hbi
    by_cases h6 : l0.length > 1000
    · have hd : decide (1000 < l0.length) = true := decide_eq_true h6
      have hd2 : decide (1000 < (l0.length : Int)) = true := decide_eq_true (by omega)
      clear h6 hlen hl6
      go_enter Try.func9, Try.ntmps9
      go_wp2_with fail
      refine (shown.calls _).mono ?_
      rintro e w1 ⟨rfl, hb⟩
      have HB1 := Aside0.mk (HB0.out.trans (hb.mono HB0.out.size))
      clear hb
      dsimp only
      go_wp2_with fail
      refine (exergueref09_Short.calls _ A1 c1 l1 true _ (Kd.C_below HR1.out HB1.out) HC1.out HSH.out).mono ?_
      rintro e w2 ⟨rfl, ⟨m2, rfl⟩⟩
      dsimp only
      go_wp2
      go_ret
      exact ⟨rfl, pw_below_drewN HB1.out _⟩
    · have hd : decide (1000 < l0.length) = false := decide_eq_false h6
      have hd2 : decide (1000 < (l0.length : Int)) = false := decide_eq_false (by omega)
      have H6 := Aside0.mk (show l0.length ≤ 1000 by omega)
      have HL1 := Aside0.mk hl6
      have G1 := Aside0.mk (show pack_Gather.f l1 = some (gpool l1, grefs (gpool l1) l1) from if_pos hlen)
      have hgl : (grefs (gpool l1) l1).length = l1.length := by simp [grefs]
      have S1 := Aside0.mk (Spread_f (k := 601) (gpool l1) (grefs (gpool l1) l1) (by omega) (by omega))
      rw [spread_gather] at S1
      have T1 := Aside0.mk (Texts_f (k := 601) l1 l1 (by omega) (by omega))
      rw [decide_eq_true rfl] at T1
      have hpl := gpool_len l1
      have HIX := Aside0.mk (gpool_idx l1)
      have hgt : decide (l1.length < (gpool l1).length) = false := decide_eq_false (by omega)
      have hgt2 : decide ((l1.length : Int) < ((gpool l1).length : Int)) = false := decide_eq_false (by omega)
      generalize grefs (gpool l1) l1 = rs at G1 S1 hgl
      generalize gpool l1 = ps at G1 S1 hpl HIX hgt hgt2
      have HPS := Aside0.mk (show ps.length ≤ 600 by omega)
      have A1f := Aside0.mk (show ∀ (i : Nat) (h : i < ps.length), exergueref09_At.f 601 ps ps[i] = some (i : Int) from fun i h => by
        rw [At_f ps ps[i] (by omega) (by omega), if_pos (List.getElem_mem h), HIX.out i h])
      clear h6 hlen hl6 hgl hpl HIX hn0 hn1
      cases hp : putsB n s with
      | true =>
        have HPY := Aside0.mk (fun W hW => put_yes.calls A0 c0 l0 n s W hW HC0.out (by have := H6.out; omega) HN.out.1 HN.out.2 hp)
        have htk := put_take l0 [] n s HN.out.1 hp
        rw [List.append_nil] at htk
        have hs4 : 1 ≤ s ∧ s ≤ 4 := by
          have := isSz_iff.1 (by simp only [putsB, Bool.and_eq_true] at hp; exact hp.1 : isSz s = true)
          omega
        obtain ⟨xs, hxs⟩ : ∃ xs, xs = l0 ++ bytesB n s.toNat := ⟨_, rfl⟩
        have hxl : (xs.length : Int) = (l0.length : Int) + s := by rw [hxs, List.length_append, bytesB_len]; omega
        have hxo : bytesOk xs := by rw [hxs]; exact bytesOk_app HBO.out (bytesB_ok _ _)
        have HXO := Aside0.mk hxo
        rw [← hxs] at HPY htk
        have HTK := Aside0.mk (fun W (A : Option Addr) (c : Nat) (hA : Kd.C (Kd.int .u8) W A xs.length xs) (hc : xs.length ≤ c) => take.calls A c xs l0.length s W hA hc hxo (by omega) (by have := H6.out; omega))
        rw [htk] at HTK
        have hw : wrap64 ((l0.length : Int) + s) = (l0.length : Int) + s := by have := H6.out; unfold wrap64; omega
        have hxe : ((l0.length : Int) + s == (xs.length : Int)) = true := beq_iff_eq.2 hxl.symm
        have hxe2 : ((l0.length : Int) + s != (xs.length : Int)) = false := by rw [bne, hxe]; rfl
        have hxe3 : ((xs.length : Int) == (l0.length : Int) + s) = true := beq_iff_eq.2 hxl
        have hxe4 : ((xs.length : Int) != (l0.length : Int) + s) = false := by rw [bne, hxe3]; rfl
        clear hp htk hxs hxl hxo hs4
        cases hpl : isPoolB ps with
        | true =>
          have HPP := Aside0.mk (fun W h0 (A : Option Addr) (c : Nat) hA hc => putPool_yes.calls A0 c0 l0 A c ps W h0 HC0.out (by have := H6.out; omega) hA hc hpl)
          have hpt := pool_take l0 ps hpl
          obtain ⟨_, hp5, hp4⟩ := isPoolB_facts hpl
          have hpb := poolBytes_len ps hp4
          obtain ⟨ys, hys⟩ : ∃ ys, ys = l0 ++ bytesB ps.length 2 ++ poolBytes ps := ⟨_, rfl⟩
          have hyo : bytesOk ys := by rw [hys]; exact bytesOk_app (bytesOk_app HBO.out (bytesB_ok _ _)) (poolBytes_ok _)
          rw [← hys] at HPP hpt
          have HTP := Aside0.mk (fun W (A : Option Addr) (c : Nat) (hA : Kd.C (Kd.int .u8) W A ys.length ys) (hc : ys.length ≤ c) => takePool.calls A c ys l0.length W hA hc hyo (by omega) (by have := H6.out; omega))
          rw [hpt] at HTP
          have T2 := Aside0.mk (Texts_f (k := 601) ps ps (by have := HPS.out; omega) (by have := HPS.out; omega))
          rw [decide_eq_true rfl] at T2
          clear hpl hpt hp5 hp4 hpb hys hyo
          go_enter Try.func9, Try.ntmps9
          go_wp2_with fail
          refine (shown.calls _).mono ?_
          rintro e w1 ⟨rfl, hb⟩
          have HB1 := Aside0.mk (HB0.out.trans (hb.mono HB0.out.size))
          clear hb
          dsimp only
          go_wp2_with fail
          refine (exergueref09_Short.calls _ A1 c1 l1 true _ (Kd.C_below HR1.out HB1.out) HC1.out HSH.out).mono ?_
          rintro e w2 ⟨rfl, ⟨m2, rfl⟩⟩
          have HB2 := Aside0.mk (pw_below_drewN HB1.out m2)
          generalize w1.drewN m2 = w2 at HB2 ⊢
          dsimp only
          go_wp2_with fail
          refine (HPY.out _ (Kd.C_below HR0.out HB2.out)).mono ?_
          rintro e w3 ⟨v3, rfl, ho, hb⟩
          obtain ⟨A3, c3, rfl⟩ := Kd.R_slice ho
          have HX := Aside0.mk (Kd.R_reads' ho).2.2
          have HXc := Aside0.mk (Kd.R_reads' ho).2.1
          have HB3 := Aside0.mk (HB2.out.trans (hb.mono HB2.out.size))
          clear ho hb
          dsimp only
          go_wp2_with fail
          refine (HTK.out _ A3 c3 HX.out HXc.out).mono ?_
          rintro e w4 ⟨rfl, rfl⟩
          dsimp only
          go_wp2_with fail
          refine (pack_Gather.calls A1 c1 l1 ps rs _ (Kd.C_below HR1.out HB3.out) HC1.out G1.out).mono ?_
          rintro e w5 ⟨v5, v6, rfl, ho, hi, hb⟩
          obtain ⟨A5, c5, rfl⟩ := Kd.R_slice ho
          obtain ⟨A6, c6, rfl⟩ := Kd.R_slice hi
          have HP := Aside0.mk (Kd.R_reads' ho).2.2
          have HPc := Aside0.mk (Kd.R_reads' ho).2.1
          have HI := Aside0.mk (Kd.R_reads' hi).2.2
          have HIc := Aside0.mk (Kd.R_reads' hi).2.1
          have HB5 := Aside0.mk (HB3.out.trans (hb.mono HB3.out.size))
          clear ho hi hb
          dsimp only
          go_wp2_with fail
          refine (pack_Spread.calls _ A5 c5 ps A6 c6 rs l1 0 _ HP.out HPc.out HI.out HIc.out S1.out).mono ?_
          rintro e w6 ⟨v7, rfl, ho, hb⟩
          obtain ⟨A7, c7, rfl⟩ := Kd.R_slice ho
          have HK := Aside0.mk (Kd.R_reads' ho).2.2
          have HKc := Aside0.mk (Kd.R_reads' ho).2.1
          have HP6 := Aside0.mk (Kd.C_below HP.out hb)
          have HB6 := Aside0.mk (HB5.out.trans (hb.mono HB5.out.size))
          clear ho hb
          dsimp only
          go_wp2_with fail
          (with_reducible refine (exergueref09_Texts.calls _ A7 c7 l1 A1 c1 l1 true _ HK.out HKc.out (Kd.C_below HR1.out HB6.out) HC1.out T1.out).mono ?_)
          rintro e w7 ⟨rfl, ⟨m7, rfl⟩⟩
          have HB7 := Aside0.mk (pw_below_drewN HB6.out m7)
          have HP7 := Aside0.mk (Kd.C_drewN HP6.out m7)
          generalize w6.drewN m7 = w7 at HB7 HP7 ⊢
          dsimp only
          go_wp2_with fail
          go_loopg [17] ps.length (fun kq v17 w' => ∃ (i m : Nat), v17 = .int .i64 (i : Int) ∧ Aside0 (i ≤ ps.length) ∧ Aside0 (ps.length - i = kq) ∧ w' = w7.drewN m)
          case atStart => exact ⟨0, 0, rfl, ⟨Nat.zero_le _⟩, ⟨rfl⟩, rfl⟩
          case round =>
            obtain ⟨i, m, rfl, HI2, HKK, rfl⟩ := hrel
            by_cases hlt : i < ps.length
            · have HLT := Aside0.mk hlt
              have hps6 : ps.length ≤ 600 := HPS.out
              obtain ⟨ad, hA, hcell⟩ := Kd.at_string HP7.out (i : Int) (by omega) (by omega)
              rw [rs_at hlt, Int.toNat_natCast] at hcell
              have HAT := Aside0.mk (fun W hW => exergueref09_At.calls 601 A5 c5 ps ps[i] (i : Int) W hW HPc.out (A1f.out i hlt))
              generalize ps[i] = x at hcell HAT
              cases hA
              go_wp2_with fail
              (with_reducible refine (HAT.out _ (Kd.C_drewN HP7.out _)).mono ?_)
              rintro e w8 ⟨rfl, ⟨m8, rfl⟩⟩
              dsimp only
              go_wp2_with fail
              go_roundg (ps.length - (i + 1))
              case measure => have := HLT.out; have := HKK.out; omega
              case rel => exact ⟨i + 1, _, by go_num, ⟨HLT.out⟩, ⟨rfl⟩, by first | rfl | exact World.drewN_drewN ..⟩
            · have HB8 := Aside0.mk (pw_below_drewN HB7.out m)
              have HP8 := Aside0.mk (Kd.C_drewN HP7.out m)
              generalize w7.drewN m = w8 at HB8 HP8 ⊢
              clear HI2 HKK
              go_wp2_with fail
              refine (HPP.out _ (Kd.C_below HR0.out HB8.out) A5 c5 HP8.out HPc.out).mono ?_
              rintro e w9 ⟨v9, rfl, ho, hb⟩
              obtain ⟨A9, c9, rfl⟩ := Kd.R_slice ho
              have HY := Aside0.mk (Kd.R_reads' ho).2.2
              have HYc := Aside0.mk (Kd.R_reads' ho).2.1
              have HP9 := Aside0.mk (Kd.C_below HP8.out hb)
              have HB9 := Aside0.mk (HB8.out.trans (hb.mono HB8.out.size))
              clear ho hb
              dsimp only
              go_wp2_with fail
              refine (HTP.out _ A9 c9 HY.out HYc.out).mono ?_
              rintro e wa ⟨va, rfl, ho, hb⟩
              obtain ⟨Aa, ca, rfl⟩ := Kd.R_slice ho
              have HZ := Aside0.mk (Kd.R_reads' ho).2.2
              have HZc := Aside0.mk (Kd.R_reads' ho).2.1
              have HPa := Aside0.mk (Kd.C_below HP9.out hb)
              have HBa := Aside0.mk (HB9.out.trans (hb.mono HB9.out.size))
              clear ho hb
              dsimp only
              go_wp2_with fail
              (with_reducible refine (exergueref09_Texts.calls _ Aa ca ps A5 c5 ps true _ HZ.out HZc.out HPa.out HPc.out T2.out).mono ?_)
              rintro e wb ⟨rfl, ⟨mb, rfl⟩⟩
              dsimp only
              go_wp2
              go_ret
              exact ⟨by first | rfl | (simp; done), pw_below_drewN HBa.out _⟩
        | false =>
          by_cases h5 : 500 < ps.length
          · have HPL := Aside0.mk hpl
            have HPF := Aside0.mk (show exergueref09_Pool.f 2000 ps = some false by rw [Pool_f ps (by decide), hpl])
            have hrow := Row_f (k := 2000) l0 l0 (by have := H6.out; omega) (by have := H6.out; omega)
            rw [decide_eq_true rfl] at hrow
            have HRW := Aside0.mk hrow
            have d5 : decide (500 < ps.length) = true := decide_eq_true h5
            have d55 : decide (500 < (ps.length : Int)) = true := decide_eq_true (by omega)
            clear h5
            clear hpl hrow
            go_enter Try.func9, Try.ntmps9
            go_wp2_with fail
            refine (shown.calls _).mono ?_
            rintro e w1 ⟨rfl, hb⟩
            have HB1 := Aside0.mk (HB0.out.trans (hb.mono HB0.out.size))
            clear hb
            dsimp only
            go_wp2_with fail
            refine (exergueref09_Short.calls _ A1 c1 l1 true _ (Kd.C_below HR1.out HB1.out) HC1.out HSH.out).mono ?_
            rintro e w2 ⟨rfl, ⟨m2, rfl⟩⟩
            have HB2 := Aside0.mk (pw_below_drewN HB1.out m2)
            generalize w1.drewN m2 = w2 at HB2 ⊢
            dsimp only
            go_wp2_with fail
            refine (HPY.out _ (Kd.C_below HR0.out HB2.out)).mono ?_
            rintro e w3 ⟨v3, rfl, ho, hb⟩
            obtain ⟨A3, c3, rfl⟩ := Kd.R_slice ho
            have HX := Aside0.mk (Kd.R_reads' ho).2.2
            have HXc := Aside0.mk (Kd.R_reads' ho).2.1
            have HB3 := Aside0.mk (HB2.out.trans (hb.mono HB2.out.size))
            clear ho hb
            dsimp only
            go_wp2_with fail
            refine (HTK.out _ A3 c3 HX.out HXc.out).mono ?_
            rintro e w4 ⟨rfl, rfl⟩
            dsimp only
            go_wp2_with fail
            refine (pack_Gather.calls A1 c1 l1 ps rs _ (Kd.C_below HR1.out HB3.out) HC1.out G1.out).mono ?_
            rintro e w5 ⟨v5, v6, rfl, ho, hi, hb⟩
            obtain ⟨A5, c5, rfl⟩ := Kd.R_slice ho
            obtain ⟨A6, c6, rfl⟩ := Kd.R_slice hi
            have HP := Aside0.mk (Kd.R_reads' ho).2.2
            have HPc := Aside0.mk (Kd.R_reads' ho).2.1
            have HI := Aside0.mk (Kd.R_reads' hi).2.2
            have HIc := Aside0.mk (Kd.R_reads' hi).2.1
            have HB5 := Aside0.mk (HB3.out.trans (hb.mono HB3.out.size))
            clear ho hi hb
            dsimp only
            go_wp2_with fail
            refine (pack_Spread.calls _ A5 c5 ps A6 c6 rs l1 0 _ HP.out HPc.out HI.out HIc.out S1.out).mono ?_
            rintro e w6 ⟨v7, rfl, ho, hb⟩
            obtain ⟨A7, c7, rfl⟩ := Kd.R_slice ho
            have HK := Aside0.mk (Kd.R_reads' ho).2.2
            have HKc := Aside0.mk (Kd.R_reads' ho).2.1
            have HP6 := Aside0.mk (Kd.C_below HP.out hb)
            have HB6 := Aside0.mk (HB5.out.trans (hb.mono HB5.out.size))
            clear ho hb
            dsimp only
            go_wp2_with fail
            (with_reducible refine (exergueref09_Texts.calls _ A7 c7 l1 A1 c1 l1 true _ HK.out HKc.out (Kd.C_below HR1.out HB6.out) HC1.out T1.out).mono ?_)
            rintro e w7 ⟨rfl, ⟨m7, rfl⟩⟩
            have HB7 := Aside0.mk (pw_below_drewN HB6.out m7)
            have HP7 := Aside0.mk (Kd.C_drewN HP6.out m7)
            generalize w6.drewN m7 = w7 at HB7 HP7 ⊢
            dsimp only
            go_wp2_with fail
            go_loopg [17] ps.length (fun kq v17 w' => ∃ (i m : Nat), v17 = .int .i64 (i : Int) ∧ Aside0 (i ≤ ps.length) ∧ Aside0 (ps.length - i = kq) ∧ w' = w7.drewN m)
            case atStart => exact ⟨0, 0, rfl, ⟨Nat.zero_le _⟩, ⟨rfl⟩, rfl⟩
            case round =>
              obtain ⟨i, m, rfl, HI2, HKK, rfl⟩ := hrel
              by_cases hlt : i < ps.length
              · have HLT := Aside0.mk hlt
                have hps6 : ps.length ≤ 600 := HPS.out
                obtain ⟨ad, hA, hcell⟩ := Kd.at_string HP7.out (i : Int) (by omega) (by omega)
                rw [rs_at hlt, Int.toNat_natCast] at hcell
                have HAT := Aside0.mk (fun W hW => exergueref09_At.calls 601 A5 c5 ps ps[i] (i : Int) W hW HPc.out (A1f.out i hlt))
                generalize ps[i] = x at hcell HAT
                cases hA
                go_wp2_with fail
                (with_reducible refine (HAT.out _ (Kd.C_drewN HP7.out _)).mono ?_)
                rintro e w8 ⟨rfl, ⟨m8, rfl⟩⟩
                dsimp only
                go_wp2_with fail
                go_roundg (ps.length - (i + 1))
                case measure => have := HLT.out; have := HKK.out; omega
                case rel => exact ⟨i + 1, _, by go_num, ⟨HLT.out⟩, ⟨rfl⟩, by first | rfl | exact World.drewN_drewN ..⟩
              · have HB8 := Aside0.mk (pw_below_drewN HB7.out m)
                have HP8 := Aside0.mk (Kd.C_drewN HP7.out m)
                generalize w7.drewN m = w8 at HB8 HP8 ⊢
                clear HI2 HKK
                go_wp2_with fail
                refine (putPool_no.calls (.slice A0 l0.length c0) A5 c5 ps _ HP8.out HPc.out (by have := HPS.out; omega) HPL.out).mono ?_
                rintro e w9 ⟨rfl, hb⟩
                have HP9 := Aside0.mk (Kd.C_below HP8.out hb)
                have HB9 := Aside0.mk (HB8.out.trans (hb.mono HB8.out.size))
                clear hb
                dsimp only
                go_wp2_with fail
                have HBa := HB9
                (with_reducible refine (exergueref01_Row.calls _ A0 c0 l0 A0 c0 l0 true _ (Kd.C_below HR0.out HBa.out) HC0.out (Kd.C_below HR0.out HBa.out) HC0.out HRW.out).mono ?_)
                rintro e wb ⟨rfl, ⟨mb, rfl⟩⟩
                dsimp only
                go_wp2
                go_ret
                exact ⟨by first | rfl | (simp; done), pw_below_drewN HBa.out _⟩
          · have HPL := Aside0.mk hpl
            have HPF := Aside0.mk (show exergueref09_Pool.f 2000 ps = some false by rw [Pool_f ps (by decide), hpl])
            have hrow := Row_f (k := 2000) l0 l0 (by have := H6.out; omega) (by have := H6.out; omega)
            rw [decide_eq_true rfl] at hrow
            have HRW := Aside0.mk hrow
            have d5 : decide (500 < ps.length) = false := decide_eq_false h5
            have d55 : decide (500 < (ps.length : Int)) = false := decide_eq_false (by omega)
            clear h5
            clear hpl hrow
            go_enter Try.func9, Try.ntmps9
            go_wp2_with fail
            refine (shown.calls _).mono ?_
            rintro e w1 ⟨rfl, hb⟩
            have HB1 := Aside0.mk (HB0.out.trans (hb.mono HB0.out.size))
            clear hb
            dsimp only
            go_wp2_with fail
            refine (exergueref09_Short.calls _ A1 c1 l1 true _ (Kd.C_below HR1.out HB1.out) HC1.out HSH.out).mono ?_
            rintro e w2 ⟨rfl, ⟨m2, rfl⟩⟩
            have HB2 := Aside0.mk (pw_below_drewN HB1.out m2)
            generalize w1.drewN m2 = w2 at HB2 ⊢
            dsimp only
            go_wp2_with fail
            refine (HPY.out _ (Kd.C_below HR0.out HB2.out)).mono ?_
            rintro e w3 ⟨v3, rfl, ho, hb⟩
            obtain ⟨A3, c3, rfl⟩ := Kd.R_slice ho
            have HX := Aside0.mk (Kd.R_reads' ho).2.2
            have HXc := Aside0.mk (Kd.R_reads' ho).2.1
            have HB3 := Aside0.mk (HB2.out.trans (hb.mono HB2.out.size))
            clear ho hb
            dsimp only
            go_wp2_with fail
            refine (HTK.out _ A3 c3 HX.out HXc.out).mono ?_
            rintro e w4 ⟨rfl, rfl⟩
            dsimp only
            go_wp2_with fail
            refine (pack_Gather.calls A1 c1 l1 ps rs _ (Kd.C_below HR1.out HB3.out) HC1.out G1.out).mono ?_
            rintro e w5 ⟨v5, v6, rfl, ho, hi, hb⟩
            obtain ⟨A5, c5, rfl⟩ := Kd.R_slice ho
            obtain ⟨A6, c6, rfl⟩ := Kd.R_slice hi
            have HP := Aside0.mk (Kd.R_reads' ho).2.2
            have HPc := Aside0.mk (Kd.R_reads' ho).2.1
            have HI := Aside0.mk (Kd.R_reads' hi).2.2
            have HIc := Aside0.mk (Kd.R_reads' hi).2.1
            have HB5 := Aside0.mk (HB3.out.trans (hb.mono HB3.out.size))
            clear ho hi hb
            dsimp only
            go_wp2_with fail
            refine (pack_Spread.calls _ A5 c5 ps A6 c6 rs l1 0 _ HP.out HPc.out HI.out HIc.out S1.out).mono ?_
            rintro e w6 ⟨v7, rfl, ho, hb⟩
            obtain ⟨A7, c7, rfl⟩ := Kd.R_slice ho
            have HK := Aside0.mk (Kd.R_reads' ho).2.2
            have HKc := Aside0.mk (Kd.R_reads' ho).2.1
            have HP6 := Aside0.mk (Kd.C_below HP.out hb)
            have HB6 := Aside0.mk (HB5.out.trans (hb.mono HB5.out.size))
            clear ho hb
            dsimp only
            go_wp2_with fail
            (with_reducible refine (exergueref09_Texts.calls _ A7 c7 l1 A1 c1 l1 true _ HK.out HKc.out (Kd.C_below HR1.out HB6.out) HC1.out T1.out).mono ?_)
            rintro e w7 ⟨rfl, ⟨m7, rfl⟩⟩
            have HB7 := Aside0.mk (pw_below_drewN HB6.out m7)
            have HP7 := Aside0.mk (Kd.C_drewN HP6.out m7)
            generalize w6.drewN m7 = w7 at HB7 HP7 ⊢
            dsimp only
            go_wp2_with fail
            go_loopg [17] ps.length (fun kq v17 w' => ∃ (i m : Nat), v17 = .int .i64 (i : Int) ∧ Aside0 (i ≤ ps.length) ∧ Aside0 (ps.length - i = kq) ∧ w' = w7.drewN m)
            case atStart => exact ⟨0, 0, rfl, ⟨Nat.zero_le _⟩, ⟨rfl⟩, rfl⟩
            case round =>
              obtain ⟨i, m, rfl, HI2, HKK, rfl⟩ := hrel
              by_cases hlt : i < ps.length
              · have HLT := Aside0.mk hlt
                have hps6 : ps.length ≤ 600 := HPS.out
                obtain ⟨ad, hA, hcell⟩ := Kd.at_string HP7.out (i : Int) (by omega) (by omega)
                rw [rs_at hlt, Int.toNat_natCast] at hcell
                have HAT := Aside0.mk (fun W hW => exergueref09_At.calls 601 A5 c5 ps ps[i] (i : Int) W hW HPc.out (A1f.out i hlt))
                generalize ps[i] = x at hcell HAT
                cases hA
                go_wp2_with fail
                (with_reducible refine (HAT.out _ (Kd.C_drewN HP7.out _)).mono ?_)
                rintro e w8 ⟨rfl, ⟨m8, rfl⟩⟩
                dsimp only
                go_wp2_with fail
                go_roundg (ps.length - (i + 1))
                case measure => have := HLT.out; have := HKK.out; omega
                case rel => exact ⟨i + 1, _, by go_num, ⟨HLT.out⟩, ⟨rfl⟩, by first | rfl | exact World.drewN_drewN ..⟩
              · have HB8 := Aside0.mk (pw_below_drewN HB7.out m)
                have HP8 := Aside0.mk (Kd.C_drewN HP7.out m)
                generalize w7.drewN m = w8 at HB8 HP8 ⊢
                clear HI2 HKK
                go_wp2_with fail
                refine (putPool_no.calls (.slice A0 l0.length c0) A5 c5 ps _ HP8.out HPc.out (by have := HPS.out; omega) HPL.out).mono ?_
                rintro e w9 ⟨rfl, hb⟩
                have HP9 := Aside0.mk (Kd.C_below HP8.out hb)
                have HB9 := Aside0.mk (HB8.out.trans (hb.mono HB8.out.size))
                clear hb
                dsimp only
                go_wp2_with fail
                (with_reducible refine (exergueref09_Pool.calls _ A5 c5 ps false _ HP9.out HPc.out HPF.out).mono ?_)
                rintro e wa ⟨rfl, ⟨ma, rfl⟩⟩
                have HBa := Aside0.mk (pw_below_drewN HB9.out ma)
                generalize w9.drewN ma = wa at HBa ⊢
                dsimp only
                go_wp2_with fail
                (with_reducible refine (exergueref01_Row.calls _ A0 c0 l0 A0 c0 l0 true _ (Kd.C_below HR0.out HBa.out) HC0.out (Kd.C_below HR0.out HBa.out) HC0.out HRW.out).mono ?_)
                rintro e wb ⟨rfl, ⟨mb, rfl⟩⟩
                dsimp only
                go_wp2
                go_ret
                exact ⟨by first | rfl | (simp; done), pw_below_drewN HBa.out _⟩
      | false =>
        have HPN := Aside0.mk (fun W => put_no.calls (.slice A0 l0.length c0) n s W HN.out.1 HN.out.2 hp)
        clear hp
        cases hpl : isPoolB ps with
        | true =>
          have HPP := Aside0.mk (fun W h0 (A : Option Addr) (c : Nat) hA hc => putPool_yes.calls A0 c0 l0 A c ps W h0 HC0.out (by have := H6.out; omega) hA hc hpl)
          have hpt := pool_take l0 ps hpl
          obtain ⟨_, hp5, hp4⟩ := isPoolB_facts hpl
          have hpb := poolBytes_len ps hp4
          obtain ⟨ys, hys⟩ : ∃ ys, ys = l0 ++ bytesB ps.length 2 ++ poolBytes ps := ⟨_, rfl⟩
          have hyo : bytesOk ys := by rw [hys]; exact bytesOk_app (bytesOk_app HBO.out (bytesB_ok _ _)) (poolBytes_ok _)
          rw [← hys] at HPP hpt
          have HTP := Aside0.mk (fun W (A : Option Addr) (c : Nat) (hA : Kd.C (Kd.int .u8) W A ys.length ys) (hc : ys.length ≤ c) => takePool.calls A c ys l0.length W hA hc hyo (by omega) (by have := H6.out; omega))
          rw [hpt] at HTP
          have T2 := Aside0.mk (Texts_f (k := 601) ps ps (by have := HPS.out; omega) (by have := HPS.out; omega))
          rw [decide_eq_true rfl] at T2
          clear hpl hpt hp5 hp4 hpb hys hyo
          go_enter Try.func9, Try.ntmps9
          go_wp2_with fail
          refine (shown.calls _).mono ?_
          rintro e w1 ⟨rfl, hb⟩
          have HB1 := Aside0.mk (HB0.out.trans (hb.mono HB0.out.size))
          clear hb
          dsimp only
          go_wp2_with fail
          refine (exergueref09_Short.calls _ A1 c1 l1 true _ (Kd.C_below HR1.out HB1.out) HC1.out HSH.out).mono ?_
          rintro e w2 ⟨rfl, ⟨m2, rfl⟩⟩
          have HB2 := Aside0.mk (pw_below_drewN HB1.out m2)
          generalize w1.drewN m2 = w2 at HB2 ⊢
          dsimp only
          go_wp2_with fail
          refine (HPN.out _).mono ?_
          rintro e w3 ⟨rfl, rfl⟩
          have HB3 := HB2
          dsimp only
          go_wp2_with fail
          refine (pack_Gather.calls A1 c1 l1 ps rs _ (Kd.C_below HR1.out HB3.out) HC1.out G1.out).mono ?_
          rintro e w5 ⟨v5, v6, rfl, ho, hi, hb⟩
          obtain ⟨A5, c5, rfl⟩ := Kd.R_slice ho
          obtain ⟨A6, c6, rfl⟩ := Kd.R_slice hi
          have HP := Aside0.mk (Kd.R_reads' ho).2.2
          have HPc := Aside0.mk (Kd.R_reads' ho).2.1
          have HI := Aside0.mk (Kd.R_reads' hi).2.2
          have HIc := Aside0.mk (Kd.R_reads' hi).2.1
          have HB5 := Aside0.mk (HB3.out.trans (hb.mono HB3.out.size))
          clear ho hi hb
          dsimp only
          go_wp2_with fail
          refine (pack_Spread.calls _ A5 c5 ps A6 c6 rs l1 0 _ HP.out HPc.out HI.out HIc.out S1.out).mono ?_
          rintro e w6 ⟨v7, rfl, ho, hb⟩
          obtain ⟨A7, c7, rfl⟩ := Kd.R_slice ho
          have HK := Aside0.mk (Kd.R_reads' ho).2.2
          have HKc := Aside0.mk (Kd.R_reads' ho).2.1
          have HP6 := Aside0.mk (Kd.C_below HP.out hb)
          have HB6 := Aside0.mk (HB5.out.trans (hb.mono HB5.out.size))
          clear ho hb
          dsimp only
          go_wp2_with fail
          (with_reducible refine (exergueref09_Texts.calls _ A7 c7 l1 A1 c1 l1 true _ HK.out HKc.out (Kd.C_below HR1.out HB6.out) HC1.out T1.out).mono ?_)
          rintro e w7 ⟨rfl, ⟨m7, rfl⟩⟩
          have HB7 := Aside0.mk (pw_below_drewN HB6.out m7)
          have HP7 := Aside0.mk (Kd.C_drewN HP6.out m7)
          generalize w6.drewN m7 = w7 at HB7 HP7 ⊢
          dsimp only
          go_wp2_with fail
          go_loopg [17] ps.length (fun kq v17 w' => ∃ (i m : Nat), v17 = .int .i64 (i : Int) ∧ Aside0 (i ≤ ps.length) ∧ Aside0 (ps.length - i = kq) ∧ w' = w7.drewN m)
          case atStart => exact ⟨0, 0, rfl, ⟨Nat.zero_le _⟩, ⟨rfl⟩, rfl⟩
          case round =>
            obtain ⟨i, m, rfl, HI2, HKK, rfl⟩ := hrel
            by_cases hlt : i < ps.length
            · have HLT := Aside0.mk hlt
              have hps6 : ps.length ≤ 600 := HPS.out
              obtain ⟨ad, hA, hcell⟩ := Kd.at_string HP7.out (i : Int) (by omega) (by omega)
              rw [rs_at hlt, Int.toNat_natCast] at hcell
              have HAT := Aside0.mk (fun W hW => exergueref09_At.calls 601 A5 c5 ps ps[i] (i : Int) W hW HPc.out (A1f.out i hlt))
              generalize ps[i] = x at hcell HAT
              cases hA
              go_wp2_with fail
              (with_reducible refine (HAT.out _ (Kd.C_drewN HP7.out _)).mono ?_)
              rintro e w8 ⟨rfl, ⟨m8, rfl⟩⟩
              dsimp only
              go_wp2_with fail
              go_roundg (ps.length - (i + 1))
              case measure => have := HLT.out; have := HKK.out; omega
              case rel => exact ⟨i + 1, _, by go_num, ⟨HLT.out⟩, ⟨rfl⟩, by first | rfl | exact World.drewN_drewN ..⟩
            · have HB8 := Aside0.mk (pw_below_drewN HB7.out m)
              have HP8 := Aside0.mk (Kd.C_drewN HP7.out m)
              generalize w7.drewN m = w8 at HB8 HP8 ⊢
              clear HI2 HKK
              go_wp2_with fail
              refine (HPP.out _ (Kd.C_below HR0.out HB8.out) A5 c5 HP8.out HPc.out).mono ?_
              rintro e w9 ⟨v9, rfl, ho, hb⟩
              obtain ⟨A9, c9, rfl⟩ := Kd.R_slice ho
              have HY := Aside0.mk (Kd.R_reads' ho).2.2
              have HYc := Aside0.mk (Kd.R_reads' ho).2.1
              have HP9 := Aside0.mk (Kd.C_below HP8.out hb)
              have HB9 := Aside0.mk (HB8.out.trans (hb.mono HB8.out.size))
              clear ho hb
              dsimp only
              go_wp2_with fail
              refine (HTP.out _ A9 c9 HY.out HYc.out).mono ?_
              rintro e wa ⟨va, rfl, ho, hb⟩
              obtain ⟨Aa, ca, rfl⟩ := Kd.R_slice ho
              have HZ := Aside0.mk (Kd.R_reads' ho).2.2
              have HZc := Aside0.mk (Kd.R_reads' ho).2.1
              have HPa := Aside0.mk (Kd.C_below HP9.out hb)
              have HBa := Aside0.mk (HB9.out.trans (hb.mono HB9.out.size))
              clear ho hb
              dsimp only
              go_wp2_with fail
              (with_reducible refine (exergueref09_Texts.calls _ Aa ca ps A5 c5 ps true _ HZ.out HZc.out HPa.out HPc.out T2.out).mono ?_)
              rintro e wb ⟨rfl, ⟨mb, rfl⟩⟩
              dsimp only
              go_wp2
              go_ret
              exact ⟨by first | rfl | (simp; done), pw_below_drewN HBa.out _⟩
        | false =>
          by_cases h5 : 500 < ps.length
          · have HPL := Aside0.mk hpl
            have HPF := Aside0.mk (show exergueref09_Pool.f 2000 ps = some false by rw [Pool_f ps (by decide), hpl])
            have hrow := Row_f (k := 2000) l0 l0 (by have := H6.out; omega) (by have := H6.out; omega)
            rw [decide_eq_true rfl] at hrow
            have HRW := Aside0.mk hrow
            have d5 : decide (500 < ps.length) = true := decide_eq_true h5
            have d55 : decide (500 < (ps.length : Int)) = true := decide_eq_true (by omega)
            clear h5
            clear hpl hrow
            go_enter Try.func9, Try.ntmps9
            go_wp2_with fail
            refine (shown.calls _).mono ?_
            rintro e w1 ⟨rfl, hb⟩
            have HB1 := Aside0.mk (HB0.out.trans (hb.mono HB0.out.size))
            clear hb
            dsimp only
            go_wp2_with fail
            refine (exergueref09_Short.calls _ A1 c1 l1 true _ (Kd.C_below HR1.out HB1.out) HC1.out HSH.out).mono ?_
            rintro e w2 ⟨rfl, ⟨m2, rfl⟩⟩
            have HB2 := Aside0.mk (pw_below_drewN HB1.out m2)
            generalize w1.drewN m2 = w2 at HB2 ⊢
            dsimp only
            go_wp2_with fail
            refine (HPN.out _).mono ?_
            rintro e w3 ⟨rfl, rfl⟩
            have HB3 := HB2
            dsimp only
            go_wp2_with fail
            refine (pack_Gather.calls A1 c1 l1 ps rs _ (Kd.C_below HR1.out HB3.out) HC1.out G1.out).mono ?_
            rintro e w5 ⟨v5, v6, rfl, ho, hi, hb⟩
            obtain ⟨A5, c5, rfl⟩ := Kd.R_slice ho
            obtain ⟨A6, c6, rfl⟩ := Kd.R_slice hi
            have HP := Aside0.mk (Kd.R_reads' ho).2.2
            have HPc := Aside0.mk (Kd.R_reads' ho).2.1
            have HI := Aside0.mk (Kd.R_reads' hi).2.2
            have HIc := Aside0.mk (Kd.R_reads' hi).2.1
            have HB5 := Aside0.mk (HB3.out.trans (hb.mono HB3.out.size))
            clear ho hi hb
            dsimp only
            go_wp2_with fail
            refine (pack_Spread.calls _ A5 c5 ps A6 c6 rs l1 0 _ HP.out HPc.out HI.out HIc.out S1.out).mono ?_
            rintro e w6 ⟨v7, rfl, ho, hb⟩
            obtain ⟨A7, c7, rfl⟩ := Kd.R_slice ho
            have HK := Aside0.mk (Kd.R_reads' ho).2.2
            have HKc := Aside0.mk (Kd.R_reads' ho).2.1
            have HP6 := Aside0.mk (Kd.C_below HP.out hb)
            have HB6 := Aside0.mk (HB5.out.trans (hb.mono HB5.out.size))
            clear ho hb
            dsimp only
            go_wp2_with fail
            (with_reducible refine (exergueref09_Texts.calls _ A7 c7 l1 A1 c1 l1 true _ HK.out HKc.out (Kd.C_below HR1.out HB6.out) HC1.out T1.out).mono ?_)
            rintro e w7 ⟨rfl, ⟨m7, rfl⟩⟩
            have HB7 := Aside0.mk (pw_below_drewN HB6.out m7)
            have HP7 := Aside0.mk (Kd.C_drewN HP6.out m7)
            generalize w6.drewN m7 = w7 at HB7 HP7 ⊢
            dsimp only
            go_wp2_with fail
            go_loopg [17] ps.length (fun kq v17 w' => ∃ (i m : Nat), v17 = .int .i64 (i : Int) ∧ Aside0 (i ≤ ps.length) ∧ Aside0 (ps.length - i = kq) ∧ w' = w7.drewN m)
            case atStart => exact ⟨0, 0, rfl, ⟨Nat.zero_le _⟩, ⟨rfl⟩, rfl⟩
            case round =>
              obtain ⟨i, m, rfl, HI2, HKK, rfl⟩ := hrel
              by_cases hlt : i < ps.length
              · have HLT := Aside0.mk hlt
                have hps6 : ps.length ≤ 600 := HPS.out
                obtain ⟨ad, hA, hcell⟩ := Kd.at_string HP7.out (i : Int) (by omega) (by omega)
                rw [rs_at hlt, Int.toNat_natCast] at hcell
                have HAT := Aside0.mk (fun W hW => exergueref09_At.calls 601 A5 c5 ps ps[i] (i : Int) W hW HPc.out (A1f.out i hlt))
                generalize ps[i] = x at hcell HAT
                cases hA
                go_wp2_with fail
                (with_reducible refine (HAT.out _ (Kd.C_drewN HP7.out _)).mono ?_)
                rintro e w8 ⟨rfl, ⟨m8, rfl⟩⟩
                dsimp only
                go_wp2_with fail
                go_roundg (ps.length - (i + 1))
                case measure => have := HLT.out; have := HKK.out; omega
                case rel => exact ⟨i + 1, _, by go_num, ⟨HLT.out⟩, ⟨rfl⟩, by first | rfl | exact World.drewN_drewN ..⟩
              · have HB8 := Aside0.mk (pw_below_drewN HB7.out m)
                have HP8 := Aside0.mk (Kd.C_drewN HP7.out m)
                generalize w7.drewN m = w8 at HB8 HP8 ⊢
                clear HI2 HKK
                go_wp2_with fail
                refine (putPool_no.calls (.slice A0 l0.length c0) A5 c5 ps _ HP8.out HPc.out (by have := HPS.out; omega) HPL.out).mono ?_
                rintro e w9 ⟨rfl, hb⟩
                have HP9 := Aside0.mk (Kd.C_below HP8.out hb)
                have HB9 := Aside0.mk (HB8.out.trans (hb.mono HB8.out.size))
                clear hb
                dsimp only
                go_wp2_with fail
                have HBa := HB9
                (with_reducible refine (exergueref01_Row.calls _ A0 c0 l0 A0 c0 l0 true _ (Kd.C_below HR0.out HBa.out) HC0.out (Kd.C_below HR0.out HBa.out) HC0.out HRW.out).mono ?_)
                rintro e wb ⟨rfl, ⟨mb, rfl⟩⟩
                dsimp only
                go_wp2
                go_ret
                exact ⟨by first | rfl | (simp; done), pw_below_drewN HBa.out _⟩
          · have HPL := Aside0.mk hpl
            have HPF := Aside0.mk (show exergueref09_Pool.f 2000 ps = some false by rw [Pool_f ps (by decide), hpl])
            have hrow := Row_f (k := 2000) l0 l0 (by have := H6.out; omega) (by have := H6.out; omega)
            rw [decide_eq_true rfl] at hrow
            have HRW := Aside0.mk hrow
            have d5 : decide (500 < ps.length) = false := decide_eq_false h5
            have d55 : decide (500 < (ps.length : Int)) = false := decide_eq_false (by omega)
            clear h5
            clear hpl hrow
            go_enter Try.func9, Try.ntmps9
            go_wp2_with fail
            refine (shown.calls _).mono ?_
            rintro e w1 ⟨rfl, hb⟩
            have HB1 := Aside0.mk (HB0.out.trans (hb.mono HB0.out.size))
            clear hb
            dsimp only
            go_wp2_with fail
            refine (exergueref09_Short.calls _ A1 c1 l1 true _ (Kd.C_below HR1.out HB1.out) HC1.out HSH.out).mono ?_
            rintro e w2 ⟨rfl, ⟨m2, rfl⟩⟩
            have HB2 := Aside0.mk (pw_below_drewN HB1.out m2)
            generalize w1.drewN m2 = w2 at HB2 ⊢
            dsimp only
            go_wp2_with fail
            refine (HPN.out _).mono ?_
            rintro e w3 ⟨rfl, rfl⟩
            have HB3 := HB2
            dsimp only
            go_wp2_with fail
            refine (pack_Gather.calls A1 c1 l1 ps rs _ (Kd.C_below HR1.out HB3.out) HC1.out G1.out).mono ?_
            rintro e w5 ⟨v5, v6, rfl, ho, hi, hb⟩
            obtain ⟨A5, c5, rfl⟩ := Kd.R_slice ho
            obtain ⟨A6, c6, rfl⟩ := Kd.R_slice hi
            have HP := Aside0.mk (Kd.R_reads' ho).2.2
            have HPc := Aside0.mk (Kd.R_reads' ho).2.1
            have HI := Aside0.mk (Kd.R_reads' hi).2.2
            have HIc := Aside0.mk (Kd.R_reads' hi).2.1
            have HB5 := Aside0.mk (HB3.out.trans (hb.mono HB3.out.size))
            clear ho hi hb
            dsimp only
            go_wp2_with fail
            refine (pack_Spread.calls _ A5 c5 ps A6 c6 rs l1 0 _ HP.out HPc.out HI.out HIc.out S1.out).mono ?_
            rintro e w6 ⟨v7, rfl, ho, hb⟩
            obtain ⟨A7, c7, rfl⟩ := Kd.R_slice ho
            have HK := Aside0.mk (Kd.R_reads' ho).2.2
            have HKc := Aside0.mk (Kd.R_reads' ho).2.1
            have HP6 := Aside0.mk (Kd.C_below HP.out hb)
            have HB6 := Aside0.mk (HB5.out.trans (hb.mono HB5.out.size))
            clear ho hb
            dsimp only
            go_wp2_with fail
            (with_reducible refine (exergueref09_Texts.calls _ A7 c7 l1 A1 c1 l1 true _ HK.out HKc.out (Kd.C_below HR1.out HB6.out) HC1.out T1.out).mono ?_)
            rintro e w7 ⟨rfl, ⟨m7, rfl⟩⟩
            have HB7 := Aside0.mk (pw_below_drewN HB6.out m7)
            have HP7 := Aside0.mk (Kd.C_drewN HP6.out m7)
            generalize w6.drewN m7 = w7 at HB7 HP7 ⊢
            dsimp only
            go_wp2_with fail
            go_loopg [17] ps.length (fun kq v17 w' => ∃ (i m : Nat), v17 = .int .i64 (i : Int) ∧ Aside0 (i ≤ ps.length) ∧ Aside0 (ps.length - i = kq) ∧ w' = w7.drewN m)
            case atStart => exact ⟨0, 0, rfl, ⟨Nat.zero_le _⟩, ⟨rfl⟩, rfl⟩
            case round =>
              obtain ⟨i, m, rfl, HI2, HKK, rfl⟩ := hrel
              by_cases hlt : i < ps.length
              · have HLT := Aside0.mk hlt
                have hps6 : ps.length ≤ 600 := HPS.out
                obtain ⟨ad, hA, hcell⟩ := Kd.at_string HP7.out (i : Int) (by omega) (by omega)
                rw [rs_at hlt, Int.toNat_natCast] at hcell
                have HAT := Aside0.mk (fun W hW => exergueref09_At.calls 601 A5 c5 ps ps[i] (i : Int) W hW HPc.out (A1f.out i hlt))
                generalize ps[i] = x at hcell HAT
                cases hA
                go_wp2_with fail
                (with_reducible refine (HAT.out _ (Kd.C_drewN HP7.out _)).mono ?_)
                rintro e w8 ⟨rfl, ⟨m8, rfl⟩⟩
                dsimp only
                go_wp2_with fail
                go_roundg (ps.length - (i + 1))
                case measure => have := HLT.out; have := HKK.out; omega
                case rel => exact ⟨i + 1, _, by go_num, ⟨HLT.out⟩, ⟨rfl⟩, by first | rfl | exact World.drewN_drewN ..⟩
              · have HB8 := Aside0.mk (pw_below_drewN HB7.out m)
                have HP8 := Aside0.mk (Kd.C_drewN HP7.out m)
                generalize w7.drewN m = w8 at HB8 HP8 ⊢
                clear HI2 HKK
                go_wp2_with fail
                refine (putPool_no.calls (.slice A0 l0.length c0) A5 c5 ps _ HP8.out HPc.out (by have := HPS.out; omega) HPL.out).mono ?_
                rintro e w9 ⟨rfl, hb⟩
                have HP9 := Aside0.mk (Kd.C_below HP8.out hb)
                have HB9 := Aside0.mk (HB8.out.trans (hb.mono HB8.out.size))
                clear hb
                dsimp only
                go_wp2_with fail
                (with_reducible refine (exergueref09_Pool.calls _ A5 c5 ps false _ HP9.out HPc.out HPF.out).mono ?_)
                rintro e wa ⟨rfl, ⟨ma, rfl⟩⟩
                have HBa := Aside0.mk (pw_below_drewN HB9.out ma)
                generalize w9.drewN ma = wa at HBa ⊢
                dsimp only
                go_wp2_with fail
                (with_reducible refine (exergueref01_Row.calls _ A0 c0 l0 A0 c0 l0 true _ (Kd.C_below HR0.out HBa.out) HC0.out (Kd.C_below HR0.out HBa.out) HC0.out HRW.out).mono ?_)
                rintro e wb ⟨rfl, ⟨mb, rfl⟩⟩
                dsimp only
                go_wp2
                go_ret
                exact ⟨by first | rfl | (simp; done), pw_below_drewN HBa.out _⟩
end Go.Proofs.Ytmgkfklkdedpgaa.Q
