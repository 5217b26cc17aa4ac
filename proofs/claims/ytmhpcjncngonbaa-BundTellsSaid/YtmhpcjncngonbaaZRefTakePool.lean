/- Texts of this claim, joined; the first one's sentence stands below. -/
import Derived.Test.YtmhpcjncngonbaaZRefTake
import Derived.Test.YtmhpcjncngonbaaZM5
import Derived.Test.YtmhpcjncngonbaaZM4
/- What the reference's TakePool comes to; rows of bytes. -/
namespace Go.Proofs.Ytmhpcjncngonbaa.Q
open Go.RowKit Go.Proofs.Ytmhpcjncngonbaa.Mine Go.Proofs.YtmhpcjncngonbaaW.PrintWords Go.Proofs.YtmhpcjncngonbaaW.PrintLast Go.Proofs.YtmhpcjncngonbaaW.PrintMore
set_option linter.unusedVariables false
set_option linter.unusedSimpArgs false
set_option maxHeartbeats 4000000 in
set_option maxRecDepth 100000 in
theorem refTakePool.calls (k : Nat) (hPool : ∀ r : List ByteArray, r.length < 65536 → exergueref09_Pool.f k r = some (isPoolB r)) (A0 : Option Addr) (c0 : Nat) (l0 : List Int) (p : Int) (w : World) (hr0 : Kd.C (Kd.int .u8) w A0 l0.length l0) (hc0 : l0.length ≤ c0) (hbo : bytesOk l0) (hp0 : -9223372036854775808 ≤ p) (hp1 : p < 9223372036854775808) (hl : l0.length < 140737488355328) :
    Calls Try.prog 59 #[.slice A0 l0.length c0, .int .i64 p] w fun e w' => ∃ v0_ : Value, e = .returned (.tuple #[v0_, .int .i64 (takePool l0 p).2.1, .int .i64 (takePool l0 p).2.2]) ∧ Kd.R Kd.string 9 w' w.heap.size (fun _ => True) v0_ (takePool l0 p).1 ∧ Below w.heap.size w w' := by
  have HPOOL := Aside0.mk hPool
  have HT := Aside0.mk (refTake.calls A0 c0 l0 p 2 w hr0 hc0 hbo hp0 hp1)
  have HB := Aside0.mk (Below.refl w.heap.size w)
  have HR0 := Aside0.mk hr0
  have HC0 := Aside0.mk hc0
  have HBO := Aside0.mk hbo
  have HL := Aside0.mk hl
  clear hPool hr0 hc0 hl
  by_cases hpp : 0 ≤ p
  case neg =>
    have e1 : takePool l0 p = ([], 0, 1) := by
      have : takeN l0 p 2 = (0, 0, 1) := if_neg (fun h => hpp h.2)
      unfold takePool
      rw [this]
      rfl
    rw [e1]
    have hd : decide (p < 0) = true := decide_eq_true (by omega)
    clear e1 hbo HT
    go_enter Try.func59, Try.ntmps59
    go_wp2
    go_ret3
    exact ⟨_, rfl, Kd.R_nil _ _ _ _ _, HB.out⟩
  have hd0 : decide (p < 0) = false := decide_eq_false (by omega)
  by_cases h0 : (takeN l0 p 2).2.2 = 0
  case neg =>
    have he := takeN_no h0
    have e1 : takePool l0 p = ([], 0, (takeN l0 p 2).2.2) := if_pos h0
    rw [e1]
    rw [he] at HT
    have hb3 : ((takeN l0 p 2).2.2 == 0) = false := beq_eq_false_iff_ne.2 h0
    have hb4 : ((takeN l0 p 2).2.2 != 0) = true := bne_iff_ne.2 h0
    generalize (takeN l0 p 2).2.2 = t at HT hb3 hb4 ⊢
    clear he e1 h0 hbo
    go_enter Try.func59, Try.ntmps59
    go_wp2_with fail
    refine HT.out.mono ?_
    rintro e w3 ⟨rfl, rfl⟩
    dsimp only
    go_wp2
    go_ret3
    exact ⟨_, rfl, Kd.R_nil _ _ _ _ _, HB.out⟩
  obtain ⟨_, _, hle, he, hn0, hn1⟩ := takeN_ok hbo h0
  have hm : l0.length ≤ 9223372036854775807 := HR0.out.2.1
  have e1 : takePool l0 p = match textsN l0 (takeN l0 p 2).1.toNat (p + 2) [] with
    | none => ([], 0, 2)
    | some t => if isPoolB t.1 = true then (t.1, t.2, 0) else ([], 0, 2) := if_neg (by simpa using h0)
  rw [he] at HT e1
  dsimp only at e1
  generalize beN ((l0.drop p.toNat).take (Int.toNat 2)) = m at HT hn0 hn1 e1
  have hn2 : m < 65536 := hn1
  obtain ⟨N, rfl⟩ := Int.eq_ofNat_of_zero_le hn0
  rw [Int.toNat_natCast] at e1
  have hN : N < 65536 := by omega
  have E1 := Aside0.mk e1
  have HPP := Aside0.mk hpp
  have HLE := Aside0.mk hle
  clear hn1 h0 he e1 hn0 hpp hle hbo
  go_enter Try.func59, Try.ntmps59
  go_wp2_with fail
  refine HT.out.mono ?_
  rintro e w3 ⟨rfl, rfl⟩
  dsimp only
  go_wp2_with fail
  go_loopg [8, 10, 11] N (fun kq v8 v10 v11 wr => ∃ (n : Nat) (q : Int) (acc : List ByteArray), v11 = .int .i64 (n : Int) ∧ v8 = .int .i64 q ∧ Aside0 (n ≤ N) ∧ Aside0 (N - n = kq) ∧ Aside0 (acc.length = n) ∧ Aside0 (0 ≤ q ∧ q ≤ l0.length) ∧ Aside0 (textsN l0 N (p + 2) [] = textsN l0 (N - n) q acc) ∧ Aside0 (Kd.R Kd.string 9 wr w.heap.size (fun _ => True) v10 acc) ∧ Aside0 (Below w.heap.size w wr))
  case atStart => exact ⟨0, p + 2, [], rfl, rfl, ⟨Nat.zero_le _⟩, ⟨rfl⟩, ⟨rfl⟩, ⟨by have := HPP.out; have := HLE.out; omega⟩, ⟨rfl⟩, ⟨Kd.R_nil _ _ _ _ _⟩, HB⟩
  case round =>
    obtain ⟨n, q, acc, rfl, rfl, HN, HK, HAL, HQ, HX, HO, HB1⟩ := hrel
    by_cases hlt : n < N
    · have HLT := Aside0.mk hlt
      have hx := HX.out
      obtain ⟨d, hd⟩ : ∃ d, N - n = d + 1 := ⟨N - n - 1, by omega⟩
      rw [hd, textsN] at hx
      have HT2 := Aside0.mk (refTake.calls A0 c0 l0 q 2 wr (Kd.C_below HR0.out HB1.out) HC0.out HBO.out (by have := HQ.out; omega) (by have := HQ.out; have := HL.out; omega))
      by_cases h0 : (takeN l0 q 2).2.2 = 0
      case neg =>
        have ho : oneText l0 q = none := if_pos h0
        rw [ho] at hx
        have HX2 := Aside0.mk (show textsN l0 N (p + 2) [] = none from hx)
        rw [takeN_no h0] at HT2
        have hb3 : ((takeN l0 q 2).2.2 == 0) = false := beq_eq_false_iff_ne.2 h0
        have hb4 : ((takeN l0 q 2).2.2 != 0) = true := bne_iff_ne.2 h0
        generalize (takeN l0 q 2).2.2 = t at HT2 hb3 hb4
        clear hx ho hd h0
        go_wp2_with fail
        refine HT2.out.mono ?_
        rintro e w5 ⟨rfl, rfl⟩
        dsimp only
        go_wp2
        go_ret3
        have h2 := E1.out
        rw [HX2.out] at h2
        rw [h2]
        exact ⟨_, rfl, Kd.R_nil _ _ _ _ _, HB1.out⟩
      obtain ⟨_, hq0, hle2, he2, hm0, hm1⟩ := takeN_ok HBO.out h0
      have ho : oneText l0 q = if (takeN l0 q 2).1 > (l0.length : Int) - (q + 2) then none else some (strOfNums ((l0.take (q + 2 + (takeN l0 q 2).1).toNat).drop (q + 2).toNat), q + 2 + (takeN l0 q 2).1) := if_neg (by simpa using h0)
      rw [he2] at HT2 ho
      dsimp only at ho
      generalize beN ((l0.drop q.toNat).take (Int.toNat 2)) = m at HT2 hm0 hm1 ho
      have hm2 : m < 65536 := hm1
      have hq1 : q + 2 ≤ l0.length := hle2
      have hw : wrap64 (q + 2 + m) = q + 2 + m := by have := HL.out; unfold wrap64; omega
      have HLQ := Aside0.mk (show (0 : Int) ≤ q ∧ q + 2 ≤ l0.length from ⟨hq0, hle2⟩)
      by_cases hgt : m > (l0.length : Int) - (q + 2)
      · rw [if_pos hgt] at ho
        rw [ho] at hx
        have HX2 := Aside0.mk (show textsN l0 N (p + 2) [] = none from hx)
        have hg : decide ((l0.length : Int) < q + 2 + m) = true := decide_eq_true (by omega)
        clear hx ho hd h0 hgt he2 hm1 hle2
        go_wp2_with fail
        refine HT2.out.mono ?_
        rintro e w5 ⟨rfl, rfl⟩
        dsimp only
        go_wp2
        go_ret3
        have h2 := E1.out
        rw [HX2.out] at h2
        rw [h2]
        exact ⟨_, rfl, Kd.R_nil _ _ _ _ _, HB1.out⟩
      · rw [if_neg hgt] at ho
        rw [ho] at hx
        have hg : decide ((l0.length : Int) < q + 2 + m) = false := decide_eq_false (by omega)
        obtain ⟨i0, hi0, hz0, hz1, _⟩ := info_parts info5
        have hcut := cut_mid (P := Try.prog) 32 5 .i64 .i64 Try.underlying32 hi0 1 hz1 A0 l0.length c0 (q + 2) (q + 2 + m) (by omega) (by omega) (by omega) HC0.out
        have hC := Kd.C_mid (lo := (q + 2).toNat) (hi := (q + 2 + m).toNat) (c := c0) (Kd.C_below HR0.out HB1.out) (by omega) (by omega) HC0.out
        have hstr := fun c => Kd.C_string (P := Try.prog) (src := 32) (dst := 9) (c := c) Try.underlying32 Try.underlying5 Try.underlying9 hC
        have hlen : ((l0.take (q + 2 + m).toNat).drop (q + 2).toNat).length = (q + 2 + m).toNat - (q + 2).toNat := by rw [List.length_drop, List.length_take]; omega
        rw [hlen] at hstr
        have e1 : (Kd.int .u8).sz = 1 := rfl
        rw [e1] at hstr
        have hstr2 := hstr (c0 - (q + 2).toNat)
        generalize (if c0 = (q + 2).toNat then A0 else A0.map (·.add ((q + 2).toNat * 1))) = A' at hcut hstr2
        have HX2 := Aside0.mk (show textsN l0 N (p + 2) [] = textsN l0 d (q + 2 + m) (acc ++ [strOfNums ((l0.take (q + 2 + m).toNat).drop (q + 2).toNat)]) from hx)
        have HD := Aside0.mk hd
        have HQ2 := Aside0.mk (show 0 ≤ q + 2 + m ∧ q + 2 + m ≤ l0.length by omega)
        generalize strOfNums ((l0.take (q + 2 + m).toNat).drop (q + 2).toNat) = str at hstr2 HX2
        clear hx ho hd h0 hgt he2 hm1 hle2 hC hstr hlen e1
        go_wp2_with fail
        refine HT2.out.mono ?_
        rintro e w5 ⟨rfl, rfl⟩
        dsimp only
        go_wp2_with ((with_reducible refine gate_builtin (b := .append) (xs := #[.tmp 52, .tmp 61]) rfl ?_); at_builtin; refine Kd.R_append Kd.string (w0 := w) w.heap.size rfl (.tmp 52) (.tmp 61) 48 9 (.string ⟨#[]⟩) 16 rfl Try.underlying48 info9 rfl (by decide) (by omega) u10 acc str [.string str] (fun _ => True) (fun _ => False) rfl rfl ?aP (fun _ hk => hk.elim) (fun _ _ => trivial) HO.out HB1.out HB1.out.size ?aL ?_; (case aP => exact rfl); (case aL => have := HAL.out; have := HLT.out; omega); intro v7 w7 ho hb hg hat; have HO7 := Aside0.mk ho; have HB7 := Aside0.mk hb; clear ho hb hg hat)
        go_roundg (N - (n + 1))
        case measure => have := HLT.out; have := HK.out; omega
        case rel => exact ⟨n + 1, q + 2 + m, acc ++ [str], by go_num, by first | rfl | (rw [hw]), ⟨HLT.out⟩, ⟨rfl⟩, ⟨by rw [List.length_append, HAL.out]; rfl⟩, HQ2, ⟨by rw [HX2.out, show N - (n + 1) = d by have := HD.out; omega]⟩, HO7, HB7⟩
    · have hn : n = N := by have := HN.out; omega
      subst hn
      have hx := HX.out
      rw [Nat.sub_self, textsN] at hx
      have h2 := E1.out
      rw [hx] at h2
      have HX2 := Aside0.mk h2
      clear hx h2 HX
      obtain ⟨A5, c5, rfl⟩ := Kd.R_slice HO.out
      cases hpl : isPoolB acc with
      | false =>
        have HP := Aside0.mk (exergueref09_Pool.calls k A5 c5 acc false wr (Kd.R_reads' HO.out).2.2 (Kd.R_reads' HO.out).2.1 (by rw [HPOOL.out acc (by have := HAL.out; omega), hpl]))
        have HPL := Aside0.mk hpl
        clear hpl
        go_wp2_with fail
        refine HP.out.mono ?_
        rintro e w5 ⟨rfl, ⟨m5, rfl⟩⟩
        dsimp only
        go_wp2
        go_ret3
        have h2 : takePool l0 p = if isPoolB acc = true then (acc, q, 0) else ([], 0, 2) := HX2.out
        rw [HPL.out, if_neg (by simp)] at h2
        rw [h2]
        exact ⟨_, rfl, Kd.R_nil _ _ _ _ _, pw_below_drewN HB1.out _⟩
      | true =>
        have HP := Aside0.mk (exergueref09_Pool.calls k A5 c5 acc true wr (Kd.R_reads' HO.out).2.2 (Kd.R_reads' HO.out).2.1 (by rw [HPOOL.out acc (by have := HAL.out; omega), hpl]))
        have HPL := Aside0.mk hpl
        clear hpl
        go_wp2_with fail
        refine HP.out.mono ?_
        rintro e w5 ⟨rfl, ⟨m5, rfl⟩⟩
        dsimp only
        go_wp2
        go_ret3
        have h2 : takePool l0 p = if isPoolB acc = true then (acc, q, 0) else ([], 0, 2) := HX2.out
        rw [HPL.out, if_pos rfl] at h2
        rw [h2]
        exact ⟨_, rfl, Kd.R_drewN HO.out _, pw_below_drewN HB1.out _⟩
end Go.Proofs.Ytmhpcjncngonbaa.Q
