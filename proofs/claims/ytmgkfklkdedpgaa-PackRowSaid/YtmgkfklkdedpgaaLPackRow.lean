/- The law PackRow, walked: true for each input of its kinds; no other condition. -/
import Derived.Test.YtmgkfklkdedpgaaShown
import Derived.Test.YtmgkfklkdedpgaaSpecA
import Derived.Test.YtmgkfklkdedpgaaSpecC
namespace Go.Proofs.Ytmgkfklkdedpgaa.Q
open Go.RowKit Go.Proofs.Ytmgkfklkdedpgaa.Mine Go.Proofs.YtmgkfklkdedpgaaW.PrintWords Go.Proofs.YtmgkfklkdedpgaaW.PrintLast Go.Proofs.YtmgkfklkdedpgaaW.PrintMore
set_option linter.unusedVariables false
set_option linter.unusedSimpArgs false
/-- numbers of one size, one behind the other -/
def cat (s : Nat) : List Int → List Int
  | [] => []
  | n :: l => bytesB n s ++ cat s l
theorem cat_app (s : Nat) : ∀ a b, cat s (a ++ b) = cat s a ++ cat s b
  | [], b => rfl
  | n :: a, b => by rw [List.cons_append, cat, cat_app s a b, cat, List.append_assoc]
theorem cat_one (s : Nat) (n : Int) : cat s [n] = bytesB n s := by rw [cat, cat, List.append_nil]
theorem cat_len (s : Nat) : ∀ l, (cat s l).length = s * l.length
  | [] => rfl
  | n :: l => by rw [cat, List.length_append, bytesB_len, cat_len s l, List.length_cons, Nat.mul_succ, Nat.add_comm]
theorem cat_ok (s : Nat) : ∀ l, bytesOk (cat s l)
  | [] => fun x hx => by cases hx
  | n :: l => fun x hx => by
    rw [cat] at hx
    rcases List.mem_append.1 hx with h | h
    · exact bytesB_ok s n x h
    · exact cat_ok s l x h
def u32B (l : List Int) : Bool := l.all fun x => decide (0 ≤ x ∧ x < 4294967296)
theorem u32B_ok {l : List Int} (h : u32B l = true) : ∀ x ∈ l, 0 ≤ x ∧ x < 4294967296 := fun x hx => by
  have := List.all_eq_true.1 h x hx
  simpa using this
def exerguelaw09_PackRow.f (k : Nat) (l0 : List Int) (s : Int) : Option Bool := if u32B l0 = true then some true else none
set_option maxHeartbeats 8000000 in
set_option maxRecDepth 100000 in
theorem exerguelaw09_PackRow.calls (k : Nat) (A0 : Option Addr) (c0 : Nat) (l0 : List Int) (s : Int) (r : Bool) (w : World) (hr0 : Kd.C (Kd.int .u32) w A0 l0.length l0) (hc0 : l0.length ≤ c0) (h : exerguelaw09_PackRow.f k l0 s = some r) :
    Calls Try.prog 4 #[.slice A0 l0.length c0, .int .i64 s] w fun e w' => e = .returned (.bool r) ∧ Below w.heap.size w w' := by
  unfold exerguelaw09_PackRow.f at h
  split at h
  case isFalse => cases h
  rename_i hc
  have HU := Aside0.mk (u32B_ok hc)
  obtain rfl := Option.some.inj h
  clear h hc
  have HR0 := Aside0.mk hr0
  have HC0 := Aside0.mk hc0
  clear hr0 hc0
  by_cases h6 : l0.length > 100
  · have hd : decide (100 < l0.length) = true := decide_eq_true h6
    have hd2 : decide (100 < (l0.length : Int)) = true := decide_eq_true (by omega)
    clear h6
    go_enter Try.func4, Try.ntmps4
    go_wp2_with fail
    refine (shown.calls _).mono ?_
    rintro e w1 ⟨rfl, hb⟩
    have HB1 := Aside0.mk hb
    clear hb
    dsimp only
    go_wp2
    go_ret
    exact ⟨rfl, HB1.out⟩
  have hd : decide (100 < l0.length) = false := decide_eq_false h6
  have hd2 : decide (100 < (l0.length : Int)) = false := decide_eq_false (by omega)
  have H6 := Aside0.mk (show l0.length ≤ 100 by omega)
  clear h6
  go_enter Try.func4, Try.ntmps4
  go_wp2_with fail
  refine (shown.calls _).mono ?_
  rintro e w1 ⟨rfl, hb⟩
  have HB1 := Aside0.mk hb
  clear hb
  dsimp only
  go_wp2_with fail
  go_loopg [6, 7] l0.length (fun kq v6 v7 wr => ∃ (n : Nat) (bs : List Int) (A6 : Option Addr) (c6 : Nat), v7 = .int .i64 (n : Int) ∧ v6 = .slice A6 bs.length c6 ∧ Aside0 (n ≤ l0.length) ∧ Aside0 (l0.length - n = kq) ∧ Aside0 (bs = cat s.toNat (l0.take n)) ∧ Aside0 (∀ x ∈ l0.take n, putsB x s = true) ∧ Aside0 (Kd.C (Kd.int .u8) wr A6 bs.length bs) ∧ Aside0 (bs.length ≤ c6) ∧ Aside0 (Below w.heap.size w wr))
  case atStart => exact ⟨0, [], none, 0, rfl, rfl, ⟨Nat.zero_le _⟩, ⟨rfl⟩, ⟨rfl⟩, ⟨fun x hx => absurd hx List.not_mem_nil⟩, ⟨Kd.C_nil _ _⟩, ⟨Nat.le_refl _⟩, HB1⟩
  case round =>
    obtain ⟨n, bs, A6, c6, rfl, rfl, HN, HK, HBS, HP, HC6, HC6c, HBr⟩ := hrel
    have hm6 : l0.length ≤ 100 := H6.out
    have HBL := Aside0.mk (show bs.length ≤ 400 ∨ n = 0 by
      by_cases h0 : n = 0
      · exact .inr h0
      · left
        have hlen : 0 < (l0.take n).length := by rw [List.length_take]; have := HN.out; omega
        obtain ⟨x, hx⟩ : ∃ x, x ∈ l0.take n := ⟨_, List.getElem_mem hlen⟩
        have hz := HP.out x hx
        have hs := isSz_iff.1 (by simp only [putsB, Bool.and_eq_true] at hz; exact hz.1 : isSz s = true)
        have hl : (l0.take n).length ≤ 100 := Nat.le_trans (List.length_take_le _ _) (by have := HN.out; omega)
        rw [HBS.out, cat_len]
        have : s.toNat ≤ 4 := by omega
        exact Nat.le_trans (Nat.mul_le_mul this hl) (by decide))
    have HBL2 := Aside0.mk (show bs.length ≤ 400 by
      rcases HBL.out with h | h
      · exact h
      · rw [HBS.out, h]; exact Nat.zero_le _)
    clear HBL
    by_cases hlt : n < l0.length
    · have HLT := Aside0.mk hlt
      obtain ⟨ad, hA, hcell⟩ := Kd.at_int (Kd.C_below HR0.out HBr.out) (n : Int) (by omega) (by omega)
      rw [rd_at hlt, Int.toNat_natCast] at hcell
      have hux := HU.out l0[n] (List.getElem_mem hlt)
      have ht : l0.take (n + 1) = l0.take n ++ [l0[n]] := List.take_succ_eq_append_getElem hlt
      generalize l0[n] = x at hcell hux ht
      have HT := Aside0.mk ht
      have HUX := Aside0.mk hux
      clear ht hux
      cases hA
      cases hp : putsB x s with
      | false =>
        have HPN := Aside0.mk (fun W => put_no.calls (.slice A6 bs.length c6) x s W HUX.out.1 HUX.out.2 hp)
        have hrow := Row_f (k := 1000) bs bs (by have := HBL2.out; omega) (by have := HBL2.out; omega)
        rw [decide_eq_true rfl] at hrow
        have HRW := Aside0.mk hrow
        clear hp hrow
        go_wp2_with fail
        refine (HPN.out _).mono ?_
        rintro e w2 ⟨rfl, rfl⟩
        dsimp only
        go_wp2_with fail
        (with_reducible refine (exergueref01_Row.calls _ A6 c6 bs A6 c6 bs true _ HC6.out HC6c.out HC6.out HC6c.out HRW.out).mono ?_)
        rintro e w3 ⟨rfl, ⟨m3, rfl⟩⟩
        dsimp only
        go_wp2
        go_ret
        exact ⟨by first | rfl | (simp; done), pw_below_drewN HBr.out _⟩
      | true =>
        have HPY := Aside0.mk (fun W hW => put_yes.calls A6 c6 bs x s W hW HC6c.out (by have := HBL2.out; omega) HUX.out.1 HUX.out.2 hp)
        have HPX := Aside0.mk hp
        obtain ⟨ys, hys⟩ : ∃ ys, ys = bs ++ bytesB x s.toNat := ⟨_, rfl⟩
        rw [← hys] at HPY
        have HYS := Aside0.mk hys
        clear hp hys
        go_wp2_with fail
        refine (HPY.out _ HC6.out).mono ?_
        rintro e w2 ⟨v2, rfl, ho, hb⟩
        obtain ⟨A2, c2, rfl⟩ := Kd.R_slice ho
        have HX := Aside0.mk (Kd.R_reads' ho).2.2
        have HXc := Aside0.mk (Kd.R_reads' ho).2.1
        have HB2 := Aside0.mk (HBr.out.trans (hb.mono HBr.out.size))
        clear ho hb
        dsimp only
        go_wp2_with fail
        go_roundg (l0.length - (n + 1))
        case measure => have := HLT.out; have := HK.out; omega
        case rel =>
          refine ⟨n + 1, ys, A2, c2, by go_num, rfl, ⟨HLT.out⟩, ⟨rfl⟩, ⟨?_⟩, ⟨fun y hy => ?_⟩, HX, HXc, HB2⟩
          · rw [HYS.out, HBS.out, HT.out, cat_app, cat_one]
          · rw [HT.out] at hy
            rcases List.mem_append.1 hy with h | h
            · exact HP.out y h
            · rw [List.mem_singleton.1 h]; exact HPX.out
    · have hn : n = l0.length := by have := HN.out; omega
      subst hn
      have hbs := HBS.out
      rw [List.take_length] at hbs
      have hpp := HP.out
      rw [List.take_length] at hpp
      have HBS2 := Aside0.mk hbs
      have HPP := Aside0.mk hpp
      have HTK := Aside0.mk (fun (p : Int) (hp0 : 0 ≤ p) (hp1 : p ≤ 500) => take.calls A6 c6 bs p s wr HC6.out HC6c.out (by rw [hbs]; exact cat_ok _ _) (by omega) (by omega))
      have hend : (takeN bs (bs.length : Int) s).2.2 ≠ 0 := by
        unfold takeN
        by_cases h1 : isSz s = true ∧ (0 : Int) ≤ (bs.length : Int)
        · have := isSz_iff.1 h1.1
          rw [if_pos h1, if_pos (by omega)]
          decide
        · rw [if_neg h1]; decide
      have HEND := Aside0.mk hend
      clear hbs hpp hend HBS HP HN HK hlt
      go_wp2_with fail
      go_loopg [10, 11] l0.length (fun kq v10 v11 w' => ∃ n : Nat, v11 = .int .i64 (n : Int) ∧ v10 = .int .i64 ((cat s.toNat (l0.take n)).length : Int) ∧ Aside0 (n ≤ l0.length) ∧ Aside0 (l0.length - n = kq) ∧ w' = wr)
      case atStart => exact ⟨0, rfl, rfl, ⟨Nat.zero_le _⟩, ⟨rfl⟩, rfl⟩
      case round =>
        obtain ⟨n, rfl, rfl, HN, HK, rfl⟩ := hrel
        by_cases hlt : n < l0.length
        · have HLT := Aside0.mk hlt
          obtain ⟨ad, hA, hcell⟩ := Kd.at_int (Kd.C_below HR0.out HBr.out) (n : Int) (by omega) (by omega)
          rw [rd_at hlt, Int.toNat_natCast] at hcell
          have hux := HU.out l0[n] (List.getElem_mem hlt)
          have hpx := HPP.out l0[n] (List.getElem_mem hlt)
          have hs4 : 1 ≤ s ∧ s ≤ 4 := by
            have := isSz_iff.1 (by simp only [putsB, Bool.and_eq_true] at hpx; exact hpx.1 : isSz s = true)
            omega
          have ht : l0.take (n + 1) = l0.take n ++ [l0[n]] := List.take_succ_eq_append_getElem hlt
          have e1 : l0 = l0.take n ++ (l0[n] :: l0.drop (n + 1)) := by
            rw [← List.drop_eq_getElem_cons hlt, List.take_append_drop]
          have hcat : bs = cat s.toNat (l0.take n) ++ (bytesB l0[n] s.toNat ++ cat s.toNat (l0.drop (n + 1))) := by
            rw [HBS2.out]
            conv => lhs; rw [e1]
            rw [cat_app, cat]
          have hlen2 : (cat s.toNat (l0.take (n + 1))).length = (cat s.toNat (l0.take n)).length + s.toNat := by
            rw [ht, cat_app, cat_one, List.length_append, bytesB_len]
          have hle : (cat s.toNat (l0.take n)).length + s.toNat ≤ bs.length := by
            rw [hcat, List.length_append, List.length_append, bytesB_len]; omega
          have htk := put_take (cat s.toNat (l0.take n)) (cat s.toNat (l0.drop (n + 1))) l0[n] s hux.1 hpx
          rw [← hcat] at htk
          generalize (cat s.toNat (l0.take n)).length = P at htk hlen2 hle ⊢
          have HT2 := Aside0.mk (HTK.out P (by omega) (by have := HBL2.out; omega))
          rw [htk] at HT2
          generalize l0[n] = x at hcell HT2
          have HL2 := Aside0.mk hlen2
          have HS4 := Aside0.mk hs4
          have hw : wrap64 ((P : Int) + s) = (P : Int) + s := by have := HBL2.out; unfold wrap64; omega
          clear htk hlen2 hle hcat e1 ht hux hpx hs4
          cases hA
          go_wp2_with fail
          refine HT2.out.mono ?_
          rintro e w2 ⟨rfl, rfl⟩
          dsimp only
          go_wp2_with fail
          go_roundg (l0.length - (n + 1))
          case measure => have := HLT.out; have := HK.out; omega
          case rel => exact ⟨n + 1, by go_num, by rw [HL2.out]; have := HS4.out; congr 1; omega, ⟨HLT.out⟩, ⟨rfl⟩, rfl⟩
        · have hn : n = l0.length := by have := HN.out; omega
          subst hn
          rw [List.take_length, ← HBS2.out]
          have HT2 := Aside0.mk (HTK.out bs.length (by omega) (by have := HBL2.out; omega))
          have hend := HEND.out
          rw [takeN_no hend] at HT2
          have hb3 : ((takeN bs (bs.length : Int) s).2.2 == 0) = false := beq_eq_false_iff_ne.2 hend
          have hb4 : ((takeN bs (bs.length : Int) s).2.2 != 0) = true := bne_iff_ne.2 hend
          generalize (takeN bs (bs.length : Int) s).2.2 = g at HT2 hb3 hb4
          clear hend
          go_wp2_with fail
          refine HT2.out.mono ?_
          rintro e w2 ⟨rfl, rfl⟩
          dsimp only
          go_wp2
          go_ret
          exact ⟨by first | rfl | (simp; done), HBr.out⟩
end Go.Proofs.Ytmgkfklkdedpgaa.Q
