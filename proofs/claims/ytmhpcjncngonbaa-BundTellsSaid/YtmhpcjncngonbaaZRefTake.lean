/- Texts of this claim, joined; the first one's sentence stands below. -/
import Derived.Test.YtmhpcjncngonbaaZM5
/- What the reference's Take comes to; rows of bytes. -/
namespace Go.Proofs.Ytmhpcjncngonbaa.Q
open Go.RowKit Go.Proofs.Ytmhpcjncngonbaa.Mine Go.Proofs.YtmhpcjncngonbaaW.PrintWords Go.Proofs.YtmhpcjncngonbaaW.PrintLast Go.Proofs.YtmhpcjncngonbaaW.PrintMore
set_option linter.unusedVariables false
set_option linter.unusedSimpArgs false
set_option maxHeartbeats 4000000 in
set_option maxRecDepth 100000 in
theorem refTake.calls (A0 : Option Addr) (c0 : Nat) (l0 : List Int) (p s : Int) (w : World) (hr0 : Kd.C (Kd.int .u8) w A0 l0.length l0) (hc0 : l0.length ≤ c0) (hb : bytesOk l0) (hp0 : -9223372036854775808 ≤ p) (hp1 : p < 9223372036854775808) :
    Calls Try.prog 73 #[.slice A0 l0.length c0, .int .i64 p, .int .i64 s] w fun e w' => e = .returned (.tuple #[.int .u32 (takeN l0 p s).1, .int .i64 (takeN l0 p s).2.1, .int .i64 (takeN l0 p s).2.2]) ∧ w = w' := by
  have hm : l0.length ≤ 9223372036854775807 := hr0.2.1
  cases hs : isSz s with
  | false =>
    have e1 : takeN l0 p s = (0, 0, 1) := if_neg (fun h => by rw [hs] at h; exact absurd h.1 (by simp))
    rw [e1]
    have hn : ¬ (s = 1 ∨ s = 2 ∨ s = 4) := fun h => by have := isSz_iff.2 h; rw [hs] at this; exact absurd this (by simp)
    have a1 : (s == 1) = false := beq_eq_false_iff_ne.2 (fun h => hn (.inl h))
    have a2 : (s == 2) = false := beq_eq_false_iff_ne.2 (fun h => hn (.inr (.inl h)))
    have a4 : (s == 4) = false := beq_eq_false_iff_ne.2 (fun h => hn (.inr (.inr h)))
    have b1 : (s != 1) = true := by rw [bne, a1]; rfl
    have b2 : (s != 2) = true := by rw [bne, a2]; rfl
    have b4 : (s != 4) = true := by rw [bne, a4]; rfl
    clear hs hb e1 hr0 hn
    go_enter Try.func73, Try.ntmps73
    go_wp2
    go_ret3
    exact ⟨rfl, rfl⟩
  | true =>
    have hs4 : 1 ≤ s ∧ s ≤ 4 := by have := isSz_iff.1 hs; omega
    have hsz := isSz_iff.1 hs
    obtain ⟨S, rfl⟩ := Int.eq_ofNat_of_zero_le (show 0 ≤ s by omega)
    rcases hsz with hsz | hsz | hsz
    all_goals
      first
        | have a1 : ((S : Int) == 1) = true := beq_iff_eq.2 (by omega)
        | have a1 : ((S : Int) == 1) = false := beq_eq_false_iff_ne.2 (by omega)
      first
        | have a2 : ((S : Int) == 2) = true := beq_iff_eq.2 (by omega)
        | have a2 : ((S : Int) == 2) = false := beq_eq_false_iff_ne.2 (by omega)
      first
        | have a4 : ((S : Int) == 4) = true := beq_iff_eq.2 (by omega)
        | have a4 : ((S : Int) == 4) = false := beq_eq_false_iff_ne.2 (by omega)
      have b1 : ((S : Int) != 1) = !((S : Int) == 1) := rfl
      have b2 : ((S : Int) != 2) = !((S : Int) == 2) := rfl
      have b4 : ((S : Int) != 4) = !((S : Int) == 4) := rfl
      rw [a1] at b1
      rw [a2] at b2
      rw [a4] at b4
      clear hsz
      by_cases hp : 0 ≤ p
      case neg =>
        have e1 : takeN l0 p S = (0, 0, 1) := if_neg (fun h => hp h.2)
        rw [e1]
        have hd : decide (p < 0) = true := decide_eq_true (by omega)
        clear hs hb e1 hr0 hs4
        go_enter Try.func73, Try.ntmps73
        go_wp2
        go_ret3
        exact ⟨rfl, rfl⟩
      by_cases hq : p > (l0.length : Int) - S
      · have e1 : takeN l0 p S = (0, 0, 2) := by rw [takeN, if_pos ⟨hs, hp⟩, if_pos hq]
        rw [e1]
        have hd : decide (p < 0) = false := decide_eq_false (by omega)
        have hd2 : decide ((l0.length : Int) - p < S) = true := decide_eq_true (by omega)
        clear hs hb e1 hr0
        go_enter Try.func73, Try.ntmps73
        by_cases hz : (l0.length : Int) < p
        · have hz1 : decide ((l0.length : Int) < p) = true := decide_eq_true hz
          clear hd2 hq
          go_wp2
          go_ret3
          exact ⟨rfl, rfl⟩
        · have hz1 : decide ((l0.length : Int) < p) = false := decide_eq_false hz
          clear hq
          go_wp2
          go_ret3
          exact ⟨rfl, rfl⟩
      · obtain ⟨P, rfl⟩ := Int.eq_ofNat_of_zero_le hp
        have hle : P + S ≤ l0.length := by omega
        obtain ⟨xs, hxs⟩ : ∃ xs, xs = (l0.drop P).take S := ⟨_, rfl⟩
        have e1 : takeN l0 P S = (beN xs, (P : Int) + S, 0) := by rw [takeN, if_pos ⟨hs, hp⟩, if_neg hq, hxs]; rfl
        rw [e1]
        have hxl : xs.length = S := by rw [hxs, List.length_take, List.length_drop]; omega
        have hd : decide ((P : Int) < 0) = false := decide_eq_false (by omega)
        have hd2 : decide ((l0.length : Int) < P) = false := decide_eq_false (by omega)
        have hd4 : decide (l0.length < P) = false := decide_eq_false (by omega)
        have hd3 : decide ((l0.length : Int) - P < S) = false := decide_eq_false (by omega)
        have HXL := Aside0.mk hxl
        have HR0 := Aside0.mk hr0
        have HBX := Aside0.mk (show bytesOk xs from fun x hx => hb x (by rw [hxs] at hx; exact List.mem_of_mem_drop (List.mem_of_mem_take hx)))
        have HRD := Aside0.mk (show ∀ (n : Nat) (h : n < xs.length), rd l0 ((P + n : Nat) : Int) = xs[n] from fun n h => by
          subst hxs
          rw [List.length_take, List.length_drop] at h
          simp [rd, List.getElem_take, List.getElem_drop, List.getD_eq_getElem?_getD]
          rw [List.getElem?_eq_getElem (by omega)]
          rfl)
        clear hr0 hb
        clear hs e1 hq hp hxl hxs
        go_enter Try.func73, Try.ntmps73
        go_wp2_with fail
        go_loopg [9, 10] S (fun kq v9 v10 wr => ∃ n : Nat, v10 = .int .i64 (n : Int) ∧ v9 = .int .u32 (beN (xs.take n)) ∧ Aside0 (n ≤ S) ∧ Aside0 (S - n = kq) ∧ wr = w)
        case atStart => exact ⟨0, rfl, rfl, ⟨Nat.zero_le _⟩, ⟨rfl⟩, rfl⟩
        case round =>
          obtain ⟨n, rfl, rfl, HN, HK, rfl⟩ := hrel
          by_cases hlt : n < S
          · have HLT := Aside0.mk hlt
            have hxn : n < xs.length := by rw [HXL.out]; exact hlt
            have hbn := HBX.out xs[n] (List.getElem_mem hxn)
            have hbt := beN_range n (xs.take n) (fun x hx => HBX.out x (List.mem_of_mem_take hx)) (by rw [List.length_take]; omega)
            have hbe : beN (xs.take (n + 1)) = beN (xs.take n) * 256 + xs[n] := by rw [List.take_succ_eq_append_getElem hxn, beN_snoc]
            have hn3 : n ≤ 3 := by omega
            have hpw : (256 : Int) ^ n ≤ 16777216 := by
              have : n = 0 ∨ n = 1 ∨ n = 2 ∨ n = 3 := by omega
              rcases this with rfl | rfl | rfl | rfl <;> decide
            obtain ⟨ad, hA, hcell⟩ := Kd.at_int HR0.out ((P + n : Nat) : Int) (by omega) (by omega)
            have hrd : rd l0 ((P + n : Nat) : Int) = xs[n] := HRD.out n hxn
            rw [hrd, Int.toNat_natCast] at hcell
            cases hA
            generalize xs[n] = c at hbn hbe hcell
            generalize beN (xs.take n) = m at hbt hbe
            have hb1 : 0 ≤ m := hbt.1
            have hb2 : m < 16777216 := by omega
            have hb3 : 0 ≤ c := hbn.1
            have hb4 : c < 256 := hbn.2
            have HBE := Aside0.mk hbe
            clear hbe hbt hbn hrd hpw hn3
            go_wp2_with fail
            go_roundg (S - (n + 1))
            case measure => have := HLT.out; have := HK.out; omega
            case rel => exact ⟨n + 1, by go_num, by rw [HBE.out], ⟨HLT.out⟩, ⟨rfl⟩, rfl⟩
          · have hn : n = S := by have := HN.out; omega
            subst hn
            have e2 : xs.take n = xs := List.take_of_length_le (by have := HXL.out; omega)
            rw [e2]
            clear e2
            have hb0 := (beN_range n xs HBX.out HXL.out).1
            go_wp2
            go_ret3
            exact ⟨rfl, rfl⟩
end Go.Proofs.Ytmhpcjncngonbaa.Q
