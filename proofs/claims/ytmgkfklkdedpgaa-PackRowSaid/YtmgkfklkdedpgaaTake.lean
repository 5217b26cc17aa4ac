/- What pack.Take comes to; rows of bytes. -/
import Derived.Test.YtmgkfklkdedpgaaPut
namespace Go.Proofs.Ytmgkfklkdedpgaa.Q
open Go.RowKit Go.Proofs.Ytmgkfklkdedpgaa.Mine Go.Proofs.YtmgkfklkdedpgaaW.PrintWords Go.Proofs.YtmgkfklkdedpgaaW.PrintLast Go.Proofs.YtmgkfklkdedpgaaW.PrintMore
set_option linter.unusedVariables false
set_option linter.unusedSimpArgs false
/-- the number that bytes are, the greatest first -/
def beN (l : List Int) : Int := l.foldl (fun n c => n * 256 + c) 0
theorem u32_or8 {m c : Int} (h0 : 0 ≤ m) (h1 : m < 16777216) (h2 : 0 ≤ c) (h3 : c < 256) : bits .or .u32 (m * 256) c = m * 256 + c :=
  bits_join .u32 32 (by decide) (fun n h0 h1 => by rw [IntKind.wrap_u32]; exact Int.emod_eq_of_lt h0 h1) 8 (m * 256) c (by omega) (Int.mul_emod_left m 256) (show m * 256 < 4294967296 by omega) h2 h3 (show c < 4294967296 by omega)
theorem beN_snoc (l : List Int) (c : Int) : beN (l ++ [c]) = beN l * 256 + c := by simp [beN]
def bytesOk (l : List Int) : Prop := ∀ x ∈ l, 0 ≤ x ∧ x < 256
theorem beN_range : ∀ (k : Nat) (l : List Int), bytesOk l → l.length = k → 0 ≤ beN l ∧ beN l < 256 ^ k := by
  intro k
  induction k with
  | zero => intro l _ h; rw [List.eq_nil_of_length_eq_zero h]; decide
  | succ k ih =>
    intro l hl h
    have hne : l ≠ [] := fun e => by subst e; simp at h
    have e := (List.dropLast_concat_getLast hne).symm
    have h1 := ih l.dropLast (fun x hx => hl x (List.dropLast_subset l hx)) (by simp [h])
    have h2 := hl _ (List.getLast_mem hne)
    rw [e, beN_snoc, Int.pow_succ]
    omega
/-- a number off bytes, how far it goes, and the error -/
def takeN (l : List Int) (p s : Int) : Int × Int × Int := if isSz s = true ∧ 0 ≤ p then (if p > (l.length : Int) - s then (0, 0, 2) else (beN ((l.drop p.toNat).take s.toNat), p + s, 0)) else (0, 0, 1)
set_option maxHeartbeats 4000000 in
set_option maxRecDepth 100000 in
theorem take.calls (A0 : Option Addr) (c0 : Nat) (l0 : List Int) (p s : Int) (w : World) (hr0 : Kd.C (Kd.int .u8) w A0 l0.length l0) (hc0 : l0.length ≤ c0) (hb : bytesOk l0) (hp0 : -9223372036854775808 ≤ p) (hp1 : p < 9223372036854775808) :
    Calls Try.prog 13 #[.slice A0 l0.length c0, .int .i64 p, .int .i64 s] w fun e w' => e = .returned (.tuple #[.int .u32 (takeN l0 p s).1, .int .i64 (takeN l0 p s).2.1, .int .i64 (takeN l0 p s).2.2]) ∧ w = w' := by
  have hm : l0.length ≤ 9223372036854775807 := hr0.2.1
  cases hs : isSz s with
  | false =>
    have e1 : takeN l0 p s = (0, 0, 1) := if_neg (fun h => by rw [hs] at h; exact absurd h.1 (by simp))
    rw [e1]
    have HC := Aside0.mk (show ∀ w, Calls Try.prog 29 #[.int .i64 s] w fun e w' => e = .returned (.bool false) ∧ w = w' from fun w => hs ▸ pack_isSz.calls s w)
    clear hs hb e1 hr0
    go_enter Try.func13, Try.ntmps13
    go_wp2_with fail
    refine (HC.out _).mono ?_
    rintro e w1 ⟨rfl, rfl⟩
    dsimp only
    go_wp2
    go_ret3
    exact ⟨rfl, rfl⟩
  | true =>
    have HC := Aside0.mk (show ∀ w, Calls Try.prog 29 #[.int .i64 s] w fun e w' => e = .returned (.bool true) ∧ w = w' from fun w => hs ▸ pack_isSz.calls s w)
    have hs4 : 1 ≤ s ∧ s ≤ 4 := by have := isSz_iff.1 hs; omega
    by_cases hp : 0 ≤ p
    case neg =>
      have e1 : takeN l0 p s = (0, 0, 1) := if_neg (fun h => hp h.2)
      rw [e1]
      have hd : decide (p < 0) = true := decide_eq_true (by omega)
      clear hs hb e1 hr0 hs4
      go_enter Try.func13, Try.ntmps13
      go_wp2_with fail
      refine (HC.out _).mono ?_
      rintro e w1 ⟨rfl, rfl⟩
      dsimp only
      go_wp2
      go_ret3
      exact ⟨rfl, rfl⟩
    by_cases hq : p > (l0.length : Int) - s
    · have e1 : takeN l0 p s = (0, 0, 2) := by rw [takeN, if_pos ⟨hs, hp⟩, if_pos hq]
      rw [e1]
      have hd : decide (p < 0) = false := decide_eq_false (by omega)
      have hd2 : decide ((l0.length : Int) - s < p) = true := decide_eq_true (by omega)
      clear hs hb e1 hr0
      go_enter Try.func13, Try.ntmps13
      go_wp2_with fail
      refine (HC.out _).mono ?_
      rintro e w1 ⟨rfl, rfl⟩
      dsimp only
      go_wp2
      go_ret3
      exact ⟨rfl, rfl⟩
    · obtain ⟨P, rfl⟩ := Int.eq_ofNat_of_zero_le hp
      obtain ⟨S, rfl⟩ := Int.eq_ofNat_of_zero_le (show 0 ≤ s by omega)
      have hle : P + S ≤ l0.length := by omega
      obtain ⟨xs, hxs⟩ : ∃ xs, xs = (l0.drop P).take S := ⟨_, rfl⟩
      have e1 : takeN l0 P S = (beN xs, (P : Int) + S, 0) := by rw [takeN, if_pos ⟨hs, hp⟩, if_neg hq, hxs]; rfl
      rw [e1]
      have hxl : xs.length = S := by rw [hxs, List.length_take, List.length_drop]; omega
      have hd : decide ((P : Int) < 0) = false := decide_eq_false (by omega)
      have hd2 : decide ((l0.length : Int) - S < P) = false := decide_eq_false (by omega)
      have HXL := Aside0.mk hxl
      have HR0 := Aside0.mk hr0
      have HBX := Aside0.mk (show bytesOk xs from fun x hx => hb x (by rw [hxs] at hx; exact List.mem_of_mem_drop (List.mem_of_mem_take hx)))
      have HRD := Aside0.mk (show ∀ (n : Nat) (h : n < xs.length), rd l0 ((P + n : Nat) : Int) = xs[n] from fun n h => by
        subst hxs
        rw [List.length_take, List.length_drop] at h
        simp [rd, List.getElem_take, List.getElem_drop, List.getD_eq_getElem?_getD]
        rw [List.getElem?_eq_getElem (by omega)]
        rfl)
      clear hr0 hb
      clear hs e1 hq hp hxl hxs
      go_enter Try.func13, Try.ntmps13
      go_wp2_with fail
      refine (HC.out _).mono ?_
      rintro e w1 ⟨rfl, rfl⟩
      dsimp only
      go_wp2_with fail
      have h0 := beN_range 0 [] (fun _ h => absurd h List.not_mem_nil) rfl
      go_loopg [9, 32] S (fun kq v9 v32 wr => ∃ n : Nat, v32 = .int .i64 (n : Int) ∧ v9 = .int .u32 (beN (xs.take n)) ∧ Aside0 (n ≤ S) ∧ Aside0 (S - n = kq) ∧ wr = w)
      case atStart => exact ⟨0, rfl, rfl, ⟨Nat.zero_le _⟩, ⟨rfl⟩, rfl⟩
      case round =>
        obtain ⟨n, rfl, rfl, HN, HK, rfl⟩ := hrel
        by_cases hlt : n < S
        · have HLT := Aside0.mk hlt
          have hxn : n < xs.length := by rw [HXL.out]; exact hlt
          have hbn := HBX.out xs[n] (List.getElem_mem hxn)
          have hbt := beN_range n (xs.take n) (fun x hx => HBX.out x (List.mem_of_mem_take hx)) (by rw [List.length_take]; omega)
          have hbe : beN (xs.take (n + 1)) = beN (xs.take n) * 256 + xs[n] := by rw [List.take_succ_eq_append_getElem hxn, beN_snoc]
          have hn3 : n ≤ 3 := by omega
          have hpw : (256 : Int) ^ n ≤ 16777216 := by
            have : n = 0 ∨ n = 1 ∨ n = 2 ∨ n = 3 := by omega
            rcases this with rfl | rfl | rfl | rfl <;> decide
          obtain ⟨ad, hA, hcell⟩ := Kd.at_int HR0.out ((P + n : Nat) : Int) (by omega) (by omega)
          have hrd : rd l0 ((P + n : Nat) : Int) = xs[n] := HRD.out n hxn
          rw [hrd, Int.toNat_natCast] at hcell
          cases hA
          generalize xs[n] = c at hbn hbe hcell
          generalize beN (xs.take n) = m at hbt hbe
          have hb1 : 0 ≤ m := hbt.1
          have hb2 : m < 16777216 := by omega
          have hb3 : 0 ≤ c := hbn.1
          have hb4 : c < 256 := hbn.2
          have HBE := Aside0.mk hbe
          clear hbe hbt hbn hrd hpw hn3
          have hcell2 : wr.cell? ((ad.add P).add n) = some (.int .u8 c) := by rw [add_add]; exact hcell
          go_wp2_with fail
          rw [u32_or8 hb1 hb2 hb3 hb4]
          go_roundg (S - (n + 1))
          case measure => have := HLT.out; have := HK.out; omega
          case rel => exact ⟨n + 1, by go_num, by rw [HBE.out], ⟨HLT.out⟩, ⟨rfl⟩, rfl⟩
        · have hn : n = S := by have := HN.out; omega
          subst hn
          have e2 : xs.take n = xs := List.take_of_length_le (by have := HXL.out; omega)
          rw [e2]
          clear e2
          have hb0 := (beN_range n xs HBX.out HXL.out).1
          go_wp2
          go_ret3
          exact ⟨rfl, rfl⟩
end Go.Proofs.Ytmgkfklkdedpgaa.Q
