/- Texts of this claim, joined; what the kit's print wrote stands under a line of its own, LESS the theorems that this claim does not use (left out by prune16.py). -/
import Derived.Test.YtmhpcjncngonbaaZM3
import Derived.Test.YtmhpcjncngonbaaZM4
import Derived.WalkLawsBesides
/- What pack.Take comes to; rows of bytes. -/
namespace Go.Proofs.Ytmhpcjncngonbaa.Q
open Go.RowKit Go.Proofs.Ytmhpcjncngonbaa.Mine Go.Proofs.YtmhpcjncngonbaaW.PrintWords Go.Proofs.YtmhpcjncngonbaaW.PrintLast Go.Proofs.YtmhpcjncngonbaaW.PrintMore
set_option linter.unusedVariables false
set_option linter.unusedSimpArgs false
/-- the number that bytes are, the greatest first -/
def beN (l : List Int) : Int := l.foldl (fun n c => n * 256 + c) 0
theorem u32_or8 {m c : Int} (h0 : 0 ≤ m) (h1 : m < 16777216) (h2 : 0 ≤ c) (h3 : c < 256) : bits .or .u32 (m * 256) c = m * 256 + c :=
  bits_join .u32 32 (by decide) (fun n h0 h1 => by rw [IntKind.wrap_u32]; exact Int.emod_eq_of_lt h0 h1) 8 (m * 256) c (by omega) (Int.mul_emod_left m 256) (show m * 256 < 4294967296 by omega) h2 h3 (show c < 4294967296 by omega)
theorem beN_snoc (l : List Int) (c : Int) : beN (l ++ [c]) = beN l * 256 + c := by simp [beN]
def bytesOk (l : List Int) : Prop := ∀ x ∈ l, 0 ≤ x ∧ x < 256
theorem beN_range : ∀ (k : Nat) (l : List Int), bytesOk l → l.length = k → 0 ≤ beN l ∧ beN l < 256 ^ k := by
  intro k
  induction k with
  | zero => intro l _ h; rw [List.eq_nil_of_length_eq_zero h]; decide
  | succ k ih =>
    intro l hl h
    have hne : l ≠ [] := fun e => by subst e; simp at h
    have e := (List.dropLast_concat_getLast hne).symm
    have h1 := ih l.dropLast (fun x hx => hl x (List.dropLast_subset l hx)) (by simp [h])
    have h2 := hl _ (List.getLast_mem hne)
    rw [e, beN_snoc, Int.pow_succ]
    omega
/-- a number off bytes, how far it goes, and the error -/
def takeN (l : List Int) (p s : Int) : Int × Int × Int := if isSz s = true ∧ 0 ≤ p then (if p > (l.length : Int) - s then (0, 0, 2) else (beN ((l.drop p.toNat).take s.toNat), p + s, 0)) else (0, 0, 1)
set_option maxHeartbeats 4000000 in
set_option maxRecDepth 100000 in
theorem take.calls (A0 : Option Addr) (c0 : Nat) (l0 : List Int) (p s : Int) (w : World) (hr0 : Kd.C (Kd.int .u8) w A0 l0.length l0) (hc0 : l0.length ≤ c0) (hb : bytesOk l0) (hp0 : -9223372036854775808 ≤ p) (hp1 : p < 9223372036854775808) :
    Calls Try.prog 78 #[.slice A0 l0.length c0, .int .i64 p, .int .i64 s] w fun e w' => e = .returned (.tuple #[.int .u32 (takeN l0 p s).1, .int .i64 (takeN l0 p s).2.1, .int .i64 (takeN l0 p s).2.2]) ∧ w = w' := by
  have hm : l0.length ≤ 9223372036854775807 := hr0.2.1
  cases hs : isSz s with
  | false =>
    have e1 : takeN l0 p s = (0, 0, 1) := if_neg (fun h => by rw [hs] at h; exact absurd h.1 (by simp))
    rw [e1]
    have HC := Aside0.mk (show ∀ w, Calls Try.prog 65 #[.int .i64 s] w fun e w' => e = .returned (.bool false) ∧ w = w' from fun w => hs ▸ pack_isSz.calls s w)
    clear hs hb e1 hr0
    go_enter Try.func78, Try.ntmps78
    go_wp2_with fail
    refine (HC.out _).mono ?_
    rintro e w1 ⟨rfl, rfl⟩
    dsimp only
    go_wp2
    go_ret3
    exact ⟨rfl, rfl⟩
  | true =>
    have HC := Aside0.mk (show ∀ w, Calls Try.prog 65 #[.int .i64 s] w fun e w' => e = .returned (.bool true) ∧ w = w' from fun w => hs ▸ pack_isSz.calls s w)
    have hs4 : 1 ≤ s ∧ s ≤ 4 := by have := isSz_iff.1 hs; omega
    by_cases hp : 0 ≤ p
    case neg =>
      have e1 : takeN l0 p s = (0, 0, 1) := if_neg (fun h => hp h.2)
      rw [e1]
      have hd : decide (p < 0) = true := decide_eq_true (by omega)
      clear hs hb e1 hr0 hs4
      go_enter Try.func78, Try.ntmps78
      go_wp2_with fail
      refine (HC.out _).mono ?_
      rintro e w1 ⟨rfl, rfl⟩
      dsimp only
      go_wp2
      go_ret3
      exact ⟨rfl, rfl⟩
    by_cases hq : p > (l0.length : Int) - s
    · have e1 : takeN l0 p s = (0, 0, 2) := by rw [takeN, if_pos ⟨hs, hp⟩, if_pos hq]
      rw [e1]
      have hd : decide (p < 0) = false := decide_eq_false (by omega)
      have hd2 : decide ((l0.length : Int) - s < p) = true := decide_eq_true (by omega)
      clear hs hb e1 hr0
      go_enter Try.func78, Try.ntmps78
      go_wp2_with fail
      refine (HC.out _).mono ?_
      rintro e w1 ⟨rfl, rfl⟩
      dsimp only
      go_wp2
      go_ret3
      exact ⟨rfl, rfl⟩
    · obtain ⟨P, rfl⟩ := Int.eq_ofNat_of_zero_le hp
      obtain ⟨S, rfl⟩ := Int.eq_ofNat_of_zero_le (show 0 ≤ s by omega)
      have hle : P + S ≤ l0.length := by omega
      obtain ⟨xs, hxs⟩ : ∃ xs, xs = (l0.drop P).take S := ⟨_, rfl⟩
      have e1 : takeN l0 P S = (beN xs, (P : Int) + S, 0) := by rw [takeN, if_pos ⟨hs, hp⟩, if_neg hq, hxs]; rfl
      rw [e1]
      have hxl : xs.length = S := by rw [hxs, List.length_take, List.length_drop]; omega
      have hd : decide ((P : Int) < 0) = false := decide_eq_false (by omega)
      have hd2 : decide ((l0.length : Int) - S < P) = false := decide_eq_false (by omega)
      have HXL := Aside0.mk hxl
      have HR0 := Aside0.mk hr0
      have HBX := Aside0.mk (show bytesOk xs from fun x hx => hb x (by rw [hxs] at hx; exact List.mem_of_mem_drop (List.mem_of_mem_take hx)))
      have HRD := Aside0.mk (show ∀ (n : Nat) (h : n < xs.length), rd l0 ((P + n : Nat) : Int) = xs[n] from fun n h => by
        subst hxs
        rw [List.length_take, List.length_drop] at h
        simp [rd, List.getElem_take, List.getElem_drop, List.getD_eq_getElem?_getD]
        rw [List.getElem?_eq_getElem (by omega)]
        rfl)
      clear hr0 hb
      clear hs e1 hq hp hxl hxs
      go_enter Try.func78, Try.ntmps78
      go_wp2_with fail
      refine (HC.out _).mono ?_
      rintro e w1 ⟨rfl, rfl⟩
      dsimp only
      go_wp2_with fail
      have h0 := beN_range 0 [] (fun _ h => absurd h List.not_mem_nil) rfl
      go_loopg [9, 32] S (fun kq v9 v32 wr => ∃ n : Nat, v32 = .int .i64 (n : Int) ∧ v9 = .int .u32 (beN (xs.take n)) ∧ Aside0 (n ≤ S) ∧ Aside0 (S - n = kq) ∧ wr = w)
      case atStart => exact ⟨0, rfl, rfl, ⟨Nat.zero_le _⟩, ⟨rfl⟩, rfl⟩
      case round =>
        obtain ⟨n, rfl, rfl, HN, HK, rfl⟩ := hrel
        by_cases hlt : n < S
        · have HLT := Aside0.mk hlt
          have hxn : n < xs.length := by rw [HXL.out]; exact hlt
          have hbn := HBX.out xs[n] (List.getElem_mem hxn)
          have hbt := beN_range n (xs.take n) (fun x hx => HBX.out x (List.mem_of_mem_take hx)) (by rw [List.length_take]; omega)
          have hbe : beN (xs.take (n + 1)) = beN (xs.take n) * 256 + xs[n] := by rw [List.take_succ_eq_append_getElem hxn, beN_snoc]
          have hn3 : n ≤ 3 := by omega
          have hpw : (256 : Int) ^ n ≤ 16777216 := by
            have : n = 0 ∨ n = 1 ∨ n = 2 ∨ n = 3 := by omega
            rcases this with rfl | rfl | rfl | rfl <;> decide
          obtain ⟨ad, hA, hcell⟩ := Kd.at_int HR0.out ((P + n : Nat) : Int) (by omega) (by omega)
          have hrd : rd l0 ((P + n : Nat) : Int) = xs[n] := HRD.out n hxn
          rw [hrd, Int.toNat_natCast] at hcell
          cases hA
          generalize xs[n] = c at hbn hbe hcell
          generalize beN (xs.take n) = m at hbt hbe
          have hb1 : 0 ≤ m := hbt.1
          have hb2 : m < 16777216 := by omega
          have hb3 : 0 ≤ c := hbn.1
          have hb4 : c < 256 := hbn.2
          have HBE := Aside0.mk hbe
          clear hbe hbt hbn hrd hpw hn3
          have hcell2 : wr.cell? ((ad.add P).add n) = some (.int .u8 c) := by rw [add_add]; exact hcell
          go_wp2_with fail
          rw [u32_or8 hb1 hb2 hb3 hb4]
          go_roundg (S - (n + 1))
          case measure => have := HLT.out; have := HK.out; omega
          case rel => exact ⟨n + 1, by go_num, by rw [HBE.out], ⟨HLT.out⟩, ⟨rfl⟩, rfl⟩
        · have hn : n = S := by have := HN.out; omega
          subst hn
          have e2 : xs.take n = xs := List.take_of_length_le (by have := HXL.out; omega)
          rw [e2]
          clear e2
          have hb0 := (beN_range n xs HBX.out HXL.out).1
          go_wp2
          go_ret3
          exact ⟨rfl, rfl⟩
end Go.Proofs.Ytmhpcjncngonbaa.Q
/- What the closure of pack.TakePool comes to; rows of bytes. -/
namespace Go.Proofs.Ytmhpcjncngonbaa.Q
open Go.RowKit Go.Proofs.Ytmhpcjncngonbaa.Mine Go.Proofs.YtmhpcjncngonbaaW.PrintWords Go.Proofs.YtmhpcjncngonbaaW.PrintLast Go.Proofs.YtmhpcjncngonbaaW.PrintMore
set_option linter.unusedVariables false
set_option linter.unusedSimpArgs false
theorem takeN_ok {l : List Int} {p s : Int} (hb : bytesOk l) (h : (takeN l p s).2.2 = 0) : isSz s = true ∧ 0 ≤ p ∧ p + s ≤ l.length ∧ takeN l p s = (beN ((l.drop p.toNat).take s.toNat), p + s, 0) ∧ 0 ≤ beN ((l.drop p.toNat).take s.toNat) ∧ beN ((l.drop p.toNat).take s.toNat) < 256 ^ s.toNat := by
  unfold takeN at h ⊢
  by_cases h1 : isSz s = true ∧ 0 ≤ p
  · rw [if_pos h1] at h ⊢
    by_cases h2 : p > (l.length : Int) - s
    · rw [if_pos h2] at h; exact absurd h (by decide)
    · rw [if_neg h2]
      have hs := isSz_iff.1 h1.1
      have hr := beN_range s.toNat ((l.drop p.toNat).take s.toNat) (fun x hx => hb x (List.mem_of_mem_drop (List.mem_of_mem_take hx))) (by rw [List.length_take, List.length_drop]; omega)
      exact ⟨h1.1, h1.2, by omega, rfl, hr.1, hr.2⟩
  · rw [if_neg h1] at h; exact absurd h (by decide)
theorem takeN_no {l : List Int} {p s : Int} (h : (takeN l p s).2.2 ≠ 0) : takeN l p s = (0, 0, (takeN l p s).2.2) := by
  unfold takeN at h ⊢
  by_cases h1 : isSz s = true ∧ 0 ≤ p
  · rw [if_pos h1] at h ⊢
    by_cases h2 : p > (l.length : Int) - s
    · rw [if_pos h2]
    · rw [if_neg h2] at h; exact absurd rfl h
  · rw [if_neg h1]
/-- a text with its length ahead, and where it ends -/
def oneText (l : List Int) (p : Int) : Option (ByteArray × Int) :=
  if (takeN l p 2).2.2 ≠ 0 then none else if (takeN l p 2).1 > (l.length : Int) - (p + 2) then none else some (strOfNums ((l.take (p + 2 + (takeN l p 2).1).toNat).drop (p + 2).toNat), p + 2 + (takeN l p 2).1)
set_option maxHeartbeats 4000000 in
set_option maxRecDepth 100000 in
theorem takePool_no.calls (A0 : Option Addr) (c0 : Nat) (l0 : List Int) (p : Int) (gb ga : Nat) (w : World) (hr0 : Kd.C (Kd.int .u8) w A0 l0.length l0) (hc0 : l0.length ≤ c0) (hbo : bytesOk l0) (hp0 : 0 ≤ p) (hp1 : p ≤ l0.length) (hb : w.heap[gb]? = some (.cells #[.slice A0 l0.length c0] 32 (0, 0))) (ha : w.heap[ga]? = some (.cells #[.int .i64 p] 3 (0, 0))) (h : oneText l0 p = none) :
    Calls Try.prog 79 #[.pointer (some ⟨gb, 0, none⟩), .pointer (some ⟨ga, 0, none⟩)] w fun e w' => e = .returned (.tuple #[.string ⟨#[]⟩, .bool false]) ∧ w = w' := by
  have hm : l0.length ≤ 9223372036854775807 := hr0.2.1
  have HT := Aside0.mk (take.calls A0 c0 l0 p 2 w hr0 hc0 hbo (by omega) (by omega))
  have hcb : w.cell? ⟨gb, 0, none⟩ = some (.slice A0 l0.length c0) := (blk_cell hb 0).trans rfl
  have hca : w.cell? ⟨ga, 0, none⟩ = some (.int .i64 p) := (blk_cell ha 0).trans rfl
  by_cases h0 : (takeN l0 p 2).2.2 = 0
  · obtain ⟨_, _, hle, he, hn0, hn1⟩ := takeN_ok hbo h0
    unfold oneText at h
    rw [if_neg (by simpa using h0)] at h
    have hgt : (takeN l0 p 2).1 > (l0.length : Int) - (p + 2) := by
      by_cases q : (takeN l0 p 2).1 > (l0.length : Int) - (p + 2)
      · exact q
      · rw [if_neg q] at h; cases h
    rw [he] at HT hgt
    generalize beN ((l0.drop p.toNat).take (Int.toNat 2)) = n at HT hgt hn0 hn1
    have hn2 : n < 65536 := hn1
    have hgt2 : (l0.length : Int) - (p + 2) < n := hgt
    clear hn1 hgt hr0 hc0 hbo h0 he h hb ha
    go_enter Try.func79, Try.ntmps79
    go_wp2_with fail
    refine HT.out.mono ?_
    rintro e w1 ⟨rfl, rfl⟩
    dsimp only
    go_wp2
    go_ret2
    exact ⟨rfl, rfl⟩
  · have he := takeN_no h0
    have hb3 : ((takeN l0 p 2).2.2 == 0) = false := beq_eq_false_iff_ne.2 h0
    rw [he] at HT
    have hb4 : ((takeN l0 p 2).2.2 != 0) = true := bne_iff_ne.2 h0
    generalize (takeN l0 p 2).2.2 = t at HT hb3 hb4
    clear hr0 hc0 hbo h0 he h hb ha
    go_enter Try.func79, Try.ntmps79
    go_wp2_with fail
    refine HT.out.mono ?_
    rintro e w1 ⟨rfl, rfl⟩
    dsimp only
    go_wp2
    go_ret2
    exact ⟨rfl, rfl⟩
set_option maxHeartbeats 4000000 in
set_option maxRecDepth 100000 in
theorem takePool_one.calls (A0 : Option Addr) (c0 : Nat) (l0 : List Int) (p : Int) (gb ga : Nat) (s : ByteArray) (q : Int) (w0 w : World) (hr0 : Kd.C (Kd.int .u8) w0 A0 l0.length l0) (hc0 : l0.length ≤ c0) (hbo : bytesOk l0) (hp0 : 0 ≤ p) (hp1 : p ≤ l0.length) (hbel : Below w0.heap.size w0 w) (hga : w0.heap.size ≤ ga) (hb : w.heap[gb]? = some (.cells #[.slice A0 l0.length c0] 32 (0, 0))) (ha : w.heap[ga]? = some (.cells #[.int .i64 p] 3 (0, 0))) (h : oneText l0 p = some (s, q)) :
    Calls Try.prog 79 #[.pointer (some ⟨gb, 0, none⟩), .pointer (some ⟨ga, 0, none⟩)] w fun e w' => e = .returned (.tuple #[.string s, .bool true]) ∧ w' = w.setCell ⟨ga, 0, none⟩ (.int .i64 q) := by
  have hm : l0.length ≤ 9223372036854775807 := hr0.2.1
  have HT := Aside0.mk (take.calls A0 c0 l0 p 2 w (Kd.C_below hr0 hbel) hc0 hbo (by omega) (by omega))
  have hcb : w.cell? ⟨gb, 0, none⟩ = some (.slice A0 l0.length c0) := (blk_cell hb 0).trans rfl
  have hfa := blk_frozen ha 0
  have h0 : (takeN l0 p 2).2.2 = 0 := by
    by_cases q : (takeN l0 p 2).2.2 = 0
    · exact q
    · unfold oneText at h; rw [if_pos q] at h; cases h
  obtain ⟨_, _, hle, he, hn0, hn1⟩ := takeN_ok hbo h0
  unfold oneText at h
  rw [if_neg (by simpa using h0)] at h
  by_cases hgt : (takeN l0 p 2).1 > (l0.length : Int) - (p + 2)
  · rw [if_pos hgt] at h; cases h
  rw [if_neg hgt] at h
  obtain ⟨rfl, rfl⟩ := Prod.mk.inj (Option.some.inj h)
  rw [he] at HT hgt ⊢
  dsimp only at hgt ⊢
  generalize beN ((l0.drop p.toNat).take (Int.toNat 2)) = n at HT hgt hn0 hn1 ⊢
  have hn2 : n < 65536 := hn1
  obtain ⟨i0, hi0, hz0, hz1, _⟩ := info_parts info5
  have hcut := cut_mid (P := Try.prog) 32 5 .i64 .i64 Try.underlying32 hi0 1 hz1 A0 l0.length c0 (p + 2) (p + 2 + n) (by omega) (by omega) (by omega) hc0
  have hne : gb ≠ ga := blk_ne hb ha (by decide)
  have hset : ∀ v, (w.setCell ⟨ga, 0, none⟩ v).heap[ga]? = some (.cells #[v] 3 (0, 0)) := fun v => blk_put ha 0 v rfl
  have hsetb : ∀ v, (w.setCell ⟨ga, 0, none⟩ v).cell? ⟨gb, 0, none⟩ = some (.slice A0 l0.length c0) := fun v => (blk_cell (blk_far hb (p := ⟨ga, 0, none⟩) hne v) 0).trans rfl
  have hseta : ∀ v, (w.setCell ⟨ga, 0, none⟩ v).cell? ⟨ga, 0, none⟩ = some v := fun v => (blk_cell (hset v) 0).trans rfl
  have hC := Kd.C_mid (lo := (p + 2).toNat) (hi := (p + 2 + n).toNat) (c := c0) (Kd.C_below hr0 (hbel.setCell (p := ⟨ga, 0, none⟩) hga (.int .i64 (p + 2 + n)))) (by omega) (by omega) hc0
  have hstr := fun c => Kd.C_string (P := Try.prog) (src := 32) (dst := 9) (c := c) Try.underlying32 Try.underlying5 Try.underlying9 hC
  have hlen : ((l0.take (p + 2 + n).toNat).drop (p + 2).toNat).length = (p + 2 + n).toNat - (p + 2).toNat := by rw [List.length_drop, List.length_take]; omega
  rw [hlen] at hstr
  have e1 : (Kd.int .u8).sz = 1 := rfl
  rw [e1] at hstr
  have hstr2 := hstr (c0 - (p + 2).toNat)
  generalize (if c0 = (p + 2).toNat then A0 else A0.map (·.add ((p + 2).toNat * 1))) = A' at hcut hstr2
  have hd : decide ((l0.length : Int) - (p + 2) < n) = false := decide_eq_false (by omega)
  have ha1 := hsetb (.int .i64 (p + 2 + n))
  have ha2 := hseta (.int .i64 (p + 2 + n))
  have ha3 : w.cell? ⟨ga, 0, none⟩ = some (.int .i64 p) := (blk_cell ha 0).trans rfl
  have hw : wrap64 (p + 2 + n) = p + 2 + n := by unfold wrap64; omega
  generalize strOfNums ((l0.take (p + 2 + n).toNat).drop (p + 2).toNat) = str at hstr2 ⊢
  clear hn1 h0 he h hr0 hc0 hbo hb ha hgt hC hstr hset hsetb hseta hbel hlen hne e1
  go_enter Try.func79, Try.ntmps79
  go_wp2_with fail
  refine HT.out.mono ?_
  rintro e w1 ⟨rfl, rfl⟩
  dsimp only
  go_wp2
  go_ret2
  exact ⟨rfl, rfl⟩
end Go.Proofs.Ytmhpcjncngonbaa.Q
/- What pack.TakePool comes to; rows of bytes. -/
namespace Go.Proofs.Ytmhpcjncngonbaa.Q
open Go.RowKit Go.Proofs.Ytmhpcjncngonbaa.Mine Go.Proofs.YtmhpcjncngonbaaW.PrintWords Go.Proofs.YtmhpcjncngonbaaW.PrintLast Go.Proofs.YtmhpcjncngonbaaW.PrintMore
set_option linter.unusedVariables false
set_option linter.unusedSimpArgs false
/-- so many texts, one behind the other, behind those that were taken; and where they end -/
def textsN (l : List Int) : Nat → Int → List ByteArray → Option (List ByteArray × Int)
  | 0, p, acc => some (acc, p)
  | n + 1, p, acc => (oneText l p).bind fun t => textsN l n t.2 (acc ++ [t.1])
/-- a pool off bytes -/
def takePool (l : List Int) (p : Int) : List ByteArray × Int × Int :=
  if (takeN l p 2).2.2 ≠ 0 then ([], 0, (takeN l p 2).2.2) else match textsN l (takeN l p 2).1.toNat (p + 2) [] with
  | none => ([], 0, 2)
  | some t => if isPoolB t.1 = true then (t.1, t.2, 0) else ([], 0, 2)
theorem oneText_range {l : List Int} {p q : Int} {s : ByteArray} (hb : bytesOk l) (h : oneText l p = some (s, q)) : 0 ≤ p ∧ p + 2 ≤ q ∧ q ≤ l.length := by
  unfold oneText at h
  by_cases h0 : (takeN l p 2).2.2 = 0
  · rw [if_neg (by simpa using h0)] at h
    obtain ⟨_, hp, hle, he, hn0, hn1⟩ := takeN_ok hb h0
    by_cases hgt : (takeN l p 2).1 > (l.length : Int) - (p + 2)
    · rw [if_pos hgt] at h; cases h
    rw [if_neg hgt] at h
    obtain ⟨_, rfl⟩ := Prod.mk.inj (Option.some.inj h)
    have h1 : 0 ≤ (takeN l p 2).1 := by rw [he]; exact hn0
    omega
  · rw [if_pos h0] at h; cases h
set_option maxHeartbeats 4000000 in
set_option maxRecDepth 100000 in
theorem takePool.calls (A0 : Option Addr) (c0 : Nat) (l0 : List Int) (p : Int) (w : World) (hr0 : Kd.C (Kd.int .u8) w A0 l0.length l0) (hc0 : l0.length ≤ c0) (hbo : bytesOk l0) (hp0 : -9223372036854775808 ≤ p) (hp1 : p < 9223372036854775808) :
    Calls Try.prog 69 #[.slice A0 l0.length c0, .int .i64 p] w fun e w' => ∃ v0_ : Value, e = .returned (.tuple #[v0_, .int .i64 (takePool l0 p).2.1, .int .i64 (takePool l0 p).2.2]) ∧ Kd.R Kd.string 9 w' w.heap.size (fun _ => True) v0_ (takePool l0 p).1 ∧ Below w.heap.size w w' := by
  have hbel := ((Below.refl w.heap.size w).alloc (Nat.le_refl _) (.cells #[.slice A0 l0.length c0] 32)).alloc (by simp) (.cells #[.int .i64 p] 3)
  obtain ⟨w2, hw2⟩ : ∃ w2, w2 = (w.alloc (.cells #[.slice A0 l0.length c0] 32)).alloc (.cells #[.int .i64 p] 3) := ⟨_, rfl⟩
  have hb : w2.heap[w.heap.size]? = some (.cells #[.slice A0 l0.length c0] 32 (0, 0)) := by rw [hw2]; exact blk_alloc (blk_new w _) _
  have ha : w2.heap[w.heap.size + 1]? = some (.cells #[.int .i64 p] 3 (0, 0)) := by rw [hw2]; have := blk_new (w.alloc (.cells #[.slice A0 l0.length c0] 32)) (.cells #[.int .i64 p] 3); simpa using this
  have HT := Aside0.mk (take.calls A0 c0 l0 p 2 w2 (Kd.C_below hr0 (by rw [hw2]; exact hbel)) hc0 hbo hp0 hp1)
  rw [← hw2] at hbel
  have hcb : w2.cell? ⟨w.heap.size, 0, none⟩ = some (.slice A0 l0.length c0) := (blk_cell hb 0).trans rfl
  have hca : w2.cell? ⟨w.heap.size + 1, 0, none⟩ = some (.int .i64 p) := (blk_cell ha 0).trans rfl
  have hfa := blk_frozen ha 0
  have HB := Aside0.mk hbel
  have HR0 := Aside0.mk hr0
  have HC0 := Aside0.mk hc0
  have HBO := Aside0.mk hbo
  have HBB := Aside0.mk hb
  have HAA := Aside0.mk ha
  have HW2 := Aside0.mk hw2
  clear hbel hr0 hc0 hb ha hw2
  by_cases h0 : (takeN l0 p 2).2.2 = 0
  case neg =>
    have he := takeN_no h0
    have e1 : takePool l0 p = ([], 0, (takeN l0 p 2).2.2) := if_pos h0
    rw [e1]
    rw [he] at HT
    have hb3 : ((takeN l0 p 2).2.2 == 0) = false := beq_eq_false_iff_ne.2 h0
    have hb4 : ((takeN l0 p 2).2.2 != 0) = true := bne_iff_ne.2 h0
    generalize (takeN l0 p 2).2.2 = t at HT hb3 hb4 ⊢
    clear he e1 h0 hbo
    go_enter Try.func69, Try.ntmps69
    go_wp2_with fail
    rw [← HW2.out]
    refine HT.out.mono ?_
    rintro e w3 ⟨rfl, rfl⟩
    dsimp only
    go_wp2
    go_ret3
    exact ⟨_, rfl, Kd.R_nil _ _ _ _ _, HB.out.setCell (by simp) _⟩
  obtain ⟨_, hpp, hle, he, hn0, hn1⟩ := takeN_ok hbo h0
  have hm : l0.length ≤ 9223372036854775807 := HR0.out.2.1
  have e1 : takePool l0 p = match textsN l0 (takeN l0 p 2).1.toNat (p + 2) [] with
    | none => ([], 0, 2)
    | some t => if isPoolB t.1 = true then (t.1, t.2, 0) else ([], 0, 2) := if_neg (by simpa using h0)
  rw [he] at HT e1
  dsimp only at e1
  generalize beN ((l0.drop p.toNat).take (Int.toNat 2)) = m at HT hn0 hn1 e1
  have hn2 : m < 65536 := hn1
  obtain ⟨N, rfl⟩ := Int.eq_ofNat_of_zero_le hn0
  rw [Int.toNat_natCast] at e1
  have hN : N < 65536 := by omega
  have E1 := Aside0.mk e1
  have HPP := Aside0.mk hpp
  have HLE := Aside0.mk hle
  clear hn1 h0 he e1 hn0 hpp hle hbo
  go_enter Try.func69, Try.ntmps69
  go_wp2_with fail
  rw [← HW2.out]
  refine HT.out.mono ?_
  rintro e w3 ⟨rfl, rfl⟩
  dsimp only
  have HA2 := Aside0.mk (blk_put HAA.out 0 (.int .i64 (p + 2)) rfl)
  have HB2 := Aside0.mk (blk_far HBB.out (p := ⟨w.heap.size + 1, 0, none⟩) (show w.heap.size ≠ w.heap.size + 1 by omega) (.int .i64 (p + 2)))
  have HBE := Aside0.mk (HB.out.setCell (p := ⟨w.heap.size + 1, 0, none⟩) (by simp) (.int .i64 (p + 2)))
  go_wp2_with fail
  generalize w2.setCell ⟨w.heap.size + 1, 0, none⟩ (.int .i64 (p + 2)) = w4 at HA2 HB2 HBE ⊢
  clear hcb hca hfa
  go_loopg [10, 25] N (fun kq v10 v25 wr => ∃ (n : Nat) (q : Int) (acc : List ByteArray), v25 = .int .u32 (n : Int) ∧ Aside0 (n ≤ N) ∧ Aside0 (N - n = kq) ∧ Aside0 (acc.length = n) ∧ Aside0 (0 ≤ q ∧ q ≤ l0.length) ∧ Aside0 (textsN l0 N (p + 2) [] = textsN l0 (N - n) q acc) ∧ Aside0 (Kd.R Kd.string 9 wr (w.heap.size + 2) (fun k_ => w.heap.size + 2 ≤ k_) v10 acc) ∧ Aside0 (wr.heap[w.heap.size + 1]? = some (.cells #[.int .i64 q] 3 (0, 0))) ∧ Aside0 (wr.heap[w.heap.size]? = some (.cells #[.slice A0 l0.length c0] 32 (0, 0))) ∧ Aside0 (Below w.heap.size w wr))
  case atStart => exact ⟨0, p + 2, [], rfl, ⟨Nat.zero_le _⟩, ⟨rfl⟩, ⟨rfl⟩, ⟨by have := HPP.out; have := HLE.out; omega⟩, ⟨rfl⟩, ⟨Kd.R_nil _ _ _ _ _⟩, HA2, HB2, HBE⟩
  case round =>
    obtain ⟨n, q, acc, rfl, HN, HK, HAL, HQ, HX, HO, HA3, HB3, HB1⟩ := hrel
    by_cases hlt : n < N
    · have HLT := Aside0.mk hlt
      have hx := HX.out
      obtain ⟨d, hd⟩ : ∃ d, N - n = d + 1 := ⟨N - n - 1, by omega⟩
      rw [hd, textsN] at hx
      cases ho : oneText l0 q with
      | none =>
        rw [ho] at hx
        have HX2 := Aside0.mk (show textsN l0 N (p + 2) [] = none from hx)
        have HONE := Aside0.mk (takePool_no.calls A0 c0 l0 q w.heap.size (w.heap.size + 1) wr (Kd.C_below HR0.out HB1.out) HC0.out HBO.out HQ.out.1 HQ.out.2 HB3.out HA3.out ho)
        clear hx ho hd
        go_wp2_with fail
        refine HONE.out.mono ?_
        rintro e w5 ⟨rfl, rfl⟩
        dsimp only
        go_wp2
        go_ret3
        have h2 := E1.out
        rw [HX2.out] at h2
        rw [h2]
        exact ⟨_, rfl, Kd.R_nil _ _ _ _ _, HB1.out⟩
      | some t =>
        obtain ⟨s, q2⟩ := t
        rw [ho] at hx
        have HX2 := Aside0.mk (show textsN l0 N (p + 2) [] = textsN l0 d q2 (acc ++ [s]) from hx)
        have HD := Aside0.mk hd
        have HQ2 := Aside0.mk (oneText_range HBO.out ho)
        have HONE := Aside0.mk (takePool_one.calls A0 c0 l0 q w.heap.size (w.heap.size + 1) s q2 w wr HR0.out HC0.out HBO.out HQ.out.1 HQ.out.2 HB1.out (by omega) HB3.out HA3.out ho)
        have HA4 := Aside0.mk (blk_put HA3.out 0 (.int .i64 q2) rfl)
        have HB4 := Aside0.mk (blk_far HB3.out (p := ⟨w.heap.size + 1, 0, none⟩) (show w.heap.size ≠ w.heap.size + 1 by omega) (.int .i64 q2))
        have HBE4 := Aside0.mk (HB1.out.setCell (p := ⟨w.heap.size + 1, 0, none⟩) (by simp) (.int .i64 q2))
        have HO4 := Aside0.mk (Kd.R_far HO.out (p := ⟨w.heap.size + 1, 0, none⟩) (fun k hk => by show k ≠ w.heap.size + 1; omega) (.int .i64 q2))
        clear hx ho hd
        go_wp2_with fail
        refine HONE.out.mono ?_
        rintro e w5 ⟨rfl, rfl⟩
        dsimp only
        generalize wr.setCell ⟨w.heap.size + 1, 0, none⟩ (.int .i64 q2) = w6 at HA4 HB4 HBE4 HO4 ⊢
        have HZ := Aside0.mk (show w.heap.size + 2 ≤ w6.heap.size by have := blk_lt HA4.out; omega)
        go_wp2_with ((with_reducible refine gate_builtin (b := .append) (xs := #[.tmp 34, .tmp 36]) rfl ?_); at_builtin; refine Kd.R_append Kd.string (w0 := w6) (w.heap.size + 2) rfl (.tmp 34) (.tmp 36) 48 9 (.string ⟨#[]⟩) 16 rfl Try.underlying48 info9 rfl (by decide) (by omega) u10 acc s [.string s] (fun k_ => w.heap.size + 2 ≤ k_) (fun _ => False) rfl rfl ?aP (fun _ hk => hk.elim) ?aF HO4.out (Below.refl _ _) HZ.out ?aL ?_; (case aP => exact rfl); (case aF => exact (fun k_ hk => Nat.le_trans HZ.out hk)); (case aL => have := HAL.out; have := HLT.out; omega); intro v7 w7 ho hb hg hat; have hne := fun g (hg_ : g < w.heap.size + 2) => (show some g ≠ (u10 : Value).ownBlock from fun e => by have := Kd.R_base HO4.out g e.symm; omega); have HO7 := Aside0.mk ho; have HA7 := Aside0.mk (blk_grown HA4.out hg (hne _ (by omega))); have HB7 := Aside0.mk (blk_grown HB4.out hg (hne _ (by omega))); have HBE7 := Aside0.mk (pw_below_grown HBE4.out _ HBE4.out.size hg (fun k hk => by have := Kd.R_base HO4.out k hk; omega)); clear ho hb hg hat hne)
        go_roundg (N - (n + 1))
        case measure => have := HLT.out; have := HK.out; omega
        case rel => exact ⟨n + 1, q2, acc ++ [s], by go_num, ⟨HLT.out⟩, ⟨rfl⟩, ⟨by rw [List.length_append, HAL.out]; rfl⟩, ⟨by have := HQ2.out; omega⟩, ⟨by rw [HX2.out, show N - (n + 1) = d by have := HD.out; omega]⟩, HO7, HA7, HB7, HBE7⟩
    · have hn : n = N := by have := HN.out; omega
      subst hn
      have hx := HX.out
      rw [Nat.sub_self, textsN] at hx
      have h2 := E1.out
      rw [hx] at h2
      have HX2 := Aside0.mk h2
      clear hx h2 HX
      obtain ⟨A5, c5, rfl⟩ := Kd.R_slice HO.out
      have hca2 : wr.cell? ⟨w.heap.size + 1, 0, none⟩ = some (.int .i64 q) := (blk_cell HA3.out 0).trans rfl
      cases hpl : isPoolB acc with
      | false =>
        have HP := Aside0.mk (pack_isPool.calls A5 c5 acc false wr (Kd.R_reads' HO.out).2.2 (Kd.R_reads' HO.out).2.1 (by rw [pack_isPool.f, if_pos (by have := HAL.out; omega), hpl]))
        have HPL := Aside0.mk hpl
        clear hpl
        go_wp2_with fail
        refine HP.out.mono ?_
        rintro e w5 ⟨rfl, hb⟩
        have HB5 := Aside0.mk (HB1.out.trans (hb.mono HB1.out.size))
        clear hb
        dsimp only
        go_wp2
        go_ret3
        have h2 : takePool l0 p = if isPoolB acc = true then (acc, q, 0) else ([], 0, 2) := HX2.out
        rw [HPL.out, if_neg (by simp)] at h2
        rw [h2]
        exact ⟨_, rfl, Kd.R_nil _ _ _ _ _, HB5.out⟩
      | true =>
        have HP := Aside0.mk (pack_isPool.calls A5 c5 acc true wr (Kd.R_reads' HO.out).2.2 (Kd.R_reads' HO.out).2.1 (by rw [pack_isPool.f, if_pos (by have := HAL.out; omega), hpl]))
        have HPL := Aside0.mk hpl
        clear hpl hca2
        go_wp2_with fail
        refine HP.out.mono ?_
        rintro e w5 ⟨rfl, hb⟩
        have HB5 := Aside0.mk (HB1.out.trans (hb.mono HB1.out.size))
        have HO5 := Aside0.mk (Kd.R_mono (Kd.R_lower (Kd.R_below HO.out hb) (show w.heap.size ≤ w.heap.size + 2 by omega)) (fun _ _ => trivial))
        have hca2 : w5.cell? ⟨w.heap.size + 1, 0, none⟩ = some (.int .i64 q) := (blk_cell (blk_below HA3.out hb) 0).trans rfl
        clear hb
        dsimp only
        go_wp2
        go_quiet (fail)
        go_wp2
        go_ret3
        have h2 : takePool l0 p = if isPoolB acc = true then (acc, q, 0) else ([], 0, 2) := HX2.out
        rw [HPL.out, if_pos rfl] at h2
        rw [h2]
        exact ⟨_, rfl, Kd.R_drewN HO5.out _, pw_below_drewN HB5.out _⟩
end Go.Proofs.Ytmhpcjncngonbaa.Q
/- What pack.PutPool comes to; rows of bytes. -/
namespace Go.Proofs.Ytmhpcjncngonbaa.Q
open Go.RowKit Go.Proofs.Ytmhpcjncngonbaa.Mine Go.Proofs.YtmhpcjncngonbaaW.PrintWords Go.Proofs.YtmhpcjncngonbaaW.PrintLast Go.Proofs.YtmhpcjncngonbaaW.PrintMore
set_option linter.unusedVariables false
set_option linter.unusedSimpArgs false
section
variable {P : Program} {ops : Array Oper} {rest : List Oper} {o : Oper} {a : Act} {Q : Exit → Act → World → Prop}
theorem R_append_str {w0 W : World} (base : Nat) (hgd : o.guard = none) (s x : Operand) (t u e : TypeId)
    (ho : o.op = .call { callee := .builtin .append, args := #[s, x], argTypes := #[t, u] })
    (ht : P.underlying t = some (.slice e)) (hu : P.underlying u = some .string) (hinfo : (P.info? e).map (fun i => (i.zero, i.size, i.bytes)) = some (some (.int .u8 0), 1, 1))
    (v : Value) (xs : List Int) (y : ByteArray) (hs : a.eval s = v) (hx : a.eval x = .string y)
    (HO : (Kd.int .u8).R e W base (fun _ => True) v xs) (HB : Below base w0 W) (hbase : base ≤ W.heap.size) (hl : xs.length + y.size ≤ 140737488355328)
    (h : ∀ v1 w1, (Kd.int .u8).R e w1 base (fun _ => True) v1 (xs ++ bytesOf y) → Below base w0 w1 → W.grownBy w1 v.ownBlock → wpList P ops Q rest (a.put o.dst v1) w1) :
    wpList P ops Q (o :: rest) a W := by
  obtain ⟨_, inner, hown, hr⟩ := HO
  have hi := ints_of_reps hr
  subst hi
  exact print_append_str base hgd s x t u e ho ht hu hinfo v xs y hs hx hown HB hbase hl (fun v1 w1 h1 h2 h3 => h v1 w1 ⟨fun _ _ => trivial, _, h1, reps_ints .u8 _⟩ h2 h3)
end
/-- a pool's texts as bytes -/
def poolBytes : List ByteArray → List Int
  | [] => []
  | s :: l => bytesB s.size 2 ++ bytesOf s ++ poolBytes l
theorem poolBytes_app : ∀ a b, poolBytes (a ++ b) = poolBytes a ++ poolBytes b
  | [], b => rfl
  | s :: a, b => by rw [List.cons_append, poolBytes, poolBytes_app a b, poolBytes, List.append_assoc, List.append_assoc, List.append_assoc]
theorem poolBytes_one (s : ByteArray) : poolBytes [s] = bytesB s.size 2 ++ bytesOf s := by rw [poolBytes, poolBytes, List.append_nil]
theorem poolBytes_len : ∀ l : List ByteArray, (∀ s ∈ l, s.size ≤ 400) → (poolBytes l).length ≤ 402 * l.length
  | [], _ => Nat.zero_le _
  | s :: l, h => by
    have h1 := poolBytes_len l (fun x hx => h x (List.mem_cons_of_mem _ hx))
    have h2 := h s List.mem_cons_self
    rw [poolBytes, List.length_append, List.length_append, bytesB_len, bytesOf_length, List.length_cons]
    omega
theorem isPoolB_facts {l : List ByteArray} (h : isPoolB l = true) : (gpool l).length = l.length ∧ l.length ≤ 500 ∧ ∀ s ∈ l, s.size ≤ 400 := by
  unfold isPoolB at h
  rw [Bool.and_eq_true, Bool.and_eq_true, decide_eq_true_eq, decide_eq_true_eq, Bool.not_eq_true', List.any_eq_false] at h
  refine ⟨h.1, h.2.1, fun s hs => ?_⟩
  have := h.2.2 s hs
  simp at this
  exact this
set_option maxHeartbeats 4000000 in
set_option maxRecDepth 100000 in
theorem putPool_no.calls (v : Value) (A1 : Option Addr) (c1 : Nat) (l1 : List ByteArray) (w : World) (hr1 : Kd.C Kd.string w A1 l1.length l1) (hc1 : l1.length ≤ c1) (hl : l1.length < 8796093022208) (h : isPoolB l1 = false) :
    Calls Try.prog 25 #[v, .slice A1 l1.length c1] w fun e w' => e = .returned (.tuple #[v, .int .i64 1]) ∧ Below w.heap.size w w' := by
  have HC := Aside0.mk (pack_isPool.calls A1 c1 l1 false w hr1 hc1 (by rw [pack_isPool.f, if_pos hl, h]))
  clear hr1 hc1 hl h
  go_enter Try.func25, Try.ntmps25
  go_wp2_with fail
  refine HC.out.mono ?_
  rintro e w1 ⟨rfl, hb⟩
  have HB := Aside0.mk hb
  clear hb HC
  dsimp only
  go_wp2
  go_ret2
  exact ⟨rfl, HB.out⟩
set_option maxHeartbeats 4000000 in
set_option maxRecDepth 100000 in
theorem putPool_yes.calls (A0 : Option Addr) (c0 : Nat) (l0 : List Int) (A1 : Option Addr) (c1 : Nat) (l1 : List ByteArray) (w : World) (hr0 : Kd.C (Kd.int .u8) w A0 l0.length l0) (hc0 : l0.length ≤ c0) (hl0 : l0.length < 140737488000000) (hr1 : Kd.C Kd.string w A1 l1.length l1) (hc1 : l1.length ≤ c1) (h : isPoolB l1 = true) :
    Calls Try.prog 25 #[.slice A0 l0.length c0, .slice A1 l1.length c1] w fun e w' => ∃ v0_ : Value, e = .returned (.tuple #[v0_, .int .i64 0]) ∧ Kd.R (Kd.int .u8) 5 w' w.heap.size (fun _ => True) v0_ (l0 ++ bytesB l1.length 2 ++ poolBytes l1) ∧ Below w.heap.size w w' := by
  obtain ⟨_, hlen, hsz⟩ := isPoolB_facts h
  have HC := Aside0.mk (pack_isPool.calls A1 c1 l1 true w hr1 hc1 (by rw [pack_isPool.f, if_pos (by omega), h]))
  have HR0 := Aside0.mk hr0
  have HC0 := Aside0.mk hc0
  have HL0 := Aside0.mk hl0
  have HR1 := Aside0.mk hr1
  have HSZ := Aside0.mk hsz
  have HPL := Aside0.mk (fun n => poolBytes_len (l1.take n) (fun s hs => hsz s (List.mem_of_mem_take hs)))
  clear hr0 hc0 hr1 hc1 h hl0 hsz
  have HP := Aside0.mk (show putsB l1.length 2 = true by simp [putsB, isSz]; omega)
  go_enter Try.func25, Try.ntmps25
  go_wp2_with fail
  refine HC.out.mono ?_
  rintro e w1 ⟨rfl, hb⟩
  have HB := Aside0.mk hb
  have HR1a := Aside0.mk (Kd.C_below HR0.out hb)
  clear hb HC
  dsimp only
  go_wp2_with fail
  refine (put_yes.calls A0 c0 l0 l1.length 2 _ HR1a.out HC0.out (by have := HL0.out; omega) (by omega) (by omega) HP.out).mono ?_
  rintro e w2 ⟨v2, rfl, ho, hb⟩
  have HO := Aside0.mk (Kd.R_lower ho HB.out.size)
  have HB2 := Aside0.mk (HB.out.trans (hb.mono HB.out.size))
  clear ho hb
  dsimp only
  go_wp2_with fail
  go_loopg [6, 24] l1.length (fun kq v6 v24 wr => ∃ n : Nat, v24 = .int .i64 (n : Int) ∧ Aside0 (n ≤ l1.length) ∧ Aside0 (l1.length - n = kq) ∧ Aside0 (Kd.R (Kd.int .u8) 5 wr w.heap.size (fun _ => True) v6 (l0 ++ bytesB l1.length 2 ++ poolBytes (l1.take n))) ∧ Aside0 (Below w.heap.size w wr))
  case atStart => exact ⟨0, rfl, ⟨Nat.zero_le _⟩, ⟨rfl⟩, ⟨by have h2 := HO.out; rw [List.take_zero, poolBytes, List.append_nil]; exact h2⟩, HB2⟩
  case round =>
    obtain ⟨n, rfl, HN, HK, HO1, HB1⟩ := hrel
    by_cases hlt : n < l1.length
    · have HLT := Aside0.mk hlt
      obtain ⟨ad, hA, hcell⟩ := Kd.at_string (Kd.C_below HR1.out HB1.out) (n : Int) (by omega) (by omega)
      have hrd : rdOf ByteArray.empty l1 (n : Int) = l1[n] := by simp [rdOf, List.getD_eq_getElem?_getD, hlt]
      rw [hrd, Int.toNat_natCast] at hcell
      have hsn := HSZ.out l1[n] (List.getElem_mem hlt)
      have ht1 : poolBytes (l1.take (n + 1)) = poolBytes (l1.take n) ++ (bytesB l1[n].size 2 ++ bytesOf l1[n]) := by
        rw [List.take_succ_eq_append_getElem hlt, poolBytes_app, poolBytes_one]
      generalize l1[n] = s at hcell hsn ht1
      cases hA
      clear hrd
      have HT1 := Aside0.mk ht1
      have HTL := Aside0.mk (show (l0 ++ bytesB l1.length 2 ++ poolBytes (l1.take n)).length ≤ l0.length + 2 + 402 * 500 by
        have h1 := HPL.out n
        have h2 : (l1.take n).length ≤ 500 := Nat.le_trans (List.length_take_le' _ _) hlen
        rw [List.length_append, List.length_append, bytesB_len]
        omega)
      have HPS := Aside0.mk (show putsB s.size 2 = true by simp [putsB, isSz]; omega)
      generalize hys : l0 ++ bytesB l1.length 2 ++ poolBytes (l1.take n) = ys at HO1 HTL
      have HYS := Aside0.mk hys
      clear hys ht1
      obtain ⟨A6, c6, rfl⟩ := Kd.R_slice HO1.out
      go_wp2_with fail
      refine (put_yes.calls A6 c6 ys s.size 2 _ (Kd.R_reads' HO1.out).2.2 (Kd.R_reads' HO1.out).2.1 (by have := HL0.out; have := HTL.out; omega) (by omega) (by omega) HPS.out).mono ?_
      rintro e w3 ⟨v3, rfl, ho, hb⟩
      have HO3 := Aside0.mk (Kd.R_lower ho HB1.out.size)
      have HB3 := Aside0.mk (HB1.out.trans (hb.mono HB1.out.size))
      clear ho hb
      dsimp only
      go_wp2_with ((with_reducible refine gate_builtin (b := .append) (xs := #[.tmp 36, .tmp 37]) rfl ?_); at_builtin; refine R_append_str (w0 := w) w.heap.size rfl (.tmp 36) (.tmp 37) 32 9 5 rfl Try.underlying32 Try.underlying9 info5 v3 _ s rfl rfl HO3.out HB3.out HB3.out.size ?aL ?_; (case aL => have := HTL.out; have := HL0.out; rw [List.length_append, bytesB_len]; simp; omega); intro v4 w4 ho hb hg; have HO4 := Aside0.mk ho; have HB4 := Aside0.mk hb; clear ho hb hg)
      go_roundg (l1.length - (n + 1))
      case measure => have := HLT.out; have := HK.out; omega
      case rel =>
        refine ⟨n + 1, by go_num, ⟨HLT.out⟩, ⟨rfl⟩, ⟨?_⟩, HB4⟩
        have h2 := HO4.out
        rw [HT1.out, ← List.append_assoc, ← List.append_assoc, HYS.out]
        exact h2
    · have hn : n = l1.length := by have := HN.out; omega
      subst hn
      have h2 := HO1.out
      rw [List.take_length] at h2
      have HO2 := Aside0.mk h2
      clear h2 HO1
      go_wp2
      go_ret2
      exact ⟨_, rfl, HO2.out, HB1.out⟩
end Go.Proofs.Ytmhpcjncngonbaa.Q
/- What is put is taken, and what is taken is put, in plain Lean; rows of bytes. -/
namespace Go.Proofs.Ytmhpcjncngonbaa.Q
open Go.RowKit Go.Proofs.Ytmhpcjncngonbaa.Mine Go.Proofs.YtmhpcjncngonbaaW.PrintWords Go.Proofs.YtmhpcjncngonbaaW.PrintLast Go.Proofs.YtmhpcjncngonbaaW.PrintMore
set_option linter.unusedVariables false
set_option linter.unusedSimpArgs false
theorem bytesB_mod : ∀ (k : Nat) (n c : Int), bytesB (n + c * 256 ^ k) k = bytesB n k
  | 0, _, _ => rfl
  | k + 1, n, c => by
    have hp : (0 : Int) < 256 ^ k := Int.pow_pos (by decide)
    have e : n + c * 256 ^ (k + 1) = n + (c * 256) * 256 ^ k := by rw [Int.pow_succ, Int.mul_assoc, Int.mul_comm (256 ^ k) 256]
    rw [bytesB, bytesB, e, bytesB_mod k n (c * 256), Int.add_mul_ediv_right _ _ (Int.ne_of_gt hp)]
    congr 1
    omega
theorem beN_foldl : ∀ (l : List Int) (n : Int), l.foldl (fun n c => n * 256 + c) n = n * 256 ^ l.length + beN l
  | [], n => by simp [beN]
  | c :: l, n => by
    have e1 := beN_foldl l (n * 256 + c)
    have e2 := beN_foldl l (0 * 256 + c)
    unfold beN at e1 e2 ⊢
    rw [List.foldl_cons, List.foldl_cons, e1, e2, List.length_cons, Int.pow_succ, Int.zero_mul, Int.zero_add, Int.add_mul, Int.mul_assoc, Int.mul_comm 256 (256 ^ l.length), Int.add_assoc]
theorem beN_cons (c : Int) (l : List Int) : beN (c :: l) = c * 256 ^ l.length + beN l := by
  show l.foldl (fun n c => n * 256 + c) (0 * 256 + c) = _
  rw [beN_foldl, Int.zero_mul, Int.zero_add]
theorem bytesB_beN : ∀ (l : List Int), bytesOk l → bytesB (beN l) l.length = l
  | [], _ => rfl
  | c :: l, h => by
    have hp : (0 : Int) < 256 ^ l.length := Int.pow_pos (by decide)
    have hc := h c List.mem_cons_self
    have hl : bytesOk l := fun x hx => h x (List.mem_cons_of_mem _ hx)
    have hr := beN_range l.length l hl rfl
    rw [List.length_cons, bytesB, beN_cons, Int.add_comm, bytesB_mod, bytesB_beN l hl, Int.add_mul_ediv_right _ _ (Int.ne_of_gt hp), Int.ediv_eq_zero_of_lt hr.1 hr.2, Int.zero_add]
    congr 1
    omega
/-- a piece of a row -/
def slc (l : List Int) (a b : Int) : List Int := (l.take b.toNat).drop a.toNat
theorem slc_len {l : List Int} {a b : Int} (h0 : 0 ≤ a) (h1 : a ≤ b) (h2 : b ≤ l.length) : ((slc l a b).length : Int) = b - a := by
  unfold slc
  rw [List.length_drop, List.length_take]
  omega
theorem slc_app {l : List Int} {a b c : Int} (h0 : 0 ≤ a) (h1 : a ≤ b) (h2 : b ≤ c) : slc l a b ++ slc l b c = slc l a c := by
  unfold slc
  obtain ⟨A, rfl⟩ := Int.eq_ofNat_of_zero_le h0
  obtain ⟨B, rfl⟩ := Int.eq_ofNat_of_zero_le (show 0 ≤ b by omega)
  obtain ⟨C, rfl⟩ := Int.eq_ofNat_of_zero_le (show 0 ≤ c by omega)
  simp only [Int.toNat_natCast]
  have e : l.take C = l.take B ++ (l.take C).drop B := by
    have := List.take_append_drop B (l.take C)
    rw [List.take_take, Nat.min_eq_left (by omega)] at this
    exact this.symm
  rcases Nat.lt_or_ge l.length B with hB | hB
  · rw [List.take_of_length_le (show l.length ≤ B by omega), List.take_of_length_le (show l.length ≤ C by omega), List.drop_eq_nil_of_le (show l.length ≤ B by omega), List.append_nil]
  · conv => rhs; rw [e]
    rw [List.drop_append_of_le_length (by rw [List.length_take]; omega)]
theorem slc_bytes {l : List Int} (h : bytesOk l) (a b : Int) : bytesOk (slc l a b) := fun x hx => h x (List.mem_of_mem_take (List.mem_of_mem_drop hx))
theorem slc_take {l : List Int} {p s : Int} (h0 : 0 ≤ p) (h1 : 0 ≤ s) : (l.drop p.toNat).take s.toNat = slc l p (p + s) := by
  unfold slc
  rw [List.drop_take, show (p + s).toNat - p.toNat = s.toNat by omega]
/-- a number that was taken, put again -/
theorem takeN_put {l : List Int} {p s : Int} (hb : bytesOk l) (h : (takeN l p s).2.2 = 0) : 0 ≤ p ∧ 1 ≤ s ∧ s ≤ 4 ∧ p + s ≤ l.length ∧ (takeN l p s).2.1 = p + s ∧ (0 ≤ (takeN l p s).1 ∧ (takeN l p s).1 < 4294967296) ∧ putsB (takeN l p s).1 s = true ∧ bytesB (takeN l p s).1 s.toNat = slc l p (p + s) := by
  obtain ⟨h1, h2, h3, h4, h5, h6⟩ := takeN_ok hb h
  have hs := isSz_iff.1 h1
  have hs4 : 1 ≤ s ∧ s ≤ 4 := by omega
  rw [h4]
  dsimp only
  have hlt : (256 : Int) ^ s.toNat ≤ 4294967296 := by rcases hs with rfl | rfl | rfl <;> decide
  refine ⟨h2, hs4.1, hs4.2, h3, rfl, ⟨h5, by omega⟩, by rw [putsB, h1, decide_eq_true h6]; rfl, ?_⟩
  rw [slc_take h2 (by omega)]
  have hl := slc_len (l := l) h2 (show p ≤ p + s by omega) h3
  have := bytesB_beN (slc l p (p + s)) (slc_bytes hb _ _)
  rwa [show (slc l p (p + s)).length = s.toNat by omega] at this
theorem str_bytes {l : List Int} (h : bytesOk l) : bytesOf (strOfNums l) = l := by
  unfold bytesOf
  rw [strOfNums_data, List.map_map]
  have : ∀ x ∈ l, ((fun b : UInt8 => (b.toNat : Int)) ∘ fun n : Int => UInt8.ofNat n.toNat) x = x := fun x hx => by
    have := h x hx
    show (((UInt8.ofNat x.toNat).toNat : Nat) : Int) = x
    rw [UInt8.toNat_ofNat']
    omega
  rw [List.map_congr_left this, List.map_id']
theorem oneText_bytes {l : List Int} {p q : Int} {s : ByteArray} (hb : bytesOk l) (h : oneText l p = some (s, q)) : 0 ≤ p ∧ p + 2 ≤ q ∧ q ≤ l.length ∧ bytesB s.size 2 ++ bytesOf s = slc l p q := by
  obtain ⟨h0, h1, h2⟩ := oneText_range hb h
  refine ⟨h0, h1, h2, ?_⟩
  unfold oneText at h
  by_cases he : (takeN l p 2).2.2 = 0
  · rw [if_neg (by simpa using he)] at h
    obtain ⟨_, _, _, hle, _, ⟨hn0, _⟩, _, hby⟩ := takeN_put hb he
    by_cases hgt : (takeN l p 2).1 > (l.length : Int) - (p + 2)
    · rw [if_pos hgt] at h; cases h
    rw [if_neg hgt] at h
    obtain ⟨rfl, rfl⟩ := Prod.mk.inj (Option.some.inj h)
    have e1 : (l.take (p + 2 + (takeN l p 2).1).toNat).drop (p + 2).toNat = slc l (p + 2) (p + 2 + (takeN l p 2).1) := rfl
    have hl := slc_len (l := l) (a := p + 2) (b := p + 2 + (takeN l p 2).1) (by omega) (by omega) (by omega)
    rw [e1, str_bytes (slc_bytes hb _ _), strOfNums_size, show ((slc l (p + 2) (p + 2 + (takeN l p 2).1)).length : Int) = (takeN l p 2).1 by omega]
    have e2 : bytesB (takeN l p 2).1 2 = slc l p (p + 2) := hby
    rw [e2]
    exact slc_app h0 (by omega) (by omega)
  · rw [if_pos he] at h; cases h
theorem slc_nil (l : List Int) (p : Int) : slc l p p = [] := by
  unfold slc
  exact List.drop_eq_nil_of_le (List.length_take_le _ _)
theorem textsN_bytes {l : List Int} (hb : bytesOk l) : ∀ (n : Nat) (p : Int) (acc : List ByteArray) (t : List ByteArray × Int), 0 ≤ p → p ≤ l.length → textsN l n p acc = some t → ∃ ts, t.1 = acc ++ ts ∧ ts.length = n ∧ p ≤ t.2 ∧ t.2 ≤ l.length ∧ poolBytes ts = slc l p t.2
  | 0, p, acc, t, h0, h1, h => by
    rw [textsN] at h
    obtain rfl := Option.some.inj h
    exact ⟨[], by simp, rfl, Int.le_refl _, h1, (slc_nil l p).symm⟩
  | n + 1, p, acc, t, h0, h1, h => by
    rw [textsN] at h
    obtain ⟨⟨s, q⟩, ho, h2⟩ := Option.bind_eq_some_iff.1 h
    obtain ⟨a0, a1, a2, a3⟩ := oneText_bytes hb ho
    obtain ⟨ts, e1, e2, e3, e4, e5⟩ := textsN_bytes hb n q (acc ++ [s]) t (by omega) a2 h2
    have e3' : q ≤ t.2 := e3
    refine ⟨s :: ts, by rw [e1, List.append_assoc]; rfl, by rw [List.length_cons, e2], by omega, e4, ?_⟩
    rw [poolBytes, a3, e5]
    exact slc_app a0 (by omega) e3'
/-- a pool that was taken, put again -/
theorem takePool_put {l : List Int} {p : Int} (hb : bytesOk l) (h : (takePool l p).2.2 = 0) : isPoolB (takePool l p).1 = true ∧ 0 ≤ p ∧ p ≤ (takePool l p).2.1 ∧ (takePool l p).2.1 ≤ l.length ∧ bytesB (takePool l p).1.length 2 ++ poolBytes (takePool l p).1 = slc l p (takePool l p).2.1 := by
  unfold takePool at h ⊢
  by_cases h0 : (takeN l p 2).2.2 = 0
  · rw [if_neg (by simpa using h0)] at h ⊢
    obtain ⟨hp, _, _, hle, _, ⟨hn0, hn1⟩, _, hby⟩ := takeN_put hb h0
    cases ht : textsN l (takeN l p 2).1.toNat (p + 2) [] with
    | none => rw [ht] at h; exact absurd h (by decide)
    | some t =>
      rw [ht] at h
      dsimp only at h ⊢
      cases hpl : isPoolB t.1 with
      | false => rw [hpl, if_neg (by simp)] at h; exact absurd h (by decide)
      | true =>
        rw [if_pos rfl]
        obtain ⟨ts, e1, e2, e3, e4, e5⟩ := textsN_bytes hb _ _ _ _ (by omega) hle ht
        rw [List.nil_append] at e1
        refine ⟨hpl, hp, by show p ≤ t.2; omega, e4, ?_⟩
        show bytesB t.1.length 2 ++ poolBytes t.1 = slc l p t.2
        rw [e1, e2, e5, show (((takeN l p 2).1.toNat : Nat) : Int) = (takeN l p 2).1 by omega]
        have e6 : bytesB (takeN l p 2).1 2 = slc l p (p + 2) := hby
        rw [e6]
        exact slc_app hp (by omega) e3
  · rw [if_pos h0] at h; exact absurd h h0
end Go.Proofs.Ytmhpcjncngonbaa.Q
/- What is put is taken, what is gathered is spread, in plain Lean; rows of bytes. -/
namespace Go.Proofs.Ytmhpcjncngonbaa.Q
open Go.RowKit Go.Proofs.Ytmhpcjncngonbaa.Mine Go.Proofs.YtmhpcjncngonbaaW.PrintWords Go.Proofs.YtmhpcjncngonbaaW.PrintLast Go.Proofs.YtmhpcjncngonbaaW.PrintMore
set_option linter.unusedVariables false
set_option linter.unusedSimpArgs false
theorem beN_bytesB : ∀ (k : Nat) (n : Int), beN (bytesB n k) = n % 256 ^ k
  | 0, n => by
    show (0 : Int) = n % 256 ^ 0
    simp [Int.emod_one]
  | k + 1, n => by
    have hp : (0 : Int) < 256 ^ k := Int.pow_pos (by decide)
    rw [bytesB, beN_cons, bytesB_len, beN_bytesB k n, Int.pow_succ]
    generalize (256 : Int) ^ k = P at hp
    have h1 := Int.emod_add_mul_ediv n P
    have h2 := Int.emod_add_mul_ediv (n / P) 256
    have h3 := Int.emod_nonneg n (Int.ne_of_gt hp)
    have h4 := Int.emod_lt_of_pos n hp
    have h5 := Int.emod_nonneg (n / P) (show (256 : Int) ≠ 0 by decide)
    have h6 := Int.emod_lt_of_pos (n / P) (show (0 : Int) < 256 by decide)
    generalize n % P = r at h1 h3 h4 ⊢
    generalize n / P = q at h1 h2 h5 h6 ⊢
    generalize q % 256 = b at h2 h5 h6 ⊢
    generalize q / 256 = a at h2
    have h7 : b * P ≤ 255 * P := Int.mul_le_mul_of_nonneg_right (by omega) (Int.le_of_lt hp)
    have h8 : 0 ≤ b * P := Int.mul_nonneg h5 (Int.le_of_lt hp)
    have e : n = (b * P + r) + (P * 256) * a := by
      rw [← h1, ← h2, Int.mul_add, Int.mul_comm b P, Int.mul_assoc]
      omega
    rw [e, Int.add_mul_emod_self_left]
    exact (Int.emod_eq_of_lt (by omega) (by omega)).symm
theorem bytesB_ok : ∀ (k : Nat) (n : Int), bytesOk (bytesB n k)
  | 0, n => fun x hx => by cases hx
  | k + 1, n => fun x hx => by
    rw [bytesB, List.mem_cons] at hx
    rcases hx with rfl | hx
    · exact ⟨Int.emod_nonneg _ (by decide), Int.emod_lt_of_pos _ (by decide)⟩
    · exact bytesB_ok k n x hx
theorem bytesOf_ok (s : ByteArray) : bytesOk (bytesOf s) := fun x hx => by
  unfold bytesOf at hx
  obtain ⟨b, _, rfl⟩ := List.mem_map.1 hx
  have := b.toNat_lt
  omega
theorem str_of (s : ByteArray) : strOfNums (bytesOf s) = s := by
  unfold strOfNums bytesOf
  rw [List.map_map]
  have : ∀ b ∈ s.data.toList, ((fun n : Int => UInt8.ofNat n.toNat) ∘ fun b : UInt8 => (b.toNat : Int)) b = b := fun b _ => by
    show UInt8.ofNat ((b.toNat : Int).toNat) = b
    rw [Int.toNat_natCast, UInt8.ofNat_toNat]
  rw [List.map_congr_left this, List.map_id']
theorem takeN_app (pre xs post : List Int) (s : Int) (hs : isSz s = true) (hx : xs.length = s.toNat) : takeN (pre ++ (xs ++ post)) pre.length s = (beN xs, (pre.length : Int) + s, 0) := by
  have h4 := isSz_iff.1 hs
  unfold takeN
  rw [if_pos ⟨hs, by omega⟩, if_neg (by rw [List.length_append, List.length_append]; omega), Int.toNat_natCast, List.drop_left, List.take_append_of_le_length (by omega), List.take_of_length_le (by omega)]
/-- a number that is put is taken -/
theorem put_take (b post : List Int) (n s : Int) (h0 : 0 ≤ n) (h : putsB n s = true) : takeN (b ++ (bytesB n s.toNat ++ post)) b.length s = (n, (b.length : Int) + s, 0) := by
  have hs : isSz s = true := by simp only [putsB, Bool.and_eq_true] at h; exact h.1
  have hlt : n < 256 ^ s.toNat := by simp only [putsB, Bool.and_eq_true, decide_eq_true_eq] at h; exact h.2
  rw [takeN_app b _ post s hs (bytesB_len _ _), beN_bytesB, Int.emod_eq_of_lt h0 hlt]
theorem one_put (b post : List Int) (s : ByteArray) (h : s.size < 65536) : oneText (b ++ (bytesB s.size 2 ++ bytesOf s ++ post)) b.length = some (s, (b.length : Int) + (bytesB s.size 2 ++ bytesOf s).length) := by
  have ht := put_take b (bytesOf s ++ post) s.size 2 (by omega) (by simp [putsB, isSz]; omega)
  have e0 : b ++ (bytesB s.size 2 ++ bytesOf s ++ post) = b ++ (bytesB s.size (Int.toNat 2) ++ (bytesOf s ++ post)) := by rw [List.append_assoc]; rfl
  rw [e0]
  unfold oneText
  rw [ht]
  dsimp only
  have hl : (b ++ (bytesB s.size (Int.toNat 2) ++ (bytesOf s ++ post))).length = b.length + 2 + s.size + post.length := by
    rw [List.length_append, List.length_append, List.length_append, bytesB_len, bytesOf_length]
    show b.length + (2 + _) = _
    omega
  rw [if_neg (by simp), if_neg (by rw [hl]; omega)]
  have e1 : ((b.length : Int) + 2 + (s.size : Int)).toNat = b.length + 2 + s.size := by omega
  have e2 : ((b.length : Int) + 2).toNat = b.length + 2 := by omega
  rw [e1, e2]
  have e3 : b ++ (bytesB s.size (Int.toNat 2) ++ (bytesOf s ++ post)) = (b ++ bytesB s.size 2) ++ (bytesOf s ++ post) := by rw [List.append_assoc]; rfl
  have e4 : (b ++ bytesB s.size 2).length = b.length + 2 := by rw [List.length_append, bytesB_len]
  have e5 : (((b ++ bytesB s.size 2) ++ (bytesOf s ++ post)).take (b.length + 2 + s.size)).drop (b.length + 2) = bytesOf s := by
    rw [List.drop_take, ← e4, List.drop_left, show (b ++ bytesB s.size 2).length + s.size - (b ++ bytesB s.size 2).length = s.size by omega, List.take_append_of_le_length (by rw [bytesOf_length]; omega), List.take_of_length_le (by rw [bytesOf_length]; omega)]
  rw [e3, e5, str_of, List.length_append, bytesB_len, bytesOf_length]
  congr 2
  omega
theorem textsN_put : ∀ (ts : List ByteArray) (b acc post) , (∀ s ∈ ts, s.size < 65536) → textsN (b ++ (poolBytes ts ++ post)) ts.length b.length acc = some (acc ++ ts, (b.length : Int) + (poolBytes ts).length)
  | [], b, acc, post, _ => by
    rw [List.length_nil, textsN, poolBytes]
    simp
  | s :: ts, b, acc, post, h => by
    have hs := h s List.mem_cons_self
    have e0 : b ++ (poolBytes (s :: ts) ++ post) = b ++ (bytesB s.size 2 ++ bytesOf s ++ (poolBytes ts ++ post)) := by rw [poolBytes, List.append_assoc]
    have e1 : b ++ (bytesB s.size 2 ++ bytesOf s ++ (poolBytes ts ++ post)) = (b ++ (bytesB s.size 2 ++ bytesOf s)) ++ (poolBytes ts ++ post) := by simp only [List.append_assoc]
    rw [List.length_cons, textsN, e0, one_put b _ s hs, Option.bind_some, e1]
    have e2 : ((b.length : Int) + (bytesB s.size 2 ++ bytesOf s).length) = ((b ++ (bytesB s.size 2 ++ bytesOf s)).length : Int) := by have := List.length_append («as» := b) (bs := bytesB s.size 2 ++ bytesOf s); omega
    dsimp only
    rw [e2, textsN_put ts _ (acc ++ [s]) post (fun x hx => h x (List.mem_cons_of_mem _ hx))]
    rw [List.append_assoc, List.singleton_append]
    congr 2
    have h1 := List.length_append («as» := b) (bs := bytesB s.size 2 ++ bytesOf s)
    have h2 := List.length_append («as» := bytesB s.size 2 ++ bytesOf s) (bs := poolBytes ts)
    rw [poolBytes]
    omega
end Go.Proofs.Ytmhpcjncngonbaa.Q
/- What the reader's number, sign and text come to; any reader. -/
namespace Go.Proofs.Ytmhpcjncngonbaa.Q
open Go.RowKit Go.Proofs.Ytmhpcjncngonbaa.Mine Go.Proofs.YtmhpcjncngonbaaW.PrintWords Go.Proofs.YtmhpcjncngonbaaW.PrintLast Go.Proofs.YtmhpcjncngonbaaW.PrintMore
set_option linter.unusedVariables false
set_option linter.unusedSimpArgs false
/-- a reader's block -/
def Rd (g : Nat) (B : List Int) (pool : List ByteArray) (at_ : Int) (w0 w : World) : Prop :=
  ∃ A c v, w.heap[g]? = some (.cells #[.slice A B.length c, .int .i64 at_, v] 92 (0, 0)) ∧ (Kd.int .u8).C w0 A B.length B ∧ B.length ≤ c ∧ Kd.string.R 9 w (g + 1) (fun k => g + 1 ≤ k) v pool ∧ Below g w0 w ∧ w0.heap.size = g ∧ bytesOk B ∧ (-9223372036854775808 ≤ at_ ∧ at_ < 9223372036854775808)
theorem Rd.lt {g : Nat} {B : List Int} {pool : List ByteArray} {at_ : Int} {w0 w : World} (h : Rd g B pool at_ w0 w) : g < w.heap.size := by
  obtain ⟨A, c, v, hw, _⟩ := h
  exact blk_lt hw
theorem Rd.bel {g : Nat} {B : List Int} {pool : List ByteArray} {at_ : Int} {w0 w : World} (h : Rd g B pool at_ w0 w) : Below w0.heap.size w0 w ∧ w0.heap.size = g := by
  obtain ⟨A, c, v, hw, _, _, _, hB, hg, _⟩ := h
  exact ⟨hg ▸ hB, hg⟩
theorem Rd.below {g : Nat} {B : List Int} {pool : List ByteArray} {at_ : Int} {w0 w w1 : World} (h : Rd g B pool at_ w0 w) (hb : Below w.heap.size w w1) : Rd g B pool at_ w0 w1 := by
  have hl := h.lt
  obtain ⟨A, c, v, hw, h1, h2, hr, hB, h3⟩ := h
  exact ⟨A, c, v, blk_below hw hb, h1, h2, Kd.R_below hr hb, hB.trans (hb.mono (Nat.le_of_lt hl)), h3⟩
theorem ne9_92 : ∀ q, q ∈ 9 :: Kd.string.E → q ≠ 92 := by decide
/-- a number is read -/
def rnum (B : List Int) (s at_ : Int) : Option (Int × Int) := if (takeN B at_ s).2.2 = 0 then some ((takeN B at_ s).1, (takeN B at_ s).2.1) else none
def wrongP : Ending := .panicked [{ v := .iface 116 (.agg #[]), recovered := false }]
theorem rnum_some {B : List Int} (hb : bytesOk B) {s at_ n q : Int} (h : rnum B s at_ = some (n, q)) : (takeN B at_ s).2.2 = 0 ∧ (takeN B at_ s).1 = n ∧ (takeN B at_ s).2.1 = q ∧ 0 ≤ at_ ∧ q = at_ + s ∧ q ≤ B.length ∧ 0 ≤ n ∧ n < 256 ^ s.toNat ∧ isSz s = true := by
  unfold rnum at h
  split at h
  case isFalse => cases h
  rename_i h0
  obtain ⟨h1, h2⟩ := Prod.mk.inj (Option.some.inj h)
  obtain ⟨hs, hp, hle, he, hn0, hn1⟩ := takeN_ok hb h0
  have e1 := congrArg Prod.fst he
  have e2 := congrArg (fun x => x.2.1) he
  dsimp only at e1 e2
  refine ⟨h0, h1, h2, hp, by rw [← h2, e2], by rw [← h2, e2]; exact hle, by rw [← h1, e1]; exact hn0, by rw [← h1, e1]; exact hn1, hs⟩
theorem rnum_none {B : List Int} {s at_ : Int} (h : rnum B s at_ = none) : (takeN B at_ s).2.2 ≠ 0 := by
  unfold rnum at h
  split at h
  · cases h
  · assumption
theorem Rd.set {g : Nat} {B : List Int} {pool : List ByteArray} {at_ : Int} {w0 w : World} (h : Rd g B pool at_ w0 w) (q : Int) (hq : -9223372036854775808 ≤ q ∧ q < 9223372036854775808) : Rd g B pool q w0 (w.setCell ⟨g, 1, none⟩ (.int .i64 q)) := by
  obtain ⟨A, c, v, hw, h1, h2, hr, hB, h3, h4, _⟩ := h
  exact ⟨A, c, v, blk_put hw 1 _ rfl, h1, h2, Kd.R_set hr hw ne9_92 1 _, hB.setCell (Nat.le_refl g) _, h3, h4, hq⟩
set_option maxHeartbeats 2000000 in
set_option maxRecDepth 100000 in
theorem rnum_yes.calls (g : Nat) (B : List Int) (pool : List ByteArray) (at_ s n q : Int) (w0 w : World) (h : Rd g B pool at_ w0 w) (hr : rnum B s at_ = some (n, q)) :
    Calls Try.prog 72 #[.pointer (some ⟨g, 0, none⟩), .int .i64 s] w fun e w' => e = .returned (.int .i64 n) ∧ Rd g B pool q w0 w' ∧ KeepBut w w' g none := by
  have HH := Aside0.mk h
  obtain ⟨A, c, v, hw, hC, hc, hpo, hB, hg, hok, hat⟩ := h
  obtain ⟨h0, h1, h2, hp, hq, hle, hn0, hn1, hs⟩ := rnum_some hok hr
  have HT := Aside0.mk (fun (w : World) (hC : (Kd.int .u8).C w A B.length B) => take.calls A c B at_ s w hC hc hok hat.1 hat.2)
  rw [h0, h1, h2] at HT
  have HC := Aside0.mk (Kd.C_below hC (hg ▸ hB))
  have hcb : w.cell? ⟨g, 0, none⟩ = some (.slice A B.length c) := (blk_cell hw 0).trans rfl
  have hca : w.cell? ⟨g, 1, none⟩ = some (.int .i64 at_) := (blk_cell hw 1).trans rfl
  have hf := blk_frozen hw 1
  have hm : B.length ≤ 9223372036854775807 := hC.2.1
  have hn : n < 4294967296 := by
    rcases isSz_iff.1 hs with rfl | rfl | rfl <;> simp at hn1 <;> omega
  have hs1 : 1 ≤ s := by rcases isSz_iff.1 hs with rfl | rfl | rfl <;> decide
  have HQ := Aside0.mk (show -9223372036854775808 ≤ q ∧ q < 9223372036854775808 from ⟨by omega, by omega⟩)
  have hw64 : wrap64 n = n := by unfold wrap64; omega
  clear hw hC hc hpo hB hg hok hat h0 h1 h2 hp hq hle hn0 hn1 hs hs1 hm hn hr
  go_enter Try.func72, Try.ntmps72
  go_wp2_with fail
  go_region_law (first | (go_simp; go_at_call 78; refine (HT.out _ (Kd.C_drew HC.out)).mono ?_; rintro e w1 ⟨rfl, rfl⟩) | go_simp)
  all_goals
    go_wp2_with fail
    go_ret
    have hb := ((Below.refl (w.setCell ⟨g, 1, none⟩ (.int .i64 q)).heap.size (w.setCell ⟨g, 1, none⟩ (.int .i64 q))).drew)
    exact ⟨by rw [hw64]; rfl, (HH.out.set q HQ.out).below hb, KeepBut.trans (KeepBut.set_ (KeepBut.refl w g none) 1 _) (KeepBut.of_below hb g none) (.inl rfl)⟩
set_option maxHeartbeats 2000000 in
set_option maxRecDepth 100000 in
theorem rnum_no.calls (g : Nat) (B : List Int) (pool : List ByteArray) (at_ s : Int) (w0 w : World) (h : Rd g B pool at_ w0 w) (hr : rnum B s at_ = none) :
    Calls Try.prog 72 #[.pointer (some ⟨g, 0, none⟩), .int .i64 s] w fun e w' => e = wrongP ∧ Rd g B pool at_ w0 w' ∧ KeepBut w w' g none := by
  have HH := Aside0.mk h
  obtain ⟨A, c, v, hw, hC, hc, hpo, hB, hg, hok, hat⟩ := h
  have h0 := rnum_none hr
  have HT := Aside0.mk (fun (w : World) (hC : (Kd.int .u8).C w A B.length B) => take.calls A c B at_ s w hC hc hok hat.1 hat.2)
  have HC := Aside0.mk (Kd.C_below hC (hg ▸ hB))
  have hcb : w.cell? ⟨g, 0, none⟩ = some (.slice A B.length c) := (blk_cell hw 0).trans rfl
  have hca : w.cell? ⟨g, 1, none⟩ = some (.int .i64 at_) := (blk_cell hw 1).trans rfl
  have hb3 : ((takeN B at_ s).2.2 == 0) = false := beq_eq_false_iff_ne.2 h0
  have hb4 : ((takeN B at_ s).2.2 != 0) = true := bne_iff_ne.2 h0
  generalize (takeN B at_ s).2.2 = z at HT hb3 hb4
  generalize (takeN B at_ s).2.1 = y at HT
  generalize (takeN B at_ s).1 = x at HT
  clear hw hC hc hpo hB hg hok hat h0 hr
  go_enter Try.func72, Try.ntmps72
  go_wp2_with fail
  go_region_law (first | (go_simp; go_at_call 78; refine (HT.out _ (Kd.C_drew HC.out)).mono ?_; rintro e w1 ⟨rfl, rfl⟩) | go_simp)
  all_goals
    go_wp2_with fail
    have hb := ((Below.refl w.heap.size w).drew)
    exact ⟨rfl, rfl, HH.out.below hb, KeepBut.of_below hb g none⟩
/-- a sign is read -/
def rsign (B : List Int) (at_ : Int) : Option (Int × Int) := (rnum B 4 at_).map fun t => (wrap32 t.1, t.2)
set_option maxHeartbeats 2000000 in
set_option maxRecDepth 100000 in
theorem rsign_yes.calls (g : Nat) (B : List Int) (pool : List ByteArray) (at_ n q : Int) (w0 w : World) (h : Rd g B pool at_ w0 w) (hr : rsign B at_ = some (n, q)) :
    Calls Try.prog 71 #[.pointer (some ⟨g, 0, none⟩)] w fun e w' => e = .returned (.int .i32 n) ∧ Rd g B pool q w0 w' ∧ KeepBut w w' g none := by
  obtain ⟨⟨m, q'⟩, h1, h2⟩ := Option.map_eq_some_iff.1 hr
  obtain ⟨rfl, rfl⟩ := Prod.mk.inj h2
  have HN := Aside0.mk (rnum_yes.calls g B pool at_ 4 m q' w0 w h h1)
  clear h hr h1 h2
  go_enter Try.func71, Try.ntmps71
  go_wp2_with fail
  refine HN.out.mono ?_
  rintro e w1 ⟨rfl, h1, h2⟩
  have H1 := Aside0.mk h1
  have H2 := Aside0.mk h2
  clear h1 h2
  dsimp only
  go_wp2
  go_ret
  exact ⟨rfl, H1.out, H2.out⟩
set_option maxHeartbeats 2000000 in
set_option maxRecDepth 100000 in
theorem rsign_no.calls (g : Nat) (B : List Int) (pool : List ByteArray) (at_ : Int) (w0 w : World) (h : Rd g B pool at_ w0 w) (hr : rsign B at_ = none) :
    Calls Try.prog 71 #[.pointer (some ⟨g, 0, none⟩)] w fun e w' => e = wrongP ∧ Rd g B pool at_ w0 w' ∧ KeepBut w w' g none := by
  have HN := Aside0.mk (rnum_no.calls g B pool at_ 4 w0 w h (Option.map_eq_none_iff.1 hr))
  clear h hr
  go_enter Try.func71, Try.ntmps71
  go_wp2_with fail
  refine HN.out.mono ?_
  rintro e w1 ⟨rfl, h1, h2⟩
  dsimp only [wrongP]
  exact ⟨rfl, rfl, h1, h2⟩
/-- a text is read -/
def rtext (B : List Int) (pool : List ByteArray) (at_ : Int) : Option (ByteArray × Int) := (rnum B 2 at_).bind fun t => if t.1 < pool.length then some (rdOf ByteArray.empty pool t.1, t.2) else none
set_option maxHeartbeats 2000000 in
set_option maxRecDepth 100000 in
theorem rtext_yes.calls (g : Nat) (B : List Int) (pool : List ByteArray) (at_ : Int) (s : ByteArray) (q : Int) (w0 w : World) (h : Rd g B pool at_ w0 w) (hr : rtext B pool at_ = some (s, q)) :
    Calls Try.prog 70 #[.pointer (some ⟨g, 0, none⟩)] w fun e w' => e = .returned (.string s) ∧ Rd g B pool q w0 w' ∧ KeepBut w w' g none := by
  obtain ⟨⟨m, q'⟩, h1, h2⟩ := Option.bind_eq_some_iff.1 hr
  dsimp only at h2
  split at h2
  case isFalse => cases h2
  rename_i hlt
  obtain ⟨rfl, rfl⟩ := Prod.mk.inj (Option.some.inj h2)
  have h0 : 0 ≤ m := by
    obtain ⟨_, _, _, _, _, _, _, _, _, hok, _⟩ := h
    exact (rnum_some hok h1).2.2.2.2.2.2.1
  have HN := Aside0.mk (rnum_yes.calls g B pool at_ 2 m q' w0 w h h1)
  have hge : decide (m ≥ (pool.length : Int)) = false := decide_eq_false (by omega)
  have hge2 : decide ((pool.length : Int) ≤ m) = false := decide_eq_false (by omega)
  have H0 := Aside0.mk h0
  have HLT := Aside0.mk hlt
  clear h hr h1 h2
  go_enter Try.func70, Try.ntmps70
  go_wp2_with fail
  refine HN.out.mono ?_
  rintro e w1 ⟨rfl, h1, h2⟩
  have H1 := Aside0.mk h1
  have H2 := Aside0.mk h2
  obtain ⟨A, c, v, hw, hC, hc, hpo, hB, hg, hok, hat⟩ := h1
  obtain ⟨A', c', hv⟩ := Kd.R_slice hpo
  subst hv
  have hcp : w1.cell? ⟨g, 2, none⟩ = some (.slice A' pool.length c') := (blk_cell hw 2).trans rfl
  obtain ⟨ad, hA, hcell⟩ := Kd.at_string (Kd.R_reads' hpo).2.2 m H0.out HLT.out
  subst hA
  clear h2 hw hC hc hpo hB hg hok hat
  dsimp only
  go_wp2
  go_ret
  exact ⟨rfl, H1.out, H2.out⟩
set_option maxHeartbeats 2000000 in
set_option maxRecDepth 100000 in
theorem rtext_no.calls (g : Nat) (B : List Int) (pool : List ByteArray) (at_ : Int) (w0 w : World) (h : Rd g B pool at_ w0 w) (hr : rtext B pool at_ = none) :
    Calls Try.prog 70 #[.pointer (some ⟨g, 0, none⟩)] w fun e w' => e = wrongP ∧ (∃ q, Rd g B pool q w0 w') ∧ KeepBut w w' g none := by
  cases hn : rnum B 2 at_ with
  | none =>
    have HN := Aside0.mk (rnum_no.calls g B pool at_ 2 w0 w h hn)
    clear h hr hn
    go_enter Try.func70, Try.ntmps70
    go_wp2_with fail
    refine HN.out.mono ?_
    rintro e w1 ⟨rfl, h1, h2⟩
    dsimp only [wrongP]
    exact ⟨rfl, rfl, ⟨_, h1⟩, h2⟩
  | some t =>
    obtain ⟨m, q⟩ := t
    have hge0 : ¬ m < (pool.length : Int) := fun hlt => by
      unfold rtext at hr
      rw [hn, Option.bind_some, if_pos hlt] at hr
      cases hr
    have hge : decide (m ≥ (pool.length : Int)) = true := decide_eq_true (by omega)
    have hge2 : decide ((pool.length : Int) ≤ m) = true := decide_eq_true (by omega)
    have HN := Aside0.mk (rnum_yes.calls g B pool at_ 2 m q w0 w h hn)
    clear h hr hn hge0
    go_enter Try.func70, Try.ntmps70
    go_wp2_with fail
    refine HN.out.mono ?_
    rintro e w1 ⟨rfl, h1, h2⟩
    have H1 := Aside0.mk h1
    have H2 := Aside0.mk h2
    obtain ⟨A, c, v, hw, hC, hc, hpo, hB, hg, hok, hat⟩ := h1
    obtain ⟨A', c', hv⟩ := Kd.R_slice hpo
    subst hv
    have hcp : w1.cell? ⟨g, 2, none⟩ = some (.slice A' pool.length c') := (blk_cell hw 2).trans rfl
    clear h2 hw hC hc hpo hB hg hok hat
    dsimp only
    go_wp2
    exact ⟨rfl, rfl, ⟨_, H1.out⟩, H2.out⟩
end Go.Proofs.Ytmhpcjncngonbaa.Q
/- What a locale off bytes is, in plain Lean, and how the reader's block stands in memory; any reader. -/
namespace Go.Proofs.Ytmhpcjncngonbaa.Q
open Go.RowKit Go.Proofs.Ytmhpcjncngonbaa.Mine Go.Proofs.YtmhpcjncngonbaaW.PrintWords Go.Proofs.YtmhpcjncngonbaaW.PrintLast Go.Proofs.YtmhpcjncngonbaaW.PrintMore
set_option linter.unusedVariables false
set_option linter.unusedSimpArgs false
def upd {α : Type} (f : Nat → α) (j : Nat) (x : α) : Nat → α := fun i => if i = j then x else f i
def mkLoc (tag : ByteArray) (f : Nat → Int) (p : Nat → ByteArray) (rules : List (Int × ByteArray)) (curs : List (ByteArray × ByteArray × Int)) (comps : List (Int × Int × ByteArray)) : Loc := ⟨tag, f 0, f 1, f 2, f 3, f 4, f 5, f 6, p 0, p 1, p 2, p 3, rules, curs, comps⟩
/-- so many signs, from the k-th behind on -/
def rsigns (B : List Int) : Nat → Int → (Nat → Int) → Option ((Nat → Int) × Int)
  | 0, at_, f => some (f, at_)
  | k + 1, at_, f => (rsign B at_).bind fun t => rsigns B k t.2 (upd f (6 - k) t.1)
def rpats (B : List Int) (pool : List ByteArray) : Nat → Int → (Nat → ByteArray) → Option ((Nat → ByteArray) × Int)
  | 0, at_, p => some (p, at_)
  | k + 1, at_, p => (rtext B pool at_).bind fun t => rpats B pool k t.2 (upd p (3 - k) t.1)
def rrules (B : List Int) (pool : List ByteArray) : Nat → Int → List (Int × ByteArray) → Option (List (Int × ByteArray) × Int)
  | 0, at_, acc => some (acc, at_)
  | k + 1, at_, acc => (rnum B 1 at_).bind fun t => (rtext B pool t.2).bind fun u => rrules B pool k u.2 (acc ++ [(t.1, u.1)])
def rcurs (B : List Int) (pool : List ByteArray) : Nat → Int → List (ByteArray × ByteArray × Int) → Option (List (ByteArray × ByteArray × Int) × Int)
  | 0, at_, acc => some (acc, at_)
  | k + 1, at_, acc => (rtext B pool at_).bind fun t => (rtext B pool t.2).bind fun u => (rnum B 1 u.2).bind fun v => rcurs B pool k v.2 (acc ++ [(t.1, u.1, v.1)])
def rcomps (B : List Int) (pool : List ByteArray) : Nat → Int → List (Int × Int × ByteArray) → Option (List (Int × Int × ByteArray) × Int)
  | 0, at_, acc => some (acc, at_)
  | k + 1, at_, acc => (rnum B 1 at_).bind fun t => (rnum B 1 t.2).bind fun u => (rtext B pool u.2).bind fun v => rcomps B pool k v.2 (acc ++ [(t.1, u.1, v.1)])
/-- the stages of a reading, the last ahead -/
def rK5 (B : List Int) (pool : List ByteArray) (tag : ByteArray) (f : Nat → Int) (p : Nat → ByteArray) (rules : List (Int × ByteArray)) (curs : List (ByteArray × ByteArray × Int)) (at_ : Int) : Option Loc :=
  (rnum B 2 at_).bind fun t => (rcomps B pool t.1.toNat t.2 []).bind fun u => some (mkLoc tag f p rules curs u.1)
def rK4 (B : List Int) (pool : List ByteArray) (tag : ByteArray) (f : Nat → Int) (p : Nat → ByteArray) (rules : List (Int × ByteArray)) (at_ : Int) : Option Loc :=
  (rnum B 2 at_).bind fun t => (rcurs B pool t.1.toNat t.2 []).bind fun u => rK5 B pool tag f p rules u.1 u.2
def rK3 (B : List Int) (pool : List ByteArray) (tag : ByteArray) (f : Nat → Int) (p : Nat → ByteArray) (at_ : Int) : Option Loc :=
  (rnum B 2 at_).bind fun t => (rrules B pool t.1.toNat t.2 []).bind fun u => rK4 B pool tag f p u.1 u.2
def rK2 (B : List Int) (pool : List ByteArray) (tag : ByteArray) (f : Nat → Int) (at_ : Int) : Option Loc := (rpats B pool 4 at_ fun _ => ByteArray.empty).bind fun u => rK3 B pool tag f u.1 u.2
def rK1 (B : List Int) (pool : List ByteArray) (tag : ByteArray) (at_ : Int) : Option Loc := (rsigns B 7 at_ fun _ => 0).bind fun u => rK2 B pool tag u.1 u.2
/-- a locale off bytes, behind the directory -/
def readL (B : List Int) : Option Loc := if (takePool B 56).2.2 ≠ 0 then none else (rtext B (takePool B 56).1 (takePool B 56).2.1).bind fun t => rK1 B (takePool B 56).1 t.1 t.2
/-- the cells of a locale that is being read -/
@[reducible] def boxF (tag : ByteArray) (f : Nat → Int) (p : Nat → ByteArray) (v3 v4 v5 : Value) : Array Value := #[.string tag, .int .i32 (f 0), .int .i32 (f 1), .int .i32 (f 2), .int .i32 (f 3), .int .i32 (f 4), .int .i32 (f 5), .int .i32 (f 6), .string (p 0), .string (p 1), .string (p 2), .string (p 3), v3, v4, v5]
theorem boxF_sign (tag : ByteArray) (f : Nat → Int) (p : Nat → ByteArray) (v3 v4 v5 : Value) (x : Int) : ∀ j, j < 7 → (boxF tag f p v3 v4 v5).setIfInBounds (1 + j) (.int .i32 x) = boxF tag (upd f j x) p v3 v4 v5
  | 0, _ => rfl
  | 1, _ => rfl
  | 2, _ => rfl
  | 3, _ => rfl
  | 4, _ => rfl
  | 5, _ => rfl
  | 6, _ => rfl
theorem boxF_pat (tag : ByteArray) (f : Nat → Int) (p : Nat → ByteArray) (v3 v4 v5 : Value) (x : ByteArray) : ∀ j, j < 4 → (boxF tag f p v3 v4 v5).setIfInBounds (8 + j) (.string x) = boxF tag f (upd p j x) v3 v4 v5
  | 0, _ => rfl
  | 1, _ => rfl
  | 2, _ => rfl
  | 3, _ => rfl
theorem boxF_s {w : World} {g : Nat} {tag : ByteArray} {f : Nat → Int} {p : Nat → ByteArray} {v3 v4 v5 : Value} (h : w.heap[g]? = some (.cells (boxF tag f p v3 v4 v5) 29 (0, 0))) : ∀ j, j < 7 → w.cell? ⟨g, 1 + j, none⟩ = some (.int .i32 (f j))
  | 0, _ => (blk_cell h 1).trans rfl
  | 1, _ => (blk_cell h 2).trans rfl
  | 2, _ => (blk_cell h 3).trans rfl
  | 3, _ => (blk_cell h 4).trans rfl
  | 4, _ => (blk_cell h 5).trans rfl
  | 5, _ => (blk_cell h 6).trans rfl
  | 6, _ => (blk_cell h 7).trans rfl
theorem boxF_p {w : World} {g : Nat} {tag : ByteArray} {f : Nat → Int} {p : Nat → ByteArray} {v3 v4 v5 : Value} (h : w.heap[g]? = some (.cells (boxF tag f p v3 v4 v5) 29 (0, 0))) : ∀ j, j < 4 → w.cell? ⟨g, 8 + j, none⟩ = some (.string (p j))
  | 0, _ => (blk_cell h 8).trans rfl
  | 1, _ => (blk_cell h 9).trans rfl
  | 2, _ => (blk_cell h 10).trans rfl
  | 3, _ => (blk_cell h 11).trans rfl
/-- the pointers to a locale's signs -/
def ptrsV (g : Nat) : Array Value := #[.pointer (some ⟨g, 1, none⟩), .pointer (some ⟨g, 2, none⟩), .pointer (some ⟨g, 3, none⟩), .pointer (some ⟨g, 4, none⟩), .pointer (some ⟨g, 5, none⟩), .pointer (some ⟨g, 6, none⟩), .pointer (some ⟨g, 7, none⟩)]
theorem ptrs_cell {w : World} {b g : Nat} {t : TypeId} (h : w.heap[b]? = some (.cells (ptrsV g) t (0, 0))) : ∀ j, j < 7 → w.cell? ⟨b, j, none⟩ = some (.pointer (some ⟨g, 1 + j, none⟩))
  | 0, _ => (blk_cell h 0).trans rfl
  | 1, _ => (blk_cell h 1).trans rfl
  | 2, _ => (blk_cell h 2).trans rfl
  | 3, _ => (blk_cell h 3).trans rfl
  | 4, _ => (blk_cell h 4).trans rfl
  | 5, _ => (blk_cell h 5).trans rfl
  | 6, _ => (blk_cell h 6).trans rfl
/-- a store into a block behind the reader's -/
theorem Rd.store {g gl t : Nat} {B : List Int} {pool : List ByteArray} {at_ : Int} {w0 w : World} {cells : Array Value} (h : Rd g B pool at_ w0 w) (hb : w.heap[gl]? = some (.cells cells t (0, 0))) (ht : ∀ q, q ∈ 9 :: Kd.string.E → q ≠ t) (hg : g < gl) (j : Nat) (u : Value) : Rd g B pool at_ w0 (w.setCell ⟨gl, j, none⟩ u) := by
  obtain ⟨A, c, v, hw, h1, h2, hr, hB, h3⟩ := h
  exact ⟨A, c, v, blk_far hw (p := ⟨gl, j, none⟩) (by show g ≠ gl; omega) u, h1, h2, Kd.R_set hr hb ht j u, hB.setCell (by show g ≤ gl; omega) u, h3⟩
/-- a row of another type, behind the reader's block, has grown -/
theorem Rd.grown {α : Type} {d : Kd α} {g e base : Nat} {ok : Nat → Prop} {B : List Int} {pool : List ByteArray} {at_ : Int} {w0 w w1 : World} {v : Value} {xs : List α} (h : Rd g B pool at_ w0 w) (hr : d.R e w base ok v xs) (hbase : g < base) (he : ∀ q, q ∈ 9 :: Kd.string.E → q ≠ e) (hg : w.grownBy w1 v.ownBlock) : Rd g B pool at_ w0 w1 := by
  have hlt := h.lt
  have hok : ∀ k, v.ownBlock = some k → g < k := fun k hk => Nat.lt_of_lt_of_le hbase (Kd.R_base hr k hk)
  obtain ⟨A, c, v', hw, h1, h2, hp, hB, h3⟩ := h
  refine ⟨A, c, v', blk_grown hw hg (fun e => by have := hok g e.symm; omega), h1, h2, ?_, pw_below_grown hB _ (Nat.le_of_lt hlt) hg (fun k hk => Nat.le_of_lt (hok k hk)), h3⟩
  rcases Kd.R_base2 hr with hn | ⟨k, hk, _⟩
  · exact Kd.R_grown hp hg (fun k' _ e => by rw [hn] at e; cases e)
  · obtain ⟨inner, ho⟩ := Kd.R_own hr
    obtain ⟨cells, hc⟩ := own_typed ho k hk
    have h5 := Kd.R_types hp hc he
    exact Kd.R_mono (Kd.R_grown h5 hg (fun k' hk' e => by rw [hk] at e; exact hk'.2 (Option.some.inj e))) (fun _ h => h.1)
theorem Rd.drew {g : Nat} {B : List Int} {pool : List ByteArray} {at_ : Int} {w0 w : World} (h : Rd g B pool at_ w0 w) : Rd g B pool at_ w0 w.drew := h.below ((Below.refl w.heap.size w).drew)
theorem info58 : (Try.prog.info? 58).map (fun i => (i.zero, i.size, i.bytes)) = some (some (.agg #[.int .i64 0, .string ⟨#[]⟩]), 2, 24) := by kernel_rfl
theorem info60 : (Try.prog.info? 60).map (fun i => (i.zero, i.size, i.bytes)) = some (some (.agg #[.string ⟨#[]⟩, .string ⟨#[]⟩, .int .i64 0]), 3, 40) := by kernel_rfl
theorem info62 : (Try.prog.info? 62).map (fun i => (i.zero, i.size, i.bytes)) = some (some (.agg #[.int .i64 0, .int .i64 0, .string ⟨#[]⟩]), 3, 32) := by kernel_rfl
/-- what stands in memory while a locale is read: the reader's block g, the result's r, the locale's gl -/
def Ls (g r gl : Nat) (B : List Int) (pool : List ByteArray) (at_ : Int) (w0 : World) (tag : ByteArray) (f : Nat → Int) (p : Nat → ByteArray) (v3 v4 v5 : Value) (w : World) : Prop :=
  Rd g B pool at_ w0 w ∧ w.heap[gl]? = some (.cells (boxF tag f p v3 v4 v5) 29 (0, 0)) ∧ w.heap[r]? = some (.cells (boxF ⟨#[]⟩ (fun _ => 0) (fun _ => ⟨#[]⟩) (.slice none 0 0) (.slice none 0 0) (.slice none 0 0)) 29 (0, 0)) ∧ g < gl ∧ r < gl ∧ g < r
section
variable {g r gl : Nat} {B : List Int} {pool : List ByteArray} {at_ : Int} {w0 : World} {tag : ByteArray} {f : Nat → Int} {p : Nat → ByteArray} {v3 v4 v5 : Value} {w w1 : World}
theorem ne9_29 : ∀ q, q ∈ 9 :: Kd.string.E → q ≠ 29 := by decide
/-- behind a call of the reader -/
theorem Ls.next (h : Ls g r gl B pool at_ w0 tag f p v3 v4 v5 w) {q : Int} (hr : Rd g B pool q w0 w1) (hk : KeepBut w w1 g none) : Ls g r gl B pool q w0 tag f p v3 v4 v5 w1 :=
  ⟨hr, KeepBut.blk hk h.2.1 (by have := h.2.2.2; omega) (by simp), KeepBut.blk hk h.2.2.1 (by have := h.2.2.2; omega) (by simp), h.2.2.2⟩
theorem Ls.below (h : Ls g r gl B pool at_ w0 tag f p v3 v4 v5 w) (hb : Below w.heap.size w w1) : Ls g r gl B pool at_ w0 tag f p v3 v4 v5 w1 := ⟨h.1.below hb, blk_below h.2.1 hb, blk_below h.2.2.1 hb, h.2.2.2⟩
theorem Ls.set (h : Ls g r gl B pool at_ w0 tag f p v3 v4 v5 w) (j : Nat) (u : Value) {tag' : ByteArray} {f' : Nat → Int} {p' : Nat → ByteArray} {v3' v4' v5' : Value} (e : (boxF tag f p v3 v4 v5).setIfInBounds j u = boxF tag' f' p' v3' v4' v5') : Ls g r gl B pool at_ w0 tag' f' p' v3' v4' v5' (w.setCell ⟨gl, j, none⟩ u) :=
  ⟨h.1.store h.2.1 ne9_29 h.2.2.2.1 j u, blk_put h.2.1 j u e, blk_far h.2.2.1 (p := ⟨gl, j, none⟩) (by show r ≠ gl; have := h.2.2.2; omega) u, h.2.2.2⟩
theorem Ls.grown {α : Type} {d : Kd α} {e : Nat} {ok : Nat → Prop} {v : Value} {xs : List α} (h : Ls g r gl B pool at_ w0 tag f p v3 v4 v5 w) (hr : d.R e w (gl + 1) ok v xs) (he : ∀ q, q ∈ 9 :: Kd.string.E → q ≠ e) (hg : w.grownBy w1 v.ownBlock) : Ls g r gl B pool at_ w0 tag f p v3 v4 v5 w1 := by
  have hok : ∀ k, v.ownBlock = some k → gl < k := fun k hk => Kd.R_base hr k hk
  have h4 := h.2.2.2
  exact ⟨h.1.grown hr (by omega) he hg, blk_grown h.2.1 hg (fun e => by have := hok gl e.symm; omega), blk_grown h.2.2.1 hg (fun e => by have := hok r e.symm; omega), h4⟩
theorem Ls.bel (h : Ls g r gl B pool at_ w0 tag f p v3 v4 v5 w) : Below w0.heap.size w0 w := h.1.bel.1
end
theorem rsign_range {B : List Int} {at_ n q : Int} (h : rsign B at_ = some (n, q)) : -2147483648 ≤ n ∧ n < 2147483648 := by
  obtain ⟨⟨m, q'⟩, _, h2⟩ := Option.map_eq_some_iff.1 h
  obtain ⟨rfl, _⟩ := Prod.mk.inj h2
  unfold wrap32
  omega
/-- a row stays, whose blocks are of another type than the row that has grown -/
theorem row_grown {α β : Type} {d : Kd α} {d' : Kd β} {e e' base base' : Nat} {ok ok' : Nat → Prop} {w w1 : World} {v v' : Value} {xs : List α} {xs' : List β} (h : d.R e w base ok v xs) (h' : d'.R e' w base' ok' v' xs') (he : ∀ q, q ∈ e :: d.E → q ≠ e') (hg : w.grownBy w1 v'.ownBlock) : d.R e w1 base ok v xs := by
  rcases Kd.R_base2 h' with hn | ⟨k, hk, _⟩
  · exact Kd.R_grown h hg (fun k' _ e => by rw [hn] at e; cases e)
  · obtain ⟨inner, ho⟩ := Kd.R_own h'
    obtain ⟨cells, hc⟩ := own_typed ho k hk
    have h5 := Kd.R_types h hc he
    exact Kd.R_mono (Kd.R_grown h5 hg (fun k' hk' e => by rw [hk] at e; exact hk'.2 (Option.some.inj e))) (fun _ h => h.1)
theorem boxFCells {w : World} {g : Nat} {tag : ByteArray} {f : Nat → Int} {p : Nat → ByteArray} {v3 v4 v5 : Value} (h : w.heap[g]? = some (.cells (boxF tag f p v3 v4 v5) 29 (0, 0))) :
    w.cell? ⟨g, 0, none⟩ = some (.string tag) ∧ w.cell? ⟨g, 1, none⟩ = some (.int .i32 (f 0)) ∧ w.cell? ⟨g, 2, none⟩ = some (.int .i32 (f 1)) ∧ w.cell? ⟨g, 3, none⟩ = some (.int .i32 (f 2)) ∧ w.cell? ⟨g, 4, none⟩ = some (.int .i32 (f 3)) ∧ w.cell? ⟨g, 5, none⟩ = some (.int .i32 (f 4)) ∧ w.cell? ⟨g, 6, none⟩ = some (.int .i32 (f 5)) ∧ w.cell? ⟨g, 7, none⟩ = some (.int .i32 (f 6)) ∧ w.cell? ⟨g, 8, none⟩ = some (.string (p 0)) ∧ w.cell? ⟨g, 9, none⟩ = some (.string (p 1)) ∧ w.cell? ⟨g, 10, none⟩ = some (.string (p 2)) ∧ w.cell? ⟨g, 11, none⟩ = some (.string (p 3)) ∧ w.cell? ⟨g, 12, none⟩ = some v3 ∧ w.cell? ⟨g, 13, none⟩ = some v4 ∧ w.cell? ⟨g, 14, none⟩ = some v5 :=
  ⟨(blk_cell h 0).trans rfl, (blk_cell h 1).trans rfl, (blk_cell h 2).trans rfl, (blk_cell h 3).trans rfl, (blk_cell h 4).trans rfl, (blk_cell h 5).trans rfl, (blk_cell h 6).trans rfl, (blk_cell h 7).trans rfl, (blk_cell h 8).trans rfl, (blk_cell h 9).trans rfl, (blk_cell h 10).trans rfl, (blk_cell h 11).trans rfl, (blk_cell h 12).trans rfl, (blk_cell h 13).trans rfl, (blk_cell h 14).trans rfl⟩
/-- a record is laid cell by cell -/
def fill (r : Nat) : World → List Value → Nat → World
  | w, [], _ => w
  | w, v :: vs, i => fill r (w.setCell ⟨r, i, none⟩ v) vs (i + 1)
theorem fill_row {α : Type} {d : Kd α} {e base r t : Nat} {ok : Nat → Prop} {u : Value} {xs : List α} (ht : ∀ q, q ∈ e :: d.E → q ≠ t) : ∀ (vs : List Value) (w : World) (i : Nat) (cs : Array Value), w.heap[r]? = some (.cells cs t (0, 0)) → d.R e w base ok u xs → d.R e (fill r w vs i) base ok u xs
  | [], w, i, cs, h, hr => hr
  | v :: vs, w, i, cs, h, hr => fill_row ht vs _ (i + 1) _ (blk_set h i v) (Kd.R_set hr h ht i v)
theorem fill_below {g r : Nat} {w0 : World} (hg : g ≤ r) : ∀ (vs : List Value) (w : World) (i : Nat), Below g w0 w → Below g w0 (fill r w vs i)
  | [], w, i, h => h
  | v :: vs, w, i, h => fill_below hg vs _ (i + 1) (h.setCell hg v)
theorem fill_box {w : World} {r : Nat} (h : w.heap[r]? = some (.cells (boxF ⟨#[]⟩ (fun _ => 0) (fun _ => ⟨#[]⟩) (.slice none 0 0) (.slice none 0 0) (.slice none 0 0)) 29 (0, 0))) (tag : ByteArray) (f : Nat → Int) (p : Nat → ByteArray) (v3 v4 v5 : Value) :
    (fill r w [.string tag, .int .i32 (f 0), .int .i32 (f 1), .int .i32 (f 2), .int .i32 (f 3), .int .i32 (f 4), .int .i32 (f 5), .int .i32 (f 6), .string (p 0), .string (p 1), .string (p 2), .string (p 3), v3, v4, v5] 0).heap[r]? = some (.cells (boxF tag f p v3 v4 v5) 29 (0, 0)) := by
  simp only [fill]
  have h0 := blk_put (cs' := #[.string tag, .int .i32 0, .int .i32 0, .int .i32 0, .int .i32 0, .int .i32 0, .int .i32 0, .int .i32 0, .string ⟨#[]⟩, .string ⟨#[]⟩, .string ⟨#[]⟩, .string ⟨#[]⟩, .slice none 0 0, .slice none 0 0, .slice none 0 0]) h 0 (.string tag) rfl
  have h1 := blk_put (cs' := #[.string tag, .int .i32 (f 0), .int .i32 0, .int .i32 0, .int .i32 0, .int .i32 0, .int .i32 0, .int .i32 0, .string ⟨#[]⟩, .string ⟨#[]⟩, .string ⟨#[]⟩, .string ⟨#[]⟩, .slice none 0 0, .slice none 0 0, .slice none 0 0]) h0 1 (.int .i32 (f 0)) rfl
  have h2 := blk_put (cs' := #[.string tag, .int .i32 (f 0), .int .i32 (f 1), .int .i32 0, .int .i32 0, .int .i32 0, .int .i32 0, .int .i32 0, .string ⟨#[]⟩, .string ⟨#[]⟩, .string ⟨#[]⟩, .string ⟨#[]⟩, .slice none 0 0, .slice none 0 0, .slice none 0 0]) h1 2 (.int .i32 (f 1)) rfl
  have h3 := blk_put (cs' := #[.string tag, .int .i32 (f 0), .int .i32 (f 1), .int .i32 (f 2), .int .i32 0, .int .i32 0, .int .i32 0, .int .i32 0, .string ⟨#[]⟩, .string ⟨#[]⟩, .string ⟨#[]⟩, .string ⟨#[]⟩, .slice none 0 0, .slice none 0 0, .slice none 0 0]) h2 3 (.int .i32 (f 2)) rfl
  have h4 := blk_put (cs' := #[.string tag, .int .i32 (f 0), .int .i32 (f 1), .int .i32 (f 2), .int .i32 (f 3), .int .i32 0, .int .i32 0, .int .i32 0, .string ⟨#[]⟩, .string ⟨#[]⟩, .string ⟨#[]⟩, .string ⟨#[]⟩, .slice none 0 0, .slice none 0 0, .slice none 0 0]) h3 4 (.int .i32 (f 3)) rfl
  have h5 := blk_put (cs' := #[.string tag, .int .i32 (f 0), .int .i32 (f 1), .int .i32 (f 2), .int .i32 (f 3), .int .i32 (f 4), .int .i32 0, .int .i32 0, .string ⟨#[]⟩, .string ⟨#[]⟩, .string ⟨#[]⟩, .string ⟨#[]⟩, .slice none 0 0, .slice none 0 0, .slice none 0 0]) h4 5 (.int .i32 (f 4)) rfl
  have h6 := blk_put (cs' := #[.string tag, .int .i32 (f 0), .int .i32 (f 1), .int .i32 (f 2), .int .i32 (f 3), .int .i32 (f 4), .int .i32 (f 5), .int .i32 0, .string ⟨#[]⟩, .string ⟨#[]⟩, .string ⟨#[]⟩, .string ⟨#[]⟩, .slice none 0 0, .slice none 0 0, .slice none 0 0]) h5 6 (.int .i32 (f 5)) rfl
  have h7 := blk_put (cs' := #[.string tag, .int .i32 (f 0), .int .i32 (f 1), .int .i32 (f 2), .int .i32 (f 3), .int .i32 (f 4), .int .i32 (f 5), .int .i32 (f 6), .string ⟨#[]⟩, .string ⟨#[]⟩, .string ⟨#[]⟩, .string ⟨#[]⟩, .slice none 0 0, .slice none 0 0, .slice none 0 0]) h6 7 (.int .i32 (f 6)) rfl
  have h8 := blk_put (cs' := #[.string tag, .int .i32 (f 0), .int .i32 (f 1), .int .i32 (f 2), .int .i32 (f 3), .int .i32 (f 4), .int .i32 (f 5), .int .i32 (f 6), .string (p 0), .string ⟨#[]⟩, .string ⟨#[]⟩, .string ⟨#[]⟩, .slice none 0 0, .slice none 0 0, .slice none 0 0]) h7 8 (.string (p 0)) rfl
  have h9 := blk_put (cs' := #[.string tag, .int .i32 (f 0), .int .i32 (f 1), .int .i32 (f 2), .int .i32 (f 3), .int .i32 (f 4), .int .i32 (f 5), .int .i32 (f 6), .string (p 0), .string (p 1), .string ⟨#[]⟩, .string ⟨#[]⟩, .slice none 0 0, .slice none 0 0, .slice none 0 0]) h8 9 (.string (p 1)) rfl
  have h10 := blk_put (cs' := #[.string tag, .int .i32 (f 0), .int .i32 (f 1), .int .i32 (f 2), .int .i32 (f 3), .int .i32 (f 4), .int .i32 (f 5), .int .i32 (f 6), .string (p 0), .string (p 1), .string (p 2), .string ⟨#[]⟩, .slice none 0 0, .slice none 0 0, .slice none 0 0]) h9 10 (.string (p 2)) rfl
  have h11 := blk_put (cs' := #[.string tag, .int .i32 (f 0), .int .i32 (f 1), .int .i32 (f 2), .int .i32 (f 3), .int .i32 (f 4), .int .i32 (f 5), .int .i32 (f 6), .string (p 0), .string (p 1), .string (p 2), .string (p 3), .slice none 0 0, .slice none 0 0, .slice none 0 0]) h10 11 (.string (p 3)) rfl
  have h12 := blk_put (cs' := #[.string tag, .int .i32 (f 0), .int .i32 (f 1), .int .i32 (f 2), .int .i32 (f 3), .int .i32 (f 4), .int .i32 (f 5), .int .i32 (f 6), .string (p 0), .string (p 1), .string (p 2), .string (p 3), v3, .slice none 0 0, .slice none 0 0]) h11 12 (v3) rfl
  have h13 := blk_put (cs' := #[.string tag, .int .i32 (f 0), .int .i32 (f 1), .int .i32 (f 2), .int .i32 (f 3), .int .i32 (f 4), .int .i32 (f 5), .int .i32 (f 6), .string (p 0), .string (p 1), .string (p 2), .string (p 3), v3, v4, .slice none 0 0]) h12 13 (v4) rfl
  have h14 := blk_put (cs' := #[.string tag, .int .i32 (f 0), .int .i32 (f 1), .int .i32 (f 2), .int .i32 (f 3), .int .i32 (f 4), .int .i32 (f 5), .int .i32 (f 6), .string (p 0), .string (p 1), .string (p 2), .string (p 3), v3, v4, v5]) h13 14 (v5) rfl
  exact h14
end Go.Proofs.Ytmhpcjncngonbaa.Q
