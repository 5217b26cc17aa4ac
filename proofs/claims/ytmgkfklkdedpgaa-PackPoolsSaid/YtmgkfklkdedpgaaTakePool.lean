/- What the closure of pack.TakePool comes to; rows of bytes. -/
import Derived.Test.YtmgkfklkdedpgaaTake
namespace Go.Proofs.Ytmgkfklkdedpgaa.Q
open Go.RowKit Go.Proofs.Ytmgkfklkdedpgaa.Mine Go.Proofs.YtmgkfklkdedpgaaW.PrintWords Go.Proofs.YtmgkfklkdedpgaaW.PrintLast Go.Proofs.YtmgkfklkdedpgaaW.PrintMore
set_option linter.unusedVariables false
set_option linter.unusedSimpArgs false
theorem takeN_ok {l : List Int} {p s : Int} (hb : bytesOk l) (h : (takeN l p s).2.2 = 0) : isSz s = true ∧ 0 ≤ p ∧ p + s ≤ l.length ∧ takeN l p s = (beN ((l.drop p.toNat).take s.toNat), p + s, 0) ∧ 0 ≤ beN ((l.drop p.toNat).take s.toNat) ∧ beN ((l.drop p.toNat).take s.toNat) < 256 ^ s.toNat := by
  unfold takeN at h ⊢
  by_cases h1 : isSz s = true ∧ 0 ≤ p
  · rw [if_pos h1] at h ⊢
    by_cases h2 : p > (l.length : Int) - s
    · rw [if_pos h2] at h; exact absurd h (by decide)
    · rw [if_neg h2]
      have hs := isSz_iff.1 h1.1
      have hr := beN_range s.toNat ((l.drop p.toNat).take s.toNat) (fun x hx => hb x (List.mem_of_mem_drop (List.mem_of_mem_take hx))) (by rw [List.length_take, List.length_drop]; omega)
      exact ⟨h1.1, h1.2, by omega, rfl, hr.1, hr.2⟩
  · rw [if_neg h1] at h; exact absurd h (by decide)
theorem takeN_no {l : List Int} {p s : Int} (h : (takeN l p s).2.2 ≠ 0) : takeN l p s = (0, 0, (takeN l p s).2.2) := by
  unfold takeN at h ⊢
  by_cases h1 : isSz s = true ∧ 0 ≤ p
  · rw [if_pos h1] at h ⊢
    by_cases h2 : p > (l.length : Int) - s
    · rw [if_pos h2]
    · rw [if_neg h2] at h; exact absurd rfl h
  · rw [if_neg h1]
theorem takeN_err (l : List Int) (p s : Int) : (takeN l p s).2.2 = 0 ∨ (takeN l p s).2.2 = 1 ∨ (takeN l p s).2.2 = 2 := by
  unfold takeN
  split
  · split <;> simp
  · simp
/-- a text with its length ahead, and where it ends -/
def oneText (l : List Int) (p : Int) : Option (ByteArray × Int) :=
  if (takeN l p 2).2.2 ≠ 0 then none else if (takeN l p 2).1 > (l.length : Int) - (p + 2) then none else some (strOfNums ((l.take (p + 2 + (takeN l p 2).1).toNat).drop (p + 2).toNat), p + 2 + (takeN l p 2).1)
set_option maxHeartbeats 4000000 in
set_option maxRecDepth 100000 in
theorem takePool_no.calls (A0 : Option Addr) (c0 : Nat) (l0 : List Int) (p : Int) (gb ga : Nat) (w : World) (hr0 : Kd.C (Kd.int .u8) w A0 l0.length l0) (hc0 : l0.length ≤ c0) (hbo : bytesOk l0) (hp0 : 0 ≤ p) (hp1 : p ≤ l0.length) (hb : w.heap[gb]? = some (.cells #[.slice A0 l0.length c0] 22 (0, 0))) (ha : w.heap[ga]? = some (.cells #[.int .i64 p] 3 (0, 0))) (h : oneText l0 p = none) :
    Calls Try.prog 32 #[.pointer (some ⟨gb, 0, none⟩), .pointer (some ⟨ga, 0, none⟩)] w fun e w' => e = .returned (.tuple #[.string ⟨#[]⟩, .bool false]) ∧ w = w' := by
  have hm : l0.length ≤ 9223372036854775807 := hr0.2.1
  have HT := Aside0.mk (take.calls A0 c0 l0 p 2 w hr0 hc0 hbo (by omega) (by omega))
  have hcb : w.cell? ⟨gb, 0, none⟩ = some (.slice A0 l0.length c0) := (blk_cell hb 0).trans rfl
  have hca : w.cell? ⟨ga, 0, none⟩ = some (.int .i64 p) := (blk_cell ha 0).trans rfl
  by_cases h0 : (takeN l0 p 2).2.2 = 0
  · obtain ⟨_, _, hle, he, hn0, hn1⟩ := takeN_ok hbo h0
    unfold oneText at h
    rw [if_neg (by simpa using h0)] at h
    have hgt : (takeN l0 p 2).1 > (l0.length : Int) - (p + 2) := by
      by_cases q : (takeN l0 p 2).1 > (l0.length : Int) - (p + 2)
      · exact q
      · rw [if_neg q] at h; cases h
    rw [he] at HT hgt
    generalize beN ((l0.drop p.toNat).take (Int.toNat 2)) = n at HT hgt hn0 hn1
    have hn2 : n < 65536 := hn1
    have hgt2 : (l0.length : Int) - (p + 2) < n := hgt
    clear hn1 hgt hr0 hc0 hbo h0 he h hb ha
    go_enter Try.func32, Try.ntmps32
    go_wp2_with fail
    refine HT.out.mono ?_
    rintro e w1 ⟨rfl, rfl⟩
    dsimp only
    go_wp2
    go_ret2
    exact ⟨rfl, rfl⟩
  · have he := takeN_no h0
    have hb3 : ((takeN l0 p 2).2.2 == 0) = false := beq_eq_false_iff_ne.2 h0
    rw [he] at HT
    have hb4 : ((takeN l0 p 2).2.2 != 0) = true := bne_iff_ne.2 h0
    generalize (takeN l0 p 2).2.2 = t at HT hb3 hb4
    clear hr0 hc0 hbo h0 he h hb ha
    go_enter Try.func32, Try.ntmps32
    go_wp2_with fail
    refine HT.out.mono ?_
    rintro e w1 ⟨rfl, rfl⟩
    dsimp only
    go_wp2
    go_ret2
    exact ⟨rfl, rfl⟩
set_option maxHeartbeats 4000000 in
set_option maxRecDepth 100000 in
theorem takePool_one.calls (A0 : Option Addr) (c0 : Nat) (l0 : List Int) (p : Int) (gb ga : Nat) (s : ByteArray) (q : Int) (w0 w : World) (hr0 : Kd.C (Kd.int .u8) w0 A0 l0.length l0) (hc0 : l0.length ≤ c0) (hbo : bytesOk l0) (hp0 : 0 ≤ p) (hp1 : p ≤ l0.length) (hbel : Below w0.heap.size w0 w) (hga : w0.heap.size ≤ ga) (hb : w.heap[gb]? = some (.cells #[.slice A0 l0.length c0] 22 (0, 0))) (ha : w.heap[ga]? = some (.cells #[.int .i64 p] 3 (0, 0))) (h : oneText l0 p = some (s, q)) :
    Calls Try.prog 32 #[.pointer (some ⟨gb, 0, none⟩), .pointer (some ⟨ga, 0, none⟩)] w fun e w' => e = .returned (.tuple #[.string s, .bool true]) ∧ w' = w.setCell ⟨ga, 0, none⟩ (.int .i64 q) := by
  have hm : l0.length ≤ 9223372036854775807 := hr0.2.1
  have HT := Aside0.mk (take.calls A0 c0 l0 p 2 w (Kd.C_below hr0 hbel) hc0 hbo (by omega) (by omega))
  have hcb : w.cell? ⟨gb, 0, none⟩ = some (.slice A0 l0.length c0) := (blk_cell hb 0).trans rfl
  have hfa := blk_frozen ha 0
  have h0 : (takeN l0 p 2).2.2 = 0 := by
    by_cases q : (takeN l0 p 2).2.2 = 0
    · exact q
    · unfold oneText at h; rw [if_pos q] at h; cases h
  obtain ⟨_, _, hle, he, hn0, hn1⟩ := takeN_ok hbo h0
  unfold oneText at h
  rw [if_neg (by simpa using h0)] at h
  by_cases hgt : (takeN l0 p 2).1 > (l0.length : Int) - (p + 2)
  · rw [if_pos hgt] at h; cases h
  rw [if_neg hgt] at h
  obtain ⟨rfl, rfl⟩ := Prod.mk.inj (Option.some.inj h)
  rw [he] at HT hgt ⊢
  dsimp only at hgt ⊢
  generalize beN ((l0.drop p.toNat).take (Int.toNat 2)) = n at HT hgt hn0 hn1 ⊢
  have hn2 : n < 65536 := hn1
  obtain ⟨i0, hi0, hz0, hz1, _⟩ := info_parts info5
  have hcut := cut_mid (P := Try.prog) 22 5 .i64 .i64 Try.underlying22 hi0 1 hz1 A0 l0.length c0 (p + 2) (p + 2 + n) (by omega) (by omega) (by omega) hc0
  have hne : gb ≠ ga := blk_ne hb ha (by decide)
  have hset : ∀ v, (w.setCell ⟨ga, 0, none⟩ v).heap[ga]? = some (.cells #[v] 3 (0, 0)) := fun v => blk_put ha 0 v rfl
  have hsetb : ∀ v, (w.setCell ⟨ga, 0, none⟩ v).cell? ⟨gb, 0, none⟩ = some (.slice A0 l0.length c0) := fun v => (blk_cell (blk_far hb (p := ⟨ga, 0, none⟩) hne v) 0).trans rfl
  have hseta : ∀ v, (w.setCell ⟨ga, 0, none⟩ v).cell? ⟨ga, 0, none⟩ = some v := fun v => (blk_cell (hset v) 0).trans rfl
  have hC := Kd.C_mid (lo := (p + 2).toNat) (hi := (p + 2 + n).toNat) (c := c0) (Kd.C_below hr0 (hbel.setCell (p := ⟨ga, 0, none⟩) hga (.int .i64 (p + 2 + n)))) (by omega) (by omega) hc0
  have hstr := fun c => Kd.C_string (P := Try.prog) (src := 22) (dst := 9) (c := c) Try.underlying22 Try.underlying5 Try.underlying9 hC
  have hlen : ((l0.take (p + 2 + n).toNat).drop (p + 2).toNat).length = (p + 2 + n).toNat - (p + 2).toNat := by rw [List.length_drop, List.length_take]; omega
  rw [hlen] at hstr
  have e1 : (Kd.int .u8).sz = 1 := rfl
  rw [e1] at hstr
  have hstr2 := hstr (c0 - (p + 2).toNat)
  generalize (if c0 = (p + 2).toNat then A0 else A0.map (·.add ((p + 2).toNat * 1))) = A' at hcut hstr2
  have hd : decide ((l0.length : Int) - (p + 2) < n) = false := decide_eq_false (by omega)
  have ha1 := hsetb (.int .i64 (p + 2 + n))
  have ha2 := hseta (.int .i64 (p + 2 + n))
  have ha3 : w.cell? ⟨ga, 0, none⟩ = some (.int .i64 p) := (blk_cell ha 0).trans rfl
  have hw : wrap64 (p + 2 + n) = p + 2 + n := by unfold wrap64; omega
  generalize strOfNums ((l0.take (p + 2 + n).toNat).drop (p + 2).toNat) = str at hstr2 ⊢
  clear hn1 h0 he h hr0 hc0 hbo hb ha hgt hC hstr hset hsetb hseta hbel hlen hne e1
  go_enter Try.func32, Try.ntmps32
  go_wp2_with fail
  refine HT.out.mono ?_
  rintro e w1 ⟨rfl, rfl⟩
  dsimp only
  go_wp2
  go_ret2
  exact ⟨rfl, rfl⟩
end Go.Proofs.Ytmgkfklkdedpgaa.Q
