/- What pack.TakePool comes to; rows of bytes. -/
import Derived.Test.YtmgkfklkdedpgaaTakePool
import Derived.Test.YtmgkfklkdedpgaaIsPool
namespace Go.Proofs.Ytmgkfklkdedpgaa.Q
open Go.RowKit Go.Proofs.Ytmgkfklkdedpgaa.Mine Go.Proofs.YtmgkfklkdedpgaaW.PrintWords Go.Proofs.YtmgkfklkdedpgaaW.PrintLast Go.Proofs.YtmgkfklkdedpgaaW.PrintMore
set_option linter.unusedVariables false
set_option linter.unusedSimpArgs false
/-- so many texts, one behind the other, behind those that were taken; and where they end -/
def textsN (l : List Int) : Nat → Int → List ByteArray → Option (List ByteArray × Int)
  | 0, p, acc => some (acc, p)
  | n + 1, p, acc => (oneText l p).bind fun t => textsN l n t.2 (acc ++ [t.1])
/-- a pool off bytes -/
def takePool (l : List Int) (p : Int) : List ByteArray × Int × Int :=
  if (takeN l p 2).2.2 ≠ 0 then ([], 0, (takeN l p 2).2.2) else match textsN l (takeN l p 2).1.toNat (p + 2) [] with
  | none => ([], 0, 2)
  | some t => if isPoolB t.1 = true then (t.1, t.2, 0) else ([], 0, 2)
theorem oneText_range {l : List Int} {p q : Int} {s : ByteArray} (hb : bytesOk l) (h : oneText l p = some (s, q)) : 0 ≤ p ∧ p + 2 ≤ q ∧ q ≤ l.length := by
  unfold oneText at h
  by_cases h0 : (takeN l p 2).2.2 = 0
  · rw [if_neg (by simpa using h0)] at h
    obtain ⟨_, hp, hle, he, hn0, hn1⟩ := takeN_ok hb h0
    by_cases hgt : (takeN l p 2).1 > (l.length : Int) - (p + 2)
    · rw [if_pos hgt] at h; cases h
    rw [if_neg hgt] at h
    obtain ⟨_, rfl⟩ := Prod.mk.inj (Option.some.inj h)
    have h1 : 0 ≤ (takeN l p 2).1 := by rw [he]; exact hn0
    omega
  · rw [if_pos h0] at h; cases h
set_option maxHeartbeats 4000000 in
set_option maxRecDepth 100000 in
theorem takePool.calls (A0 : Option Addr) (c0 : Nat) (l0 : List Int) (p : Int) (w : World) (hr0 : Kd.C (Kd.int .u8) w A0 l0.length l0) (hc0 : l0.length ≤ c0) (hbo : bytesOk l0) (hp0 : -9223372036854775808 ≤ p) (hp1 : p < 9223372036854775808) :
    Calls Try.prog 25 #[.slice A0 l0.length c0, .int .i64 p] w fun e w' => ∃ v0_ : Value, e = .returned (.tuple #[v0_, .int .i64 (takePool l0 p).2.1, .int .i64 (takePool l0 p).2.2]) ∧ Kd.R Kd.string 9 w' w.heap.size (fun _ => True) v0_ (takePool l0 p).1 ∧ Below w.heap.size w w' := by
  have hbel := ((Below.refl w.heap.size w).alloc (Nat.le_refl _) (.cells #[.slice A0 l0.length c0] 22)).alloc (by simp) (.cells #[.int .i64 p] 3)
  obtain ⟨w2, hw2⟩ : ∃ w2, w2 = (w.alloc (.cells #[.slice A0 l0.length c0] 22)).alloc (.cells #[.int .i64 p] 3) := ⟨_, rfl⟩
  have hb : w2.heap[w.heap.size]? = some (.cells #[.slice A0 l0.length c0] 22 (0, 0)) := by rw [hw2]; exact blk_alloc (blk_new w _) _
  have ha : w2.heap[w.heap.size + 1]? = some (.cells #[.int .i64 p] 3 (0, 0)) := by rw [hw2]; have := blk_new (w.alloc (.cells #[.slice A0 l0.length c0] 22)) (.cells #[.int .i64 p] 3); simpa using this
  have HT := Aside0.mk (take.calls A0 c0 l0 p 2 w2 (Kd.C_below hr0 (by rw [hw2]; exact hbel)) hc0 hbo hp0 hp1)
  rw [← hw2] at hbel
  have hcb : w2.cell? ⟨w.heap.size, 0, none⟩ = some (.slice A0 l0.length c0) := (blk_cell hb 0).trans rfl
  have hca : w2.cell? ⟨w.heap.size + 1, 0, none⟩ = some (.int .i64 p) := (blk_cell ha 0).trans rfl
  have hfa := blk_frozen ha 0
  have HB := Aside0.mk hbel
  have HR0 := Aside0.mk hr0
  have HC0 := Aside0.mk hc0
  have HBO := Aside0.mk hbo
  have HBB := Aside0.mk hb
  have HAA := Aside0.mk ha
  have HW2 := Aside0.mk hw2
  clear hbel hr0 hc0 hb ha hw2
  by_cases h0 : (takeN l0 p 2).2.2 = 0
  case neg =>
    have he := takeN_no h0
    have e1 : takePool l0 p = ([], 0, (takeN l0 p 2).2.2) := if_pos h0
    rw [e1]
    rw [he] at HT
    have hb3 : ((takeN l0 p 2).2.2 == 0) = false := beq_eq_false_iff_ne.2 h0
    have hb4 : ((takeN l0 p 2).2.2 != 0) = true := bne_iff_ne.2 h0
    generalize (takeN l0 p 2).2.2 = t at HT hb3 hb4 ⊢
    clear he e1 h0 hbo
    go_enter Try.func25, Try.ntmps25
    go_wp2_with fail
    rw [← HW2.out]
    refine HT.out.mono ?_
    rintro e w3 ⟨rfl, rfl⟩
    dsimp only
    go_wp2
    go_ret3
    exact ⟨_, rfl, Kd.R_nil _ _ _ _ _, HB.out.setCell (by simp) _⟩
  obtain ⟨_, hpp, hle, he, hn0, hn1⟩ := takeN_ok hbo h0
  have hm : l0.length ≤ 9223372036854775807 := HR0.out.2.1
  have e1 : takePool l0 p = match textsN l0 (takeN l0 p 2).1.toNat (p + 2) [] with
    | none => ([], 0, 2)
    | some t => if isPoolB t.1 = true then (t.1, t.2, 0) else ([], 0, 2) := if_neg (by simpa using h0)
  rw [he] at HT e1
  dsimp only at e1
  generalize beN ((l0.drop p.toNat).take (Int.toNat 2)) = m at HT hn0 hn1 e1
  have hn2 : m < 65536 := hn1
  obtain ⟨N, rfl⟩ := Int.eq_ofNat_of_zero_le hn0
  rw [Int.toNat_natCast] at e1
  have hN : N < 65536 := by omega
  have E1 := Aside0.mk e1
  have HPP := Aside0.mk hpp
  have HLE := Aside0.mk hle
  clear hn1 h0 he e1 hn0 hpp hle hbo
  go_enter Try.func25, Try.ntmps25
  go_wp2_with fail
  rw [← HW2.out]
  refine HT.out.mono ?_
  rintro e w3 ⟨rfl, rfl⟩
  dsimp only
  have HA2 := Aside0.mk (blk_put HAA.out 0 (.int .i64 (p + 2)) rfl)
  have HB2 := Aside0.mk (blk_far HBB.out (p := ⟨w.heap.size + 1, 0, none⟩) (show w.heap.size ≠ w.heap.size + 1 by omega) (.int .i64 (p + 2)))
  have HBE := Aside0.mk (HB.out.setCell (p := ⟨w.heap.size + 1, 0, none⟩) (by simp) (.int .i64 (p + 2)))
  go_wp2_with fail
  generalize w2.setCell ⟨w.heap.size + 1, 0, none⟩ (.int .i64 (p + 2)) = w4 at HA2 HB2 HBE ⊢
  clear hcb hca hfa
  go_loopg [10, 25] N (fun kq v10 v25 wr => ∃ (n : Nat) (q : Int) (acc : List ByteArray), v25 = .int .u32 (n : Int) ∧ Aside0 (n ≤ N) ∧ Aside0 (N - n = kq) ∧ Aside0 (acc.length = n) ∧ Aside0 (0 ≤ q ∧ q ≤ l0.length) ∧ Aside0 (textsN l0 N (p + 2) [] = textsN l0 (N - n) q acc) ∧ Aside0 (Kd.R Kd.string 9 wr (w.heap.size + 2) (fun k_ => w.heap.size + 2 ≤ k_) v10 acc) ∧ Aside0 (wr.heap[w.heap.size + 1]? = some (.cells #[.int .i64 q] 3 (0, 0))) ∧ Aside0 (wr.heap[w.heap.size]? = some (.cells #[.slice A0 l0.length c0] 22 (0, 0))) ∧ Aside0 (Below w.heap.size w wr))
  case atStart => exact ⟨0, p + 2, [], rfl, ⟨Nat.zero_le _⟩, ⟨rfl⟩, ⟨rfl⟩, ⟨by have := HPP.out; have := HLE.out; omega⟩, ⟨rfl⟩, ⟨Kd.R_nil _ _ _ _ _⟩, HA2, HB2, HBE⟩
  case round =>
    obtain ⟨n, q, acc, rfl, HN, HK, HAL, HQ, HX, HO, HA3, HB3, HB1⟩ := hrel
    by_cases hlt : n < N
    · have HLT := Aside0.mk hlt
      have hx := HX.out
      obtain ⟨d, hd⟩ : ∃ d, N - n = d + 1 := ⟨N - n - 1, by omega⟩
      rw [hd, textsN] at hx
      cases ho : oneText l0 q with
      | none =>
        rw [ho] at hx
        have HX2 := Aside0.mk (show textsN l0 N (p + 2) [] = none from hx)
        have HONE := Aside0.mk (takePool_no.calls A0 c0 l0 q w.heap.size (w.heap.size + 1) wr (Kd.C_below HR0.out HB1.out) HC0.out HBO.out HQ.out.1 HQ.out.2 HB3.out HA3.out ho)
        clear hx ho hd
        go_wp2_with fail
        refine HONE.out.mono ?_
        rintro e w5 ⟨rfl, rfl⟩
        dsimp only
        go_wp2
        go_ret3
        have h2 := E1.out
        rw [HX2.out] at h2
        rw [h2]
        exact ⟨_, rfl, Kd.R_nil _ _ _ _ _, HB1.out⟩
      | some t =>
        obtain ⟨s, q2⟩ := t
        rw [ho] at hx
        have HX2 := Aside0.mk (show textsN l0 N (p + 2) [] = textsN l0 d q2 (acc ++ [s]) from hx)
        have HD := Aside0.mk hd
        have HQ2 := Aside0.mk (oneText_range HBO.out ho)
        have HONE := Aside0.mk (takePool_one.calls A0 c0 l0 q w.heap.size (w.heap.size + 1) s q2 w wr HR0.out HC0.out HBO.out HQ.out.1 HQ.out.2 HB1.out (by omega) HB3.out HA3.out ho)
        have HA4 := Aside0.mk (blk_put HA3.out 0 (.int .i64 q2) rfl)
        have HB4 := Aside0.mk (blk_far HB3.out (p := ⟨w.heap.size + 1, 0, none⟩) (show w.heap.size ≠ w.heap.size + 1 by omega) (.int .i64 q2))
        have HBE4 := Aside0.mk (HB1.out.setCell (p := ⟨w.heap.size + 1, 0, none⟩) (by simp) (.int .i64 q2))
        have HO4 := Aside0.mk (Kd.R_far HO.out (p := ⟨w.heap.size + 1, 0, none⟩) (fun k hk => by show k ≠ w.heap.size + 1; omega) (.int .i64 q2))
        clear hx ho hd
        go_wp2_with fail
        refine HONE.out.mono ?_
        rintro e w5 ⟨rfl, rfl⟩
        dsimp only
        generalize wr.setCell ⟨w.heap.size + 1, 0, none⟩ (.int .i64 q2) = w6 at HA4 HB4 HBE4 HO4 ⊢
        have HZ := Aside0.mk (show w.heap.size + 2 ≤ w6.heap.size by have := blk_lt HA4.out; omega)
        go_wp2_with ((with_reducible refine gate_builtin (b := .append) (xs := #[.tmp 34, .tmp 36]) rfl ?_); at_builtin; refine Kd.R_append Kd.string (w0 := w6) (w.heap.size + 2) rfl (.tmp 34) (.tmp 36) 40 9 (.string ⟨#[]⟩) 16 rfl Try.underlying40 info9 rfl (by decide) (by omega) u10 acc s [.string s] (fun k_ => w.heap.size + 2 ≤ k_) (fun _ => False) rfl rfl ?aP (fun _ hk => hk.elim) ?aF HO4.out (Below.refl _ _) HZ.out ?aL ?_; (case aP => exact rfl); (case aF => exact (fun k_ hk => Nat.le_trans HZ.out hk)); (case aL => have := HAL.out; have := HLT.out; omega); intro v7 w7 ho hb hg hat; have hne := fun g (hg_ : g < w.heap.size + 2) => (show some g ≠ (u10 : Value).ownBlock from fun e => by have := Kd.R_base HO4.out g e.symm; omega); have HO7 := Aside0.mk ho; have HA7 := Aside0.mk (blk_grown HA4.out hg (hne _ (by omega))); have HB7 := Aside0.mk (blk_grown HB4.out hg (hne _ (by omega))); have HBE7 := Aside0.mk (pw_below_grown HBE4.out _ HBE4.out.size hg (fun k hk => by have := Kd.R_base HO4.out k hk; omega)); clear ho hb hg hat hne)
        go_roundg (N - (n + 1))
        case measure => have := HLT.out; have := HK.out; omega
        case rel => exact ⟨n + 1, q2, acc ++ [s], by go_num, ⟨HLT.out⟩, ⟨rfl⟩, ⟨by rw [List.length_append, HAL.out]; rfl⟩, ⟨by have := HQ2.out; omega⟩, ⟨by rw [HX2.out, show N - (n + 1) = d by have := HD.out; omega]⟩, HO7, HA7, HB7, HBE7⟩
    · have hn : n = N := by have := HN.out; omega
      subst hn
      have hx := HX.out
      rw [Nat.sub_self, textsN] at hx
      have h2 := E1.out
      rw [hx] at h2
      have HX2 := Aside0.mk h2
      clear hx h2 HX
      obtain ⟨A5, c5, rfl⟩ := Kd.R_slice HO.out
      have hca2 : wr.cell? ⟨w.heap.size + 1, 0, none⟩ = some (.int .i64 q) := (blk_cell HA3.out 0).trans rfl
      cases hpl : isPoolB acc with
      | false =>
        have HP := Aside0.mk (pack_isPool.calls A5 c5 acc false wr (Kd.R_reads' HO.out).2.2 (Kd.R_reads' HO.out).2.1 (by rw [pack_isPool.f, if_pos (by have := HAL.out; omega), hpl]))
        have HPL := Aside0.mk hpl
        clear hpl
        go_wp2_with fail
        refine HP.out.mono ?_
        rintro e w5 ⟨rfl, hb⟩
        have HB5 := Aside0.mk (HB1.out.trans (hb.mono HB1.out.size))
        clear hb
        dsimp only
        go_wp2
        go_ret3
        have h2 : takePool l0 p = if isPoolB acc = true then (acc, q, 0) else ([], 0, 2) := HX2.out
        rw [HPL.out, if_neg (by simp)] at h2
        rw [h2]
        exact ⟨_, rfl, Kd.R_nil _ _ _ _ _, HB5.out⟩
      | true =>
        have HP := Aside0.mk (pack_isPool.calls A5 c5 acc true wr (Kd.R_reads' HO.out).2.2 (Kd.R_reads' HO.out).2.1 (by rw [pack_isPool.f, if_pos (by have := HAL.out; omega), hpl]))
        have HPL := Aside0.mk hpl
        clear hpl hca2
        go_wp2_with fail
        refine HP.out.mono ?_
        rintro e w5 ⟨rfl, hb⟩
        have HB5 := Aside0.mk (HB1.out.trans (hb.mono HB1.out.size))
        have HO5 := Aside0.mk (Kd.R_mono (Kd.R_lower (Kd.R_below HO.out hb) (show w.heap.size ≤ w.heap.size + 2 by omega)) (fun _ _ => trivial))
        have hca2 : w5.cell? ⟨w.heap.size + 1, 0, none⟩ = some (.int .i64 q) := (blk_cell (blk_below HA3.out hb) 0).trans rfl
        clear hb
        dsimp only
        go_wp2
        go_quiet (fail)
        go_wp2
        go_ret3
        have h2 : takePool l0 p = if isPoolB acc = true then (acc, q, 0) else ([], 0, 2) := HX2.out
        rw [HPL.out, if_pos rfl] at h2
        rw [h2]
        exact ⟨_, rfl, Kd.R_drewN HO5.out _, pw_below_drewN HB5.out _⟩
end Go.Proofs.Ytmgkfklkdedpgaa.Q
