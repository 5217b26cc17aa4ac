/- Functions of the translation as plain Lean functions, each with a proof that the Go code comes to its answers, wherever the function has one; no other condition. Written by this session's own program (wip/myprint.py). -/
import Derived.Test.YthejhhklphjhmaaQx0
import Derived.Test.YthejhhklphjhmaaQx1
import Derived.Test.YthejhhklphjhmaaQx2
import Derived.Test.YthejhhklphjhmaaQx8
namespace Go.Proofs.Ythejhhklphjhmaa.Q
open Go.RowKit Go.Proofs.Ythejhhklphjhmaa.Mine Go.Proofs.YthejhhklphjhmaaW.PrintWords Go.Proofs.YthejhhklphjhmaaW.PrintLast Go.Proofs.YthejhhklphjhmaaW.PrintMore
attribute [local go_sem] max2_int min2_int max_two min_two max_three min_three max_four min_four   -- for this text's walks alone
set_option linter.unusedVariables false
set_option linter.unusedSimpArgs false

/-! ### exerguelaw08_CrcApart: function 9 -/
def exerguelaw08_CrcApart.f (k : Nat) (l0 : List Int) (a1 : Int) (q0 q1 q2 q3 : Int) : Option Bool :=
  (exerguelaw08_shown.f k).bind fun up => if up = true then (if (l0.length : Int) > 2000 ∨ a1 < 0 ∨ a1 > (l0.length : Int) - 4 ∨ [q0, q1, q2, q3] = [0, 0, 0, 0] then some true else
    (crc_Of.f k (xb l0 [q0, q1, q2, q3] a1.toNat 4)).bind fun s => (crc_Of.f k l0).bind fun s' => (crc_On.f k 7 (xb l0 [q0, q1, q2, q3] a1.toNat 4)).bind fun u => (crc_On.f k 7 l0).bind fun u' => if s ≠ s' ∧ u ≠ u' then some true else none) else none
set_option maxHeartbeats 4000000 in
set_option maxRecDepth 100000 in
theorem exerguelaw08_CrcApart.calls (k : Nat) (A0 : Option Addr) (c0 : Nat) (l0 : List Int) (a1 : Int) (q0 q1 q2 q3 : Int) (r : Bool) (w : World) (hr0 : Kd.C (Kd.int .u8) w A0 l0.length l0) (hc0 : l0.length ≤ c0) (h : exerguelaw08_CrcApart.f k l0 a1 q0 q1 q2 q3 = some r) :
    Calls Try.prog 9 #[.slice A0 l0.length c0, .int .i64 a1, .agg #[.int .u8 q0, .int .u8 q1, .int .u8 q2, .int .u8 q3]] w fun e w' => e = .returned (.bool r) ∧ Below w.heap.size w w' := by
  obtain ⟨up, A0_, h⟩ := Option.bind_eq_some_iff.mp h
  have hup : up = true := by
    by_cases q : up = true
    · exact q
    · rw [if_neg q] at h; cases h
  subst hup
  rw [if_pos rfl] at h
  have S0 := Aside0.mk A0_
  have H := Aside0.mk h
  have HR0 := Aside0.mk hr0
  have HC0 := Aside0.mk hc0
  have hmax : l0.length ≤ 9223372036854775807 := hr0.2.1
  have hw4 : wrap64 ((l0.length : Int) - 4) = (l0.length : Int) - 4 := by unfold wrap64; omega
  have heq0 : ∀ W, (Op.equalIn 10000 36 (.agg #[.int .u8 q0, .int .u8 q1, .int .u8 q2, .int .u8 q3]) (.agg #[.int .u8 0, .int .u8 0, .int .u8 0, .int .u8 0])).run Try.prog W = .ok (decide ([q0, q1, q2, q3] = [0, 0, 0, 0])) W := fun W => run_eq4 W 9998 36 5 .u8 _ q0 q1 q2 q3 _ _ _ _ Try.underlying36 Try.underlying5 (show Try.prog.info? 5 = some _ from rfl) (by kernel_rfl) (by kernel_rfl)
  clear h A0_ hr0 hc0
  have HB0 := Aside0.mk ((Below.refl w.heap.size w).alloc (Nat.le_refl _) (.cells #[.int .u8 q0, .int .u8 q1, .int .u8 q2, .int .u8 q3] 36))
  have HG0 := Aside0.mk (blk_new w (.cells #[.int .u8 q0, .int .u8 q1, .int .u8 q2, .int .u8 q3] 36))
  by_cases hE : (l0.length : Int) > 2000 ∨ a1 < 0 ∨ a1 > (l0.length : Int) - 4 ∨ [q0, q1, q2, q3] = [0, 0, 0, 0]
  · have h := H.out
    rw [if_pos hE] at h
    obtain rfl := Option.some.inj h
    clear h H
    go_enter Try.func9, Try.ntmps9
    go_wp2_with fail
    refine (exerguelaw08_shown.calls k true _ S0.out).mono ?_
    rintro e w1 ⟨rfl, hb_⟩
    have HB1 := Aside0.mk (HB0.out.trans (hb_.mono HB0.out.size))
    have HG1 := Aside0.mk (blk_below HG0.out hb_)
    clear hb_
    have hg0 := (blk_cell HG1.out 0).trans rfl
    have hg1 := (blk_cell HG1.out 1).trans rfl
    have hg2 := (blk_cell HG1.out 2).trans rfl
    have hg3 := (blk_cell HG1.out 3).trans rfl
    dsimp only
    by_cases h1 : (l0.length : Int) > 2000
    · go_wp2
      go_ret
      exact ⟨rfl, HB1.out⟩
    by_cases h2 : a1 < 0
    · go_wp2
      go_ret
      exact ⟨rfl, HB1.out⟩
    by_cases h3 : a1 > (l0.length : Int) - 4
    · go_wp2
      go_ret
      exact ⟨rfl, HB1.out⟩
    have h4 : [q0, q1, q2, q3] = [0, 0, 0, 0] := by rcases hE with h | h | h | h <;> first | exact absurd h (by assumption) | exact h
    simp only [h4, decide_true] at heq0
    clear h4 hE
    go_wp2
    go_ret
    exact ⟨rfl, HB1.out⟩
  · have h := H.out
    rw [if_neg hE] at h
    clear H
    obtain ⟨s, A1_, h⟩ := Option.bind_eq_some_iff.mp h
    obtain ⟨s', A2_, h⟩ := Option.bind_eq_some_iff.mp h
    obtain ⟨u, A3_, h⟩ := Option.bind_eq_some_iff.mp h
    obtain ⟨u', A4_, h⟩ := Option.bind_eq_some_iff.mp h
    have hh : (s ≠ s' ∧ u ≠ u') ∧ true = r := by
      by_cases q : s ≠ s' ∧ u ≠ u'
      · rw [if_pos q] at h; exact ⟨q, Option.some.inj h⟩
      · rw [if_neg q] at h; cases h
    obtain ⟨⟨hs, hu⟩, rfl⟩ := hh
    clear h
    have A1 := Aside0.mk A1_
    have A2 := Aside0.mk A2_
    have A3 := Aside0.mk A3_
    have A4 := Aside0.mk A4_
    have HN := Aside0.mk (And.intro hs hu)
    clear A1_ A2_ A3_ A4_ hs hu
    have h1 : ¬ (l0.length : Int) > 2000 := fun h => hE (.inl h)
    have h2 : ¬ a1 < 0 := fun h => hE (.inr (.inl h))
    have h3 : ¬ a1 > (l0.length : Int) - 4 := fun h => hE (.inr (.inr (.inl h)))
    have h4 : [q0, q1, q2, q3] ≠ [0, 0, 0, 0] := fun h => hE (.inr (.inr (.inr h)))
    simp only [h4, decide_false] at heq0
    clear hE h4
    obtain ⟨n, rfl⟩ := Int.eq_ofNat_of_zero_le (show 0 ≤ a1 by omega)
    rw [Int.toNat_natCast] at A1 A3
    have hn4 : n + 4 ≤ l0.length := by omega
    obtain ⟨y128, hy128⟩ : ∃ y_ : List Int, y_ = [] := ⟨_, rfl⟩
    obtain ⟨y131, hy131⟩ : ∃ y_ : List Int, y_ = y128 ++ l0 := ⟨_, rfl⟩
    have Ny128 := Aside0.mk hy128
    have Ny131 := Aside0.mk hy131
    have LMc3 := Aside0.mk (show y128.length + l0.length < 140737488355328 by rw [hy128]; simp; omega)
    clear hy128 hy131
    go_enter Try.func9, Try.ntmps9
    go_wp2_with fail
    refine (exerguelaw08_shown.calls k true _ S0.out).mono ?_
    rintro e w1 ⟨rfl, hb_⟩
    have HB := Aside0.mk (HB0.out.trans (hb_.mono HB0.out.size))
    have HG := Aside0.mk (blk_below HG0.out hb_)
    clear hb_
    have hg0 := (blk_cell HG.out 0).trans rfl
    have hg1 := (blk_cell HG.out 1).trans rfl
    have hg2 := (blk_cell HG.out 2).trans rfl
    have hg3 := (blk_cell HG.out 3).trans rfl
    dsimp only
    go_wp2_with (first
 | ((with_reducible refine gate_dst (N := 31) rfl ?_); refine Kd.R_lit (Kd.int .u8) _ 5 ?hg (N := 31) ?hd (xs := ([] : List Int)) (inner := []) (ok := fun _ => True) (okp := fun _ => True) ?hr ?hp (fun _ hk => hk) trivial (Below.refl _ _) (Nat.le_refl _) (by simp) ?_; (case hd => rfl); (case hg => rfl); (case hr => first | (go_simp; done) | (go_simp; rfl)); (case hp => exact (Reps.none _ _)); intro v129 w5 ho6 hb hg_ hnew_; clear hg_ hnew_; (first | rw [← Ny128.out] at ho6 | (simp only [Int.reduceToNat] at ho6; rw [← Ny128.out] at ho6)); have n0_ := Aside0.mk (Kd.R_lower ho6 HB.out.size); have n1_ := Aside0.mk (HB.out.trans (hb.mono HB.out.size)); have n2_ := Aside0.mk (blk_below HG.out hb); clear HB HG; have HO130 := n0_; have HB := n1_; have HG := n2_; clear n0_ n1_ n2_; clear hb ho6)
 | ((with_reducible refine gate_builtin (b := .append) (xs := #[.tmp 31, .tmp 32]) rfl ?_); at_builtin; refine Kd.R_append_rows (Kd.int .u8) (w0 := w) w.heap.size rfl (.tmp 31) (.tmp 32) 23 5 (.int .u8 0) 1 rfl Try.underlying23 info5 rfl (by decide) (by omega) v129 y128 l0 _ _ _ (fun _ => True) (fun _ => False) rfl rfl ?aO ?aR (fun _ _ h => h) (fun _ h => h.elim) ?aF ?aB ?aS ?aL ?_; (case aR => exact (Kd.C_below HR0.out HB.out)); (case aB => exact HB.out); (case aF => exact (fun _ _ => trivial)); (case aO => exact HO130.out); (case aS => exact HB.out.size); (case aL => have := LMc3.out; omega); intro v132 w7 ho hb hg hat; rw [← Ny131.out] at ho; have n0_ := Aside0.mk (hb); have n1_ := Aside0.mk (ho); have n2_ := Aside0.mk (blk_grown HG.out hg (Kd.R_ne HO130.out HG.out (by decide))); clear HB HG; clear HO130; have HB := n0_; have HO133 := n1_; have HG := n2_; clear n0_ n1_ n2_; clear ho hb hg hat))
    have hy : y131 = l0 := by rw [Ny131.out, Ny128.out]; rfl
    subst hy
    clear Ny131 LMc3 Ny128
    obtain ⟨g, cap, rfl, hbg, hlg, cells_, hcells_⟩ := Kd.R_form HO133.out (by omega)
    have HNE := Aside0.mk (blk_ne HG.out hcells_ (by decide))
    clear hcells_
    have HLG := Aside0.mk hbg
    clear hbg hlg
    clear hg0 hg1 hg2 hg3
    go_loopg [9] 4 (fun kq v9 w' => ∃ i : Nat, v9 = .int .i64 (i : Int) ∧ Aside0 (i + kq = 4) ∧ Aside0 (Kd.R (Kd.int .u8) 5 w' w.heap.size (fun _ => True) (.slice (some ⟨g, 0, none⟩) y131.length cap) (xb y131 [q0, q1, q2, q3] n i)) ∧ Aside0 (w'.heap[w.heap.size]? = some (.cells #[.int .u8 q0, .int .u8 q1, .int .u8 q2, .int .u8 q3] 36 (0, 0))) ∧ Aside0 (Below w.heap.size w w'))
    case atStart => exact ⟨0, rfl, ⟨rfl⟩, HO133, HG, HB⟩
    case round =>
      clear HB HG HO133
      obtain ⟨i, rfl, HI, HO, HG, HB⟩ := hrel
      have hg0 := (blk_cell HG.out 0).trans rfl
      have hg1 := (blk_cell HG.out 1).trans rfl
      have hg2 := (blk_cell HG.out 2).trans rfl
      have hg3 := (blk_cell HG.out 3).trans rfl
      rcases (show i = 0 ∨ i = 1 ∨ i = 2 ∨ i = 3 ∨ i = 4 by have := HI.out; omega) with rfl | rfl | rfl | rfl | rfl
      · obtain ⟨hx, hf⟩ := Kd.R_celln 0 HO.out ((n : Nat) : Int) (by omega) (by omega)
        have HP := Kd.R_putn HO.out ((n : Nat) : Int) (Go.bits .xor .u8 (rd (xb y131 [q0, q1, q2, q3] n 0) ((n : Nat) : Int)) q0)
        rw [Int.toNat_natCast] at hx hf HP
        have HPA := Aside0.mk HP
        clear HP
        have hwi : IntKind.i64.wrap (n : Int) = (n : Int) := by rw [IntKind.wrap_i64]; omega
        have hlo : (0 ≤ (n : Int)) = True := eq_true (by omega)
        have hhi : ((n : Int) < (y131.length : Int)) = True := eq_true (by omega)
        have htn : ((n : Int)).toNat = n := by omega
        go_wp2
        go_region_law fail
        all_goals
          go_wp2
          go_roundg 3
          case measure => have := HI.out; omega
          case rel => exact ⟨1, (by first | rfl | (simp; done)), ⟨by have := HI.out; omega⟩, HPA, ⟨blk_far (blk_drew HG.out) HNE.out _⟩, ⟨(HB.out.drew).setCell HLG.out _⟩⟩
      · obtain ⟨hx, hf⟩ := Kd.R_celln 0 HO.out ((n + 1 : Nat) : Int) (by omega) (by omega)
        have HP := Kd.R_putn HO.out ((n + 1 : Nat) : Int) (Go.bits .xor .u8 (rd (xb y131 [q0, q1, q2, q3] n 1) ((n + 1 : Nat) : Int)) q1)
        rw [Int.toNat_natCast] at hx hf HP
        have HPA := Aside0.mk HP
        clear HP
        have hwi : IntKind.i64.wrap ((n : Int) + 1) = ((n : Int) + 1) := by rw [IntKind.wrap_i64]; omega
        have hlo : (0 ≤ ((n : Int) + 1)) = True := eq_true (by omega)
        have hhi : (((n : Int) + 1) < (y131.length : Int)) = True := eq_true (by omega)
        have htn : (((n : Int) + 1)).toNat = n + 1 := by omega
        go_wp2
        go_region_law fail
        all_goals
          go_wp2
          go_roundg 2
          case measure => have := HI.out; omega
          case rel => exact ⟨2, (by first | rfl | (simp; done)), ⟨by have := HI.out; omega⟩, HPA, ⟨blk_far (blk_drew HG.out) HNE.out _⟩, ⟨(HB.out.drew).setCell HLG.out _⟩⟩
      · obtain ⟨hx, hf⟩ := Kd.R_celln 0 HO.out ((n + 2 : Nat) : Int) (by omega) (by omega)
        have HP := Kd.R_putn HO.out ((n + 2 : Nat) : Int) (Go.bits .xor .u8 (rd (xb y131 [q0, q1, q2, q3] n 2) ((n + 2 : Nat) : Int)) q2)
        rw [Int.toNat_natCast] at hx hf HP
        have HPA := Aside0.mk HP
        clear HP
        have hwi : IntKind.i64.wrap ((n : Int) + 2) = ((n : Int) + 2) := by rw [IntKind.wrap_i64]; omega
        have hlo : (0 ≤ ((n : Int) + 2)) = True := eq_true (by omega)
        have hhi : (((n : Int) + 2) < (y131.length : Int)) = True := eq_true (by omega)
        have htn : (((n : Int) + 2)).toNat = n + 2 := by omega
        go_wp2
        go_region_law fail
        all_goals
          go_wp2
          go_roundg 1
          case measure => have := HI.out; omega
          case rel => exact ⟨3, (by first | rfl | (simp; done)), ⟨by have := HI.out; omega⟩, HPA, ⟨blk_far (blk_drew HG.out) HNE.out _⟩, ⟨(HB.out.drew).setCell HLG.out _⟩⟩
      · obtain ⟨hx, hf⟩ := Kd.R_celln 0 HO.out ((n + 3 : Nat) : Int) (by omega) (by omega)
        have HP := Kd.R_putn HO.out ((n + 3 : Nat) : Int) (Go.bits .xor .u8 (rd (xb y131 [q0, q1, q2, q3] n 3) ((n + 3 : Nat) : Int)) q3)
        rw [Int.toNat_natCast] at hx hf HP
        have HPA := Aside0.mk HP
        clear HP
        have hwi : IntKind.i64.wrap ((n : Int) + 3) = ((n : Int) + 3) := by rw [IntKind.wrap_i64]; omega
        have hlo : (0 ≤ ((n : Int) + 3)) = True := eq_true (by omega)
        have hhi : (((n : Int) + 3) < (y131.length : Int)) = True := eq_true (by omega)
        have htn : (((n : Int) + 3)).toNat = n + 3 := by omega
        go_wp2
        go_region_law fail
        all_goals
          go_wp2
          go_roundg 0
          case measure => have := HI.out; omega
          case rel => exact ⟨4, (by first | rfl | (simp; done)), ⟨by have := HI.out; omega⟩, HPA, ⟨blk_far (blk_drew HG.out) HNE.out _⟩, ⟨(HB.out.drew).setCell HLG.out _⟩⟩
      · have HC8 := Aside0.mk (Kd.R_reads' HO.out)
        have hxl : (xb y131 [q0, q1, q2, q3] n 4).length = y131.length := xb_len _ _ _ _
        have HXL := Aside0.mk hxl
        have hcap : y131.length ≤ cap := HC8.out.2.1
        clear hxl
        have HOF := Aside0.mk (show ∀ W, (Kd.int .u8).C W (some ⟨g, 0, none⟩) (xb y131 [q0, q1, q2, q3] n 4).length (xb y131 [q0, q1, q2, q3] n 4) → Calls Try.prog 17 #[.slice (some ⟨g, 0, none⟩) y131.length cap] W fun e w' => e = .returned (.int .u32 s) ∧ Below W.heap.size W w' from fun W hW => by
          have := crc_Of.calls k (some ⟨g, 0, none⟩) cap (xb y131 [q0, q1, q2, q3] n 4) s W hW (by rw [HXL.out]; exact hcap) A1.out
          rw [HXL.out] at this
          exact this)
        have HON := Aside0.mk (show ∀ W, (Kd.int .u8).C W (some ⟨g, 0, none⟩) (xb y131 [q0, q1, q2, q3] n 4).length (xb y131 [q0, q1, q2, q3] n 4) → Calls Try.prog 15 #[.int .u32 7, .slice (some ⟨g, 0, none⟩) y131.length cap] W fun e w' => e = .returned (.int .u32 u) ∧ Below W.heap.size W w' from fun W hW => by
          have := crc_On.calls k 7 (some ⟨g, 0, none⟩) cap (xb y131 [q0, q1, q2, q3] n 4) u W hW (by rw [HXL.out]; exact hcap) A3.out
          rw [HXL.out] at this
          exact this)
        clear hcap
        have hs1 : (s == s') = false := beq_eq_false_iff_ne.mpr HN.out.1
        have hs2 : (s != s') = true := bne_iff_ne.mpr HN.out.1
        have hu1 : (u == u') = false := beq_eq_false_iff_ne.mpr HN.out.2
        have hu2 : (u != u') = true := bne_iff_ne.mpr HN.out.2
        go_wp2_with fail
        refine (HOF.out _ HC8.out.2.2).mono ?_
        rintro e w8 ⟨rfl, hb_⟩
        have HB8 := Aside0.mk (HB.out.trans (hb_.mono HB.out.size))
        have HC9 := Aside0.mk (Kd.C_below HC8.out.2.2 hb_)
        clear hb_
        dsimp only
        go_wp2_with fail
        refine (crc_Of.calls k _ _ y131 s' _ (Kd.C_below HR0.out HB8.out) HC0.out A2.out).mono ?_
        rintro e w9 ⟨rfl, hb_⟩
        have HB9 := Aside0.mk (HB8.out.trans (hb_.mono HB8.out.size))
        have HC10 := Aside0.mk (Kd.C_below HC9.out hb_)
        clear hb_
        dsimp only
        go_wp2_with fail
        refine (HON.out _ HC10.out).mono ?_
        rintro e w10 ⟨rfl, hb_⟩
        have HB10 := Aside0.mk (HB9.out.trans (hb_.mono HB9.out.size))
        clear hb_
        dsimp only
        go_wp2_with fail
        refine (crc_On.calls k 7 _ _ y131 u' _ (Kd.C_below HR0.out HB10.out) HC0.out A4.out).mono ?_
        rintro e w11 ⟨rfl, hb_⟩
        have HB11 := Aside0.mk (HB10.out.trans (hb_.mono HB10.out.size))
        clear hb_
        dsimp only
        go_wp2
        go_ret
        exact ⟨rfl, HB11.out⟩

end Go.Proofs.Ythejhhklphjhmaa.Q
