/- Functions of the translation as plain Lean functions, each with a proof that the Go code comes to its answers, wherever the function has one; no other condition. Written by this session's own program (wip/myprint.py). -/
import Derived.Test.YthejhhklphjhmaaQx0
import Derived.Test.YthejhhklphjhmaaQx5
import Derived.Test.YthejhhklphjhmaaQx7
import Derived.Test.YthejhhklphjhmaaQx8
import Derived.Test.YthejhhklphjhmaaQx13
namespace Go.Proofs.Ythejhhklphjhmaa.Q
open Go.RowKit Go.Proofs.Ythejhhklphjhmaa.Mine Go.Proofs.YthejhhklphjhmaaW.PrintWords Go.Proofs.YthejhhklphjhmaaW.PrintLast Go.Proofs.YthejhhklphjhmaaW.PrintMore
attribute [local go_sem] max2_int min2_int max_two min_two max_three min_three max_four min_four   -- for this text's walks alone
set_option linter.unusedVariables false
set_option linter.unusedSimpArgs false

/-! ### exerguelaw08_CrcCuts: function 8 -/
def exerguelaw08_CrcCuts.f (k : Nat) (l0 : List Int) (q0 q1 q2 q3 : Int) : Option Bool :=
  (exerguelaw08_shown.f k).bind fun up => if up = true then (if (l0.length : Int) > 2000 then some true else
    (crc_Cut.f k (l0 ++ [q0, q1, q2, q3])).bind fun c => (crc_Put.f k l0).bind fun p => (exergueref01_Row.f k (l0 ++ [q0, q1, q2, q3]) p).bind fun own => (crc_Cut.f k (l0.take (min l0.length 3))).bind fun d =>
      if d = ([], 2) then (if own = true then (if c.2 = 0 then (exergueref01_Row.f k c.1 l0).bind fun rw => if rw = true then some true else none else none) else if c = ([], 6) then some true else none) else none) else none
set_option maxHeartbeats 8000000 in
set_option maxRecDepth 100000 in
theorem exerguelaw08_CrcCuts.calls (k : Nat) (A0 : Option Addr) (c0 : Nat) (l0 : List Int) (q0 q1 q2 q3 : Int) (r : Bool) (w : World) (hr0 : Kd.C (Kd.int .u8) w A0 l0.length l0) (hc0 : l0.length ≤ c0) (h : exerguelaw08_CrcCuts.f k l0 q0 q1 q2 q3 = some r) :
    Calls Try.prog 8 #[.slice A0 l0.length c0, .agg #[.int .u8 q0, .int .u8 q1, .int .u8 q2, .int .u8 q3]] w fun e w' => e = .returned (.bool r) ∧ Below w.heap.size w w' := by
  obtain ⟨up, A0_, h⟩ := Option.bind_eq_some_iff.mp h
  have hup : up = true := by
    by_cases q : up = true
    · exact q
    · rw [if_neg q] at h; cases h
  subst hup
  rw [if_pos rfl] at h
  have S0 := Aside0.mk A0_
  have H := Aside0.mk h
  have HR0 := Aside0.mk hr0
  have HC0 := Aside0.mk hc0
  clear h A0_ hr0 hc0
  have HB0 := Aside0.mk ((Below.refl w.heap.size w).alloc (Nat.le_refl _) (.cells #[.int .u8 q0, .int .u8 q1, .int .u8 q2, .int .u8 q3] 36))
  have HG0 := Aside0.mk (blk_new w (.cells #[.int .u8 q0, .int .u8 q1, .int .u8 q2, .int .u8 q3] 36))
  by_cases h1 : (l0.length : Int) > 2000
  · have h := H.out
    rw [if_pos h1] at h
    obtain rfl := Option.some.inj h
    clear h H
    go_enter Try.func8, Try.ntmps8
    go_wp2_with fail
    refine (exerguelaw08_shown.calls k true _ S0.out).mono ?_
    rintro e w1 ⟨rfl, hb_⟩
    have HB1 := Aside0.mk (HB0.out.trans (hb_.mono HB0.out.size))
    clear hb_
    dsimp only
    go_wp2
    go_ret
    exact ⟨rfl, HB1.out⟩
  have h := H.out
  rw [if_neg h1] at h
  clear H
  obtain ⟨⟨e1, e2⟩, A1_, h⟩ := Option.bind_eq_some_iff.mp h
  obtain ⟨p, A2_, h⟩ := Option.bind_eq_some_iff.mp h
  obtain ⟨own, A3_, h⟩ := Option.bind_eq_some_iff.mp h
  obtain ⟨d, A4_, h⟩ := Option.bind_eq_some_iff.mp h
  have hd : d = ([], 2) := by
    by_cases q : d = ([], 2)
    · exact q
    · rw [if_neg q] at h; cases h
  subst hd
  rw [if_pos rfl] at h
  have A1 := Aside0.mk A1_
  have A2 := Aside0.mk A2_
  have A3 := Aside0.mk A3_
  have A4 := Aside0.mk A4_
  have H := Aside0.mk h
  clear A1_ A2_ A3_ A4_ h
  go_enter Try.func8, Try.ntmps8
  go_wp2_with fail
  refine (exerguelaw08_shown.calls k true _ S0.out).mono ?_
  rintro e w1 ⟨rfl, hb_⟩
  have HB := Aside0.mk (HB0.out.trans (hb_.mono HB0.out.size))
  have HG := Aside0.mk (blk_below HG0.out hb_)
  clear hb_
  have hg0 := (blk_cell HG.out 0).trans rfl
  have hg1 := (blk_cell HG.out 1).trans rfl
  have hg2 := (blk_cell HG.out 2).trans rfl
  have hg3 := (blk_cell HG.out 3).trans rfl
  dsimp only
  go_wp2_with fail
  have HS : ∀ W : World, W.heap[w.heap.size]? = some (.cells #[.int .u8 q0, .int .u8 q1, .int .u8 q2, .int .u8 q3] 36 (0, 0)) → (W.cell? ⟨w.heap.size, 0, none⟩ = some (.int .u8 q0) ∧ W.cell? ⟨w.heap.size, 1, none⟩ = some (.int .u8 q1) ∧ W.cell? ⟨w.heap.size, 2, none⟩ = some (.int .u8 q2) ∧ W.cell? ⟨w.heap.size, 3, none⟩ = some (.int .u8 q3)) :=
    fun W h => ⟨(blk_cell h 0).trans rfl, (blk_cell h 1).trans rfl, (blk_cell h 2).trans rfl, (blk_cell h 3).trans rfl⟩
  have HSA := Aside0.mk HS
  clear HS
  refine start_ (n := 14) (S := (fun w' => w'.cell? ⟨w.heap.size, 0, none⟩ = some (.int .u8 q0) ∧ w'.cell? ⟨w.heap.size, 1, none⟩ = some (.int .u8 q1) ∧ w'.cell? ⟨w.heap.size, 2, none⟩ = some (.int .u8 q2) ∧ w'.cell? ⟨w.heap.size, 3, none⟩ = some (.int .u8 q3))) (ds := []) #[false, false, false, false, false, false, false, false, false, false, false, false, false, false] (by kernel_rfl) rfl rfl (HSA.out _ (blk_drew HG.out)) (fun hHeld => ?_)
  have HBd := Aside0.mk HB.out.drew
  have HGd := Aside0.mk (blk_drew HG.out)
  clear HB HG hg0 hg1 hg2 hg3
  generalize w1.drew = w2 at HBd HGd hHeld ⊢
  refine pure_ (i := 1) (N := some 18) (v := ?_) (a' := ?_) #[false, true, false, false, false, false, false, false, false, false, false, false, false, false] rfl rfl (by kernel_rfl) (fun _ _ _ h => h) (Or.inl ⟨by rfl, ?_⟩) ?_ ?_
  rotate_left
  · intro w'
    go_simp
    with_reducible rfl
  rotate_left
  · simp only [Act.put, List.setIfInBounds_toArray, List.set_cons_zero, List.set_cons_succ]
    rfl
  refine pure_ (i := 3) (N := some 20) (v := ?_) (a' := ?_) #[false, true, false, true, false, false, false, false, false, false, false, false, false, false] rfl rfl (by kernel_rfl) (fun _ _ _ h => h) (Or.inl ⟨by rfl, ?_⟩) ?_ ?_
  rotate_left
  · intro w'
    go_simp
    with_reducible rfl
  rotate_left
  · simp only [Act.put, List.setIfInBounds_toArray, List.set_cons_zero, List.set_cons_succ]
    rfl
  refine pure_ (i := 5) (N := some 22) (v := ?_) (a' := ?_) #[false, true, false, true, false, true, false, false, false, false, false, false, false, false] rfl rfl (by kernel_rfl) (fun _ _ _ h => h) (Or.inl ⟨by rfl, ?_⟩) ?_ ?_
  rotate_left
  · intro w'
    go_simp
    with_reducible rfl
  rotate_left
  · simp only [Act.put, List.setIfInBounds_toArray, List.set_cons_zero, List.set_cons_succ]
    rfl
  refine pure_ (i := 7) (N := some 24) (v := ?_) (a' := ?_) #[false, true, false, true, false, true, false, true, false, false, false, false, false, false] rfl rfl (by kernel_rfl) (fun _ _ _ h => h) (Or.inl ⟨by rfl, ?_⟩) ?_ ?_
  rotate_left
  · intro w'
    go_simp
    with_reducible rfl
  rotate_left
  · simp only [Act.put, List.setIfInBounds_toArray, List.set_cons_zero, List.set_cons_succ]
    rfl
  refine pure_ (i := 9) (N := some 26) (v := ?_) (a' := ?_) #[false, true, false, true, false, true, false, true, false, true, false, false, false, false] rfl rfl (by kernel_rfl) (fun _ _ _ h => h) (Or.inl ⟨by rfl, ?_⟩) ?_ ?_
  rotate_left
  · intro w'
    go_simp
    with_reducible rfl
  rotate_left
  · simp only [Act.put, List.setIfInBounds_toArray, List.set_cons_zero, List.set_cons_succ]
    rfl
  refine take_ (i := 4) (N := some 21) (v := ?_) (a' := ?_) #[false, true, false, true, true, true, false, true, false, true, false, false, false, false] rfl rfl (by kernel_rfl) (fun _ _ _ h => h) (Or.inl ⟨by rfl, ?_⟩) hHeld ?_ ?_
  rotate_left
  · rintro w' ⟨s0, s1, s2, s3⟩
    go_simp
    with_reducible rfl
  rotate_left
  · simp only [Act.put, List.setIfInBounds_toArray, List.set_cons_zero, List.set_cons_succ]
    rfl
  refine take_ (i := 6) (N := some 23) (v := ?_) (a' := ?_) #[false, true, false, true, true, true, true, true, false, true, false, false, false, false] rfl rfl (by kernel_rfl) (fun _ _ _ h => h) (Or.inl ⟨by rfl, ?_⟩) hHeld ?_ ?_
  rotate_left
  · rintro w' ⟨s0, s1, s2, s3⟩
    go_simp
    with_reducible rfl
  rotate_left
  · simp only [Act.put, List.setIfInBounds_toArray, List.set_cons_zero, List.set_cons_succ]
    rfl
  refine take_ (i := 8) (N := some 25) (v := ?_) (a' := ?_) #[false, true, false, true, true, true, true, true, true, true, false, false, false, false] rfl rfl (by kernel_rfl) (fun _ _ _ h => h) (Or.inl ⟨by rfl, ?_⟩) hHeld ?_ ?_
  rotate_left
  · rintro w' ⟨s0, s1, s2, s3⟩
    go_simp
    with_reducible rfl
  rotate_left
  · simp only [Act.put, List.setIfInBounds_toArray, List.set_cons_zero, List.set_cons_succ]
    rfl
  refine take_ (i := 10) (N := some 27) (v := ?_) (a' := ?_) #[false, true, false, true, true, true, true, true, true, true, true, false, false, false] rfl rfl (by kernel_rfl) (fun _ _ _ h => h) (Or.inl ⟨by rfl, ?_⟩) hHeld ?_ ?_
  rotate_left
  · rintro w' ⟨s0, s1, s2, s3⟩
    go_simp
    with_reducible rfl
  rotate_left
  · simp only [Act.put, List.setIfInBounds_toArray, List.set_cons_zero, List.set_cons_succ]
    rfl
  refine join_ (σ := Value × Value × Value × Value) 1 #[true, true, true, true, true, true, true, true, true, true, true, true, true, false] (fun s => [(17, s.1), (28, s.2.1), (19, s.2.2.1), (29, s.2.2.2)]) (fun s W => Kd.R (Kd.int .u8) 5 W w.heap.size (fun _ => True) s.2.2.2 (([] ++ l0) ++ [q0, q1, q2, q3]) ∧ Below w.heap.size w W) ?cont ?ways
  case cont =>
    rintro ⟨va, vq, vb, vy⟩ wy ⟨ho_, hb_⟩
    have HOy := Aside0.mk (show Kd.R (Kd.int .u8) 5 wy w.heap.size (fun _ => True) vy (l0 ++ [q0, q1, q2, q3]) from ho_)
    have HB := Aside0.mk hb_
    clear ho_ hb_ HBd HGd hHeld
    simp only [putAll, Act.put, List.setIfInBounds_toArray, List.set_cons_zero, List.set_cons_succ]
    refine pure_ (i := 13) (N := some 6) (v := ?_) (a' := ?_) #[true, true, true, true, true, true, true, true, true, true, true, true, true, true] rfl rfl (by kernel_rfl) (fun _ _ _ h => h) (Or.inl ⟨by rfl, ?_⟩) ?_ ?_
    rotate_left
    · intro w'
      go_simp
      with_reducible rfl
    rotate_left
    · simp only [Act.put, List.setIfInBounds_toArray, List.set_cons_zero, List.set_cons_succ]
      rfl
    refine done_ (by kernel_rfl) ?_
    obtain ⟨Ay, cy, eq_⟩ := Kd.R_slice HOy.out
    subst eq_
    try simp only [Exit.then]
    have hL : (l0 ++ [q0, q1, q2, q3]).length = l0.length + 4 := by simp
    have HLen := Aside0.mk hL
    have HCy := Aside0.mk (show (Kd.int .u8).C wy Ay (l0.length + 4) (l0 ++ [q0, q1, q2, q3]) by have := (Kd.R_reads' HOy.out).2.2; rwa [hL] at this)
    have HYc := Aside0.mk (show l0.length + 4 ≤ cy by have := (Kd.R_reads' HOy.out).2.1; rwa [hL] at this)
    clear hL HOy
    have HCUT := Aside0.mk (show ∀ W, (Kd.int .u8).C W Ay (l0.length + 4) (l0 ++ [q0, q1, q2, q3]) → Calls Try.prog 11 #[.slice Ay (l0.length + 4) cy] W fun e w' => ∃ v0_ : Value, e = .returned (.tuple #[v0_, .int .i64 e2]) ∧ Kd.R (Kd.int .u8) 5 w' W.heap.size (fun _ => True) v0_ e1 ∧ Below W.heap.size W w' from fun W hW => by
      have := crc_Cut.calls k Ay cy (l0 ++ [q0, q1, q2, q3]) e1 e2 W (by rw [HLen.out]; exact hW) (by rw [HLen.out]; exact HYc.out) A1.out
      rw [HLen.out] at this
      exact this)
    have HROW := Aside0.mk (show ∀ W Ap cp, (Kd.int .u8).C W Ay (l0.length + 4) (l0 ++ [q0, q1, q2, q3]) → (Kd.int .u8).C W Ap p.length p → p.length ≤ cp → Calls Try.prog 19 #[.slice Ay (l0.length + 4) cy, .slice Ap p.length cp] W fun e w' => e = .returned (.bool own) ∧ Drawn0 W w' from fun W Ap cp hW hp hc => by
      have := exergueref01_Row.calls k Ay cy (l0 ++ [q0, q1, q2, q3]) Ap cp p own W (by rw [HLen.out]; exact hW) (by rw [HLen.out]; exact HYc.out) hp hc A3.out
      rw [HLen.out] at this
      exact this)
    go_wp2_with fail
    refine (HCUT.out _ HCy.out).mono ?_
    rintro e w3 ⟨v3, rfl, ho_, hb_⟩
    have HB3 := Aside0.mk (HB.out.trans (hb_.mono HB.out.size))
    have HCy3 := Aside0.mk (Kd.C_below HCy.out hb_)
    obtain ⟨A3v, c3v, rfl⟩ := Kd.R_slice ho_
    have HE1 := Aside0.mk (Kd.R_reads' ho_).2.2
    have HE1c := Aside0.mk (Kd.R_reads' ho_).2.1
    clear ho_ hb_
    dsimp only
    go_wp2_with fail
    refine (crc_Put.calls k _ _ l0 p _ (Kd.C_below HR0.out HB3.out) HC0.out A2.out).mono ?_
    rintro e w4 ⟨v4, rfl, ho_, hb_⟩
    have HB4 := Aside0.mk (HB3.out.trans (hb_.mono HB3.out.size))
    have HCy4 := Aside0.mk (Kd.C_below HCy3.out hb_)
    have HE2 := Aside0.mk (Kd.C_below HE1.out hb_)
    obtain ⟨A4v, c4v, rfl⟩ := Kd.R_slice ho_
    have HP := Aside0.mk (Kd.R_reads' ho_).2.2
    have HPc := Aside0.mk (Kd.R_reads' ho_).2.1
    clear ho_ hb_
    dsimp only
    go_wp2_with fail
    refine (HROW.out _ _ _ HCy4.out HP.out HPc.out).mono ?_
    rintro e w5 ⟨rfl, ⟨m5, rfl⟩⟩
    dsimp only
    have hcc : (l0.length : Int) ≤ (c0 : Int) := by have := HC0.out; omega
    have HB5 := Aside0.mk (pw_below_drewN HB4.out m5)
    have HE3 := Aside0.mk (Kd.C_drewN HE2.out m5)
    generalize w4.drewN m5 = w5 at HB5 HE3 ⊢
    by_cases hm : l0.length ≤ 3
    · have A4b := Aside0.mk (show crc_Cut.f k l0 = some ([], 2) by have := A4.out; rwa [List.take_of_length_le (by omega)] at this)
      go_wp2_with fail
      refine (crc_Cut.calls k _ _ l0 [] 2 _ (Kd.C_below HR0.out HB5.out) HC0.out A4b.out).mono ?_
      rintro e w6 ⟨v6, rfl, ho_, hb_⟩
      have HB6 := Aside0.mk (HB5.out.trans (hb_.mono HB5.out.size))
      have HE4 := Aside0.mk (Kd.C_below HE3.out hb_)
      obtain ⟨A6v, c6v, rfl⟩ := Kd.R_slice ho_
      clear ho_ hb_
      dsimp only
      cases own with
      | true =>
        have h := H.out
        rw [if_pos rfl] at h
        have he2 : e2 = 0 := by
          by_cases q : e2 = 0
          · exact q
          · rw [if_neg q] at h; cases h
        subst he2
        rw [if_pos rfl] at h
        obtain ⟨rw_, A5_, h⟩ := Option.bind_eq_some_iff.mp h
        have hrw : rw_ = true ∧ true = r := by
          by_cases q : rw_ = true
          · rw [if_pos q] at h; exact ⟨q, Option.some.inj h⟩
          · rw [if_neg q] at h; cases h
        obtain ⟨rfl, rfl⟩ := hrw
        have A5 := Aside0.mk A5_
        clear h A5_ H
        go_wp2_with fail
        refine (exergueref01_Row.calls k _ _ e1 _ _ l0 true _ HE4.out HE1c.out (Kd.C_below HR0.out HB6.out) HC0.out A5.out).mono ?_
        rintro e w7 ⟨rfl, ⟨m7, rfl⟩⟩
        dsimp only
        go_wp2
        go_ret
        exact ⟨rfl, pw_below_drewN HB6.out m7⟩
      | false =>
        have h := H.out
        rw [if_neg (by simp)] at h
        have hq : (e1, e2) = ([], 6) ∧ true = r := by
          by_cases q : (e1, e2) = ([], 6)
          · rw [if_pos q] at h; exact ⟨q, Option.some.inj h⟩
          · rw [if_neg q] at h; cases h
        obtain ⟨hq, rfl⟩ := hq
        obtain ⟨rfl, rfl⟩ := Prod.mk.inj hq
        clear h hq H
        go_wp2
        go_ret
        exact ⟨rfl, HB6.out⟩
    · have hm3 : min l0.length 3 = 3 := by omega
      have htl : (l0.take 3).length = 3 := by rw [List.length_take]; omega
      have HC3 := Aside0.mk (show ∀ W, (Kd.int .u8).C W A0 l0.length l0 → Calls Try.prog 11 #[.slice A0 3 c0] W fun e w' => ∃ v0_ : Value, e = .returned (.tuple #[v0_, .int .i64 2]) ∧ Kd.R (Kd.int .u8) 5 w' W.heap.size (fun _ => True) v0_ [] ∧ Below W.heap.size W w' from fun W hW => by
        have h3 := Kd.C_take (m := 3) hW (by omega)
        have h4 := A4.out
        rw [hm3] at h4
        have := crc_Cut.calls k A0 c0 (l0.take 3) [] 2 W h3 (by rw [htl]; have := HC0.out; omega) h4
        rw [htl] at this
        exact this)
      clear hm3 htl
      go_wp2_with fail
      refine (HC3.out _ (Kd.C_below HR0.out HB5.out)).mono ?_
      rintro e w6 ⟨v6, rfl, ho_, hb_⟩
      have HB6 := Aside0.mk (HB5.out.trans (hb_.mono HB5.out.size))
      have HE4 := Aside0.mk (Kd.C_below HE3.out hb_)
      obtain ⟨A6v, c6v, rfl⟩ := Kd.R_slice ho_
      clear ho_ hb_
      dsimp only
      cases own with
      | true =>
        have h := H.out
        rw [if_pos rfl] at h
        have he2 : e2 = 0 := by
          by_cases q : e2 = 0
          · exact q
          · rw [if_neg q] at h; cases h
        subst he2
        rw [if_pos rfl] at h
        obtain ⟨rw_, A5_, h⟩ := Option.bind_eq_some_iff.mp h
        have hrw : rw_ = true ∧ true = r := by
          by_cases q : rw_ = true
          · rw [if_pos q] at h; exact ⟨q, Option.some.inj h⟩
          · rw [if_neg q] at h; cases h
        obtain ⟨rfl, rfl⟩ := hrw
        have A5 := Aside0.mk A5_
        clear h A5_ H
        go_wp2_with fail
        refine (exergueref01_Row.calls k _ _ e1 _ _ l0 true _ HE4.out HE1c.out (Kd.C_below HR0.out HB6.out) HC0.out A5.out).mono ?_
        rintro e w7 ⟨rfl, ⟨m7, rfl⟩⟩
        dsimp only
        go_wp2
        go_ret
        exact ⟨rfl, pw_below_drewN HB6.out m7⟩
      | false =>
        have h := H.out
        rw [if_neg (by simp)] at h
        have hq : (e1, e2) = ([], 6) ∧ true = r := by
          by_cases q : (e1, e2) = ([], 6)
          · rw [if_pos q] at h; exact ⟨q, Option.some.inj h⟩
          · rw [if_neg q] at h; cases h
        obtain ⟨hq, rfl⟩ := hq
        obtain ⟨rfl, rfl⟩ := Prod.mk.inj hq
        clear h hq H
        go_wp2
        go_ret
        exact ⟨rfl, HB6.out⟩
  intro hCont
  refine two_ (i := 0) (j := 11) (Ni := some 17) (Nj := some 28) #[true, true, false, true, true, true, true, true, true, true, true, false, false, false] #[false, true, false, true, true, true, true, true, true, true, true, true, false, false] rfl rfl rfl rfl (by kernel_rfl) (by decide) (by decide) (fun K hK => ?_) (fun K hK => ?_)
  · skip
    refine Kd.R_lit_step (Kd.int .u8) _ 5 (by rfl) (N := 17) rfl (w0 := w2) (xs := ([] : List Int)) (inner := []) (ok := fun _ => True) (okp := fun _ => True) (by first | (go_simp; done) | (go_simp; rfl)) (Reps.none _ _) (fun _ hk => hk) trivial (Below.refl _ _) (Nat.le_refl _) (by simp) ?_
    intro va w3 ho hb _ _
    have HOa := Aside0.mk ho
    have HBa := Aside0.mk HBd.out.size
    have HB_ := Aside0.mk (HBd.out.trans (hb.mono HBd.out.size))
    have HG_ := Aside0.mk (blk_below HGd.out hb)
    clear HBd HGd ho hb
    have HBd := HB_
    have HGd := HG_
    clear HB_ HG_
    refine hK.out _ _ (HSA.out _ HGd.out) (fun hHeld => ?_)
    clear hK K
    refine norm_ (a' := ?_) ?_ ?_
    rotate_left
    · show Act.put _ (some 17) _ = _
      simp only [Act.put, List.setIfInBounds_toArray, List.set_cons_zero, List.set_cons_succ]
      rfl
    refine two_ (i := 2) (j := 11) (Ni := some 19) (Nj := some 28) #[true, true, true, true, true, true, true, true, true, true, true, false, false, false] #[true, true, false, true, true, true, true, true, true, true, true, true, false, false] rfl rfl rfl rfl (by kernel_rfl) (by decide) (by decide) (fun K hK => ?_) (fun K hK => ?_)
    · skip
      refine Kd.R_append_rows_step (Kd.int .u8) (w0 := w) w.heap.size (by rfl) (.tmp 17) (.tmp 18) 23 5 (.int .u8 0) 1 rfl Try.underlying23 info5 rfl (by decide) (by omega) va [] l0 _ _ _ (fun _ => True) (fun _ => False) rfl rfl (Kd.R_lower HOa.out HBa.out) (Kd.C_below HR0.out HBd.out) (fun _ _ h => h) (fun _ h => h.elim) (fun _ _ => trivial) HBd.out HBd.out.size (by have := HR0.out.2.1; simp; omega) ?_
      intro vb w4 ho hb hg _
      have HOb := Aside0.mk ho
      have HG_ := Aside0.mk (blk_grown HGd.out hg (Kd.R_ne HOa.out HGd.out (by decide)))
      clear HBd HGd ho hg HOa
      have HBd := Aside0.mk hb
      have HGd := HG_
      clear HG_ hb
      refine hK.out _ _ (HSA.out _ HGd.out) (fun hHeld => ?_)
      clear hK K
      refine norm_ (a' := ?_) ?_ ?_
      rotate_left
      · show Act.put _ (some 19) _ = _
        simp only [Act.put, List.setIfInBounds_toArray, List.set_cons_zero, List.set_cons_succ]
        rfl
      refine one_ (i := 11) (N := some 28) #[true, true, true, true, true, true, true, true, true, true, true, true, false, false] rfl rfl (by kernel_rfl) (by decide) (fun K hK => ?_)
      refine Kd.R_lit_step (Kd.int .u8) _ 5 (by rfl) (N := 28) rfl (w0 := w4) (xs := ([q0, q1, q2, q3] : List Int)) (inner := [.int .u8 q0, .int .u8 q1, .int .u8 q2, .int .u8 q3]) (ok := fun k_ => w4.heap.size ≤ k_) (okp := fun k_ => False) (by first | (go_simp; done) | (go_simp; rfl)) (Reps.one (show Kd.M (Kd.int .u8) _ _ _ q0 [.int .u8 q0] from rfl) (Reps.one (show Kd.M (Kd.int .u8) _ _ _ q1 [.int .u8 q1] from rfl) (Reps.one (show Kd.M (Kd.int .u8) _ _ _ q2 [.int .u8 q2] from rfl) (Reps.one (show Kd.M (Kd.int .u8) _ _ _ q3 [.int .u8 q3] from rfl) (Reps.none _ _))))) (fun _ hk => hk.elim) (Nat.le_refl _) (Below.refl _ _) (Nat.le_refl _) (by simp) ?_
      intro vq w5 ho hb _ _
      have HOq := Aside0.mk ho
      have HB_ := Aside0.mk (HBd.out.trans (hb.mono HBd.out.size))
      have HG_ := Aside0.mk (blk_below HGd.out hb)
      have HOb_ := Aside0.mk (Kd.R_below HOb.out hb)
      clear HBd HGd ho hb HOb
      have HBd := HB_
      have HGd := HG_
      clear HB_ HG_
      have HOb := HOb_
      clear HOb_
      refine hK.out _ _ (HSA.out _ HGd.out) (fun hHeld => ?_)
      clear hK K
      refine norm_ (a' := ?_) ?_ ?_
      rotate_left
      · show Act.put _ (some 28) _ = _
        simp only [Act.put, List.setIfInBounds_toArray, List.set_cons_zero, List.set_cons_succ]
        rfl
      obtain ⟨Aq, cq, eq_⟩ := Kd.R_slice HOq.out
      subst eq_
      refine one_ (i := 12) (N := some 29) #[true, true, true, true, true, true, true, true, true, true, true, true, true, false] rfl rfl (by kernel_rfl) (by decide) (fun K hK => ?_)
      refine Kd.R_append_rows_step (Kd.int .u8) (w0 := w) w.heap.size (by rfl) (.tmp 19) (.tmp 28) 23 5 (.int .u8 0) 1 rfl Try.underlying23 info5 rfl (by decide) (by omega) vb ([] ++ l0) [q0, q1, q2, q3] _ _ _ (fun _ => True) (fun _ => False) rfl rfl HOb.out (Kd.R_reads' HOq.out).2.2 (fun _ _ h => h) (fun _ h => h.elim) (fun _ _ => trivial) HBd.out HBd.out.size (by simp; omega) ?_
      intro vy w6 ho hb hg _
      have HG_ := Aside0.mk (blk_grown HGd.out hg (Kd.R_ne HOb.out HGd.out (by decide)))
      clear HBd HGd HOb HOq hg
      have HBd := Aside0.mk hb
      have HGd := HG_
      have HOy := Aside0.mk ho
      clear HG_ hb ho
      refine hK.out _ _ (HSA.out _ HGd.out) (fun hHeld => ?_)
      clear hK K
      refine norm_ (a' := ?_) ?_ ?_
      rotate_left
      · show Act.put _ (some 29) _ = _
        simp only [Act.put, List.setIfInBounds_toArray, List.set_cons_zero, List.set_cons_succ]
        rfl
      exact norm_ (by simp only [putAll, Act.put, List.setIfInBounds_toArray, List.set_cons_zero, List.set_cons_succ]) (hCont (va, .slice Aq ([q0, q1, q2, q3] : List Int).length cq, vb, vy) _ ⟨HOy.out, HBd.out⟩)
    · skip
      refine Kd.R_lit_step (Kd.int .u8) _ 5 (by rfl) (N := 28) rfl (w0 := w3) (xs := ([q0, q1, q2, q3] : List Int)) (inner := [.int .u8 q0, .int .u8 q1, .int .u8 q2, .int .u8 q3]) (ok := fun k_ => w3.heap.size ≤ k_) (okp := fun k_ => False) (by first | (go_simp; done) | (go_simp; rfl)) (Reps.one (show Kd.M (Kd.int .u8) _ _ _ q0 [.int .u8 q0] from rfl) (Reps.one (show Kd.M (Kd.int .u8) _ _ _ q1 [.int .u8 q1] from rfl) (Reps.one (show Kd.M (Kd.int .u8) _ _ _ q2 [.int .u8 q2] from rfl) (Reps.one (show Kd.M (Kd.int .u8) _ _ _ q3 [.int .u8 q3] from rfl) (Reps.none _ _))))) (fun _ hk => hk.elim) (Nat.le_refl _) (Below.refl _ _) (Nat.le_refl _) (by simp) ?_
      intro vq w7 ho hb _ _
      have HOq := Aside0.mk ho
      have HB_ := Aside0.mk (HBd.out.trans (hb.mono HBd.out.size))
      have HG_ := Aside0.mk (blk_below HGd.out hb)
      have HLa := Aside0.mk (Kd.R_lt HOa.out)
      have HOa_ := Aside0.mk (Kd.R_below HOa.out hb)
      clear HBd HGd ho hb HOa
      have HBd := HB_
      have HGd := HG_
      clear HB_ HG_
      have HOa := HOa_
      clear HOa_
      refine hK.out _ _ (HSA.out _ HGd.out) (fun hHeld => ?_)
      clear hK K
      refine norm_ (a' := ?_) ?_ ?_
      rotate_left
      · show Act.put _ (some 28) _ = _
        simp only [Act.put, List.setIfInBounds_toArray, List.set_cons_zero, List.set_cons_succ]
        rfl
      refine one_ (i := 2) (N := some 19) #[true, true, true, true, true, true, true, true, true, true, true, true, false, false] rfl rfl (by kernel_rfl) (by decide) (fun K hK => ?_)
      refine Kd.R_append_rows_step (Kd.int .u8) (w0 := w) w.heap.size (by rfl) (.tmp 17) (.tmp 18) 23 5 (.int .u8 0) 1 rfl Try.underlying23 info5 rfl (by decide) (by omega) va [] l0 _ _ _ (fun _ => True) (fun _ => False) rfl rfl (Kd.R_lower HOa.out HBa.out) (Kd.C_below HR0.out HBd.out) (fun _ _ h => h) (fun _ h => h.elim) (fun _ _ => trivial) HBd.out HBd.out.size (by have := HR0.out.2.1; simp; omega) ?_
      intro vb w8 ho hb hg _
      have HOb := Aside0.mk ho
      have HG_ := Aside0.mk (blk_grown HGd.out hg (Kd.R_ne HOa.out HGd.out (by decide)))
      have HOq_ := Aside0.mk (Kd.R_grown HOq.out hg (fun k_ hk e_ => by have := HLa.out k_ e_.symm; omega))
      clear HBd HGd ho hg HOa HOq
      have HBd := Aside0.mk hb
      have HGd := HG_
      clear HG_ hb
      have HOq := HOq_
      clear HOq_
      refine hK.out _ _ (HSA.out _ HGd.out) (fun hHeld => ?_)
      clear hK K
      refine norm_ (a' := ?_) ?_ ?_
      rotate_left
      · show Act.put _ (some 19) _ = _
        simp only [Act.put, List.setIfInBounds_toArray, List.set_cons_zero, List.set_cons_succ]
        rfl
      obtain ⟨Aq, cq, eq_⟩ := Kd.R_slice HOq.out
      subst eq_
      refine one_ (i := 12) (N := some 29) #[true, true, true, true, true, true, true, true, true, true, true, true, true, false] rfl rfl (by kernel_rfl) (by decide) (fun K hK => ?_)
      refine Kd.R_append_rows_step (Kd.int .u8) (w0 := w) w.heap.size (by rfl) (.tmp 19) (.tmp 28) 23 5 (.int .u8 0) 1 rfl Try.underlying23 info5 rfl (by decide) (by omega) vb ([] ++ l0) [q0, q1, q2, q3] _ _ _ (fun _ => True) (fun _ => False) rfl rfl HOb.out (Kd.R_reads' HOq.out).2.2 (fun _ _ h => h) (fun _ h => h.elim) (fun _ _ => trivial) HBd.out HBd.out.size (by simp; omega) ?_
      intro vy w9 ho hb hg _
      have HG_ := Aside0.mk (blk_grown HGd.out hg (Kd.R_ne HOb.out HGd.out (by decide)))
      clear HBd HGd HOb HOq hg
      have HBd := Aside0.mk hb
      have HGd := HG_
      have HOy := Aside0.mk ho
      clear HG_ hb ho
      refine hK.out _ _ (HSA.out _ HGd.out) (fun hHeld => ?_)
      clear hK K
      refine norm_ (a' := ?_) ?_ ?_
      rotate_left
      · show Act.put _ (some 29) _ = _
        simp only [Act.put, List.setIfInBounds_toArray, List.set_cons_zero, List.set_cons_succ]
        rfl
      exact norm_ (by simp only [putAll, Act.put, List.setIfInBounds_toArray, List.set_cons_zero, List.set_cons_succ]) (hCont (va, .slice Aq ([q0, q1, q2, q3] : List Int).length cq, vb, vy) _ ⟨HOy.out, HBd.out⟩)
  · skip
    refine Kd.R_lit_step (Kd.int .u8) _ 5 (by rfl) (N := 28) rfl (w0 := w2) (xs := ([q0, q1, q2, q3] : List Int)) (inner := [.int .u8 q0, .int .u8 q1, .int .u8 q2, .int .u8 q3]) (ok := fun k_ => w2.heap.size ≤ k_) (okp := fun k_ => False) (by first | (go_simp; done) | (go_simp; rfl)) (Reps.one (show Kd.M (Kd.int .u8) _ _ _ q0 [.int .u8 q0] from rfl) (Reps.one (show Kd.M (Kd.int .u8) _ _ _ q1 [.int .u8 q1] from rfl) (Reps.one (show Kd.M (Kd.int .u8) _ _ _ q2 [.int .u8 q2] from rfl) (Reps.one (show Kd.M (Kd.int .u8) _ _ _ q3 [.int .u8 q3] from rfl) (Reps.none _ _))))) (fun _ hk => hk.elim) (Nat.le_refl _) (Below.refl _ _) (Nat.le_refl _) (by simp) ?_
    intro vq w10 ho hb _ _
    have HOq := Aside0.mk ho
    have HB_ := Aside0.mk (HBd.out.trans (hb.mono HBd.out.size))
    have HG_ := Aside0.mk (blk_below HGd.out hb)
    have HOq2 := Aside0.mk (Kd.R_mono (Kd.R_bound HOq.out) (fun k_ hk => hk.2.2.1) : Kd.R (Kd.int .u8) 5 w10 w2.heap.size (fun k_ => k_ < w10.heap.size) vq [q0, q1, q2, q3])
    clear HOq
    have HOq := HOq2
    clear HOq2
    clear HBd HGd ho hb
    have HBd := HB_
    have HGd := HG_
    clear HB_ HG_
    refine hK.out _ _ (HSA.out _ HGd.out) (fun hHeld => ?_)
    clear hK K
    refine norm_ (a' := ?_) ?_ ?_
    rotate_left
    · show Act.put _ (some 28) _ = _
      simp only [Act.put, List.setIfInBounds_toArray, List.set_cons_zero, List.set_cons_succ]
      rfl
    refine one_ (i := 0) (N := some 17) #[true, true, false, true, true, true, true, true, true, true, true, true, false, false] rfl rfl (by kernel_rfl) (by decide) (fun K hK => ?_)
    refine Kd.R_lit_step (Kd.int .u8) _ 5 (by rfl) (N := 17) rfl (w0 := w10) (xs := ([] : List Int)) (inner := []) (ok := fun _ => True) (okp := fun _ => True) (by first | (go_simp; done) | (go_simp; rfl)) (Reps.none _ _) (fun _ hk => hk) trivial (Below.refl _ _) (Nat.le_refl _) (by simp) ?_
    intro va w11 ho hb _ _
    have HOa := Aside0.mk ho
    have HBa := Aside0.mk HBd.out.size
    have HB_ := Aside0.mk (HBd.out.trans (hb.mono HBd.out.size))
    have HG_ := Aside0.mk (blk_below HGd.out hb)
    have HOq_ := Aside0.mk (Kd.R_below HOq.out hb)
    clear HBd HGd ho hb HOq
    have HBd := HB_
    have HGd := HG_
    clear HB_ HG_
    have HOq := HOq_
    clear HOq_
    refine hK.out _ _ (HSA.out _ HGd.out) (fun hHeld => ?_)
    clear hK K
    refine norm_ (a' := ?_) ?_ ?_
    rotate_left
    · show Act.put _ (some 17) _ = _
      simp only [Act.put, List.setIfInBounds_toArray, List.set_cons_zero, List.set_cons_succ]
      rfl
    refine one_ (i := 2) (N := some 19) #[true, true, true, true, true, true, true, true, true, true, true, true, false, false] rfl rfl (by kernel_rfl) (by decide) (fun K hK => ?_)
    refine Kd.R_append_rows_step (Kd.int .u8) (w0 := w) w.heap.size (by rfl) (.tmp 17) (.tmp 18) 23 5 (.int .u8 0) 1 rfl Try.underlying23 info5 rfl (by decide) (by omega) va [] l0 _ _ _ (fun _ => True) (fun _ => False) rfl rfl (Kd.R_lower HOa.out HBa.out) (Kd.C_below HR0.out HBd.out) (fun _ _ h => h) (fun _ h => h.elim) (fun _ _ => trivial) HBd.out HBd.out.size (by have := HR0.out.2.1; simp; omega) ?_
    intro vb w12 ho hb hg _
    have HOb := Aside0.mk ho
    have HG_ := Aside0.mk (blk_grown HGd.out hg (Kd.R_ne HOa.out HGd.out (by decide)))
    have HOq_ := Aside0.mk (Kd.R_grown HOq.out hg (fun k_ hk e_ => by have := Kd.R_base HOa.out k_ e_.symm; omega))
    clear HBd HGd ho hg HOa HOq
    have HBd := Aside0.mk hb
    have HGd := HG_
    clear HG_ hb
    have HOq := HOq_
    clear HOq_
    refine hK.out _ _ (HSA.out _ HGd.out) (fun hHeld => ?_)
    clear hK K
    refine norm_ (a' := ?_) ?_ ?_
    rotate_left
    · show Act.put _ (some 19) _ = _
      simp only [Act.put, List.setIfInBounds_toArray, List.set_cons_zero, List.set_cons_succ]
      rfl
    obtain ⟨Aq, cq, eq_⟩ := Kd.R_slice HOq.out
    subst eq_
    refine one_ (i := 12) (N := some 29) #[true, true, true, true, true, true, true, true, true, true, true, true, true, false] rfl rfl (by kernel_rfl) (by decide) (fun K hK => ?_)
    refine Kd.R_append_rows_step (Kd.int .u8) (w0 := w) w.heap.size (by rfl) (.tmp 19) (.tmp 28) 23 5 (.int .u8 0) 1 rfl Try.underlying23 info5 rfl (by decide) (by omega) vb ([] ++ l0) [q0, q1, q2, q3] _ _ _ (fun _ => True) (fun _ => False) rfl rfl HOb.out (Kd.R_reads' HOq.out).2.2 (fun _ _ h => h) (fun _ h => h.elim) (fun _ _ => trivial) HBd.out HBd.out.size (by simp; omega) ?_
    intro vy w13 ho hb hg _
    have HG_ := Aside0.mk (blk_grown HGd.out hg (Kd.R_ne HOb.out HGd.out (by decide)))
    clear HBd HGd HOb HOq hg
    have HBd := Aside0.mk hb
    have HGd := HG_
    have HOy := Aside0.mk ho
    clear HG_ hb ho
    refine hK.out _ _ (HSA.out _ HGd.out) (fun hHeld => ?_)
    clear hK K
    refine norm_ (a' := ?_) ?_ ?_
    rotate_left
    · show Act.put _ (some 29) _ = _
      simp only [Act.put, List.setIfInBounds_toArray, List.set_cons_zero, List.set_cons_succ]
      rfl
    exact norm_ (by simp only [putAll, Act.put, List.setIfInBounds_toArray, List.set_cons_zero, List.set_cons_succ]) (hCont (va, .slice Aq ([q0, q1, q2, q3] : List Int).length cq, vb, vy) _ ⟨HOy.out, HBd.out⟩)

end Go.Proofs.Ythejhhklphjhmaa.Q
