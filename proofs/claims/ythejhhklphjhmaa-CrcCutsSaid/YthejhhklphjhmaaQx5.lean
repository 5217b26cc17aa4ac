/- Functions of the translation as plain Lean functions, each with a proof that the Go code comes to its answers, wherever the function has one; no other condition. Written by this session's own program (wip/myprint.py). -/
import Derived.Test.YthejhhklphjhmaaQx0
import Derived.Test.YthejhhklphjhmaaQx2
import Derived.Test.YthejhhklphjhmaaQx3
import Derived.Test.YthejhhklphjhmaaQx4
namespace Go.Proofs.Ythejhhklphjhmaa.Q
open Go.RowKit Go.Proofs.Ythejhhklphjhmaa.Mine Go.Proofs.YthejhhklphjhmaaW.PrintWords Go.Proofs.YthejhhklphjhmaaW.PrintLast Go.Proofs.YthejhhklphjhmaaW.PrintMore
attribute [local go_sem] max2_int min2_int max_two min_two max_three min_three max_four min_four   -- for this text's walks alone
set_option linter.unusedVariables false
set_option linter.unusedSimpArgs false

/-! ### crc_Cut: function 11 -/
def crc_Cut.f (k : Nat) (l0 : List Int) : Option (List Int × Int) :=
  if l0.length < 4 then some ([], 2) else
  (crc_Of.f k (l0.take (l0.length - 4))).bind fun t =>
  if l0.drop (l0.length - 4) = crc_told t then (slices_Clone_byte_byte.f (l0.take (l0.length - 4))).bind fun y => some (y, 0) else some ([], 6)
theorem crc_Cut.mono : ∀ a0 k, LeO (crc_Cut.f k a0) (crc_Cut.f (k + 1) a0) := by
  intro a0 k
  unfold crc_Cut.f
  repeat' first
      | (with_reducible exact crc_Of.mono _ _)
      | (with_reducible exact LeO.refl _)
      | (with_reducible exact LeO.none _)
      | (with_reducible refine LeO.ite ?_ ?_)
      | (with_reducible refine LeO.bind ?_ (fun _ => ?_))
set_option maxHeartbeats 4000000 in
set_option maxRecDepth 100000 in
theorem crc_Cut.calls (k : Nat) (A0 : Option Addr) (c0 : Nat) (l0 : List Int) (r0 : List Int) (r1 : Int) (w : World) (hr0 : Kd.C (Kd.int .u8) w A0 l0.length l0) (hc0 : l0.length ≤ c0) (h : crc_Cut.f k l0 = some (r0, r1)) :
    Calls Try.prog 11 #[.slice A0 l0.length c0] w fun e w' => ∃ v0_ : Value, e = .returned (.tuple #[v0_, .int .i64 r1]) ∧ Kd.R (Kd.int .u8) 5 w' w.heap.size (fun _ => True) v0_ r0 ∧ Below w.heap.size w w' := by
  unfold crc_Cut.f at h
  have hmax : l0.length ≤ 9223372036854775807 := hr0.2.1
  by_cases h4 : l0.length < 4
  · rw [if_pos h4] at h
    obtain ⟨rfl, rfl⟩ := Prod.mk.inj (Option.some.inj h)
    clear h
    have hw : wrap64 ((l0.length : Int) - 4) = (l0.length : Int) - 4 := by unfold wrap64; omega
    go_enter Try.func11, Try.ntmps11
    go_wp2
    go_ret2
    exact ⟨_, rfl, Kd.R_nil _ _ _ _ _, Below.refl _ _⟩
  · rw [if_neg h4] at h
    obtain ⟨n, hn⟩ : ∃ n, n = l0.length - 4 := ⟨_, rfl⟩
    rw [← hn] at h
    have hln : l0.length = n + 4 := by omega
    clear hn h4
    obtain ⟨t, A1_, h⟩ := Option.bind_eq_some_iff.mp h
    have A1 := Aside0.mk A1_
    have H := Aside0.mk h
    have HR0 := Aside0.mk hr0
    have HC0 := Aside0.mk hc0
    obtain ⟨ad, rfl, hcell⟩ := hr0.2.2 (by omega)
    clear hr0 hc0 A1_ h
    rw [hln] at hmax ⊢
    have hlt : n ≤ l0.length := by omega
    have htl : (l0.take n).length = n := by rw [List.length_take]; omega
    obtain ⟨q0, q1, q2, q3, hq⟩ := four_of (l := l0.drop n) (by rw [List.length_drop]; omega)
    have HT : ∀ W, (Kd.int .u8).C W (some ad) (n + 4) l0 → (Kd.int .u8).C W (some ad) n (l0.take n) := fun W h => by
      have := Kd.C_take (m := n) (by rw [← hln] at h; exact h) hlt
      rwa [htl] at this
    have HD : ∀ W, (Kd.int .u8).C W (some ad) (n + 4) l0 → (Kd.int .u8).C W (some (ad.add n)) 4 [q0, q1, q2, q3] := fun W h => by
      have := Kd.C_drop (m := n) (c := c0) (by rw [← hln] at h; exact h) hlt HC0.out
      rw [if_neg (by have := HC0.out; omega), hq] at this
      have e1 : n * (Kd.int .u8).sz = n := Nat.mul_one n
      rw [Option.map_some, e1] at this
      exact this
    rw [hq] at H
    rw [hln] at HR0
    have HR1 := Aside0.mk (HT w HR0.out)
    obtain ⟨hc0, hc1, hc2, hc3⟩ := four_at (HD w HR0.out)
    have hle : ((n : Int) ≤ (n : Int) + 4) = True := eq_true (by omega)
    have hle1 : ((n : Int) ≤ (c0 : Int)) = True := eq_true (by have := HC0.out; omega)
    have hle2 : (n ≤ c0) = True := eq_true (by have := HC0.out; omega)
    have hcn : (c0 = n) = False := eq_false (by have := HC0.out; omega)
    have HNC := Aside0.mk (show n ≤ c0 by have := HC0.out; omega)
    have harr : ∀ W, (Instr.arrayAt 36 (.slice (some (ad.add n)) 4 (c0 - n))).run Try.prog W = .ok (.pointer (some (ad.add n))) W := fun W => run_arrayAt _ _ _ _ _ _ _ Try.underlying36 (Nat.le_refl _)
    clear hle2
    have HDA := Aside0.mk HD
    have HTA := Aside0.mk HT
    clear HD HT hq hlt hcell hln
    have HTL := Aside0.mk htl
    clear htl
    have HOF := Aside0.mk (show ∀ W, (Kd.int .u8).C W (some ad) n (l0.take n) → Calls Try.prog 17 #[.slice (some ad) n c0] W fun e w' => e = .returned (.int .u32 t) ∧ Below W.heap.size W w' from fun W hW => by
      have := crc_Of.calls k (some ad) c0 (l0.take n) t W (by rw [HTL.out]; exact hW) (by rw [HTL.out]; exact HNC.out) A1.out
      rw [HTL.out] at this
      exact this)
    have HCL := Aside0.mk (show ∀ W y, (Kd.int .u8).C W (some ad) n (l0.take n) → slices_Clone_byte_byte.f (l0.take n) = some y → Calls Try.prog 23 #[.slice (some ad) n c0] W fun e w' => ∃ v0_ : Value, e = .returned v0_ ∧ Kd.R (Kd.int .u8) 5 w' W.heap.size (fun _ => True) v0_ y ∧ Below W.heap.size W w' from fun W y hW hy => by
      have := slices_Clone_byte_byte.calls (some ad) c0 (l0.take n) y W (by rw [HTL.out]; exact hW) (by rw [HTL.out]; exact HNC.out) hy
      rw [HTL.out] at this
      exact this)
    have heq0 : ∀ W, (Op.equalIn 10000 36 (.agg #[.int .u8 q0, .int .u8 q1, .int .u8 q2, .int .u8 q3]) (.agg #[.int .u8 (t % 256), .int .u8 (t / 256 % 256), .int .u8 (t / 65536 % 256), .int .u8 (t / 16777216 % 256)])).run Try.prog W = .ok (decide ([q0, q1, q2, q3] = crc_told t)) W := fun W => run_eq4 W 9998 36 5 .u8 _ q0 q1 q2 q3 _ _ _ _ Try.underlying36 Try.underlying5 (show Try.prog.info? 5 = some _ from rfl) (by kernel_rfl) (by kernel_rfl)
    by_cases hE : [q0, q1, q2, q3] = crc_told t
    · have h := H.out
      rw [if_pos hE] at h
      clear H
      obtain ⟨y, A2_, h⟩ := Option.bind_eq_some_iff.mp h
      obtain ⟨rfl, rfl⟩ := Prod.mk.inj (Option.some.inj h)
      have A2 := Aside0.mk A2_
      clear h A2_
      simp only [hE, decide_true] at heq0
      clear hE
      go_enter Try.func11, Try.ntmps11
      go_wp2_with fail
      go_region_law (first | (go_simp; go_at_call 17; refine (HOF.out _ (Kd.C_drew HR1.out)).mono ?_; rintro e w2 ⟨rfl, hB_⟩; have HB := Aside0.mk ((Below.refl w.heap.size w).drew.trans hB_); clear hB_; have hC2 := four_at (HDA.out w2 (Kd.C_below HR0.out HB.out)); obtain ⟨hd0, hd1, hd2, hd3⟩ := hC2) | (go_simp; go_at_call 22; refine (crc_told.calls t _).mono ?_; rintro e w3 ⟨rfl, hB_⟩; have HB2 := Aside0.mk (HB.out.trans (hB_.mono HB.out.size)); clear hB_; have hC2 := four_at (HDA.out w3 (Kd.C_below HR0.out HB2.out)); obtain ⟨he0, he1, he2, he3⟩ := hC2))
      all_goals
        go_wp2_with fail
        refine (HCL.out _ y (HTA.out _ (Kd.C_below HR0.out HB2.out)) A2.out).mono ?_
        rintro e w4 ⟨v4, rfl, ho_, hb_⟩
        have HO := Aside0.mk ho_
        have HB4 := Aside0.mk hb_
        clear ho_ hb_
        go_wp2
        go_ret2
        exact ⟨_, rfl, Kd.R_lower HO.out HB2.out.size, HB2.out.trans (HB4.out.mono HB2.out.size)⟩
    · have h := H.out
      rw [if_neg hE] at h
      clear H
      obtain ⟨rfl, rfl⟩ := Prod.mk.inj (Option.some.inj h)
      clear h
      simp only [hE, decide_false] at heq0
      clear hE
      go_enter Try.func11, Try.ntmps11
      go_wp2_with fail
      go_region_law (first | (go_simp; go_at_call 17; refine (HOF.out _ (Kd.C_drew HR1.out)).mono ?_; rintro e w2 ⟨rfl, hB_⟩; have HB := Aside0.mk ((Below.refl w.heap.size w).drew.trans hB_); clear hB_; have hC2 := four_at (HDA.out w2 (Kd.C_below HR0.out HB.out)); obtain ⟨hd0, hd1, hd2, hd3⟩ := hC2) | (go_simp; go_at_call 22; refine (crc_told.calls t _).mono ?_; rintro e w3 ⟨rfl, hB_⟩; have HB2 := Aside0.mk (HB.out.trans (hB_.mono HB.out.size)); clear hB_; have hC2 := four_at (HDA.out w3 (Kd.C_below HR0.out HB2.out)); obtain ⟨he0, he1, he2, he3⟩ := hC2))
      all_goals
        go_wp2
        go_ret2
        exact ⟨_, rfl, Kd.R_nil _ _ _ _ _, HB2.out⟩

end Go.Proofs.Ythejhhklphjhmaa.Q
