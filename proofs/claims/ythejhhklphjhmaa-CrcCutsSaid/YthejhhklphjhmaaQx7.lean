/- Functions of the translation as plain Lean functions, each with a proof that the Go code comes to its answers, wherever the function has one; no other condition. Written by this session's own program (wip/myprint.py). -/
import Derived.Test.YthejhhklphjhmaaQx0
import Derived.Test.YthejhhklphjhmaaQx2
import Derived.Test.YthejhhklphjhmaaQx3
import Derived.Test.YthejhhklphjhmaaQx4
namespace Go.Proofs.Ythejhhklphjhmaa.Q
open Go.RowKit Go.Proofs.Ythejhhklphjhmaa.Mine Go.Proofs.YthejhhklphjhmaaW.PrintWords Go.Proofs.YthejhhklphjhmaaW.PrintLast Go.Proofs.YthejhhklphjhmaaW.PrintMore
attribute [local go_sem] max2_int min2_int max_two min_two max_three min_three max_four min_four   -- for this text's walks alone
set_option linter.unusedVariables false
set_option linter.unusedSimpArgs false

/-! ### crc_Put: function 20 -/
def crc_Put.f (k : Nat) (l0 : List Int) : Option (List Int) := (crc_Of.f k l0).bind fun t => (slices_Clone_byte_byte.f l0).bind fun y => if y.length + 4 < 140737488355328 then some (y ++ crc_told t) else none
theorem crc_Put.mono : ∀ a0 k, LeO (crc_Put.f k a0) (crc_Put.f (k + 1) a0) := by
  intro a0 k
  unfold crc_Put.f
  repeat' first
      | (with_reducible exact crc_Of.mono _ _)
      | (with_reducible exact LeO.refl _)
      | (with_reducible exact LeO.none _)
      | (with_reducible refine LeO.ite ?_ ?_)
      | (with_reducible refine LeO.bind ?_ (fun _ => ?_))
set_option maxHeartbeats 2000000 in
set_option maxRecDepth 100000 in
theorem crc_Put.calls (k : Nat) (A0 : Option Addr) (c0 : Nat) (l0 : List Int) (r : List Int) (w : World) (hr0 : Kd.C (Kd.int .u8) w A0 l0.length l0) (hc0 : l0.length ≤ c0) (h : crc_Put.f k l0 = some r) :
    Calls Try.prog 20 #[.slice A0 l0.length c0] w fun e w' => ∃ v0_ : Value, e = .returned v0_ ∧ Kd.R (Kd.int .u8) 5 w' w.heap.size (fun _ => True) v0_ r ∧ Below w.heap.size w w' := by
  obtain ⟨t, A1_, h⟩ := Option.bind_eq_some_iff.mp h
  obtain ⟨y, A2_, h⟩ := Option.bind_eq_some_iff.mp h
  split at h
  case isFalse => cases h
  rename_i hl
  obtain rfl := Option.some.inj h
  clear h
  have A1 := Aside0.mk A1_
  have A2 := Aside0.mk A2_
  have HR0 := Aside0.mk hr0
  have HC0 := Aside0.mk hc0
  have HL := Aside0.mk hl
  clear hr0 hc0 hl A1_ A2_
  go_enter Try.func20, Try.ntmps20
  go_wp2_with fail
  refine (crc_Of.calls k _ _ l0 t _ HR0.out HC0.out A1.out).mono ?_
  rintro e w2 ⟨rfl, hB_⟩
  have HB := Aside0.mk hB_
  clear hB_
  dsimp only
  go_wp2_with fail
  refine (crc_told.calls t _).mono ?_
  rintro e w3 ⟨rfl, hB_⟩
  have HB2 := Aside0.mk (HB.out.trans (hB_.mono HB.out.size))
  clear hB_
  dsimp only
  go_wp2_with fail
  have HBx := Aside0.mk (blk_new w3 (.cells #[.int .u8 (t % 256), .int .u8 (t / 256 % 256), .int .u8 (t / 65536 % 256), .int .u8 (t / 16777216 % 256)] 36))
  have HB3 := Aside0.mk ((HB2.out.alloc HB2.out.size (.cells #[.int .u8 (t % 256), .int .u8 (t / 256 % 256), .int .u8 (t / 65536 % 256), .int .u8 (t / 16777216 % 256)] 36)).drew)
  obtain ⟨y134, hy134⟩ : ∃ y_ : List Int, y_ = crc_told t := ⟨_, rfl⟩
  have Ny134 := Aside0.mk hy134
  have HX : Aside0 (Kd.C (Kd.int .u8) (w3.alloc (.cells #[.int .u8 (t % 256), .int .u8 (t / 256 % 256), .int .u8 (t / 65536 % 256), .int .u8 (t / 16777216 % 256)] 36)) (some ⟨w3.heap.size, 0, none⟩) 4 y134) := ⟨by rw [hy134]; exact C_block (xs := crc_told t) HBx.out rfl (show (4 : Nat) ≤ _ by decide)⟩
  clear hy134
  go_region_law (first | (go_simp; go_at_call 23; refine (slices_Clone_byte_byte.calls A0 c0 l0 y _ (Kd.C_below HR0.out HB3.out) HC0.out A2.out).mono ?_; rintro e w4 ⟨v4, rfl, ho_, hb_⟩; have HO := Aside0.mk ho_; have HB4 := Aside0.mk hb_; clear ho_ hb_) | (refine step_of_list rfl ?_; refine Kd.R_append_rows (Kd.int .u8) (w0 := w) w.heap.size rfl (.tmp 8) (.tmp 9) 23 5 (.int .u8 0) 1 rfl Try.underlying23 info5 rfl (by decide) (by omega) v4 y y134 _ _ _ (fun _ => True) (fun _ => False) rfl rfl ?aO ?aR (fun _ _ h => h) (fun _ h => h.elim) ?aF ?aB ?aS ?aL ?_; (case aF => exact (fun _ _ => trivial)); (case aO => exact Kd.R_lower HO.out HB3.out.size); (case aR => exact Kd.C_below (Kd.C_drew HX.out) HB4.out);  (case aB => exact HB3.out.trans (HB4.out.mono HB3.out.size)); (case aS => exact (HB3.out.trans (HB4.out.mono HB3.out.size)).size); (case aL => have := HL.out; omega); intro v5 w5 ho_ hb_ _ _; have HO5 := Aside0.mk ho_; have HB5 := Aside0.mk hb_; clear ho_ hb_; refine ⟨rfl, ?_⟩))
  go_wp2
  go_ret
  exact ⟨_, rfl, by have := HO5.out; rw [Ny134.out] at this; exact this, HB5.out⟩

end Go.Proofs.Ythejhhklphjhmaa.Q
