/- Functions of the translation as plain Lean functions, each with a proof that the Go code comes to its answers, wherever the function has one; no other condition. Written by this session's own program (wip/myprint.py). -/
import Derived.Test.YthejhhklphjhmaaQx0
import Derived.Test.YthejhhklphjhmaaQx6
namespace Go.Proofs.Ythejhhklphjhmaa.Q
open Go.RowKit Go.Proofs.Ythejhhklphjhmaa.Mine Go.Proofs.YthejhhklphjhmaaW.PrintWords Go.Proofs.YthejhhklphjhmaaW.PrintLast Go.Proofs.YthejhhklphjhmaaW.PrintMore
attribute [local go_sem] max2_int min2_int max_two min_two max_three min_three max_four min_four   -- for this text's walks alone
set_option linter.unusedVariables false
set_option linter.unusedSimpArgs false

/-! ### crc_On: function 15 -/
/-- the closure that a checksum hands on: a step on the captured register -/
theorem crc_On_2.calls (s c r : Int) (gs : Nat) (w w0 : World) (hs : w.heap[gs]? = some (.cells #[.int .u32 s] 22 (0, 0))) (h0 : w0.heap.size ≤ gs) (hB : Below w0.heap.size w0 w) (h : crc_Step.f 9 s c = some r) :
    Calls Try.prog 25 #[.int .u8 c, .pointer (some ⟨gs, 0, none⟩)] w fun e w' => e = .returned (.tuple #[]) ∧ w'.heap[gs]? = some (.cells #[.int .u32 r] 22 (0, 0)) ∧ Below w0.heap.size w0 w' ∧ (∀ k, k ≠ gs → w'.heap[k]? = w.heap[k]?) := by
  have hc := blk_cell hs 0
  have hfz := blk_frozen hs 0
  have HS := Aside0.mk hs
  have HH := Aside0.mk h
  clear h hs
  go_enter Try.func25, Try.ntmps25
  go_wp2_with (first | ((with_reducible refine gate_callee (f := 13) rfl ?_); refine goesL_ (some 5) rfl rfl Try.func13 (by kernel_rfl) rfl #[.int .u32 s, .int .u8 c] rfl (by (try simp only [List.map_toArray, List.map_cons, List.map_nil]); first | done | rfl) ?_; (with_reducible refine (crc_Step.calls 9 s c r _ HH.out).mono ?_); rintro e w2 ⟨rfl, ⟨m, rfl⟩⟩; refine ⟨_, rfl, ?_⟩))
  go_end0
  exact ⟨rfl, blk_put (blk_drewN HS.out m) 0 _ rfl, (pw_below_drewN hB m).setCell h0 _, fun k hk => Below.heap_setCell _ _ _ k hk⟩
def crc_On.l0 : Nat → List Int → Int → Int → Option Int
  | 0, _, _, _ => none
  | k + 1, l1, x5, x6 => if x6 < (l1.length : Int) then (if 0 ≤ x6 then ((crc_Step.f 9 x5 (rd l1 x6)).bind fun t => crc_On.l0 k l1 t (wrap64 (x6 + 1))) else none) else (some x5)
def crc_On.f (k : Nat) (a0 : Int) (l1 : List Int) : Option Int := (crc_On.l0 k l1 (Go.bits .xor .u32 IntKind.u32.max a0) 0).bind fun t => some (Go.bits .xor .u32 IntKind.u32.max t)
theorem crc_On.mono_l : ∀ k, (∀ y0 y1 y2, LeO (crc_On.l0 k y0 y1 y2) (crc_On.l0 (k + 1) y0 y1 y2))
  | 0 => fun _ _ _ r h => by simp [crc_On.l0] at h
  | k + 1 => by
    have ih0 := crc_On.mono_l k
    intro y0 y1 y2
    unfold crc_On.l0
    repeat' first
      | (with_reducible exact ih0 _ _ _)
      | (with_reducible exact LeO.refl _)
      | (with_reducible exact LeO.none _)
      | (with_reducible refine LeO.ite ?_ ?_)
      | (with_reducible refine LeO.bind ?_ (fun _ => ?_))
theorem crc_On.mono : ∀ a0 a1 k, LeO (crc_On.f k a0 a1) (crc_On.f (k + 1) a0 a1) := by
  intro a0 a1 k
  have ih0 := crc_On.mono_l k
  unfold crc_On.f
  repeat' first
      | (with_reducible exact ih0 _ _ _)
      | (with_reducible exact LeO.refl _)
      | (with_reducible exact LeO.none _)
      | (with_reducible refine LeO.ite ?_ ?_)
      | (with_reducible refine LeO.bind ?_ (fun _ => ?_))
set_option maxHeartbeats 2000000 in
set_option maxRecDepth 100000 in
/-- the closure that calls what it is handed with each byte of the captured row -/
theorem crc_On_1.calls (k : Nat) (A : Option Addr) (c : Nat) (l : List Int) (s r : Int) (gs gb : Nat) (w w0 : World) (hr : (Kd.int .u8).C w0 A l.length l) (hc : l.length ≤ c)
    (hb : w.heap[gb]? = some (.cells #[.slice A l.length c] 23 (0, 0))) (hs : w.heap[gs]? = some (.cells #[.int .u32 s] 22 (0, 0))) (h0 : w0.heap.size ≤ gs) (hB : Below w0.heap.size w0 w) (h : crc_On.l0 k l s 0 = some r) :
    Calls Try.prog 24 #[.func (.func 25) #[] #[.pointer (some ⟨gs, 0, none⟩)], .pointer (some ⟨gb, 0, none⟩)] w fun e w' => e = .returned (.tuple #[]) ∧ w'.heap[gs]? = some (.cells #[.int .u32 r] 22 (0, 0)) ∧ Below w0.heap.size w0 w' := by
  have hne : gb ≠ gs := blk_ne hb hs (by decide)
  have hcb : w.cell? ⟨gb, 0, none⟩ = some (.slice A l.length c) := (blk_cell hb 0).trans rfl
  have HR1 := Aside0.mk hr
  have HS := Aside0.mk hs
  have HBB := Aside0.mk hB
  have HH := Aside0.mk h
  have H0 := Aside0.mk h0
  clear hr hs hB h h0
  go_enter Try.func24, Try.ntmps24
  go_wp2
  go_loopg [7] k (fun kq v7 w' => ∃ (x5_1 : Int) (x6_1 : Int), v7 = .int .i64 x6_1 ∧ Aside0 (crc_On.l0 kq l x5_1 x6_1 = some r) ∧ Aside0 (w'.heap[gs]? = some (.cells #[.int .u32 x5_1] 22 (0, 0))) ∧ Aside0 (Below w0.heap.size w0 w'))
  case atStart => exact ⟨s, 0, rfl, HH, HS, HBB⟩
  case round =>
    obtain ⟨x5_1, x6_1, rfl, HA, HS1, HB1⟩ := hrel
    cases gk with
    | zero => exact absurd HA.out (by simp [crc_On.l0])
    | succ k1 =>
      have H := HA.out
      clear HA
      simp only [crc_On.l0] at H
      by_cases c3 : x6_1 < (l.length : Int)
      · rw [if_pos c3] at H
        by_cases c4 : 0 ≤ x6_1
        · rw [if_pos c4] at H
          replace H := Option.bind_eq_some_iff.mp H
          obtain ⟨t, A5, H⟩ := H
          have H' := Aside0.mk H
          have A5' := Aside0.mk A5
          clear H A5
          obtain ⟨ad105, e105, hx105_0⟩ := Kd.at_int (Kd.C_below HR1.out HB1.out) x6_1 c4 c3
          cases e105
          go_wp2_with fail
          refine (crc_On_2.calls x5_1 (rd l x6_1) t gs _ w0 HS1.out H0.out HB1.out A5'.out).mono ?_
          rintro e w2 ⟨rfl, hs2, hB2, _⟩
          go_wp2
          go_roundg k1
          case measure => omega
          case rel => exact ⟨t, wrap64 (x6_1 + 1), (by first | rfl | (simp; done) | (simp [*]; done)), H', ⟨hs2⟩, ⟨hB2⟩⟩
        · rw [if_neg c4] at H
          exact absurd H (by simp)
      · rw [if_neg c3] at H
        obtain rfl := Option.some.inj H
        go_wp2
        go_end0
        exact ⟨rfl, HS1.out, HB1.out⟩
set_option maxHeartbeats 2000000 in
set_option maxRecDepth 100000 in
theorem crc_On.calls (k : Nat) (a0 : Int) (A1 : Option Addr) (c1 : Nat) (l1 : List Int) (r : Int) (w : World) (hr1 : Kd.C (Kd.int .u8) w A1 l1.length l1) (hc1 : l1.length ≤ c1) (h : crc_On.f k a0 l1 = some r) :
    Calls Try.prog 15 #[.int .u32 a0, .slice A1 l1.length c1] w fun e w' => e = .returned (.int .u32 r) ∧ Below w.heap.size w w' := by
  obtain ⟨t, ht, he⟩ := Option.bind_eq_some_iff.mp (show (crc_On.l0 k l1 (Go.bits .xor .u32 IntKind.u32.max a0) 0).bind _ = some r from h)
  obtain rfl := Option.some.inj he
  have HR := Aside0.mk hr1
  have HC := Aside0.mk hc1
  have HT := Aside0.mk ht
  clear h he ht hr1 hc1
  have hmf : ∀ (fn : Fn) (first cap : Array Value) (w : World), (Instr.makeFunc fn first cap).run Try.prog w = .ok (.func fn first cap) w := fun _ _ _ _ => rfl
  go_enter Try.func15, Try.ntmps15
  go_wp2_with fail
  refine (crc_On_1.calls k A1 c1 l1 _ t w.heap.size (w.heap.size + 1) _ w HR.out HC.out ((by simpa using blk_new (w.alloc (.cells #[.int .u32 (Go.bits .xor .u32 IntKind.u32.max a0)] 22)) (.cells #[.slice A1 l1.length c1] 23))) (blk_alloc (blk_new w _) _) (Nat.le_refl _) (((Below.refl _ _).alloc (Nat.le_refl _) _).alloc (by simp) _) HT.out).mono ?_
  rintro e w2 ⟨rfl, hs2, hB2⟩
  have hcs := (blk_cell hs2 0).trans rfl
  have HB := Aside0.mk hB2
  clear hB2
  go_wp2
  go_ret
  exact ⟨rfl, HB.out⟩

end Go.Proofs.Ythejhhklphjhmaa.Q
