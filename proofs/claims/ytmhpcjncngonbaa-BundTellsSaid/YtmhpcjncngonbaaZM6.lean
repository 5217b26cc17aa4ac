/- Texts of this claim, joined; what the kit's print wrote stands under a line of its own, LESS the theorems that this claim does not use (left out by prune16.py). -/
import Derived.Test.YtmhpcjncngonbaaZM2
import Derived.Test.YtmhpcjncngonbaaZM4
import Derived.Test.YtmhpcjncngonbaaZM5
import Derived.Test.YtmhpcjncngonbaaZM3
import Derived.Laws.BitsLemmas
/- Functions of the translation as plain Lean functions, each with a proof that the Go code comes to its answers, wherever the function has one; no other condition. Written by this session's own program (wip/myprint.py). -/
namespace Go.Proofs.Ytmhpcjncngonbaa.Q
open Go.RowKit Go.Proofs.Ytmhpcjncngonbaa.Mine Go.Proofs.YtmhpcjncngonbaaW.PrintWords Go.Proofs.YtmhpcjncngonbaaW.PrintLast Go.Proofs.YtmhpcjncngonbaaW.PrintMore
attribute [local go_sem] max2_int min2_int max_two min_two max_three min_three max_four min_four   -- for this text's walks alone
set_option linter.unusedVariables false
set_option linter.unusedSimpArgs false

/-! ### crc_On: function 67 -/
attribute [local go_sem] max2_int min2_int max_two min_two max_three min_three max_four min_four   -- for this text's walks alone
def crc_Step.l0 : Nat → Int → Int → Option (Int)
  | 0, _, _ => none
  | k + 1, x0, x9 => if x9 < 8 then (crc_Step.l0 k (Go.bits .xor .u32 (x0 / 2) (Go.bits .and .u32 3988292384 ((-(Go.bits .and .u32 x0 1)) % 4294967296))) (wrap64 (x9 + 1))) else (some x0)
def crc_Step.f (k : Nat) (a0 : Int) (a1 : Int) : Option (Int) := crc_Step.l0 k (Go.bits .xor .u32 a0 ((a1) % 4294967296)) 0
theorem crc_Step.mono_l : ∀ k, (∀ y0 y1, LeO (crc_Step.l0 k y0 y1) (crc_Step.l0 (k + 1) y0 y1))
  | 0 => fun _ _ r h => by simp [crc_Step.l0] at h
  | k + 1 => by
    have ih0 := crc_Step.mono_l k
    · intro y0 y1
      unfold crc_Step.l0
      repeat' first
      | (with_reducible exact ih0 _ _)
      | (with_reducible exact LeO.refl _)
      | (with_reducible exact LeO.none _)
      | (with_reducible refine LeO.ite ?_ ?_)
      | (with_reducible refine LeO.bind ?_ (fun _ => ?_))
      | exact ih0 _ _
      | exact LeO.none _
      | refine LeO.ite ?_ ?_
      | refine LeO.bind ?_ (fun _ => ?_)
theorem crc_Step.mono : ∀ a0 a1 k, LeO (crc_Step.f k a0 a1) (crc_Step.f (k + 1) a0 a1) := by
  intro a0 a1 k
  have ih0 := crc_Step.mono_l k
  unfold crc_Step.f
  repeat' first
      | (with_reducible exact ih0 _ _)
      | (with_reducible exact LeO.refl _)
      | (with_reducible exact LeO.none _)
      | (with_reducible refine LeO.ite ?_ ?_)
      | (with_reducible refine LeO.bind ?_ (fun _ => ?_))
      | exact ih0 _ _
      | exact LeO.none _
      | refine LeO.ite ?_ ?_
      | refine LeO.bind ?_ (fun _ => ?_)
set_option maxHeartbeats 8000000 in
set_option maxRecDepth 100000 in
theorem crc_Step.calls (k : Nat) (a0 : Int) (a1 : Int) (r : Int) (w : World) (h : crc_Step.f k a0 a1 = some r) :
    Calls Try.prog 77 #[.int .u32 a0, .int .u8 a1] w fun e w' => e = .returned (.int .u32 r) ∧ Drawn0 w w' := by
  have H : (crc_Step.l0 k (Go.bits .xor .u32 a0 ((a1) % 4294967296)) 0) = some r := h
  clear h
  have H' := Aside0.mk H
  clear H
  go_enter Try.func77, Try.ntmps77
  go_wp2
  go_loopg [0, 9] k (fun kq v0 v9 w' => ∃ (x0_1 : Int) (x9_1 : Int), v0 = .int .u32 x0_1 ∧ v9 = .int .i64 x9_1 ∧ Aside0 (crc_Step.l0 kq x0_1 x9_1 = some r) ∧ Aside0 (kq ≤ k) ∧ Drawn0 w w')
  case atStart => exact ⟨(Go.bits .xor .u32 a0 ((a1) % 4294967296)), (0), (by first | rfl | (simp; done) | (simp [*]; done)), (by first | rfl | (simp; done) | (simp [*]; done)), H', ⟨Nat.le_refl _⟩, by repeat (first | exact Drawn0.refl _ | apply Drawn0.step)⟩
  case round =>
    clear H'
    try clear c1
    try clear p2
    obtain ⟨x0_1, x9_1, rfl, rfl, HA, HK1, ⟨m1, rfl⟩⟩ := hrel
    cases gk with
    | zero => exact absurd HA.out (by simp [crc_Step.l0])
    | succ k1 =>
      have H := HA.out
      clear HA
      simp only [crc_Step.l0] at H
      by_cases c3 : x9_1 < 8
      · rw [if_pos c3] at H
        have c3b0 : decide (x9_1 < 8) = true := decide_eq_true c3
        clear c3
        have H' := Aside0.mk H
        clear H
        go_wp2
        go_roundg k1
        case measure => have := HK1.out; omega
        case rel => exact ⟨(Go.bits .xor .u32 (x0_1 / 2) (Go.bits .and .u32 3988292384 ((-(Go.bits .and .u32 x0_1 1)) % 4294967296))), (wrap64 (x9_1 + 1)), (by first | rfl | (simp; done) | (simp [*]; done)), (by first | rfl | (simp; done) | (simp [*]; done)), H', ⟨by have := HK1.out; omega⟩, by repeat (first | exact Drawn0.refl _ | apply Drawn0.step)⟩
      · rw [if_neg c3] at H
        have c3b0 : decide (x9_1 < 8) = false := decide_eq_false c3
        clear c3
        obtain rfl := Option.some.inj H
        go_wp2
        go_ret
        exact ⟨by first | rfl | (simp; done) | (simp [*]; done), by repeat (first | exact Drawn0.refl _ | apply Drawn0.step)⟩
/-- the closure that a checksum hands on: a step on the captured register -/
theorem crc_On_2.calls (s c r : Int) (gs : Nat) (w w0 : World) (hs : w.heap[gs]? = some (.cells #[.int .u32 s] 74 (0, 0))) (h0 : w0.heap.size ≤ gs) (hB : Below w0.heap.size w0 w) (h : crc_Step.f 9 s c = some r) :
    Calls Try.prog 76 #[.int .u8 c, .pointer (some ⟨gs, 0, none⟩)] w fun e w' => e = .returned (.tuple #[]) ∧ w'.heap[gs]? = some (.cells #[.int .u32 r] 74 (0, 0)) ∧ Below w0.heap.size w0 w' ∧ (∀ k, k ≠ gs → w'.heap[k]? = w.heap[k]?) := by
  have hc := blk_cell hs 0
  have hfz := blk_frozen hs 0
  have HS := Aside0.mk hs
  have HH := Aside0.mk h
  clear h hs
  go_enter Try.func76, Try.ntmps76
  go_wp2_with (first | ((with_reducible refine gate_callee (f := 77) rfl ?_); refine goesL_ (some 5) rfl rfl Try.func77 (by kernel_rfl) rfl #[.int .u32 s, .int .u8 c] rfl (by (try simp only [List.map_toArray, List.map_cons, List.map_nil]); first | done | rfl) ?_; (with_reducible refine (crc_Step.calls 9 s c r _ HH.out).mono ?_); rintro e w2 ⟨rfl, ⟨m, rfl⟩⟩; refine ⟨_, rfl, ?_⟩))
  go_end0
  exact ⟨rfl, blk_put (blk_drewN HS.out m) 0 _ rfl, (pw_below_drewN hB m).setCell h0 _, fun k hk => Below.heap_setCell _ _ _ k hk⟩
def crc_On.l0 : Nat → List Int → Int → Int → Option Int
  | 0, _, _, _ => none
  | k + 1, l1, x5, x6 => if x6 < (l1.length : Int) then (if 0 ≤ x6 then ((crc_Step.f 9 x5 (rd l1 x6)).bind fun t => crc_On.l0 k l1 t (wrap64 (x6 + 1))) else none) else (some x5)
def crc_On.f (k : Nat) (a0 : Int) (l1 : List Int) : Option Int := (crc_On.l0 k l1 (Go.bits .xor .u32 IntKind.u32.max a0) 0).bind fun t => some (Go.bits .xor .u32 IntKind.u32.max t)
theorem crc_On.mono_l : ∀ k, (∀ y0 y1 y2, LeO (crc_On.l0 k y0 y1 y2) (crc_On.l0 (k + 1) y0 y1 y2))
  | 0 => fun _ _ _ r h => by simp [crc_On.l0] at h
  | k + 1 => by
    have ih0 := crc_On.mono_l k
    intro y0 y1 y2
    unfold crc_On.l0
    repeat' first
      | (with_reducible exact ih0 _ _ _)
      | (with_reducible exact LeO.refl _)
      | (with_reducible exact LeO.none _)
      | (with_reducible refine LeO.ite ?_ ?_)
      | (with_reducible refine LeO.bind ?_ (fun _ => ?_))
theorem crc_On.mono : ∀ a0 a1 k, LeO (crc_On.f k a0 a1) (crc_On.f (k + 1) a0 a1) := by
  intro a0 a1 k
  have ih0 := crc_On.mono_l k
  unfold crc_On.f
  repeat' first
      | (with_reducible exact ih0 _ _ _)
      | (with_reducible exact LeO.refl _)
      | (with_reducible exact LeO.none _)
      | (with_reducible refine LeO.ite ?_ ?_)
      | (with_reducible refine LeO.bind ?_ (fun _ => ?_))
set_option maxHeartbeats 2000000 in
set_option maxRecDepth 100000 in
/-- the closure that calls what it is handed with each byte of the captured row -/
theorem crc_On_1.calls (k : Nat) (A : Option Addr) (c : Nat) (l : List Int) (s r : Int) (gs gb : Nat) (w w0 : World) (hr : (Kd.int .u8).C w0 A l.length l) (hc : l.length ≤ c)
    (hb : w.heap[gb]? = some (.cells #[.slice A l.length c] 32 (0, 0))) (hs : w.heap[gs]? = some (.cells #[.int .u32 s] 74 (0, 0))) (h0 : w0.heap.size ≤ gs) (hB : Below w0.heap.size w0 w) (h : crc_On.l0 k l s 0 = some r) :
    Calls Try.prog 75 #[.func (.func 76) #[] #[.pointer (some ⟨gs, 0, none⟩)], .pointer (some ⟨gb, 0, none⟩)] w fun e w' => e = .returned (.tuple #[]) ∧ w'.heap[gs]? = some (.cells #[.int .u32 r] 74 (0, 0)) ∧ Below w0.heap.size w0 w' := by
  have hne : gb ≠ gs := blk_ne hb hs (by decide)
  have hcb : w.cell? ⟨gb, 0, none⟩ = some (.slice A l.length c) := (blk_cell hb 0).trans rfl
  have HR1 := Aside0.mk hr
  have HS := Aside0.mk hs
  have HBB := Aside0.mk hB
  have HH := Aside0.mk h
  have H0 := Aside0.mk h0
  clear hr hs hB h h0
  go_enter Try.func75, Try.ntmps75
  go_wp2
  go_loopg [7] k (fun kq v7 w' => ∃ (x5_1 : Int) (x6_1 : Int), v7 = .int .i64 x6_1 ∧ Aside0 (crc_On.l0 kq l x5_1 x6_1 = some r) ∧ Aside0 (w'.heap[gs]? = some (.cells #[.int .u32 x5_1] 74 (0, 0))) ∧ Aside0 (Below w0.heap.size w0 w'))
  case atStart => exact ⟨s, 0, rfl, HH, HS, HBB⟩
  case round =>
    obtain ⟨x5_1, x6_1, rfl, HA, HS1, HB1⟩ := hrel
    cases gk with
    | zero => exact absurd HA.out (by simp [crc_On.l0])
    | succ k1 =>
      have H := HA.out
      clear HA
      simp only [crc_On.l0] at H
      by_cases c3 : x6_1 < (l.length : Int)
      · rw [if_pos c3] at H
        by_cases c4 : 0 ≤ x6_1
        · rw [if_pos c4] at H
          replace H := Option.bind_eq_some_iff.mp H
          obtain ⟨t, A5, H⟩ := H
          have H' := Aside0.mk H
          have A5' := Aside0.mk A5
          clear H A5
          obtain ⟨ad105, e105, hx105_0⟩ := Kd.at_int (Kd.C_below HR1.out HB1.out) x6_1 c4 c3
          cases e105
          go_wp2_with fail
          refine (crc_On_2.calls x5_1 (rd l x6_1) t gs _ w0 HS1.out H0.out HB1.out A5'.out).mono ?_
          rintro e w2 ⟨rfl, hs2, hB2, _⟩
          go_wp2
          go_roundg k1
          case measure => omega
          case rel => exact ⟨t, wrap64 (x6_1 + 1), (by first | rfl | (simp; done) | (simp [*]; done)), H', ⟨hs2⟩, ⟨hB2⟩⟩
        · rw [if_neg c4] at H
          exact absurd H (by simp)
      · rw [if_neg c3] at H
        obtain rfl := Option.some.inj H
        go_wp2
        go_end0
        exact ⟨rfl, HS1.out, HB1.out⟩
set_option maxHeartbeats 2000000 in
set_option maxRecDepth 100000 in
theorem crc_On.calls (k : Nat) (a0 : Int) (A1 : Option Addr) (c1 : Nat) (l1 : List Int) (r : Int) (w : World) (hr1 : Kd.C (Kd.int .u8) w A1 l1.length l1) (hc1 : l1.length ≤ c1) (h : crc_On.f k a0 l1 = some r) :
    Calls Try.prog 67 #[.int .u32 a0, .slice A1 l1.length c1] w fun e w' => e = .returned (.int .u32 r) ∧ Below w.heap.size w w' := by
  obtain ⟨t, ht, he⟩ := Option.bind_eq_some_iff.mp (show (crc_On.l0 k l1 (Go.bits .xor .u32 IntKind.u32.max a0) 0).bind _ = some r from h)
  obtain rfl := Option.some.inj he
  have HR := Aside0.mk hr1
  have HC := Aside0.mk hc1
  have HT := Aside0.mk ht
  clear h he ht hr1 hc1
  have hmf : ∀ (fn : Fn) (first cap : Array Value) (w : World), (Instr.makeFunc fn first cap).run Try.prog w = .ok (.func fn first cap) w := fun _ _ _ _ => rfl
  go_enter Try.func67, Try.ntmps67
  go_wp2_with fail
  refine (crc_On_1.calls k A1 c1 l1 _ t w.heap.size (w.heap.size + 1) _ w HR.out HC.out ((by simpa using blk_new (w.alloc (.cells #[.int .u32 (Go.bits .xor .u32 IntKind.u32.max a0)] 74)) (.cells #[.slice A1 l1.length c1] 32))) (blk_alloc (blk_new w _) _) (Nat.le_refl _) (((Below.refl _ _).alloc (Nat.le_refl _) _).alloc (by simp) _) HT.out).mono ?_
  rintro e w2 ⟨rfl, hs2, hB2⟩
  have hcs := (blk_cell hs2 0).trans rfl
  have HB := Aside0.mk hB2
  clear hB2
  go_wp2
  go_ret
  exact ⟨rfl, HB.out⟩

end Go.Proofs.Ytmhpcjncngonbaa.Q
/- Functions of the translation as plain Lean functions, each with a proof that the Go code comes to its answers, wherever the function has one; no other condition. Written by this session's own program (wip/myprint.py). -/
namespace Go.Proofs.Ytmhpcjncngonbaa.Q
open Go.RowKit Go.Proofs.Ytmhpcjncngonbaa.Mine Go.Proofs.YtmhpcjncngonbaaW.PrintWords Go.Proofs.YtmhpcjncngonbaaW.PrintLast Go.Proofs.YtmhpcjncngonbaaW.PrintMore
attribute [local go_sem] max2_int min2_int max_two min_two max_three min_three max_four min_four   -- for this text's walks alone
set_option linter.unusedVariables false
set_option linter.unusedSimpArgs false

/-! ### crc_Of: function 48 -/
def crc_Of.f (k : Nat) (l0 : List Int) : Option (Int) := (crc_On.f k 0 l0).bind fun t102 => (some t102)
theorem crc_Of.mono : ∀ a0 k, LeO (crc_Of.f k a0) (crc_Of.f (k + 1) a0) := by
  intro a0 k
  unfold crc_Of.f
  repeat' first
      | (with_reducible exact crc_On.mono _ _ _)
      | (with_reducible exact LeO.refl _)
      | (with_reducible exact LeO.none _)
      | (with_reducible refine LeO.ite ?_ ?_)
      | (with_reducible refine LeO.bind ?_ (fun _ => ?_))
      | exact crc_On.mono _ _ _
      | exact LeO.none _
      | refine LeO.ite ?_ ?_
      | refine LeO.bind ?_ (fun _ => ?_)
set_option maxHeartbeats 8000000 in
set_option maxRecDepth 100000 in
theorem crc_Of.calls (k : Nat) (A0 : Option Addr) (c0 : Nat) (l0 : List Int) (r : Int) (w : World) (hr0 : Kd.C (Kd.int .u8) w A0 l0.length l0) (hc0 : l0.length ≤ c0) (h : crc_Of.f k l0 = some r) :
    Calls Try.prog 48 #[.slice A0 l0.length c0] w fun e w' => e = .returned (.int .u32 r) ∧ Below w.heap.size w w' := by
  have HR0 := Aside0.mk hr0
  have HC0 := Aside0.mk hc0
  clear hr0 hc0
  have HB := Aside0.mk (Below.refl w.heap.size w)
  have H : ((crc_On.f k 0 l0).bind fun t102 => (some t102)) = some r := h
  clear h
  replace H := Option.bind_eq_some_iff.mp H
  obtain ⟨t102, A20, H⟩ := H
  replace H : (some t102) = some r := H
  have A2 := Aside0.mk A20
  clear A20
  obtain rfl := Option.some.inj H
  go_enter Try.func48, Try.ntmps48
  go_wp2_with (first | ((with_reducible refine gate_callee (f := 67) rfl ?_); refine goesL_ (some 4) rfl rfl Try.func67 (by kernel_rfl) rfl #[.int .u32 0, .slice A0 l0.length c0] rfl (by (try simp only [List.map_toArray, List.map_cons, List.map_nil]); first | done | rfl | (simp only [List.length_drop, List.length_take]; rfl)) ?_; (with_reducible refine (crc_On.calls k 0 _ _ l0 t102 _ ?side1 ?side2 A2.out).mono ?_); (case side1 => repeat (first | exact HR0.out | (with_reducible refine Kd.C_alloc ?_ _) | (with_reducible refine Kd.C_drewN ?_ _) | (with_reducible refine Kd.C_drew ?_))); (case side2 => exact HC0.out); rintro e w3 ⟨rfl, hb⟩; refine ⟨_, rfl, ?_⟩; have n0_ := Aside0.mk (below_step (by repeat (first | (with_reducible first | exact HB.out | apply below_alloc | apply pw_below_drewN | apply below_drew1) | exact HB.out)) hb); clear HB; have HB := n0_; clear n0_; (try clear hb); (try clear hb2); (try clear hk); (try clear hi)))
  go_ret
  exact ⟨by first | rfl | (simp [errW_none, errW_some] <;> rfl) | (simp [*, errW_none, errW_some] <;> rfl), by repeat (first | (with_reducible first | exact HB.out | apply below_alloc | apply pw_below_drewN | apply below_drew1) | exact HB.out)⟩

end Go.Proofs.Ytmhpcjncngonbaa.Q
/- Functions of the translation as plain Lean functions, each with a proof that the Go code comes to its answers, wherever the function has one; no other condition. Written by this session's own program (wip/myprint.py). -/
namespace Go.Proofs.Ytmhpcjncngonbaa.Q
open Go.RowKit Go.Proofs.Ytmhpcjncngonbaa.Mine Go.Proofs.YtmhpcjncngonbaaW.PrintWords Go.Proofs.YtmhpcjncngonbaaW.PrintLast Go.Proofs.YtmhpcjncngonbaaW.PrintMore
attribute [local go_sem] max2_int min2_int max_two min_two max_three min_three max_four min_four   -- for this text's walks alone
set_option linter.unusedVariables false
set_option linter.unusedSimpArgs false

/-! ### crc_told: function 47 -/
def crc_told (a0 : Int) : List Int := [a0 % 256, (a0 / 256) % 256, (a0 / 65536) % 256, (a0 / 16777216) % 256]
set_option maxHeartbeats 2000000 in
set_option maxRecDepth 100000 in
theorem crc_told.calls (a0 : Int) (w : World) :
    Calls Try.prog 47 #[.int .u32 a0] w fun e w' => e = .returned (.agg #[.int .u8 (a0 % 256), .int .u8 ((a0 / 256) % 256), .int .u8 ((a0 / 65536) % 256), .int .u8 ((a0 / 16777216) % 256)]) ∧ Below w.heap.size w w' := by
  go_enter Try.func47, Try.ntmps47
  go_wp2
  (try simp only [Exit.inBlock, Exit.then])
  refine bodyPost_ret (results_cell_row rfl _ _ w.heap.size 51 _ (0, 0) _ rfl (heap_alloc_new w _) Try.underlying51 rfl (by kernel_rfl)) rfl ?_
  exact ⟨rfl, (Below.refl _ _).alloc (Nat.le_refl _) _⟩

end Go.Proofs.Ytmhpcjncngonbaa.Q
/- Functions of the translation as plain Lean functions, each with a proof that the Go code comes to its answers, wherever the function has one; no other condition. Written by this session's own program (wip/myprint.py). -/
namespace Go.Proofs.Ytmhpcjncngonbaa.Q
open Go.RowKit Go.Proofs.Ytmhpcjncngonbaa.Mine Go.Proofs.YtmhpcjncngonbaaW.PrintWords Go.Proofs.YtmhpcjncngonbaaW.PrintLast Go.Proofs.YtmhpcjncngonbaaW.PrintMore
attribute [local go_sem] max2_int min2_int max_two min_two max_three min_three max_four min_four   -- for this text's walks alone
set_option linter.unusedVariables false
set_option linter.unusedSimpArgs false

/-! ### slices_Clone_byte_byte: function 49 -/
def slices_Clone_byte_byte.f (l0 : List Int) : Option (List Int) := if l0.length < 140737488355328 then some l0 else none
set_option maxHeartbeats 2000000 in
set_option maxRecDepth 100000 in
theorem slices_Clone_byte_byte.calls (A0 : Option Addr) (c0 : Nat) (l0 : List Int) (r : List Int) (w : World) (hr0 : Kd.C (Kd.int .u8) w A0 l0.length l0) (hc0 : l0.length ≤ c0) (h : slices_Clone_byte_byte.f l0 = some r) :
    Calls Try.prog 49 #[.slice A0 l0.length c0] w fun e w' => ∃ v0_ : Value, e = .returned v0_ ∧ Kd.R (Kd.int .u8) 5 w' w.heap.size (fun _ => True) v0_ r ∧ Below w.heap.size w w' := by
  unfold slices_Clone_byte_byte.f at h
  split at h
  case isFalse => cases h
  rename_i hl
  obtain rfl := Option.some.inj h
  clear h
  have q22 : ∀ (w : World) (a : Option Addr) (n c n' c' : Nat), (binOp .eql 32 (.slice a n c) (.slice none n' c')).run Try.prog w = .ok (.bool a.isNone) w := fun w a n c n' c' => Go.Lib.run_eql_slice_nil w _ _ a n c n' c' Try.underlying32
  have HR0 := Aside0.mk hr0
  have HC0 := Aside0.mk hc0
  have HL := Aside0.mk hl
  have HB := Aside0.mk (Below.refl w.heap.size w)
  clear hr0 hc0 hl
  cases A0 with
  | none =>
    have hz : l0 = [] := by
      cases l0 with
      | nil => rfl
      | cons x l => obtain ⟨ad, h1, _⟩ := HR0.out.2.2 (by simp); cases h1
    subst hz
    go_enter Try.func49, Try.ntmps49
    go_wp2
    go_ret
    exact ⟨_, rfl, Kd.R_nil _ _ _ _ _, HB.out⟩
  | some ad =>
    obtain ⟨y128, hy128⟩ : ∃ y_ : List Int, y_ = [] := ⟨_, rfl⟩
    obtain ⟨y131, hy131⟩ : ∃ y_ : List Int, y_ = y128 ++ l0 := ⟨_, rfl⟩
    have Ny128 := Aside0.mk hy128
    have Ny131 := Aside0.mk hy131
    have LMc3 := Aside0.mk (show y128.length + l0.length < 140737488355328 by rw [hy128]; simpa using HL.out)
    clear hy128 hy131
    go_enter Try.func49, Try.ntmps49
    go_wp2_with (first
 | ((with_reducible refine gate_dst (N := 5) rfl ?_); refine Kd.R_lit (Kd.int .u8) _ 5 ?hg (N := 5) ?hd (xs := ([] : List Int)) (inner := []) (ok := fun _ => True) (okp := fun _ => True) ?hr ?hp (fun _ hk => hk) trivial (Below.refl _ _) (Nat.le_refl _) (by simp) ?_; (case hd => rfl); (case hg => rfl); (case hr => first | (go_simp; done) | (go_simp; rfl)); (case hp => exact (Reps.none _ _)); intro v129 w5 ho6 hb hg_ hnew_; clear hg_ hnew_; (first | rw [← Ny128.out] at ho6 | (simp only [Int.reduceToNat] at ho6; rw [← Ny128.out] at ho6)); have n0_ := Aside0.mk (Kd.R_lower ho6 (below_size (by repeat (first | (with_reducible first | exact HB.out | apply below_alloc | apply pw_below_drewN | apply below_drew1) | exact HB.out)))); have n1_ := Aside0.mk (below_step (by repeat (first | (with_reducible first | exact HB.out | apply below_alloc | apply pw_below_drewN | apply below_drew1) | exact HB.out)) hb); clear HB; have HO130 := n0_; have HB := n1_; clear n0_ n1_; clear hb ho6)
 | ((with_reducible refine gate_builtin (b := .append) (xs := #[.tmp 5, .tmp 6]) rfl ?_); at_builtin; refine Kd.R_append_rows (Kd.int .u8) (w0 := w) w.heap.size rfl (.tmp 5) (.tmp 6) 32 5 (.int .u8 0) 1 rfl Try.underlying32 info5 rfl (by decide) (by omega) v129 y128 l0 _ _ _ (fun _ => True) (fun _ => False) rfl rfl ?aO ?aR (fun _ _ h => h) (fun _ h => h.elim) ?aF ?aB ?aS ?aL ?_; (case aR => repeat (first | exact (Kd.C_below HR0.out HB.out) | (with_reducible refine Kd.C_alloc ?_ _) | (with_reducible refine Kd.C_drewN ?_ _) | (with_reducible refine Kd.C_drew ?_))); (case aB => exact (by repeat (first | (with_reducible first | exact HB.out | apply below_alloc | apply pw_below_drewN | apply below_drew1) | exact HB.out))); (case aF => exact (fun _ _ => trivial)); (case aO => exact (by (with_reducible repeat (first | apply Kd.R_alloc | apply Kd.R_drewN | apply Kd.R_drew)); exact HO130.out)); (case aS => exact (below_size (by repeat (first | (with_reducible first | exact HB.out | apply below_alloc | apply pw_below_drewN | apply below_drew1) | exact HB.out)))); (case aL => have := LMc3.out; omega); intro v132 w7 ho hb hg hat; rw [← Ny131.out] at ho; have n0_ := Aside0.mk (hb); have n1_ := Aside0.mk (ho); clear HB; clear HO130; have HB := n0_; have HO133 := n1_; clear n0_ n1_; clear ho hb hg hat))
    go_ret
    refine ⟨_, rfl, ?_, HB.out⟩
    have hy : y131 = l0 := by rw [Ny131.out, Ny128.out]; rfl
    rw [← hy]
    exact HO133.out

end Go.Proofs.Ytmhpcjncngonbaa.Q
/- Functions of the translation as plain Lean functions, each with a proof that the Go code comes to its answers, wherever the function has one; no other condition. Written by this session's own program (wip/myprint.py). -/
namespace Go.Proofs.Ytmhpcjncngonbaa.Q
open Go.RowKit Go.Proofs.Ytmhpcjncngonbaa.Mine Go.Proofs.YtmhpcjncngonbaaW.PrintWords Go.Proofs.YtmhpcjncngonbaaW.PrintLast Go.Proofs.YtmhpcjncngonbaaW.PrintMore
attribute [local go_sem] max2_int min2_int max_two min_two max_three min_three max_four min_four   -- for this text's walks alone
set_option linter.unusedVariables false
set_option linter.unusedSimpArgs false

/-! ### crc_Put: function 32 -/
def crc_Put.f (k : Nat) (l0 : List Int) : Option (List Int) := (crc_Of.f k l0).bind fun t => (slices_Clone_byte_byte.f l0).bind fun y => if y.length + 4 < 140737488355328 then some (y ++ crc_told t) else none
theorem crc_Put.mono : ∀ a0 k, LeO (crc_Put.f k a0) (crc_Put.f (k + 1) a0) := by
  intro a0 k
  unfold crc_Put.f
  repeat' first
      | (with_reducible exact crc_Of.mono _ _)
      | (with_reducible exact LeO.refl _)
      | (with_reducible exact LeO.none _)
      | (with_reducible refine LeO.ite ?_ ?_)
      | (with_reducible refine LeO.bind ?_ (fun _ => ?_))
set_option maxHeartbeats 2000000 in
set_option maxRecDepth 100000 in
theorem crc_Put.calls (k : Nat) (A0 : Option Addr) (c0 : Nat) (l0 : List Int) (r : List Int) (w : World) (hr0 : Kd.C (Kd.int .u8) w A0 l0.length l0) (hc0 : l0.length ≤ c0) (h : crc_Put.f k l0 = some r) :
    Calls Try.prog 32 #[.slice A0 l0.length c0] w fun e w' => ∃ v0_ : Value, e = .returned v0_ ∧ Kd.R (Kd.int .u8) 5 w' w.heap.size (fun _ => True) v0_ r ∧ Below w.heap.size w w' := by
  obtain ⟨t, A1_, h⟩ := Option.bind_eq_some_iff.mp h
  obtain ⟨y, A2_, h⟩ := Option.bind_eq_some_iff.mp h
  split at h
  case isFalse => cases h
  rename_i hl
  obtain rfl := Option.some.inj h
  clear h
  have A1 := Aside0.mk A1_
  have A2 := Aside0.mk A2_
  have HR0 := Aside0.mk hr0
  have HC0 := Aside0.mk hc0
  have HL := Aside0.mk hl
  clear hr0 hc0 hl A1_ A2_
  go_enter Try.func32, Try.ntmps32
  go_wp2_with fail
  refine (crc_Of.calls k _ _ l0 t _ HR0.out HC0.out A1.out).mono ?_
  rintro e w2 ⟨rfl, hB_⟩
  have HB := Aside0.mk hB_
  clear hB_
  dsimp only
  go_wp2_with fail
  refine (crc_told.calls t _).mono ?_
  rintro e w3 ⟨rfl, hB_⟩
  have HB2 := Aside0.mk (HB.out.trans (hB_.mono HB.out.size))
  clear hB_
  dsimp only
  go_wp2_with fail
  have HBx := Aside0.mk (blk_new w3 (.cells #[.int .u8 (t % 256), .int .u8 (t / 256 % 256), .int .u8 (t / 65536 % 256), .int .u8 (t / 16777216 % 256)] 51))
  have HB3 := Aside0.mk ((HB2.out.alloc HB2.out.size (.cells #[.int .u8 (t % 256), .int .u8 (t / 256 % 256), .int .u8 (t / 65536 % 256), .int .u8 (t / 16777216 % 256)] 51)).drew)
  obtain ⟨y134, hy134⟩ : ∃ y_ : List Int, y_ = crc_told t := ⟨_, rfl⟩
  have Ny134 := Aside0.mk hy134
  have HX : Aside0 (Kd.C (Kd.int .u8) (w3.alloc (.cells #[.int .u8 (t % 256), .int .u8 (t / 256 % 256), .int .u8 (t / 65536 % 256), .int .u8 (t / 16777216 % 256)] 51)) (some ⟨w3.heap.size, 0, none⟩) 4 y134) := ⟨by rw [hy134]; exact C_block (xs := crc_told t) HBx.out rfl (show (4 : Nat) ≤ _ by decide)⟩
  clear hy134
  go_region_law (first | (go_simp; go_at_call 49; refine (slices_Clone_byte_byte.calls A0 c0 l0 y _ (Kd.C_below HR0.out HB3.out) HC0.out A2.out).mono ?_; rintro e w4 ⟨v4, rfl, ho_, hb_⟩; have HO := Aside0.mk ho_; have HB4 := Aside0.mk hb_; clear ho_ hb_) | (refine step_of_list rfl ?_; refine Kd.R_append_rows (Kd.int .u8) (w0 := w) w.heap.size rfl (.tmp 8) (.tmp 9) 32 5 (.int .u8 0) 1 rfl Try.underlying32 info5 rfl (by decide) (by omega) v4 y y134 _ _ _ (fun _ => True) (fun _ => False) rfl rfl ?aO ?aR (fun _ _ h => h) (fun _ h => h.elim) ?aF ?aB ?aS ?aL ?_; (case aF => exact (fun _ _ => trivial)); (case aO => exact Kd.R_lower HO.out HB3.out.size); (case aR => exact Kd.C_below (Kd.C_drew HX.out) HB4.out);  (case aB => exact HB3.out.trans (HB4.out.mono HB3.out.size)); (case aS => exact (HB3.out.trans (HB4.out.mono HB3.out.size)).size); (case aL => have := HL.out; omega); intro v5 w5 ho_ hb_ _ _; have HO5 := Aside0.mk ho_; have HB5 := Aside0.mk hb_; clear ho_ hb_; refine ⟨rfl, ?_⟩))
  go_wp2
  go_ret
  exact ⟨_, rfl, by have := HO5.out; rw [Ny134.out] at this; exact this, HB5.out⟩

end Go.Proofs.Ytmhpcjncngonbaa.Q
/- Functions of the translation as plain Lean functions, each with a proof that the Go code comes to its answers, wherever the function has one; no other condition. Written by this session's own program (wip/myprint.py). -/
namespace Go.Proofs.Ytmhpcjncngonbaa.Q
open Go.RowKit Go.Proofs.Ytmhpcjncngonbaa.Mine Go.Proofs.YtmhpcjncngonbaaW.PrintWords Go.Proofs.YtmhpcjncngonbaaW.PrintLast Go.Proofs.YtmhpcjncngonbaaW.PrintMore
attribute [local go_sem] max2_int min2_int max_two min_two max_three min_three max_four min_four   -- for this text's walks alone
set_option linter.unusedVariables false
set_option linter.unusedSimpArgs false

/-! ### crc_Cut: function 35 -/
def crc_Cut.f (k : Nat) (l0 : List Int) : Option (List Int × Int) :=
  if l0.length < 4 then some ([], 2) else
  (crc_Of.f k (l0.take (l0.length - 4))).bind fun t =>
  if l0.drop (l0.length - 4) = crc_told t then (slices_Clone_byte_byte.f (l0.take (l0.length - 4))).bind fun y => some (y, 0) else some ([], 6)
theorem crc_Cut.mono : ∀ a0 k, LeO (crc_Cut.f k a0) (crc_Cut.f (k + 1) a0) := by
  intro a0 k
  unfold crc_Cut.f
  repeat' first
      | (with_reducible exact crc_Of.mono _ _)
      | (with_reducible exact LeO.refl _)
      | (with_reducible exact LeO.none _)
      | (with_reducible refine LeO.ite ?_ ?_)
      | (with_reducible refine LeO.bind ?_ (fun _ => ?_))
set_option maxHeartbeats 4000000 in
set_option maxRecDepth 100000 in
theorem crc_Cut.calls (k : Nat) (A0 : Option Addr) (c0 : Nat) (l0 : List Int) (r0 : List Int) (r1 : Int) (w : World) (hr0 : Kd.C (Kd.int .u8) w A0 l0.length l0) (hc0 : l0.length ≤ c0) (h : crc_Cut.f k l0 = some (r0, r1)) :
    Calls Try.prog 35 #[.slice A0 l0.length c0] w fun e w' => ∃ v0_ : Value, e = .returned (.tuple #[v0_, .int .i64 r1]) ∧ Kd.R (Kd.int .u8) 5 w' w.heap.size (fun _ => True) v0_ r0 ∧ Below w.heap.size w w' := by
  unfold crc_Cut.f at h
  have hmax : l0.length ≤ 9223372036854775807 := hr0.2.1
  by_cases h4 : l0.length < 4
  · rw [if_pos h4] at h
    obtain ⟨rfl, rfl⟩ := Prod.mk.inj (Option.some.inj h)
    clear h
    have hw : wrap64 ((l0.length : Int) - 4) = (l0.length : Int) - 4 := by unfold wrap64; omega
    go_enter Try.func35, Try.ntmps35
    go_wp2
    go_ret2
    exact ⟨_, rfl, Kd.R_nil _ _ _ _ _, Below.refl _ _⟩
  · rw [if_neg h4] at h
    obtain ⟨n, hn⟩ : ∃ n, n = l0.length - 4 := ⟨_, rfl⟩
    rw [← hn] at h
    have hln : l0.length = n + 4 := by omega
    clear hn h4
    obtain ⟨t, A1_, h⟩ := Option.bind_eq_some_iff.mp h
    have A1 := Aside0.mk A1_
    have H := Aside0.mk h
    have HR0 := Aside0.mk hr0
    have HC0 := Aside0.mk hc0
    obtain ⟨ad, rfl, hcell⟩ := hr0.2.2 (by omega)
    clear hr0 hc0 A1_ h
    rw [hln] at hmax ⊢
    have hlt : n ≤ l0.length := by omega
    have htl : (l0.take n).length = n := by rw [List.length_take]; omega
    obtain ⟨q0, q1, q2, q3, hq⟩ := four_of (l := l0.drop n) (by rw [List.length_drop]; omega)
    have HT : ∀ W, (Kd.int .u8).C W (some ad) (n + 4) l0 → (Kd.int .u8).C W (some ad) n (l0.take n) := fun W h => by
      have := Kd.C_take (m := n) (by rw [← hln] at h; exact h) hlt
      rwa [htl] at this
    have HD : ∀ W, (Kd.int .u8).C W (some ad) (n + 4) l0 → (Kd.int .u8).C W (some (ad.add n)) 4 [q0, q1, q2, q3] := fun W h => by
      have := Kd.C_drop (m := n) (c := c0) (by rw [← hln] at h; exact h) hlt HC0.out
      rw [if_neg (by have := HC0.out; omega), hq] at this
      have e1 : n * (Kd.int .u8).sz = n := Nat.mul_one n
      rw [Option.map_some, e1] at this
      exact this
    rw [hq] at H
    rw [hln] at HR0
    have HR1 := Aside0.mk (HT w HR0.out)
    obtain ⟨hc0, hc1, hc2, hc3⟩ := four_at (HD w HR0.out)
    have hle : ((n : Int) ≤ (n : Int) + 4) = True := eq_true (by omega)
    have hle1 : ((n : Int) ≤ (c0 : Int)) = True := eq_true (by have := HC0.out; omega)
    have hle2 : (n ≤ c0) = True := eq_true (by have := HC0.out; omega)
    have hcn : (c0 = n) = False := eq_false (by have := HC0.out; omega)
    have HNC := Aside0.mk (show n ≤ c0 by have := HC0.out; omega)
    have harr : ∀ W, (Instr.arrayAt 51 (.slice (some (ad.add n)) 4 (c0 - n))).run Try.prog W = .ok (.pointer (some (ad.add n))) W := fun W => run_arrayAt _ _ _ _ _ _ _ Try.underlying51 (Nat.le_refl _)
    clear hle2
    have HDA := Aside0.mk HD
    have HTA := Aside0.mk HT
    clear HD HT hq hlt hcell hln
    have HTL := Aside0.mk htl
    clear htl
    have HOF := Aside0.mk (show ∀ W, (Kd.int .u8).C W (some ad) n (l0.take n) → Calls Try.prog 48 #[.slice (some ad) n c0] W fun e w' => e = .returned (.int .u32 t) ∧ Below W.heap.size W w' from fun W hW => by
      have := crc_Of.calls k (some ad) c0 (l0.take n) t W (by rw [HTL.out]; exact hW) (by rw [HTL.out]; exact HNC.out) A1.out
      rw [HTL.out] at this
      exact this)
    have HCL := Aside0.mk (show ∀ W y, (Kd.int .u8).C W (some ad) n (l0.take n) → slices_Clone_byte_byte.f (l0.take n) = some y → Calls Try.prog 49 #[.slice (some ad) n c0] W fun e w' => ∃ v0_ : Value, e = .returned v0_ ∧ Kd.R (Kd.int .u8) 5 w' W.heap.size (fun _ => True) v0_ y ∧ Below W.heap.size W w' from fun W y hW hy => by
      have := slices_Clone_byte_byte.calls (some ad) c0 (l0.take n) y W (by rw [HTL.out]; exact hW) (by rw [HTL.out]; exact HNC.out) hy
      rw [HTL.out] at this
      exact this)
    have heq0 : ∀ W, (Op.equalIn 10000 51 (.agg #[.int .u8 q0, .int .u8 q1, .int .u8 q2, .int .u8 q3]) (.agg #[.int .u8 (t % 256), .int .u8 (t / 256 % 256), .int .u8 (t / 65536 % 256), .int .u8 (t / 16777216 % 256)])).run Try.prog W = .ok (decide ([q0, q1, q2, q3] = crc_told t)) W := fun W => run_eq4 W 9998 51 5 .u8 _ q0 q1 q2 q3 _ _ _ _ Try.underlying51 Try.underlying5 (show Try.prog.info? 5 = some _ from rfl) (by kernel_rfl) (by kernel_rfl)
    by_cases hE : [q0, q1, q2, q3] = crc_told t
    · have h := H.out
      rw [if_pos hE] at h
      clear H
      obtain ⟨y, A2_, h⟩ := Option.bind_eq_some_iff.mp h
      obtain ⟨rfl, rfl⟩ := Prod.mk.inj (Option.some.inj h)
      have A2 := Aside0.mk A2_
      clear h A2_
      simp only [hE, decide_true] at heq0
      clear hE
      go_enter Try.func35, Try.ntmps35
      go_wp2_with fail
      go_region_law (first | (go_simp; go_at_call 48; refine (HOF.out _ (Kd.C_drew HR1.out)).mono ?_; rintro e w2 ⟨rfl, hB_⟩; have HB := Aside0.mk ((Below.refl w.heap.size w).drew.trans hB_); clear hB_; have hC2 := four_at (HDA.out w2 (Kd.C_below HR0.out HB.out)); obtain ⟨hd0, hd1, hd2, hd3⟩ := hC2) | (go_simp; go_at_call 47; refine (crc_told.calls t _).mono ?_; rintro e w3 ⟨rfl, hB_⟩; have HB2 := Aside0.mk (HB.out.trans (hB_.mono HB.out.size)); clear hB_; have hC2 := four_at (HDA.out w3 (Kd.C_below HR0.out HB2.out)); obtain ⟨he0, he1, he2, he3⟩ := hC2))
      all_goals
        go_wp2_with fail
        refine (HCL.out _ y (HTA.out _ (Kd.C_below HR0.out HB2.out)) A2.out).mono ?_
        rintro e w4 ⟨v4, rfl, ho_, hb_⟩
        have HO := Aside0.mk ho_
        have HB4 := Aside0.mk hb_
        clear ho_ hb_
        go_wp2
        go_ret2
        exact ⟨_, rfl, Kd.R_lower HO.out HB2.out.size, HB2.out.trans (HB4.out.mono HB2.out.size)⟩
    · have h := H.out
      rw [if_neg hE] at h
      clear H
      obtain ⟨rfl, rfl⟩ := Prod.mk.inj (Option.some.inj h)
      clear h
      simp only [hE, decide_false] at heq0
      clear hE
      go_enter Try.func35, Try.ntmps35
      go_wp2_with fail
      go_region_law (first | (go_simp; go_at_call 48; refine (HOF.out _ (Kd.C_drew HR1.out)).mono ?_; rintro e w2 ⟨rfl, hB_⟩; have HB := Aside0.mk ((Below.refl w.heap.size w).drew.trans hB_); clear hB_; have hC2 := four_at (HDA.out w2 (Kd.C_below HR0.out HB.out)); obtain ⟨hd0, hd1, hd2, hd3⟩ := hC2) | (go_simp; go_at_call 47; refine (crc_told.calls t _).mono ?_; rintro e w3 ⟨rfl, hB_⟩; have HB2 := Aside0.mk (HB.out.trans (hB_.mono HB.out.size)); clear hB_; have hC2 := four_at (HDA.out w3 (Kd.C_below HR0.out HB2.out)); obtain ⟨he0, he1, he2, he3⟩ := hC2))
      all_goals
        go_wp2
        go_ret2
        exact ⟨_, rfl, Kd.R_nil _ _ _ _ _, HB2.out⟩

end Go.Proofs.Ytmhpcjncngonbaa.Q
/- Functions of the translation as plain Lean functions, each with a proof that the Go code comes to its answers, wherever the function has one; no other condition. Written by this session's own program (wip/myprint.py). -/
namespace Go.Proofs.Ytmhpcjncngonbaa.Q
open Go.RowKit Go.Proofs.Ytmhpcjncngonbaa.Mine Go.Proofs.YtmhpcjncngonbaaW.PrintWords Go.Proofs.YtmhpcjncngonbaaW.PrintLast Go.Proofs.YtmhpcjncngonbaaW.PrintMore
attribute [local go_sem] max2_int min2_int max_two min_two max_three min_three max_four min_four   -- for this text's walks alone
set_option linter.unusedVariables false
set_option linter.unusedSimpArgs false

/-! ### exergueref08_Step: function 68 -/
def exergueref08_Step.l0 : Nat → Int → Int → Option (Int)
  | 0, _, _ => none
  | k + 1, x5, x6 => if x6 < 8 then (if (Int.tmod x5 2) = 1 then (exergueref08_Step.l0 k (Go.bits .xor .u32 ((Int.tdiv x5 2) % 4294967296) 3988292384) (wrap64 (x6 + 1))) else (exergueref08_Step.l0 k ((Int.tdiv x5 2) % 4294967296) (wrap64 (x6 + 1)))) else (some x5)
def exergueref08_Step.f (k : Nat) (a0 : Int) (a1 : Int) : Option (Int) := exergueref08_Step.l0 k (Go.bits .xor .u32 a0 ((a1) % 4294967296)) 0
theorem exergueref08_Step.mono_l : ∀ k, (∀ y0 y1, LeO (exergueref08_Step.l0 k y0 y1) (exergueref08_Step.l0 (k + 1) y0 y1))
  | 0 => fun _ _ r h => by simp [exergueref08_Step.l0] at h
  | k + 1 => by
    have ih0 := exergueref08_Step.mono_l k
    · intro y0 y1
      unfold exergueref08_Step.l0
      repeat' first
      | (with_reducible exact ih0 _ _)
      | (with_reducible exact LeO.refl _)
      | (with_reducible exact LeO.none _)
      | (with_reducible refine LeO.ite ?_ ?_)
      | (with_reducible refine LeO.bind ?_ (fun _ => ?_))
      | exact ih0 _ _
      | exact LeO.none _
      | refine LeO.ite ?_ ?_
      | refine LeO.bind ?_ (fun _ => ?_)
theorem exergueref08_Step.mono : ∀ a0 a1 k, LeO (exergueref08_Step.f k a0 a1) (exergueref08_Step.f (k + 1) a0 a1) := by
  intro a0 a1 k
  have ih0 := exergueref08_Step.mono_l k
  unfold exergueref08_Step.f
  repeat' first
      | (with_reducible exact ih0 _ _)
      | (with_reducible exact LeO.refl _)
      | (with_reducible exact LeO.none _)
      | (with_reducible refine LeO.ite ?_ ?_)
      | (with_reducible refine LeO.bind ?_ (fun _ => ?_))
      | exact ih0 _ _
      | exact LeO.none _
      | refine LeO.ite ?_ ?_
      | refine LeO.bind ?_ (fun _ => ?_)
set_option maxHeartbeats 8000000 in
set_option maxRecDepth 100000 in
theorem exergueref08_Step.calls (k : Nat) (a0 : Int) (a1 : Int) (r : Int) (w : World) (h : exergueref08_Step.f k a0 a1 = some r) :
    Calls Try.prog 68 #[.int .u32 a0, .int .u8 a1] w fun e w' => e = .returned (.int .u32 r) ∧ Drawn0 w w' := by
  have H : (exergueref08_Step.l0 k (Go.bits .xor .u32 a0 ((a1) % 4294967296)) 0) = some r := h
  clear h
  have H' := Aside0.mk H
  clear H
  go_enter Try.func68, Try.ntmps68
  go_wp2
  go_loopg [5, 6] k (fun kq v5 v6 w' => ∃ (x5_1 : Int) (x6_1 : Int), v5 = .int .u32 x5_1 ∧ v6 = .int .i64 x6_1 ∧ Aside0 (exergueref08_Step.l0 kq x5_1 x6_1 = some r) ∧ Aside0 (kq ≤ k) ∧ Drawn0 w w')
  case atStart => exact ⟨(Go.bits .xor .u32 a0 ((a1) % 4294967296)), (0), (by first | rfl | (simp; done) | (simp [*]; done)), (by first | rfl | (simp; done) | (simp [*]; done)), H', ⟨Nat.le_refl _⟩, by repeat (first | exact Drawn0.refl _ | apply Drawn0.step)⟩
  case round =>
    clear H'
    try clear p2
    obtain ⟨x5_1, x6_1, rfl, rfl, HA, HK1, ⟨m1, rfl⟩⟩ := hrel
    cases gk with
    | zero => exact absurd HA.out (by simp [exergueref08_Step.l0])
    | succ k1 =>
      have H := HA.out
      clear HA
      simp only [exergueref08_Step.l0] at H
      by_cases c3 : x6_1 < 8
      · rw [if_pos c3] at H
        have c3b0 : decide (x6_1 < 8) = true := decide_eq_true c3
        clear c3
        by_cases c4 : (Int.tmod x5_1 2) = 1
        · rw [if_pos c4] at H
          have c4b0 : ((Int.tmod x5_1 2) == 1) = true := beq_iff_eq.mpr c4
          have c4b1 : ((Int.tmod x5_1 2) != 1) = false := bne_eq_false_iff_eq.mpr c4
          clear c4
          have H' := Aside0.mk H
          clear H
          go_wp2
          go_roundg k1
          case measure => have := HK1.out; omega
          case rel => exact ⟨(Go.bits .xor .u32 ((Int.tdiv x5_1 2) % 4294967296) 3988292384), (wrap64 (x6_1 + 1)), (by first | rfl | (simp; done) | (simp [*]; done)), (by first | rfl | (simp; done) | (simp [*]; done)), H', ⟨by have := HK1.out; omega⟩, by repeat (first | exact Drawn0.refl _ | apply Drawn0.step)⟩
        · rw [if_neg c4] at H
          have c4b0 : ((Int.tmod x5_1 2) == 1) = false := beq_eq_false_iff_ne.mpr c4
          have c4b1 : ((Int.tmod x5_1 2) != 1) = true := bne_iff_ne.mpr c4
          have H' := Aside0.mk H
          clear H
          go_wp2
          go_roundg k1
          case measure => have := HK1.out; omega
          case rel => exact ⟨((Int.tdiv x5_1 2) % 4294967296), (wrap64 (x6_1 + 1)), (by first | rfl | (simp; done) | (simp [*]; done)), (by first | rfl | (simp; done) | (simp [*]; done)), H', ⟨by have := HK1.out; omega⟩, by repeat (first | exact Drawn0.refl _ | apply Drawn0.step)⟩
      · rw [if_neg c3] at H
        have c3b0 : decide (x6_1 < 8) = false := decide_eq_false c3
        clear c3
        obtain rfl := Option.some.inj H
        go_wp2
        go_ret
        exact ⟨by first | rfl | (simp; done) | (simp [*]; done), by repeat (first | exact Drawn0.refl _ | apply Drawn0.step)⟩

end Go.Proofs.Ytmhpcjncngonbaa.Q
/- Functions of the translation as plain Lean functions, each with a proof that the Go code comes to its answers, wherever the function has one; no other condition. Written by this session's own program (wip/myprint.py). -/
namespace Go.Proofs.Ytmhpcjncngonbaa.Q
open Go.RowKit Go.Proofs.Ytmhpcjncngonbaa.Mine Go.Proofs.YtmhpcjncngonbaaW.PrintWords Go.Proofs.YtmhpcjncngonbaaW.PrintLast Go.Proofs.YtmhpcjncngonbaaW.PrintMore
attribute [local go_sem] max2_int min2_int max_two min_two max_three min_three max_four min_four   -- for this text's walks alone
set_option linter.unusedVariables false
set_option linter.unusedSimpArgs false

/-! ### exergueref08_On: function 51 -/
def exergueref08_On.l0 : Nat → List Int → Int → Int → Option (Int)
  | 0, _, _, _ => none
  | k + 1, x1, x5, x6 => if x6 < (x1.length : Int) then (if 0 ≤ x6 then ((exergueref08_Step.f k x5 (rd x1 x6)).bind fun t113 => (exergueref08_On.l0 k x1 t113 (wrap64 (x6 + 1)))) else (none)) else (some ((4294967295 - x5) % 4294967296))
def exergueref08_On.f (k : Nat) (a0 : Int) (l1 : List Int) : Option (Int) := exergueref08_On.l0 k l1 ((4294967295 - a0) % 4294967296) 0
theorem exergueref08_On.mono_l : ∀ k, (∀ y0 y1 y2, LeO (exergueref08_On.l0 k y0 y1 y2) (exergueref08_On.l0 (k + 1) y0 y1 y2))
  | 0 => fun _ _ _ r h => by simp [exergueref08_On.l0] at h
  | k + 1 => by
    have ih0 := exergueref08_On.mono_l k
    · intro y0 y1 y2
      unfold exergueref08_On.l0
      repeat' first
      | (with_reducible exact ih0 _ _ _)
      | (with_reducible exact exergueref08_Step.mono _ _ _)
      | (with_reducible exact LeO.refl _)
      | (with_reducible exact LeO.none _)
      | (with_reducible refine LeO.ite ?_ ?_)
      | (with_reducible refine LeO.bind ?_ (fun _ => ?_))
      | exact ih0 _ _ _
      | exact exergueref08_Step.mono _ _ _
      | exact LeO.none _
      | refine LeO.ite ?_ ?_
      | refine LeO.bind ?_ (fun _ => ?_)
theorem exergueref08_On.mono : ∀ a0 a1 k, LeO (exergueref08_On.f k a0 a1) (exergueref08_On.f (k + 1) a0 a1) := by
  intro a0 a1 k
  have ih0 := exergueref08_On.mono_l k
  unfold exergueref08_On.f
  repeat' first
      | (with_reducible exact ih0 _ _ _)
      | (with_reducible exact exergueref08_Step.mono _ _ _)
      | (with_reducible exact LeO.refl _)
      | (with_reducible exact LeO.none _)
      | (with_reducible refine LeO.ite ?_ ?_)
      | (with_reducible refine LeO.bind ?_ (fun _ => ?_))
      | exact ih0 _ _ _
      | exact exergueref08_Step.mono _ _ _
      | exact LeO.none _
      | refine LeO.ite ?_ ?_
      | refine LeO.bind ?_ (fun _ => ?_)
set_option maxHeartbeats 8000000 in
set_option maxRecDepth 100000 in
theorem exergueref08_On.calls (k : Nat) (a0 : Int) (A1 : Option Addr) (c1 : Nat) (l1 : List Int) (r : Int) (w : World) (hr1 : Kd.C (Kd.int .u8) w A1 l1.length l1) (hc1 : l1.length ≤ c1) (h : exergueref08_On.f k a0 l1 = some r) :
    Calls Try.prog 51 #[.int .u32 a0, .slice A1 l1.length c1] w fun e w' => e = .returned (.int .u32 r) ∧ Drawn0 w w' := by
  have HR1 := Aside0.mk hr1
  have HC1 := Aside0.mk hc1
  clear hr1 hc1
  have H : (exergueref08_On.l0 k l1 ((4294967295 - a0) % 4294967296) 0) = some r := h
  clear h
  have H' := Aside0.mk H
  clear H
  go_enter Try.func51, Try.ntmps51
  go_wp2
  go_loopg [5, 6] k (fun kq v5 v6 w' => ∃ (x5_1 : Int) (x6_1 : Int), v5 = .int .u32 x5_1 ∧ v6 = .int .i64 x6_1 ∧ Aside0 (exergueref08_On.l0 kq l1 x5_1 x6_1 = some r) ∧ Aside0 (kq ≤ k) ∧ Drawn0 w w')
  case atStart => exact ⟨((4294967295 - a0) % 4294967296), (0), (by first | rfl | (simp; done) | (simp [*]; done)), (by first | rfl | (simp; done) | (simp [*]; done)), H', ⟨Nat.le_refl _⟩, by repeat (first | exact Drawn0.refl _ | apply Drawn0.step)⟩
  case round =>
    clear H'
    try clear c1
    try clear p2
    obtain ⟨x5_1, x6_1, rfl, rfl, HA, HK1, ⟨m1, rfl⟩⟩ := hrel
    cases gk with
    | zero => exact absurd HA.out (by simp [exergueref08_On.l0])
    | succ k1 =>
      have H := HA.out
      clear HA
      simp only [exergueref08_On.l0] at H
      by_cases c3 : x6_1 < (l1.length : Int)
      · rw [if_pos c3] at H
        have c3b0 : decide (x6_1 < (l1.length : Int)) = true := decide_eq_true c3
        clear c3
        by_cases c4 : 0 ≤ x6_1
        · rw [if_pos c4] at H
          have c4b0 : decide (0 ≤ x6_1) = true := decide_eq_true c4
          clear c4
          replace H := Option.bind_eq_some_iff.mp H
          obtain ⟨t113, A50, H⟩ := H
          replace H : (exergueref08_On.l0 k1 l1 t113 (wrap64 (x6_1 + 1))) = some r := H
          have A5 := Aside0.mk A50
          clear A50
          have H' := Aside0.mk H
          clear H
          have p112 : 0 ≤ (x6_1 : Int) := of_decide_eq_true (by first | (with_reducible assumption) | assumption)
          have q112 : x6_1 < (l1.length : Int) := of_decide_eq_true (by first | (with_reducible assumption) | assumption)
          obtain ⟨ad112, e112, hx112_0⟩ := Kd.at_int HR1.out x6_1 p112 q112
          cases e112
          replace p112 := eq_true p112
          replace q112 := eq_true q112
          go_wp2_with (first | ((with_reducible refine gate_callee (f := 68) rfl ?_); refine goesL_ (some 20) rfl rfl Try.func68 (by kernel_rfl) rfl #[.int .u32 x5_1, .int .u8 (rd l1 x6_1)] rfl (by (try simp only [List.map_toArray, List.map_cons, List.map_nil]); first | done | rfl | (simp only [List.length_drop, List.length_take]; rfl)) ?_; (with_reducible refine (exergueref08_Step.calls k1 x5_1 (rd l1 x6_1) t113 _ A5.out).mono ?_); rintro e w' ⟨rfl, ⟨nd, rfl⟩⟩; refine ⟨_, rfl, ?_⟩))
          go_roundg k1
          case measure => have := HK1.out; omega
          case rel => exact ⟨(t113), (wrap64 (x6_1 + 1)), (by first | rfl | (simp; done) | (simp [*]; done)), (by first | rfl | (simp; done) | (simp [*]; done)), H', ⟨by have := HK1.out; omega⟩, by repeat (first | exact Drawn0.refl _ | apply Drawn0.step)⟩
        · rw [if_neg c4] at H
          exact absurd H (by simp)
      · rw [if_neg c3] at H
        have c3b0 : decide (x6_1 < (l1.length : Int)) = false := decide_eq_false c3
        clear c3
        obtain rfl := Option.some.inj H
        go_wp2
        go_ret
        exact ⟨by first | rfl | (simp; done) | (simp [*]; done), by repeat (first | exact Drawn0.refl _ | apply Drawn0.step)⟩

end Go.Proofs.Ytmhpcjncngonbaa.Q
/- Functions of the translation as plain Lean functions, each with a proof that the Go code comes to its answers, wherever the function has one; no other condition. Written by this session's own program (wip/myprint.py). -/
namespace Go.Proofs.Ytmhpcjncngonbaa.Q
open Go.RowKit Go.Proofs.Ytmhpcjncngonbaa.Mine Go.Proofs.YtmhpcjncngonbaaW.PrintWords Go.Proofs.YtmhpcjncngonbaaW.PrintLast Go.Proofs.YtmhpcjncngonbaaW.PrintMore
attribute [local go_sem] max2_int min2_int max_two min_two max_three min_three max_four min_four   -- for this text's walks alone
set_option linter.unusedVariables false
set_option linter.unusedSimpArgs false

/-! ### exergueref08_Of: function 34 -/
def exergueref08_Of.f (k : Nat) (l0 : List Int) : Option (Int) := (exergueref08_On.f k 0 l0).bind fun t114 => (some t114)
theorem exergueref08_Of.mono : ∀ a0 k, LeO (exergueref08_Of.f k a0) (exergueref08_Of.f (k + 1) a0) := by
  intro a0 k
  unfold exergueref08_Of.f
  repeat' first
      | (with_reducible exact exergueref08_On.mono _ _ _)
      | (with_reducible exact LeO.refl _)
      | (with_reducible exact LeO.none _)
      | (with_reducible refine LeO.ite ?_ ?_)
      | (with_reducible refine LeO.bind ?_ (fun _ => ?_))
      | exact exergueref08_On.mono _ _ _
      | exact LeO.none _
      | refine LeO.ite ?_ ?_
      | refine LeO.bind ?_ (fun _ => ?_)
set_option maxHeartbeats 8000000 in
set_option maxRecDepth 100000 in
theorem exergueref08_Of.calls (k : Nat) (A0 : Option Addr) (c0 : Nat) (l0 : List Int) (r : Int) (w : World) (hr0 : Kd.C (Kd.int .u8) w A0 l0.length l0) (hc0 : l0.length ≤ c0) (h : exergueref08_Of.f k l0 = some r) :
    Calls Try.prog 34 #[.slice A0 l0.length c0] w fun e w' => e = .returned (.int .u32 r) ∧ Drawn0 w w' := by
  have HR0 := Aside0.mk hr0
  have HC0 := Aside0.mk hc0
  clear hr0 hc0
  have H : ((exergueref08_On.f k 0 l0).bind fun t114 => (some t114)) = some r := h
  clear h
  replace H := Option.bind_eq_some_iff.mp H
  obtain ⟨t114, A20, H⟩ := H
  replace H : (some t114) = some r := H
  have A2 := Aside0.mk A20
  clear A20
  obtain rfl := Option.some.inj H
  go_enter Try.func34, Try.ntmps34
  go_wp2_with (first | ((with_reducible refine gate_callee (f := 51) rfl ?_); refine goesL_ (some 4) rfl rfl Try.func51 (by kernel_rfl) rfl #[.int .u32 0, .slice A0 l0.length c0] rfl (by (try simp only [List.map_toArray, List.map_cons, List.map_nil]); first | done | rfl | (simp only [List.length_drop, List.length_take]; rfl)) ?_; (with_reducible refine (exergueref08_On.calls k 0 _ _ l0 t114 _ ?side1 ?side2 A2.out).mono ?_); (case side1 => repeat (first | exact HR0.out | (with_reducible refine Kd.C_alloc ?_ _) | (with_reducible refine Kd.C_drewN ?_ _) | (with_reducible refine Kd.C_drew ?_))); (case side2 => exact HC0.out); rintro e w' ⟨rfl, ⟨nd, rfl⟩⟩; refine ⟨_, rfl, ?_⟩))
  go_ret
  exact ⟨by first | rfl | (simp; done) | (simp [*]; done), by repeat (first | exact Drawn0.refl _ | apply Drawn0.step)⟩

end Go.Proofs.Ytmhpcjncngonbaa.Q
/- Functions of the translation as plain Lean functions, each with a proof that the Go code comes to its answers, wherever the function has one; no other condition. Written by this session's own program (wip/myprint.py). -/
namespace Go.Proofs.Ytmhpcjncngonbaa.Q
open Go.RowKit Go.Proofs.Ytmhpcjncngonbaa.Mine Go.Proofs.YtmhpcjncngonbaaW.PrintWords Go.Proofs.YtmhpcjncngonbaaW.PrintLast Go.Proofs.YtmhpcjncngonbaaW.PrintMore
attribute [local go_sem] max2_int min2_int max_two min_two max_three min_three max_four min_four   -- for this text's walks alone
set_option linter.unusedVariables false
set_option linter.unusedSimpArgs false

/-! ### exergueref08_Put: function 16 -/
def exergueref08_Put.f (k : Nat) (l0 : List Int) : Option (List Int) := (exergueref08_Of.f k l0).bind fun t115 => ((some (([] : List Int) : List Int)).bind fun y116 => (if y116.length + l0.length < 140737488355328 then ((some (y116 ++ l0 : List Int)).bind fun y119 => ((some (([(Int.tmod t115 256) % 256, ((Int.tdiv t115 256) % 4294967296) % 256, ((Int.tdiv t115 65536) % 4294967296) % 256, ((Int.tdiv t115 16777216) % 4294967296) % 256] : List Int) : List Int)).bind fun y122 => (if y119.length + y122.length < 140737488355328 then (some (y119 ++ y122)) else (none)))) else (none)))
theorem exergueref08_Put.mono : ∀ a0 k, LeO (exergueref08_Put.f k a0) (exergueref08_Put.f (k + 1) a0) := by
  intro a0 k
  unfold exergueref08_Put.f
  repeat' first
      | (with_reducible exact exergueref08_Of.mono _ _)
      | (with_reducible exact LeO.refl _)
      | (with_reducible exact LeO.none _)
      | (with_reducible refine LeO.ite ?_ ?_)
      | (with_reducible refine LeO.bind ?_ (fun _ => ?_))
      | exact exergueref08_Of.mono _ _
      | exact LeO.none _
      | refine LeO.ite ?_ ?_
      | refine LeO.bind ?_ (fun _ => ?_)
set_option maxHeartbeats 8000000 in
set_option maxRecDepth 100000 in
theorem exergueref08_Put.calls (k : Nat) (A0 : Option Addr) (c0 : Nat) (l0 : List Int) (r : List Int) (w : World) (hr0 : Kd.C (Kd.int .u8) w A0 l0.length l0) (hc0 : l0.length ≤ c0) (h : exergueref08_Put.f k l0 = some r) :
    Calls Try.prog 16 #[.slice A0 l0.length c0] w fun e w' => ∃ v0_ : Value, e = .returned (v0_) ∧ Kd.R (Kd.int .u8) 5 w' w.heap.size (fun _ => True) v0_ r ∧ Below w.heap.size w w' := by
  have HR0 := Aside0.mk hr0
  have HC0 := Aside0.mk hc0
  clear hr0 hc0
  have HB := Aside0.mk (Below.refl w.heap.size w)
  have H : ((exergueref08_Of.f k l0).bind fun t115 => ((some (([] : List Int) : List Int)).bind fun y116 => (if y116.length + l0.length < 140737488355328 then ((some (y116 ++ l0 : List Int)).bind fun y119 => ((some (([(Int.tmod t115 256) % 256, ((Int.tdiv t115 256) % 4294967296) % 256, ((Int.tdiv t115 65536) % 4294967296) % 256, ((Int.tdiv t115 16777216) % 4294967296) % 256] : List Int) : List Int)).bind fun y122 => (if y119.length + y122.length < 140737488355328 then (some (y119 ++ y122)) else (none)))) else (none)))) = some r := h
  clear h
  replace H := Option.bind_eq_some_iff.mp H
  obtain ⟨t115, A20, H⟩ := H
  replace H : ((some (([] : List Int) : List Int)).bind fun y116 => (if y116.length + l0.length < 140737488355328 then ((some (y116 ++ l0 : List Int)).bind fun y119 => ((some (([(Int.tmod t115 256) % 256, ((Int.tdiv t115 256) % 4294967296) % 256, ((Int.tdiv t115 65536) % 4294967296) % 256, ((Int.tdiv t115 16777216) % 4294967296) % 256] : List Int) : List Int)).bind fun y122 => (if y119.length + y122.length < 140737488355328 then (some (y119 ++ y122)) else (none)))) else (none))) = some r := H
  have A2 := Aside0.mk A20
  clear A20
  obtain ⟨y116, hy116⟩ : ∃ y_ : List Int, y_ = (([] : List Int)) := ⟨_, rfl⟩
  replace H : (if y116.length + l0.length < 140737488355328 then ((some (y116 ++ l0 : List Int)).bind fun y119 => ((some (([(Int.tmod t115 256) % 256, ((Int.tdiv t115 256) % 4294967296) % 256, ((Int.tdiv t115 65536) % 4294967296) % 256, ((Int.tdiv t115 16777216) % 4294967296) % 256] : List Int) : List Int)).bind fun y122 => (if y119.length + y122.length < 140737488355328 then (some (y119 ++ y122)) else (none)))) else (none)) = some r := by first | (rw [hy116]; with_reducible exact H) | (have H2_ := (Option.bind_some _ _).symm.trans H; rw [hy116]; with_reducible exact H2_) | (have H2_ := (Option.bind_some _ _).symm.trans H; with_reducible exact H2_) | with_reducible exact H | (rw [hy116]; exact H) | exact H
  have Ny116 := Aside0.mk hy116
  clear hy116
  by_cases c3 : y116.length + l0.length < 140737488355328
  · rw [if_pos c3] at H
    have LMc3 := Aside0.mk c3
    clear c3
    obtain ⟨y119, hy119⟩ : ∃ y_ : List Int, y_ = (y116 ++ l0) := ⟨_, rfl⟩
    replace H : ((some (([(Int.tmod t115 256) % 256, ((Int.tdiv t115 256) % 4294967296) % 256, ((Int.tdiv t115 65536) % 4294967296) % 256, ((Int.tdiv t115 16777216) % 4294967296) % 256] : List Int) : List Int)).bind fun y122 => (if y119.length + y122.length < 140737488355328 then (some (y119 ++ y122)) else (none))) = some r := by first | (rw [hy119]; with_reducible exact H) | (have H2_ := (Option.bind_some _ _).symm.trans H; rw [hy119]; with_reducible exact H2_) | (have H2_ := (Option.bind_some _ _).symm.trans H; with_reducible exact H2_) | with_reducible exact H | (rw [hy119]; exact H) | exact H
    have Ny119 := Aside0.mk hy119
    clear hy119
    obtain ⟨y122, hy122⟩ : ∃ y_ : List Int, y_ = (([(Int.tmod t115 256) % 256, ((Int.tdiv t115 256) % 4294967296) % 256, ((Int.tdiv t115 65536) % 4294967296) % 256, ((Int.tdiv t115 16777216) % 4294967296) % 256] : List Int)) := ⟨_, rfl⟩
    replace H : (if y119.length + y122.length < 140737488355328 then (some (y119 ++ y122)) else (none)) = some r := by first | (rw [hy122]; with_reducible exact H) | (have H2_ := (Option.bind_some _ _).symm.trans H; rw [hy122]; with_reducible exact H2_) | (have H2_ := (Option.bind_some _ _).symm.trans H; with_reducible exact H2_) | with_reducible exact H | (rw [hy122]; exact H) | exact H
    have Ny122 := Aside0.mk hy122
    clear hy122
    by_cases c4 : y119.length + y122.length < 140737488355328
    · rw [if_pos c4] at H
      have LMc4 := Aside0.mk c4
      clear c4
      obtain ⟨y125, hy125⟩ : ∃ y_ : List Int, y_ = (y119 ++ y122) := ⟨_, rfl⟩
      replace H : (some y125) = some r := by first | (rw [hy125]; with_reducible exact H) | (have H2_ := (Option.bind_some _ _).symm.trans H; rw [hy125]; with_reducible exact H2_) | (have H2_ := (Option.bind_some _ _).symm.trans H; with_reducible exact H2_) | with_reducible exact H | (rw [hy125]; exact H) | exact H
      have Ny125 := Aside0.mk hy125
      clear hy125
      obtain rfl := Option.some.inj H
      go_enter Try.func16, Try.ntmps16
      go_wp2_with (first | ((with_reducible refine gate_callee (f := 34) rfl ?_); refine goesL_ (some 6) rfl rfl Try.func34 (by kernel_rfl) rfl #[.slice A0 l0.length c0] rfl (by (try simp only [List.map_toArray, List.map_cons, List.map_nil]); first | done | rfl | (simp only [List.length_drop, List.length_take]; rfl)) ?_; (with_reducible refine (exergueref08_Of.calls k _ _ l0 t115 _ ?side1 ?side2 A2.out).mono ?_); (case side1 => repeat (first | exact HR0.out | (with_reducible refine Kd.C_alloc ?_ _) | (with_reducible refine Kd.C_drewN ?_ _) | (with_reducible refine Kd.C_drew ?_))); (case side2 => exact HC0.out); rintro e w' ⟨rfl, ⟨nd, rfl⟩⟩; refine ⟨_, rfl, ?_⟩) | ((with_reducible refine gate_dst (N := 7) rfl ?_); refine Kd.R_lit (Kd.int .u8) _ 5 ?hg (N := 7) ?hd (xs := ([] : List Int)) (inner := []) (ok := fun _ => True) (okp := fun _ => True) ?hr ?hp (fun _ hk => hk) trivial (Below.refl _ _) (Nat.le_refl _) (by simp) ?_; (case hd => rfl); (case hg => rfl); (case hr => first | (go_simp; done) | (go_simp; rfl)); (case hp => exact (Reps.none _ _)); intro v117 w5 ho6 hb hg_ hnew_; clear hg_ hnew_; (first | rw [← Ny116.out] at ho6 | (simp only [Int.reduceToNat] at ho6; rw [← Ny116.out] at ho6)); have n0_ := Aside0.mk (Kd.R_lower ho6 (below_size (by repeat (first | (with_reducible first | exact HB.out | apply below_alloc | apply pw_below_drewN | apply below_drew1) | exact HB.out)))); have n1_ := Aside0.mk (below_step (by repeat (first | (with_reducible first | exact HB.out | apply below_alloc | apply pw_below_drewN | apply below_drew1) | exact HB.out)) hb); clear HB; have HO118 := n0_; have HB := n1_; clear n0_ n1_; clear hb ho6) | ((with_reducible refine gate_builtin (b := .append) (xs := #[.tmp 7, .tmp 8]) rfl ?_); at_builtin; refine Kd.R_append_rows (Kd.int .u8) (w0 := w) w.heap.size rfl (.tmp 7) (.tmp 8) 32 5 (.int .u8 0) 1 rfl Try.underlying32 info5 rfl (by decide) (by omega) v117 y116 l0 _ _ _ (fun _ => True) (fun _ => False) rfl rfl ?aO ?aR (fun _ _ h => h) (fun _ h => h.elim) ?aF ?aB ?aS ?aL ?_; (case aR => repeat (first | exact (Kd.C_below HR0.out HB.out) | (with_reducible refine Kd.C_alloc ?_ _) | (with_reducible refine Kd.C_drewN ?_ _) | (with_reducible refine Kd.C_drew ?_))); (case aB => exact (by repeat (first | (with_reducible first | exact HB.out | apply below_alloc | apply pw_below_drewN | apply below_drew1) | exact HB.out))); (case aF => exact (fun _ _ => trivial)); (case aO => exact (by (with_reducible repeat (first | apply Kd.R_alloc | apply Kd.R_drewN | apply Kd.R_drew)); exact HO118.out)); (case aS => exact (below_size (by repeat (first | (with_reducible first | exact HB.out | apply below_alloc | apply pw_below_drewN | apply below_drew1) | exact HB.out)))); (case aL => have := LMc3.out; omega); intro v120 w7 ho hb hg hat; rw [← Ny119.out] at ho; have n0_ := Aside0.mk (hb); have n1_ := Aside0.mk (ho); clear HB; clear HO118; have HB := n0_; have HO121 := n1_; clear n0_ n1_; clear ho hb hg hat) | ((with_reducible refine gate_dst (N := 25) rfl ?_); refine Kd.R_lit (Kd.int .u8) _ 5 ?hg (N := 25) ?hd (xs := ([(Int.tmod t115 256) % 256, ((Int.tdiv t115 256) % 4294967296) % 256, ((Int.tdiv t115 65536) % 4294967296) % 256, ((Int.tdiv t115 16777216) % 4294967296) % 256] : List Int)) (inner := [.int .u8 ((Int.tmod t115 256) % 256), .int .u8 (((Int.tdiv t115 256) % 4294967296) % 256), .int .u8 (((Int.tdiv t115 65536) % 4294967296) % 256), .int .u8 (((Int.tdiv t115 16777216) % 4294967296) % 256)]) (ok := fun _ => True) (okp := fun _ => True) ?hr ?hp (fun _ hk => hk) trivial (Below.refl _ _) (Nat.le_refl _) (by simp) ?_; (case hd => rfl); (case hg => rfl); (case hr => first | (go_simp; done) | (go_simp; rfl)); (case hp => exact (Reps.one (show Kd.M (Kd.int .u8) _ _ _ ((Int.tmod t115 256) % 256) [.int .u8 ((Int.tmod t115 256) % 256)] from rfl) (Reps.one (show Kd.M (Kd.int .u8) _ _ _ (((Int.tdiv t115 256) % 4294967296) % 256) [.int .u8 (((Int.tdiv t115 256) % 4294967296) % 256)] from rfl) (Reps.one (show Kd.M (Kd.int .u8) _ _ _ (((Int.tdiv t115 65536) % 4294967296) % 256) [.int .u8 (((Int.tdiv t115 65536) % 4294967296) % 256)] from rfl) (Reps.one (show Kd.M (Kd.int .u8) _ _ _ (((Int.tdiv t115 16777216) % 4294967296) % 256) [.int .u8 (((Int.tdiv t115 16777216) % 4294967296) % 256)] from rfl) (Reps.none _ _)))))); intro v123 w8 ho9 hb hg_ hnew_; clear hg_ hnew_; (first | rw [← Ny122.out] at ho9 | (simp only [Int.reduceToNat] at ho9; rw [← Ny122.out] at ho9)); have n0_ := Aside0.mk (Kd.R_elder' (by (with_reducible repeat (first | apply Kd.R_alloc | apply Kd.R_drewN | apply Kd.R_drew)); exact HO121.out) (Kd.R_base ho9) hb); have n1_ := Aside0.mk (Kd.R_lower (Kd.R_new' ho9 (Kd.R_lt (by (with_reducible repeat (first | apply Kd.R_alloc | apply Kd.R_drewN | apply Kd.R_drew)); exact HO121.out))) (below_size (by repeat (first | (with_reducible first | exact HB.out | apply below_alloc | apply pw_below_drewN | apply below_drew1) | exact HB.out)))); have n2_ := Aside0.mk (below_step (by repeat (first | (with_reducible first | exact HB.out | apply below_alloc | apply pw_below_drewN | apply below_drew1) | exact HB.out)) hb); clear HO121; clear HB; have HO121 := n0_; have HO124 := n1_; have HB := n2_; clear n0_ n1_ n2_; clear hb ho9; obtain ⟨Ao11, co11, eo11⟩ := Kd.R_slice HO124.out; subst eo11) | ((with_reducible refine gate_builtin (b := .append) (xs := #[.tmp 10, .tmp 25]) rfl ?_); at_builtin; refine Kd.R_append_rows (Kd.int .u8) (w0 := w) w.heap.size rfl (.tmp 10) (.tmp 25) 32 5 (.int .u8 0) 1 rfl Try.underlying32 info5 rfl (by decide) (by omega) v120 y119 y122 _ _ _ (fun k_ => some k_ ≠ (.slice Ao11 y122.length co11 : Value).ownBlock) (fun _ => False) rfl rfl ?aO ?aR (fun _ _ h => h) (fun _ h => h.elim) ?aF ?aB ?aS ?aL ?_; (case aR => repeat (first | exact (Kd.R_reads' HO124.out).2.2 | (with_reducible refine Kd.C_alloc ?_ _) | (with_reducible refine Kd.C_drewN ?_ _) | (with_reducible refine Kd.C_drew ?_))); (case aB => exact (by repeat (first | (with_reducible first | exact HB.out | apply below_alloc | apply pw_below_drewN | apply below_drew1) | exact HB.out))); (case aF => exact (fun k_ hk => Kd.fresh' (Kd.R_lt (by (with_reducible repeat (first | apply Kd.R_alloc | apply Kd.R_drewN | apply Kd.R_drew)); exact HO124.out)) k_ hk)); (case aO => exact (by (with_reducible repeat (first | apply Kd.R_alloc | apply Kd.R_drewN | apply Kd.R_drew)); exact Kd.R_mono HO121.out (fun _ hk => hk.2))); (case aS => exact (below_size (by repeat (first | (with_reducible first | exact HB.out | apply below_alloc | apply pw_below_drewN | apply below_drew1) | exact HB.out)))); (case aL => have := LMc4.out; omega); intro v126 w10 ho hb hg hat; rw [← Ny125.out] at ho; have n0_ := Aside0.mk (Kd.R_after (ok := (fun _ => True)) (by (with_reducible repeat (first | apply Kd.R_alloc | apply Kd.R_drewN | apply Kd.R_drew)); exact HO124.out) hg hat); have n1_ := Aside0.mk (hb); have n2_ := Aside0.mk (ho); clear HO124; clear HB; clear HO121; have HO124 := n0_; have HB := n1_; have HO127 := n2_; clear n0_ n1_ n2_; clear ho hb hg hat))
      go_ret
      exact ⟨_, by first | rfl | (simp [errW_none, errW_some] <;> rfl) | (simp [*, errW_none, errW_some] <;> rfl), by (with_reducible repeat (first | apply Kd.R_alloc | apply Kd.R_drewN | apply Kd.R_drew)); exact Kd.R_mono HO127.out (fun _ hk => trivial), by repeat (first | (with_reducible first | exact HB.out | apply below_alloc | apply pw_below_drewN | apply below_drew1) | exact HB.out)⟩
    · rw [if_neg c4] at H
      exact absurd H (by simp)
  · rw [if_neg c3] at H
    exact absurd H (by simp)

end Go.Proofs.Ytmhpcjncngonbaa.Q
/- Functions of the translation as plain Lean functions, each with a proof that the Go code comes to its answers, wherever the function has one; no other condition. Written by this session's own program (wip/myprint.py). -/
namespace Go.Proofs.Ytmhpcjncngonbaa.Q
open Go.RowKit Go.Proofs.Ytmhpcjncngonbaa.Mine Go.Proofs.YtmhpcjncngonbaaW.PrintWords Go.Proofs.YtmhpcjncngonbaaW.PrintLast Go.Proofs.YtmhpcjncngonbaaW.PrintMore
attribute [local go_sem] max2_int min2_int max_two min_two max_three min_three max_four min_four   -- for this text's walks alone
set_option linter.unusedVariables false
set_option linter.unusedSimpArgs false

/-! ### exergueref08_Cut: function 13 -/
def exergueref08_Cut.f (k : Nat) (l0 : List Int) : Option (List Int × Int) := if (wrap64 ((l0.length : Int) - 4)) < 0 then (some (([] : List Int), 2)) else (if 0 ≤ (wrap64 ((l0.length : Int) - 4)) then (if (wrap64 ((l0.length : Int) - 4)) < (l0.length : Int) then (if 0 ≤ (wrap64 ((wrap64 ((l0.length : Int) - 4)) + 1)) then (if (wrap64 ((wrap64 ((l0.length : Int) - 4)) + 1)) < (l0.length : Int) then (if 0 ≤ (wrap64 ((wrap64 ((l0.length : Int) - 4)) + 2)) then (if (wrap64 ((wrap64 ((l0.length : Int) - 4)) + 2)) < (l0.length : Int) then (if 0 ≤ (wrap64 ((wrap64 ((l0.length : Int) - 4)) + 3)) then (if (wrap64 ((wrap64 ((l0.length : Int) - 4)) + 3)) < (l0.length : Int) then (if (wrap64 ((l0.length : Int) - 4)) ≤ (l0.length : Int) then ((exergueref08_Of.f k (l0.take ((wrap64 ((l0.length : Int) - 4)) : Int).toNat)).bind fun t190 => (if ((((((((rd l0 (wrap64 ((l0.length : Int) - 4))) % 4294967296) + ((((rd l0 (wrap64 ((wrap64 ((l0.length : Int) - 4)) + 1))) % 4294967296) * 256) % 4294967296)) % 4294967296) + ((((rd l0 (wrap64 ((wrap64 ((l0.length : Int) - 4)) + 2))) % 4294967296) * 65536) % 4294967296)) % 4294967296) + ((((rd l0 (wrap64 ((wrap64 ((l0.length : Int) - 4)) + 3))) % 4294967296) * 16777216) % 4294967296)) % 4294967296) = t190 then (some ((l0.take ((wrap64 ((l0.length : Int) - 4)) : Int).toNat), 0)) else (some (([] : List Int), 6)))) else (none)) else (none)) else (none)) else (none)) else (none)) else (none)) else (none)) else (none)) else (none))
theorem exergueref08_Cut.mono : ∀ a0 k, LeO (exergueref08_Cut.f k a0) (exergueref08_Cut.f (k + 1) a0) := by
  intro a0 k
  unfold exergueref08_Cut.f
  repeat' first
      | (with_reducible exact exergueref08_Of.mono _ _)
      | (with_reducible exact LeO.refl _)
      | (with_reducible exact LeO.none _)
      | (with_reducible refine LeO.ite ?_ ?_)
      | (with_reducible refine LeO.bind ?_ (fun _ => ?_))
      | exact exergueref08_Of.mono _ _
      | exact LeO.none _
      | refine LeO.ite ?_ ?_
      | refine LeO.bind ?_ (fun _ => ?_)
set_option maxHeartbeats 8000000 in
set_option maxRecDepth 100000 in
theorem exergueref08_Cut.calls (k : Nat) (P0_ : Nat → Prop) (A0 : Option Addr) (c0 : Nat) (l0 : List Int) (r1 : List Int) (r2 : Int) (w : World) (hs0 : Kd.V (Kd.int .u8) 5 w w.heap.size (fun k_ => P0_ k_) (.slice A0 l0.length c0) l0) (h : exergueref08_Cut.f k l0 = some (r1, r2)) :
    Calls Try.prog 13 #[.slice A0 l0.length c0] w fun e w' => ∃ v0_ : Value, e = .returned (.tuple #[v0_, .int .i64 r2]) ∧ Kd.V (Kd.int .u8) 5 w' w.heap.size (fun k_ => (P0_ k_ ∨ w.heap.size ≤ k_)) v0_ r1 ∧ Below w.heap.size w w' := by
  have HO0 := Aside0.mk (show Kd.V (Kd.int .u8) 5 w w.heap.size (fun k_ => (P0_ k_ ∨ w.heap.size ≤ k_)) (.slice A0 l0.length c0) l0 from Kd.V_mono hs0 (fun k_ hk => .inl hk))
  have HB := Aside0.mk (Below.refl w.heap.size w)
  have H : (if (wrap64 ((l0.length : Int) - 4)) < 0 then (some (([] : List Int), 2)) else (if 0 ≤ (wrap64 ((l0.length : Int) - 4)) then (if (wrap64 ((l0.length : Int) - 4)) < (l0.length : Int) then (if 0 ≤ (wrap64 ((wrap64 ((l0.length : Int) - 4)) + 1)) then (if (wrap64 ((wrap64 ((l0.length : Int) - 4)) + 1)) < (l0.length : Int) then (if 0 ≤ (wrap64 ((wrap64 ((l0.length : Int) - 4)) + 2)) then (if (wrap64 ((wrap64 ((l0.length : Int) - 4)) + 2)) < (l0.length : Int) then (if 0 ≤ (wrap64 ((wrap64 ((l0.length : Int) - 4)) + 3)) then (if (wrap64 ((wrap64 ((l0.length : Int) - 4)) + 3)) < (l0.length : Int) then (if (wrap64 ((l0.length : Int) - 4)) ≤ (l0.length : Int) then ((exergueref08_Of.f k (l0.take ((wrap64 ((l0.length : Int) - 4)) : Int).toNat)).bind fun t190 => (if ((((((((rd l0 (wrap64 ((l0.length : Int) - 4))) % 4294967296) + ((((rd l0 (wrap64 ((wrap64 ((l0.length : Int) - 4)) + 1))) % 4294967296) * 256) % 4294967296)) % 4294967296) + ((((rd l0 (wrap64 ((wrap64 ((l0.length : Int) - 4)) + 2))) % 4294967296) * 65536) % 4294967296)) % 4294967296) + ((((rd l0 (wrap64 ((wrap64 ((l0.length : Int) - 4)) + 3))) % 4294967296) * 16777216) % 4294967296)) % 4294967296) = t190 then (some ((l0.take ((wrap64 ((l0.length : Int) - 4)) : Int).toNat), 0)) else (some (([] : List Int), 6)))) else (none)) else (none)) else (none)) else (none)) else (none)) else (none)) else (none)) else (none)) else (none))) = some (r1, r2) := h
  clear h
  by_cases c2 : (wrap64 ((l0.length : Int) - 4)) < 0
  · rw [if_pos c2] at H
    have c2b0 : decide ((wrap64 ((l0.length : Int) - 4)) < 0) = true := decide_eq_true c2
    clear c2
    simp only [Option.some.injEq, Prod.mk.injEq] at H
    obtain ⟨rfl, rfl⟩ := H
    go_enter Try.func13, Try.ntmps13
    go_wp2
    repeat (go_quiet (fail); try go_wp2)
    go_ret2
    exact ⟨_, by first | rfl | (simp [errW_none, errW_some] <;> rfl) | (simp [*, errW_none, errW_some] <;> rfl), Kd.V_mono (Kd.R_V (base := 0) (ok := fun k_ => w.heap.size ≤ k_) (by first | exact Kd.R_nil _ _ _ _ _ | exact Kd.N_nil _ _ _ _ _ | exact Kd.V_nil _ _ _ _ _ | exact Kd.Q_nil _ _ _ _ _ | exact Kd.S_nil _ _ _ _ _)) (fun k_ hk => by first | exact ⟨(.inr (hk.1)), hk.2⟩ | exact (.inr (hk))), by repeat (first | (with_reducible first | exact HB.out | apply below_alloc | apply pw_below_drewN | apply below_drew1) | exact HB.out)⟩
  · rw [if_neg c2] at H
    have c2b0 : decide ((wrap64 ((l0.length : Int) - 4)) < 0) = false := decide_eq_false c2
    clear c2
    obtain ⟨ji3, hji3⟩ : ∃ j_ : Int, (wrap64 ((l0.length : Int) - 4)) = j_ := ⟨_, rfl⟩
    replace H : (if 0 ≤ (ji3) then (if (ji3) < (l0.length : Int) then (if 0 ≤ (wrap64 ((ji3) + 1)) then (if (wrap64 ((ji3) + 1)) < (l0.length : Int) then (if 0 ≤ (wrap64 ((ji3) + 2)) then (if (wrap64 ((ji3) + 2)) < (l0.length : Int) then (if 0 ≤ (wrap64 ((ji3) + 3)) then (if (wrap64 ((ji3) + 3)) < (l0.length : Int) then (if (ji3) ≤ (l0.length : Int) then ((exergueref08_Of.f k (l0.take ((ji3) : Int).toNat)).bind fun t190 => (if ((((((((rd l0 (ji3)) % 4294967296) + ((((rd l0 (wrap64 ((ji3) + 1))) % 4294967296) * 256) % 4294967296)) % 4294967296) + ((((rd l0 (wrap64 ((ji3) + 2))) % 4294967296) * 65536) % 4294967296)) % 4294967296) + ((((rd l0 (wrap64 ((ji3) + 3))) % 4294967296) * 16777216) % 4294967296)) % 4294967296) = t190 then (some ((l0.take ((ji3) : Int).toNat), 0)) else (some (([] : List Int), 6)))) else (none)) else (none)) else (none)) else (none)) else (none)) else (none)) else (none)) else (none)) else (none)) = some (r1, r2) := by first | (rw [hji3] at H; exact H) | (simp only [hji3] at H ⊢; exact H)
    (try rw [hji3] at c2b0)
    have hji3w : (IntKind.i64.wrap ((l0.length : Int) - 4)) = ji3 := (i64_w _).trans hji3
    by_cases c4 : 0 ≤ (ji3)
    · rw [if_pos c4] at H
      have c4b0 : decide (0 ≤ (ji3)) = true := decide_eq_true c4
      clear c4
      by_cases c5 : (ji3) < (l0.length : Int)
      · rw [if_pos c5] at H
        have c5b0 : decide ((ji3) < (l0.length : Int)) = true := decide_eq_true c5
        clear c5
        obtain ⟨ji6, hji6⟩ : ∃ j_ : Int, (wrap64 ((ji3) + 1)) = j_ := ⟨_, rfl⟩
        replace H : (if 0 ≤ (ji6) then (if (ji6) < (l0.length : Int) then (if 0 ≤ (wrap64 ((ji3) + 2)) then (if (wrap64 ((ji3) + 2)) < (l0.length : Int) then (if 0 ≤ (wrap64 ((ji3) + 3)) then (if (wrap64 ((ji3) + 3)) < (l0.length : Int) then (if (ji3) ≤ (l0.length : Int) then ((exergueref08_Of.f k (l0.take ((ji3) : Int).toNat)).bind fun t190 => (if ((((((((rd l0 (ji3)) % 4294967296) + ((((rd l0 (ji6)) % 4294967296) * 256) % 4294967296)) % 4294967296) + ((((rd l0 (wrap64 ((ji3) + 2))) % 4294967296) * 65536) % 4294967296)) % 4294967296) + ((((rd l0 (wrap64 ((ji3) + 3))) % 4294967296) * 16777216) % 4294967296)) % 4294967296) = t190 then (some ((l0.take ((ji3) : Int).toNat), 0)) else (some (([] : List Int), 6)))) else (none)) else (none)) else (none)) else (none)) else (none)) else (none)) else (none)) = some (r1, r2) := by first | (rw [hji6] at H; exact H) | (simp only [hji6] at H ⊢; exact H)
        have hji6w : (IntKind.i64.wrap ((ji3) + 1)) = ji6 := (i64_w _).trans hji6
        by_cases c7 : 0 ≤ (ji6)
        · rw [if_pos c7] at H
          have c7b0 : decide (0 ≤ (ji6)) = true := decide_eq_true c7
          clear c7
          by_cases c8 : (ji6) < (l0.length : Int)
          · rw [if_pos c8] at H
            have c8b0 : decide ((ji6) < (l0.length : Int)) = true := decide_eq_true c8
            clear c8
            obtain ⟨ji9, hji9⟩ : ∃ j_ : Int, (wrap64 ((ji3) + 2)) = j_ := ⟨_, rfl⟩
            replace H : (if 0 ≤ (ji9) then (if (ji9) < (l0.length : Int) then (if 0 ≤ (wrap64 ((ji3) + 3)) then (if (wrap64 ((ji3) + 3)) < (l0.length : Int) then (if (ji3) ≤ (l0.length : Int) then ((exergueref08_Of.f k (l0.take ((ji3) : Int).toNat)).bind fun t190 => (if ((((((((rd l0 (ji3)) % 4294967296) + ((((rd l0 (ji6)) % 4294967296) * 256) % 4294967296)) % 4294967296) + ((((rd l0 (ji9)) % 4294967296) * 65536) % 4294967296)) % 4294967296) + ((((rd l0 (wrap64 ((ji3) + 3))) % 4294967296) * 16777216) % 4294967296)) % 4294967296) = t190 then (some ((l0.take ((ji3) : Int).toNat), 0)) else (some (([] : List Int), 6)))) else (none)) else (none)) else (none)) else (none)) else (none)) = some (r1, r2) := by first | (rw [hji9] at H; exact H) | (simp only [hji9] at H ⊢; exact H)
            have hji9w : (IntKind.i64.wrap ((ji3) + 2)) = ji9 := (i64_w _).trans hji9
            by_cases c10 : 0 ≤ (ji9)
            · rw [if_pos c10] at H
              have c10b0 : decide (0 ≤ (ji9)) = true := decide_eq_true c10
              clear c10
              by_cases c11 : (ji9) < (l0.length : Int)
              · rw [if_pos c11] at H
                have c11b0 : decide ((ji9) < (l0.length : Int)) = true := decide_eq_true c11
                clear c11
                obtain ⟨ji12, hji12⟩ : ∃ j_ : Int, (wrap64 ((ji3) + 3)) = j_ := ⟨_, rfl⟩
                replace H : (if 0 ≤ (ji12) then (if (ji12) < (l0.length : Int) then (if (ji3) ≤ (l0.length : Int) then ((exergueref08_Of.f k (l0.take ((ji3) : Int).toNat)).bind fun t190 => (if ((((((((rd l0 (ji3)) % 4294967296) + ((((rd l0 (ji6)) % 4294967296) * 256) % 4294967296)) % 4294967296) + ((((rd l0 (ji9)) % 4294967296) * 65536) % 4294967296)) % 4294967296) + ((((rd l0 (ji12)) % 4294967296) * 16777216) % 4294967296)) % 4294967296) = t190 then (some ((l0.take ((ji3) : Int).toNat), 0)) else (some (([] : List Int), 6)))) else (none)) else (none)) else (none)) = some (r1, r2) := by first | (rw [hji12] at H; exact H) | (simp only [hji12] at H ⊢; exact H)
                have hji12w : (IntKind.i64.wrap ((ji3) + 3)) = ji12 := (i64_w _).trans hji12
                by_cases c13 : 0 ≤ (ji12)
                · rw [if_pos c13] at H
                  have c13b0 : decide (0 ≤ (ji12)) = true := decide_eq_true c13
                  clear c13
                  by_cases c14 : (ji12) < (l0.length : Int)
                  · rw [if_pos c14] at H
                    have c14b0 : decide ((ji12) < (l0.length : Int)) = true := decide_eq_true c14
                    clear c14
                    have c15b0 := eq_true (of_decide_eq_true (by first | (with_reducible assumption) | assumption) : 0 ≤ (ji3))
                    by_cases c16 : (ji3) ≤ (l0.length : Int)
                    · rw [if_pos c16] at H
                      have c16b0 := eq_true c16
                      have c16b1 : decide ((ji3) ≤ (l0.length : Int)) = true := decide_eq_true c16
                      clear c16
                      obtain ⟨y185, hy185⟩ : ∃ y_ : List Int, y_ = (l0.take ((ji3) : Int).toNat) := ⟨_, rfl⟩
                      replace H : ((exergueref08_Of.f k y185).bind fun t190 => (if ((((((((rd l0 (ji3)) % 4294967296) + ((((rd l0 (ji6)) % 4294967296) * 256) % 4294967296)) % 4294967296) + ((((rd l0 (ji9)) % 4294967296) * 65536) % 4294967296)) % 4294967296) + ((((rd l0 (ji12)) % 4294967296) * 16777216) % 4294967296)) % 4294967296) = t190 then (some ((l0.take ((ji3) : Int).toNat), 0)) else (some (([] : List Int), 6)))) = some (r1, r2) := by first | (rw [hy185]; with_reducible exact H) | (have H2_ := (Option.bind_some _ _).symm.trans H; rw [hy185]; with_reducible exact H2_) | (have H2_ := (Option.bind_some _ _).symm.trans H; with_reducible exact H2_) | with_reducible exact H | (rw [hy185]; exact H) | exact H
                      have Ny185 := Aside0.mk hy185
                      clear hy185
                      replace H := Option.bind_eq_some_iff.mp H
                      obtain ⟨t190, A170, H⟩ := H
                      replace H : (if ((((((((rd l0 (ji3)) % 4294967296) + ((((rd l0 (ji6)) % 4294967296) * 256) % 4294967296)) % 4294967296) + ((((rd l0 (ji9)) % 4294967296) * 65536) % 4294967296)) % 4294967296) + ((((rd l0 (ji12)) % 4294967296) * 16777216) % 4294967296)) % 4294967296) = t190 then (some ((l0.take ((ji3) : Int).toNat), 0)) else (some (([] : List Int), 6))) = some (r1, r2) := H
                      have A17 := Aside0.mk A170
                      clear A170
                      by_cases c18 : ((((((((rd l0 (ji3)) % 4294967296) + ((((rd l0 (ji6)) % 4294967296) * 256) % 4294967296)) % 4294967296) + ((((rd l0 (ji9)) % 4294967296) * 65536) % 4294967296)) % 4294967296) + ((((rd l0 (ji12)) % 4294967296) * 16777216) % 4294967296)) % 4294967296) = t190
                      · rw [if_pos c18] at H
                        have c18b0 : (((((((((rd l0 (ji3)) % 4294967296) + ((((rd l0 (ji6)) % 4294967296) * 256) % 4294967296)) % 4294967296) + ((((rd l0 (ji9)) % 4294967296) * 65536) % 4294967296)) % 4294967296) + ((((rd l0 (ji12)) % 4294967296) * 16777216) % 4294967296)) % 4294967296) == t190) = true := beq_iff_eq.mpr c18
                        have c18b1 : (((((((((rd l0 (ji3)) % 4294967296) + ((((rd l0 (ji6)) % 4294967296) * 256) % 4294967296)) % 4294967296) + ((((rd l0 (ji9)) % 4294967296) * 65536) % 4294967296)) % 4294967296) + ((((rd l0 (ji12)) % 4294967296) * 16777216) % 4294967296)) % 4294967296) != t190) = false := bne_eq_false_iff_eq.mpr c18
                        clear c18
                        have c19b0 := eq_true (of_decide_eq_true (by first | (with_reducible assumption) | assumption) : 0 ≤ (ji3))
                        have c20b0 := eq_true (of_decide_eq_true (by first | (with_reducible assumption) | assumption) : (ji3) ≤ (l0.length : Int))
                        obtain ⟨y191, hy191⟩ : ∃ y_ : List Int, y_ = (l0.take ((ji3) : Int).toNat) := ⟨_, rfl⟩
                        replace H : (some (y191, 0)) = some (r1, r2) := by first | (rw [hy191]; with_reducible exact H) | (have H2_ := (Option.bind_some _ _).symm.trans H; rw [hy191]; with_reducible exact H2_) | (have H2_ := (Option.bind_some _ _).symm.trans H; with_reducible exact H2_) | with_reducible exact H | (rw [hy191]; exact H) | exact H
                        have Ny191 := Aside0.mk hy191
                        clear hy191
                        simp only [Option.some.injEq, Prod.mk.injEq] at H
                        obtain ⟨rfl, rfl⟩ := H
                        have p181 : 0 ≤ ((ji3) : Int) := of_decide_eq_true (by first | (with_reducible assumption) | assumption)
                        have q181 : (ji3) < (l0.length : Int) := of_decide_eq_true (by first | (with_reducible assumption) | assumption)
                        obtain ⟨ad181, e181, hx181_0⟩ := Kd.at_int (Kd.V_reads' HO0.out).2.2 (ji3) p181 q181
                        cases e181
                        replace p181 := eq_true p181
                        replace q181 := eq_true q181
                        have p182 : 0 ≤ ((ji6) : Int) := of_decide_eq_true (by first | (with_reducible assumption) | assumption)
                        have q182 : (ji6) < (l0.length : Int) := of_decide_eq_true (by first | (with_reducible assumption) | assumption)
                        obtain ⟨ad182, e182, hx182_0⟩ := Kd.at_int (Kd.V_reads' HO0.out).2.2 (ji6) p182 q182
                        obtain rfl : ad181 = ad182 := (by injection e182)
                        replace p182 := eq_true p182
                        replace q182 := eq_true q182
                        have p183 : 0 ≤ ((ji9) : Int) := of_decide_eq_true (by first | (with_reducible assumption) | assumption)
                        have q183 : (ji9) < (l0.length : Int) := of_decide_eq_true (by first | (with_reducible assumption) | assumption)
                        obtain ⟨ad183, e183, hx183_0⟩ := Kd.at_int (Kd.V_reads' HO0.out).2.2 (ji9) p183 q183
                        obtain rfl : ad181 = ad183 := (by injection e183)
                        replace p183 := eq_true p183
                        replace q183 := eq_true q183
                        have p184 : 0 ≤ ((ji12) : Int) := of_decide_eq_true (by first | (with_reducible assumption) | assumption)
                        have q184 : (ji12) < (l0.length : Int) := of_decide_eq_true (by first | (with_reducible assumption) | assumption)
                        obtain ⟨ad184, e184, hx184_0⟩ := Kd.at_int (Kd.V_reads' HO0.out).2.2 (ji12) p184 q184
                        obtain rfl : ad181 = ad184 := (by injection e184)
                        replace p184 := eq_true p184
                        replace q184 := eq_true q184
                        have q21 : ((ji3) : Int) ≤ ((l0.length : Int) : Int) := of_decide_eq_true (by first | (with_reducible assumption) | assumption)
                        obtain ⟨i021, hi021, _, hsz21, _⟩ := info_parts info5
                        have hroom21 : l0.length ≤ c0 := (Kd.V_reads' HO0.out).2.1
                        have hC21 : Kd.F (Kd.int .u8) _ _ (some ad181) l0.length l0 := (Kd.V_at (base := w.heap.size) HO0.out).2.2
                        have hcut21 := cut_to (P := Try.prog) 32 5 .i64 Try.underlying32 hi021 (some ad181) l0.length c0 (ji3) (of_decide_eq_true (by first | (with_reducible assumption) | assumption)) q21 hroom21
                        have hr21 := Kd.F_take (m := ((ji3) : Int).toNat) hC21 (by omega)
                        have hy21 : y185.length = ((ji3) : Int).toNat := (by rw [Ny185.out, List.length_take]; omega)
                        rw [← Ny185.out] at hr21
                        rw [← hy21] at hcut21
                        have HO189 := Aside0.mk (show Kd.V (Kd.int .u8) 5 _ w.heap.size _ (.slice (some ad181) y185.length c0) y185 from Kd.V_mk (by omega) hr21)
                        have HC189 := Aside0.mk (show y185.length ≤ c0 from by omega)
                        clear hr21 hC21 hroom21 hi021 hsz21
                        have KY21 := Aside0.mk hy21
                        clear hy21
                        replace q21 := eq_true q21
                        go_enter Try.func13, Try.ntmps13
                        go_wp2_with (first | (go_at_call 34; (with_reducible refine (exergueref08_Of.calls k _ _ y185 t190 _ ?side1 ?side2 A17.out).mono ?_); (case side1 => repeat (first | exact (Kd.V_reads' HO189.out).2.2 | (with_reducible refine Kd.C_alloc ?_ _) | (with_reducible refine Kd.C_drewN ?_ _) | (with_reducible refine Kd.C_drew ?_))); (case side2 => exact (Kd.V_reads' HO189.out).2.1); rintro e w' ⟨rfl, ⟨nd, rfl⟩⟩; (try first | exact ⟨rfl, _, World.drewN_drewN _ _ _⟩ | exact ⟨rfl, _, Eq.trans (World.drewN_drewN _ _ _) (congrArg (World.drewN _) (Nat.add_assoc _ _ _))⟩); have q22 : ((ji3) : Int) ≤ ((l0.length : Int) : Int) := of_decide_eq_true (by first | (with_reducible assumption) | assumption); obtain ⟨i022, hi022, _, hsz22, _⟩ := info_parts info5; have hroom22 : l0.length ≤ c0 := (Kd.V_reads' HO0.out).2.1; have hC22 : Kd.F (Kd.int .u8) _ _ (some ad181) l0.length l0 := (Kd.V_at (base := w.heap.size) HO0.out).2.2; have hcut22 := cut_to (P := Try.prog) 32 5 .i64 Try.underlying32 hi022 (some ad181) l0.length c0 (ji3) (of_decide_eq_true (by first | (with_reducible assumption) | assumption)) q22 hroom22; have hr22 := Kd.F_take (m := ((ji3) : Int).toNat) hC22 (by omega); have hy22 : y191.length = ((ji3) : Int).toNat := (by rw [Ny191.out, List.length_take]; omega); rw [← Ny191.out] at hr22; rw [← hy22] at hcut22; have HO195 := Aside0.mk (show Kd.V (Kd.int .u8) 5 _ w.heap.size _ (.slice (some ad181) y191.length c0) y191 from Kd.V_mk (by omega) hr22); have HC195 := Aside0.mk (show y191.length ≤ c0 from by omega); clear hr22 hC22 hroom22 hi022 hsz22; have KY22 := Aside0.mk hy22; clear hy22; replace q22 := eq_true q22))
                        repeat (go_quiet (first | (go_at_call 34; (with_reducible refine (exergueref08_Of.calls k _ _ y185 t190 _ ?side1 ?side2 A17.out).mono ?_); (case side1 => repeat (first | exact (Kd.V_reads' HO189.out).2.2 | (with_reducible refine Kd.C_alloc ?_ _) | (with_reducible refine Kd.C_drewN ?_ _) | (with_reducible refine Kd.C_drew ?_))); (case side2 => exact (Kd.V_reads' HO189.out).2.1); rintro e w' ⟨rfl, ⟨nd, rfl⟩⟩; (try first | exact ⟨rfl, _, World.drewN_drewN _ _ _⟩ | exact ⟨rfl, _, Eq.trans (World.drewN_drewN _ _ _) (congrArg (World.drewN _) (Nat.add_assoc _ _ _))⟩); have q22 : ((ji3) : Int) ≤ ((l0.length : Int) : Int) := of_decide_eq_true (by first | (with_reducible assumption) | assumption); obtain ⟨i022, hi022, _, hsz22, _⟩ := info_parts info5; have hroom22 : l0.length ≤ c0 := (Kd.V_reads' HO0.out).2.1; have hC22 : Kd.F (Kd.int .u8) _ _ (some ad181) l0.length l0 := (Kd.V_at (base := w.heap.size) HO0.out).2.2; have hcut22 := cut_to (P := Try.prog) 32 5 .i64 Try.underlying32 hi022 (some ad181) l0.length c0 (ji3) (of_decide_eq_true (by first | (with_reducible assumption) | assumption)) q22 hroom22; have hr22 := Kd.F_take (m := ((ji3) : Int).toNat) hC22 (by omega); have hy22 : y191.length = ((ji3) : Int).toNat := (by rw [Ny191.out, List.length_take]; omega); rw [← Ny191.out] at hr22; rw [← hy22] at hcut22; have HO195 := Aside0.mk (show Kd.V (Kd.int .u8) 5 _ w.heap.size _ (.slice (some ad181) y191.length c0) y191 from Kd.V_mk (by omega) hr22); have HC195 := Aside0.mk (show y191.length ≤ c0 from by omega); clear hr22 hC22 hroom22 hi022 hsz22; have KY22 := Aside0.mk hy22; clear hy22; replace q22 := eq_true q22)); try go_wp2_with (first | (go_at_call 34; (with_reducible refine (exergueref08_Of.calls k _ _ y185 t190 _ ?side1 ?side2 A17.out).mono ?_); (case side1 => repeat (first | exact (Kd.V_reads' HO189.out).2.2 | (with_reducible refine Kd.C_alloc ?_ _) | (with_reducible refine Kd.C_drewN ?_ _) | (with_reducible refine Kd.C_drew ?_))); (case side2 => exact (Kd.V_reads' HO189.out).2.1); rintro e w' ⟨rfl, ⟨nd, rfl⟩⟩; (try first | exact ⟨rfl, _, World.drewN_drewN _ _ _⟩ | exact ⟨rfl, _, Eq.trans (World.drewN_drewN _ _ _) (congrArg (World.drewN _) (Nat.add_assoc _ _ _))⟩); have q22 : ((ji3) : Int) ≤ ((l0.length : Int) : Int) := of_decide_eq_true (by first | (with_reducible assumption) | assumption); obtain ⟨i022, hi022, _, hsz22, _⟩ := info_parts info5; have hroom22 : l0.length ≤ c0 := (Kd.V_reads' HO0.out).2.1; have hC22 : Kd.F (Kd.int .u8) _ _ (some ad181) l0.length l0 := (Kd.V_at (base := w.heap.size) HO0.out).2.2; have hcut22 := cut_to (P := Try.prog) 32 5 .i64 Try.underlying32 hi022 (some ad181) l0.length c0 (ji3) (of_decide_eq_true (by first | (with_reducible assumption) | assumption)) q22 hroom22; have hr22 := Kd.F_take (m := ((ji3) : Int).toNat) hC22 (by omega); have hy22 : y191.length = ((ji3) : Int).toNat := (by rw [Ny191.out, List.length_take]; omega); rw [← Ny191.out] at hr22; rw [← hy22] at hcut22; have HO195 := Aside0.mk (show Kd.V (Kd.int .u8) 5 _ w.heap.size _ (.slice (some ad181) y191.length c0) y191 from Kd.V_mk (by omega) hr22); have HC195 := Aside0.mk (show y191.length ≤ c0 from by omega); clear hr22 hC22 hroom22 hi022 hsz22; have KY22 := Aside0.mk hy22; clear hy22; replace q22 := eq_true q22)))
                        go_ret2
                        exact ⟨_, by first | rfl | (simp [errW_none, errW_some] <;> rfl) | (simp only [← hji3, ← hji6, ← hji9, ← hji12]; first | rfl | (simp [errW_none, errW_some] <;> rfl)) | (simp [*, errW_none, errW_some] <;> rfl), by (with_reducible repeat (first | apply Kd.V_alloc | apply Kd.V_drewN | apply Kd.V_drew)); first | exact HO195.out | (rw [show y191 = y185 from by rw [Ny191.out, Ny185.out]]; exact HO189.out), by repeat (first | (with_reducible first | exact HB.out | apply below_alloc | apply pw_below_drewN | apply below_drew1) | exact HB.out)⟩
                      · rw [if_neg c18] at H
                        have c18b0 : (((((((((rd l0 (ji3)) % 4294967296) + ((((rd l0 (ji6)) % 4294967296) * 256) % 4294967296)) % 4294967296) + ((((rd l0 (ji9)) % 4294967296) * 65536) % 4294967296)) % 4294967296) + ((((rd l0 (ji12)) % 4294967296) * 16777216) % 4294967296)) % 4294967296) == t190) = false := beq_eq_false_iff_ne.mpr c18
                        have c18b1 : (((((((((rd l0 (ji3)) % 4294967296) + ((((rd l0 (ji6)) % 4294967296) * 256) % 4294967296)) % 4294967296) + ((((rd l0 (ji9)) % 4294967296) * 65536) % 4294967296)) % 4294967296) + ((((rd l0 (ji12)) % 4294967296) * 16777216) % 4294967296)) % 4294967296) != t190) = true := bne_iff_ne.mpr c18
                        simp only [Option.some.injEq, Prod.mk.injEq] at H
                        obtain ⟨rfl, rfl⟩ := H
                        have p181 : 0 ≤ ((ji3) : Int) := of_decide_eq_true (by first | (with_reducible assumption) | assumption)
                        have q181 : (ji3) < (l0.length : Int) := of_decide_eq_true (by first | (with_reducible assumption) | assumption)
                        obtain ⟨ad181, e181, hx181_0⟩ := Kd.at_int (Kd.V_reads' HO0.out).2.2 (ji3) p181 q181
                        cases e181
                        replace p181 := eq_true p181
                        replace q181 := eq_true q181
                        have p182 : 0 ≤ ((ji6) : Int) := of_decide_eq_true (by first | (with_reducible assumption) | assumption)
                        have q182 : (ji6) < (l0.length : Int) := of_decide_eq_true (by first | (with_reducible assumption) | assumption)
                        obtain ⟨ad182, e182, hx182_0⟩ := Kd.at_int (Kd.V_reads' HO0.out).2.2 (ji6) p182 q182
                        obtain rfl : ad181 = ad182 := (by injection e182)
                        replace p182 := eq_true p182
                        replace q182 := eq_true q182
                        have p183 : 0 ≤ ((ji9) : Int) := of_decide_eq_true (by first | (with_reducible assumption) | assumption)
                        have q183 : (ji9) < (l0.length : Int) := of_decide_eq_true (by first | (with_reducible assumption) | assumption)
                        obtain ⟨ad183, e183, hx183_0⟩ := Kd.at_int (Kd.V_reads' HO0.out).2.2 (ji9) p183 q183
                        obtain rfl : ad181 = ad183 := (by injection e183)
                        replace p183 := eq_true p183
                        replace q183 := eq_true q183
                        have p184 : 0 ≤ ((ji12) : Int) := of_decide_eq_true (by first | (with_reducible assumption) | assumption)
                        have q184 : (ji12) < (l0.length : Int) := of_decide_eq_true (by first | (with_reducible assumption) | assumption)
                        obtain ⟨ad184, e184, hx184_0⟩ := Kd.at_int (Kd.V_reads' HO0.out).2.2 (ji12) p184 q184
                        obtain rfl : ad181 = ad184 := (by injection e184)
                        replace p184 := eq_true p184
                        replace q184 := eq_true q184
                        have q23 : ((ji3) : Int) ≤ ((l0.length : Int) : Int) := of_decide_eq_true (by first | (with_reducible assumption) | assumption)
                        obtain ⟨i023, hi023, _, hsz23, _⟩ := info_parts info5
                        have hroom23 : l0.length ≤ c0 := (Kd.V_reads' HO0.out).2.1
                        have hC23 : Kd.F (Kd.int .u8) _ _ (some ad181) l0.length l0 := (Kd.V_at (base := w.heap.size) HO0.out).2.2
                        have hcut23 := cut_to (P := Try.prog) 32 5 .i64 Try.underlying32 hi023 (some ad181) l0.length c0 (ji3) (of_decide_eq_true (by first | (with_reducible assumption) | assumption)) q23 hroom23
                        have hr23 := Kd.F_take (m := ((ji3) : Int).toNat) hC23 (by omega)
                        have hy23 : y185.length = ((ji3) : Int).toNat := (by rw [Ny185.out, List.length_take]; omega)
                        rw [← Ny185.out] at hr23
                        rw [← hy23] at hcut23
                        have HO189 := Aside0.mk (show Kd.V (Kd.int .u8) 5 _ w.heap.size _ (.slice (some ad181) y185.length c0) y185 from Kd.V_mk (by omega) hr23)
                        have HC189 := Aside0.mk (show y185.length ≤ c0 from by omega)
                        clear hr23 hC23 hroom23 hi023 hsz23
                        have KY23 := Aside0.mk hy23
                        clear hy23
                        replace q23 := eq_true q23
                        go_enter Try.func13, Try.ntmps13
                        go_wp2_with (first | (go_at_call 34; (with_reducible refine (exergueref08_Of.calls k _ _ y185 t190 _ ?side1 ?side2 A17.out).mono ?_); (case side1 => repeat (first | exact (Kd.V_reads' HO189.out).2.2 | (with_reducible refine Kd.C_alloc ?_ _) | (with_reducible refine Kd.C_drewN ?_ _) | (with_reducible refine Kd.C_drew ?_))); (case side2 => exact (Kd.V_reads' HO189.out).2.1); rintro e w' ⟨rfl, ⟨nd, rfl⟩⟩; (try first | exact ⟨rfl, _, World.drewN_drewN _ _ _⟩ | exact ⟨rfl, _, Eq.trans (World.drewN_drewN _ _ _) (congrArg (World.drewN _) (Nat.add_assoc _ _ _))⟩)))
                        repeat (go_quiet (first | (go_at_call 34; (with_reducible refine (exergueref08_Of.calls k _ _ y185 t190 _ ?side1 ?side2 A17.out).mono ?_); (case side1 => repeat (first | exact (Kd.V_reads' HO189.out).2.2 | (with_reducible refine Kd.C_alloc ?_ _) | (with_reducible refine Kd.C_drewN ?_ _) | (with_reducible refine Kd.C_drew ?_))); (case side2 => exact (Kd.V_reads' HO189.out).2.1); rintro e w' ⟨rfl, ⟨nd, rfl⟩⟩; (try first | exact ⟨rfl, _, World.drewN_drewN _ _ _⟩ | exact ⟨rfl, _, Eq.trans (World.drewN_drewN _ _ _) (congrArg (World.drewN _) (Nat.add_assoc _ _ _))⟩))); try go_wp2_with (first | (go_at_call 34; (with_reducible refine (exergueref08_Of.calls k _ _ y185 t190 _ ?side1 ?side2 A17.out).mono ?_); (case side1 => repeat (first | exact (Kd.V_reads' HO189.out).2.2 | (with_reducible refine Kd.C_alloc ?_ _) | (with_reducible refine Kd.C_drewN ?_ _) | (with_reducible refine Kd.C_drew ?_))); (case side2 => exact (Kd.V_reads' HO189.out).2.1); rintro e w' ⟨rfl, ⟨nd, rfl⟩⟩; (try first | exact ⟨rfl, _, World.drewN_drewN _ _ _⟩ | exact ⟨rfl, _, Eq.trans (World.drewN_drewN _ _ _) (congrArg (World.drewN _) (Nat.add_assoc _ _ _))⟩))))
                        go_ret2
                        exact ⟨_, by first | rfl | (simp [errW_none, errW_some] <;> rfl) | (simp only [← hji3, ← hji6, ← hji9, ← hji12]; first | rfl | (simp [errW_none, errW_some] <;> rfl)) | (simp [*, errW_none, errW_some] <;> rfl), Kd.V_mono (Kd.R_V (base := 0) (ok := fun k_ => w.heap.size ≤ k_) (by first | exact Kd.R_nil _ _ _ _ _ | exact Kd.N_nil _ _ _ _ _ | exact Kd.V_nil _ _ _ _ _ | exact Kd.Q_nil _ _ _ _ _ | exact Kd.S_nil _ _ _ _ _)) (fun k_ hk => by first | exact ⟨(.inr (hk.1)), hk.2⟩ | exact (.inr (hk))), by repeat (first | (with_reducible first | exact HB.out | apply below_alloc | apply pw_below_drewN | apply below_drew1) | exact HB.out)⟩
                    · rw [if_neg c16] at H
                      exact absurd H (by simp)
                  · rw [if_neg c14] at H
                    exact absurd H (by simp)
                · rw [if_neg c13] at H
                  exact absurd H (by simp)
              · rw [if_neg c11] at H
                exact absurd H (by simp)
            · rw [if_neg c10] at H
              exact absurd H (by simp)
          · rw [if_neg c8] at H
            exact absurd H (by simp)
        · rw [if_neg c7] at H
          exact absurd H (by simp)
      · rw [if_neg c5] at H
        exact absurd H (by simp)
    · rw [if_neg c4] at H
      exact absurd H (by simp)

end Go.Proofs.Ytmhpcjncngonbaa.Q
/- What the printed functions of crc and its reference come to: a shift register that is linear; plain functions on numbers and lists. -/
namespace Go.Proofs.Ytmhpcjncngonbaa.Spec
open Go.RowKit Go.Proofs.Ytmhpcjncngonbaa.Mine Go.Proofs.Ytmhpcjncngonbaa.Q Go.Proofs.YtmhpcjncngonbaaW.PrintWords Go.Proofs.YtmhpcjncngonbaaW.PrintLast Go.Proofs.YtmhpcjncngonbaaW.PrintMore
set_option linter.unusedVariables false
set_option linter.unusedSimpArgs false
abbrev W := BitVec 32
def poly : W := 3988292384#32
def s1 (v : W) : W := (v >>> 1) ^^^ (if v.getLsbD 0 then poly else 0#32)
def s8 (v : W) : W := s1 (s1 (s1 (s1 (s1 (s1 (s1 (s1 v)))))))
abbrev Y := BitVec 8
def ext (c : Y) : W := c.setWidth 32
def step (v : W) (c : Y) : W := s8 (v ^^^ ext c)
def F (v : W) (l : List Y) : W := l.foldl step v
theorem F_cons (v : W) (c : Y) (l : List Y) : F v (c :: l) = F (step v c) l := rfl
theorem F_nil (v : W) : F v [] = v := rfl
def xs (a b : List Y) : List Y := List.zipWith (· ^^^ ·) a b
def zeros (n : Nat) : List Y := List.replicate n 0#8
/-- four bytes, the least first, as one number -/
def word (a b c d : Y) : W := ext a ^^^ (ext b <<< 8) ^^^ (ext c <<< 16) ^^^ (ext d <<< 24)
/-! ### numbers as the program has them -/
theorem wr {x : Int} (h : -9223372036854775808 ≤ x) (h2 : x < 9223372036854775808) : wrap64 x = x := by unfold wrap64; omega
theorem succ_of {k b : Nat} (h : b < k) : ∃ m, k = m + 1 ∧ b ≤ m := ⟨k - 1, by omega, by omega⟩
theorem rd_at {a : List Int} {n : Nat} (h : n < a.length) : rd a (n : Int) = a[n] := by simp [rd, List.getD_eq_getElem?_getD, h]
def I (l : List Y) : List Int := l.map fun c => (c.toNat : Int)
theorem I_len (l : List Y) : (I l).length = l.length := by simp [I]
theorem I_append (a b : List Y) : I (a ++ b) = I a ++ I b := by simp [I]
theorem I_inj {a b : List Y} : I a = I b ↔ a = b := by
  unfold I
  exact List.map_inj_right (fun x y h => BitVec.eq_of_toNat_eq (by omega))
theorem bx (a b : W) : Go.bits .xor .u32 (a.toNat : Int) (b.toNat : Int) = ((a ^^^ b).toNat : Int) := by
  show IntKind.u32.wrap (((BitVec.ofInt 32 (a.toNat : Int)) ^^^ (BitVec.ofInt 32 (b.toNat : Int)) : BitVec 32).toNat : Int) = _
  rw [BitVec.ofInt_natCast, BitVec.ofInt_natCast, BitVec.ofNat_toNat, BitVec.ofNat_toNat, BitVec.setWidth_eq, BitVec.setWidth_eq, IntKind.wrap_u32]
  have := (a ^^^ b).isLt
  omega
theorem ba (a b : W) : Go.bits .and .u32 (a.toNat : Int) (b.toNat : Int) = ((a &&& b).toNat : Int) := by
  show IntKind.u32.wrap (((BitVec.ofInt 32 (a.toNat : Int)) &&& (BitVec.ofInt 32 (b.toNat : Int)) : BitVec 32).toNat : Int) = _
  rw [BitVec.ofInt_natCast, BitVec.ofInt_natCast, BitVec.ofNat_toNat, BitVec.ofNat_toNat, BitVec.setWidth_eq, BitVec.setWidth_eq, IntKind.wrap_u32]
  have := (a &&& b).isLt
  omega
theorem flip_max (a : W) : Go.bits .xor .u32 IntKind.u32.max (a.toNat : Int) = ((~~~a).toNat : Int) := by
  have e : IntKind.u32.max = (((BitVec.allOnes 32 : W).toNat : Nat) : Int) := by decide
  rw [e, bx, BitVec.allOnes_xor]
theorem flip_sub (a : W) : (4294967295 - (a.toNat : Int)) % 4294967296 = ((~~~a).toNat : Int) := by
  rw [BitVec.toNat_not]
  have := a.isLt
  omega
theorem ext_int (c : Y) : ((c.toNat : Int)) % 4294967296 = ((ext c).toNat : Int) := by
  show _ = ((c.setWidth 32).toNat : Int)
  rw [BitVec.toNat_setWidth]
  have := c.isLt
  omega
theorem half_int (v : W) : ((v.toNat : Nat) : Int) / (2 : Int) = (((v >>> 1).toNat : Nat) : Int) := by
  rw [BitVec.toNat_ushiftRight, Nat.shiftRight_eq_div_pow]
  omega
theorem half_tdiv (v : W) : (Int.tdiv ((v.toNat : Nat) : Int) (2 : Int)) % (4294967296 : Int) = ((v >>> 1).toNat : Int) := by
  rw [Int.tdiv_eq_ediv_of_nonneg (by omega), half_int]
  have := (v >>> 1).isLt
  omega
theorem lsb_iff (v : W) : v.getLsbD 0 = decide (v.toNat % 2 = 1) := by
  rw [BitVec.getLsbD, Nat.testBit_zero]
theorem s1_mask (v : W) : Go.bits .xor .u32 (((v.toNat : Nat) : Int) / (2 : Int)) (Go.bits .and .u32 3988292384 ((-(Go.bits .and .u32 (v.toNat : Int) 1)) % 4294967296)) = ((s1 v).toNat : Int) := by
  have e1 : (1 : Int) = ((1#32).toNat : Int) := rfl
  have e2 : (3988292384 : Int) = ((poly).toNat : Int) := rfl
  rw [half_int]
  have hand : Go.bits .and .u32 (v.toNat : Int) 1 = ((v.toNat % 2 : Nat) : Int) := by
    rw [e1, ba, BitVec.toNat_and]
    show ((v.toNat &&& 1 : Nat) : Int) = _
    rw [Nat.and_one_is_mod]
  rw [hand]
  unfold s1
  rw [lsb_iff]
  rcases Nat.mod_two_eq_zero_or_one v.toNat with h | h
  · rw [h]
    have e3 : (-((0 : Nat) : Int)) % 4294967296 = ((0#32).toNat : Int) := rfl
    rw [e3, e2, ba, bx]
    simp
  · rw [h]
    have e3 : (-((1 : Nat) : Int)) % 4294967296 = (((BitVec.allOnes 32 : W).toNat : Nat) : Int) := by decide
    rw [e3, e2, ba, bx, BitVec.and_allOnes]
    simp
def it : Nat → W → W
  | 0, v => v
  | d + 1, v => it d (s1 v)
theorem Step_l : ∀ (d n k : Nat) (v : W), n + d = 8 → d < k → crc_Step.l0 k (v.toNat : Int) (n : Int) = some ((it d v).toNat : Int) := by
  intro d
  induction d with
  | zero =>
    intro n k v hn hk
    obtain ⟨m, rfl, _⟩ := succ_of hk
    simp only [crc_Step.l0]
    rw [if_neg (by omega)]
    rfl
  | succ d ih =>
    intro n k v hn hk
    obtain ⟨m, rfl, hm⟩ := succ_of hk
    simp only [crc_Step.l0]
    rw [if_pos (by omega), s1_mask, wr (by omega) (by omega)]
    exact ih (n + 1) m (s1 v) (by omega) (by omega)
theorem Step_f {k : Nat} (v : W) (c : Y) (hk : 8 < k) : crc_Step.f k (v.toNat : Int) (c.toNat : Int) = some ((step v c).toNat : Int) := by
  unfold crc_Step.f
  rw [ext_int, bx]
  exact Step_l 8 0 k _ (by omega) hk
theorem rStep_l : ∀ (d n k : Nat) (v : W), n + d = 8 → d < k → exergueref08_Step.l0 k (v.toNat : Int) (n : Int) = some ((it d v).toNat : Int) := by
  intro d
  induction d with
  | zero =>
    intro n k v hn hk
    obtain ⟨m, rfl, _⟩ := succ_of hk
    simp only [exergueref08_Step.l0]
    rw [if_neg (by omega)]
    rfl
  | succ d ih =>
    intro n k v hn hk
    obtain ⟨m, rfl, hm⟩ := succ_of hk
    simp only [exergueref08_Step.l0]
    have e2 : (3988292384 : Int) = ((poly).toNat : Int) := rfl
    have hs : s1 v = (v >>> 1) ^^^ (if v.toNat % 2 = 1 then poly else 0#32) := by
      unfold s1
      rw [lsb_iff]
      simp
    have hi := ih (n + 1) m (s1 v) (by omega) (by omega)
    rw [if_pos (by omega), half_tdiv, wr (by omega) (by omega), e2, bx]
    have ht : Int.tmod (v.toNat : Int) 2 = ((v.toNat % 2 : Nat) : Int) := by
      rw [Int.tmod_eq_emod_of_nonneg (by omega)]
      omega
    rw [ht]
    by_cases h1 : v.toNat % 2 = 1
    · rw [if_pos (by omega)]
      rw [hs, if_pos h1] at hi
      have e3 : (it (d + 1) v) = it d (s1 v) := rfl
      rw [e3, hs, if_pos h1]
      exact hi
    · rw [if_neg (by omega)]
      rw [hs, if_neg h1, BitVec.xor_zero] at hi
      have e3 : (it (d + 1) v) = it d (s1 v) := rfl
      rw [e3, hs, if_neg h1, BitVec.xor_zero]
      exact hi
theorem rStep_f {k : Nat} (v : W) (c : Y) (hk : 8 < k) : exergueref08_Step.f k (v.toNat : Int) (c.toNat : Int) = some ((step v c).toNat : Int) := by
  unfold exergueref08_Step.f
  rw [ext_int, bx]
  exact rStep_l 8 0 k _ (by omega) hk
theorem rd_I {l : List Y} {n : Nat} (h : n < l.length) : rd (I l) (n : Int) = (l[n].toNat : Int) := by
  rw [rd_at (by rw [I_len]; exact h)]
  simp [I]
theorem On_l (l : List Y) (hl : l.length < 140737488355328) : ∀ (d n k : Nat) (v : W), n + d = l.length → d < k → crc_On.l0 k (I l) (v.toNat : Int) (n : Int) = some ((F v (l.drop n)).toNat : Int) := by
  intro d
  induction d with
  | zero =>
    intro n k v hn hk
    obtain ⟨m, rfl, _⟩ := succ_of hk
    simp only [crc_On.l0]
    rw [if_neg (by rw [I_len]; omega), List.drop_eq_nil_of_le (by omega)]
    rfl
  | succ d ih =>
    intro n k v hn hk
    obtain ⟨m, rfl, hm⟩ := succ_of hk
    simp only [crc_On.l0]
    have h1 : n < l.length := by omega
    rw [if_pos (by rw [I_len]; omega), if_pos (by omega), rd_I h1, Step_f v _ (by omega), Option.bind_some, wr (by omega) (by omega), List.drop_eq_getElem_cons h1, F_cons]
    exact ih (n + 1) m _ (by omega) (by omega)
def crc (v : W) (l : List Y) : W := ~~~ F (~~~ v) l
theorem On_f {k : Nat} (v : W) (l : List Y) (hl : l.length < 140737488355328) (hk : l.length < k) : crc_On.f k (v.toNat : Int) (I l) = some ((crc v l).toNat : Int) := by
  unfold crc_On.f
  have h0 : crc_On.l0 k (I l) ((~~~v).toNat : Int) (0 : Int) = _ := On_l l hl l.length 0 k (~~~v) (by omega) hk
  rw [flip_max, h0, Option.bind_some, flip_max]
  rfl
theorem Of_f {k : Nat} (l : List Y) (hl : l.length < 140737488355328) (hk : l.length < k) : crc_Of.f k (I l) = some ((crc 0#32 l).toNat : Int) := by
  unfold crc_Of.f
  have := On_f (k := k) 0#32 l hl hk
  have e0 : (((0#32 : W).toNat : Nat) : Int) = 0 := rfl
  rw [e0] at this
  rw [this]
  rfl
theorem rOn_l (l : List Y) (hl : l.length < 140737488355328) : ∀ (d n k : Nat) (v : W), n + d = l.length → d + 8 < k → exergueref08_On.l0 k (I l) (v.toNat : Int) (n : Int) = some ((~~~ F v (l.drop n)).toNat : Int) := by
  intro d
  induction d with
  | zero =>
    intro n k v hn hk
    obtain ⟨m, rfl, _⟩ := succ_of hk
    simp only [exergueref08_On.l0]
    rw [if_neg (by rw [I_len]; omega), List.drop_eq_nil_of_le (by omega), flip_sub]
    rfl
  | succ d ih =>
    intro n k v hn hk
    obtain ⟨m, rfl, hm⟩ := succ_of hk
    simp only [exergueref08_On.l0]
    have h1 : n < l.length := by omega
    rw [if_pos (by rw [I_len]; omega), if_pos (by omega), rd_I h1, rStep_f v _ (by omega), Option.bind_some, wr (by omega) (by omega), List.drop_eq_getElem_cons h1, F_cons]
    exact ih (n + 1) m _ (by omega) (by omega)
theorem rOn_f {k : Nat} (v : W) (l : List Y) (hl : l.length < 140737488355328) (hk : l.length + 8 < k) : exergueref08_On.f k (v.toNat : Int) (I l) = some ((crc v l).toNat : Int) := by
  unfold exergueref08_On.f
  rw [flip_sub]
  exact rOn_l l hl l.length 0 k _ (by omega) hk
theorem rOf_f {k : Nat} (l : List Y) (hl : l.length < 140737488355328) (hk : l.length + 8 < k) : exergueref08_Of.f k (I l) = some ((crc 0#32 l).toNat : Int) := by
  unfold exergueref08_Of.f
  have := rOn_f (k := k) 0#32 l hl hk
  have e0 : (((0#32 : W).toNat : Nat) : Int) = 0 := rfl
  rw [e0] at this
  rw [this]
  rfl
/-! ### four bytes of a number -/
def toldB (v : W) : List Y := [v.setWidth 8, (v >>> 8).setWidth 8, (v >>> 16).setWidth 8, (v >>> 24).setWidth 8]
theorem toldB_len (v : W) : (toldB v).length = 4 := rfl
theorem told_f (v : W) : crc_told (v.toNat : Int) = I (toldB v) := by
  simp only [crc_told, toldB, I, List.map_cons, List.map_nil, BitVec.toNat_setWidth, BitVec.toNat_ushiftRight, Nat.shiftRight_eq_div_pow]
  simp
theorem told_r (v : W) : ([(Int.tmod (v.toNat : Int) 256) % 256, ((Int.tdiv (v.toNat : Int) 256) % 4294967296) % 256, ((Int.tdiv (v.toNat : Int) 65536) % 4294967296) % 256, ((Int.tdiv (v.toNat : Int) 16777216) % 4294967296) % 256] : List Int) = I (toldB v) := by
  have h := v.isLt
  simp only [toldB, I, List.map_cons, List.map_nil, BitVec.toNat_setWidth, BitVec.toNat_ushiftRight, Nat.shiftRight_eq_div_pow]
  rw [Int.tmod_eq_emod_of_nonneg (by omega), Int.tdiv_eq_ediv_of_nonneg (by omega), Int.tdiv_eq_ediv_of_nonneg (by omega), Int.tdiv_eq_ediv_of_nonneg (by omega)]
  have a0 : ((v.toNat : Int) % 256) % 256 = ((v.toNat % 2 ^ 8 : Nat) : Int) := by omega
  have a1 : ((v.toNat : Int) / 256 % 4294967296) % 256 = ((v.toNat / 2 ^ 8 % 2 ^ 8 : Nat) : Int) := by omega
  have a2 : ((v.toNat : Int) / 65536 % 4294967296) % 256 = ((v.toNat / 2 ^ 16 % 2 ^ 8 : Nat) : Int) := by omega
  have a3 : ((v.toNat : Int) / 16777216 % 4294967296) % 256 = ((v.toNat / 2 ^ 24 % 2 ^ 8 : Nat) : Int) := by omega
  rw [a0, a1, a2, a3]
/-! ### put, cut -/
def put (l : List Y) : List Y := l ++ toldB (crc 0#32 l)
def cut (l : List Y) : List Y × Int :=
  if l.length < 4 then ([], 2) else if l.drop (l.length - 4) = toldB (crc 0#32 (l.take (l.length - 4))) then (l.take (l.length - 4), 0) else ([], 6)
theorem clone_f {l : List Int} (h : l.length < 140737488355328) : slices_Clone_byte_byte.f l = some l := by
  unfold slices_Clone_byte_byte.f
  rw [if_pos h]
theorem Put_f {k : Nat} (l : List Y) (hl : l.length < 140737488355000) (hk : l.length < k) : crc_Put.f k (I l) = some (I (put l)) := by
  unfold crc_Put.f
  rw [Of_f l (by omega) hk, Option.bind_some, clone_f (by rw [I_len]; omega), Option.bind_some, if_pos (by rw [I_len]; omega), told_f, ← I_append]
  rfl
theorem Cut_f {k : Nat} (l : List Y) (hl : l.length < 140737488000000) (hk : l.length < k) : crc_Cut.f k (I l) = some (I (cut l).1, (cut l).2) := by
  unfold crc_Cut.f cut
  rw [I_len]
  by_cases h4 : l.length < 4
  · rw [if_pos h4, if_pos h4]
    rfl
  · rw [if_neg h4, if_neg h4]
    have e1 : (I l).take (l.length - 4) = I (l.take (l.length - 4)) := by simp [I, List.map_take]
    have e2 : (I l).drop (l.length - 4) = I (l.drop (l.length - 4)) := by simp [I, List.map_drop]
    rw [e1, e2, Of_f _ (by rw [List.length_take]; omega) (by rw [List.length_take]; omega), Option.bind_some, told_f]
    by_cases h : l.drop (l.length - 4) = toldB (crc 0#32 (l.take (l.length - 4)))
    · rw [if_pos (I_inj.2 h), if_pos h, clone_f (by rw [I_len, List.length_take]; omega), Option.bind_some]
    · rw [if_neg (fun e => h (I_inj.1 e)), if_neg h]
      rfl
theorem rPut_f {k : Nat} (l : List Y) (hl : l.length < 140737488000000) (hk : l.length + 8 < k) : exergueref08_Put.f k (I l) = some (I (put l)) := by
  unfold exergueref08_Put.f
  rw [rOf_f l (by omega) hk]
  simp only [Option.bind_some, List.nil_append, List.length_nil, told_r, I_len, toldB_len]
  rw [if_pos (by omega), if_pos (by omega), ← I_append]
  rfl
theorem cut_put (l : List Y) : cut (put l) = (l, 0) := by
  have hl : (put l).length = l.length + 4 := by simp [put, toldB_len]
  have e1 : (put l).take ((put l).length - 4) = l := by rw [hl]; simp [put]
  have e2 : (put l).drop ((put l).length - 4) = toldB (crc 0#32 l) := by rw [hl]; simp [put]
  unfold cut
  rw [if_neg (by omega), e1, e2, if_pos rfl]
theorem eq_loop (L : Nat → Int → Option Bool) (a b : List Int) (hab : a.length = b.length)
    (step : ∀ k (n : Nat), n < a.length → L (k + 1) n = if rd a n = rd b n then L k ((n + 1 : Nat) : Int) else some false) (stop : ∀ k, L (k + 1) (a.length : Int) = some true) :
    ∀ (d n k : Nat), n + d = a.length → d < k → L k n = some (decide (a.drop n = b.drop n)) := by
  intro d
  induction d with
  | zero =>
    intro n k hn hk
    obtain ⟨m, rfl, _⟩ := succ_of hk
    obtain rfl : n = a.length := by omega
    rw [stop, List.drop_eq_nil_of_le (Nat.le_refl _), List.drop_eq_nil_of_le (by omega)]
    rfl
  | succ d ih =>
    intro n k hn hk
    obtain ⟨m, rfl, hm⟩ := succ_of hk
    have h1 : n < a.length := by omega
    have h2 : n < b.length := by omega
    rw [step m n h1, rd_at h1, rd_at h2, List.drop_eq_getElem_cons h1, List.drop_eq_getElem_cons h2]
    by_cases e : a[n] = b[n]
    · rw [if_pos e, ih (n + 1) m (by omega) (by omega), e]
      congr 1
      rw [decide_eq_decide]
      exact ⟨fun h => by rw [h], fun h => (List.cons.inj h).2⟩
    · rw [if_neg e]
      congr 1
      symm
      rw [decide_eq_false_iff_not]
      exact fun h => e (List.cons.inj h).1
theorem row_f {a b : List Int} {k : Nat} (hl : a.length < 140737488355328) (hk : a.length < k) : exergueref01_Row.f k a b = some (decide (a = b)) := by
  unfold exergueref01_Row.f
  by_cases hab : a.length = b.length
  · rw [if_pos (by omega)]
    have := eq_loop (fun k i => exergueref01_Row.l0 k a b i) a b hab (fun k n hn => by
      simp only [exergueref01_Row.l0]
      rw [if_pos (by omega), if_pos (by omega), if_pos (by omega), wr (by omega) (by omega)]
      rfl) (fun k => by
      simp only [exergueref01_Row.l0]
      rw [if_neg (by omega)]) a.length 0 k (by omega) hk
    simpa using this
  · rw [if_neg (by omega)]
    have : a ≠ b := fun h => hab (by rw [h])
    simp [this]
/-! ### four bytes changed -/
def xb (l qs : List Int) (n : Nat) : Nat → List Int
  | 0 => l
  | i + 1 => (xb l qs n i).set (n + i) (Go.bits .xor .u8 (rd (xb l qs n i) ((n + i : Nat) : Int)) (rd qs (i : Int)))
/-! ### the document's example -/
end Go.Proofs.Ytmhpcjncngonbaa.Spec
/- What a locale's bundle is, in plain Lean; rows of 65535 at most. -/
namespace Go.Proofs.Ytmhpcjncngonbaa.Q
open Go.RowKit Go.Proofs.Ytmhpcjncngonbaa.Mine Go.Proofs.YtmhpcjncngonbaaW.PrintWords Go.Proofs.YtmhpcjncngonbaaW.PrintLast Go.Proofs.YtmhpcjncngonbaaW.PrintMore
set_option linter.unusedVariables false
set_option linter.unusedSimpArgs false
open Go.Proofs.Ytmhpcjncngonbaa.Spec (I Y)
/-- a text's place in a pool -/
def ix (p : List ByteArray) (s : ByteArray) : Int := (p.idxOf s : Int)
def rT (L : Loc) : List ByteArray := L.rules.flatMap (fun x => [x.2])
def cT (L : Loc) : List ByteArray := L.curs.flatMap (fun x => [x.1, x.2.1])
def mT (L : Loc) : List ByteArray := L.comps.flatMap (fun x => [x.2.2])
theorem textsL_eq (L : Loc) : textsL L = [L.tag, L.p0, L.p1, L.p2, L.p3] ++ rT L ++ cT L ++ mT L := rfl
theorem rT_len (L : Loc) : (rT L).length = L.rules.length := by
  unfold rT
  induction L.rules with
  | nil => rfl
  | cons x l ih => rw [List.flatMap_cons, List.length_append, ih]; simp; omega
theorem cT_len (L : Loc) : (cT L).length = 2 * L.curs.length := by
  unfold cT
  induction L.curs with
  | nil => rfl
  | cons x l ih => rw [List.flatMap_cons, List.length_append, ih]; simp; omega
theorem mT_len (L : Loc) : (mT L).length = L.comps.length := by
  unfold mT
  induction L.comps with
  | nil => rfl
  | cons x l ih => rw [List.flatMap_cons, List.length_append, ih]; simp; omega
theorem textsL_len (L : Loc) : (textsL L).length = 5 + L.rules.length + 2 * L.curs.length + L.comps.length := by
  rw [textsL_eq]
  simp only [List.length_append, rT_len, cT_len, mT_len]
  rfl
theorem refs_eq (p : List ByteArray) (L : Loc) : grefs p (textsL L) = ix p L.tag :: ix p L.p0 :: ix p L.p1 :: ix p L.p2 :: ix p L.p3 :: ((rT L).map (ix p) ++ ((cT L).map (ix p) ++ ((mT L).map (ix p) ++ []))) := by
  rw [textsL_eq, grefs]
  simp only [List.map_append, List.append_assoc, List.append_nil]
  rfl
/-- the sections, each with the writer's flag behind it -/
noncomputable def sec2 (p : List ByteArray) (L : Loc) : List Int × Bool := whead (ix p L.tag) L ([], false)
noncomputable def sec3 (p : List ByteArray) (L : Loc) : List Int × Bool := wnum (ix p L.p3) 2 (wnum (ix p L.p2) 2 (wnum (ix p L.p1) 2 (wnum (ix p L.p0) 2 ([], (sec2 p L).2))))
noncomputable def sec4 (p : List ByteArray) (L : Loc) : List Int × Bool := wrules L.rules ((rT L).map (ix p)) (wnum L.rules.length 2 ([], (sec3 p L).2))
noncomputable def sec5 (p : List ByteArray) (L : Loc) : List Int × Bool := wcurs L.curs ((cT L).map (ix p)) (wnum L.curs.length 2 ([], (sec4 p L).2))
noncomputable def sec6 (p : List ByteArray) (L : Loc) : List Int × Bool := wcomps L.comps ((mT L).map (ix p)) (wnum L.comps.length 2 ([], (sec5 p L).2))
def firstP (p : List ByteArray) : List Int := [] ++ bytesB p.length 2 ++ poolBytes p
noncomputable def partsL (p : List ByteArray) (L : Loc) : List (List Int) := [firstP p, (sec2 p L).1, (sec3 p L).1, (sec4 p L).1, (sec5 p L).1, (sec6 p L).1]
/-- the directory -/
noncomputable def wdir : List (List Int) → Int → List Int × Bool → List Int × Bool
  | [], _, st => st
  | q :: qs, at_, st => wdir qs (at_ + q.length) (wnum q.length 4 (wnum at_ 4 st))
noncomputable def headL (p : List ByteArray) (L : Loc) : List Int × Bool := wdir (partsL p L) 56 (wnum 6 2 (wnum 1 2 ([69, 88, 76, 66], (sec6 p L).2)))
/-- a locale's bundle, ahead of its checksum -/
noncomputable def encIn (L : Loc) : Option (List Int) :=
  if isPoolB (gpool (textsL L)) = true then (if (headL (gpool (textsL L)) L).2 = true then none else some ((headL (gpool (textsL L)) L).1 ++ (partsL (gpool (textsL L)) L).flatten)) else none
/-- bytes as words of eight bits -/
def toY (l : List Int) : List Y := l.map (fun x => BitVec.ofInt 8 x)
theorem toY_I {l : List Int} (h : bytesOk l) : I (toY l) = l := by
  unfold toY I
  rw [List.map_map]
  conv => rhs; rw [← List.map_id l]
  refine List.map_congr_left fun x hx => ?_
  have := h x hx
  simp only [Function.comp, id, BitVec.toNat_ofInt]
  omega
theorem toY_len (l : List Int) : (toY l).length = l.length := by simp [toY]
/-- bytes with their checksum -/
def putC (l : List Int) : List Int := I (Spec.put (toY l))
/-- a locale's bundle -/
noncomputable def encR (L : Loc) : List Int := match encIn L with | none => [] | some x => putC x
noncomputable def encE (L : Loc) : Int := match encIn L with | none => 1 | some _ => 0
-- lengths
theorem firstP_len {p : List ByteArray} (h : isPoolB p = true) : (firstP p).length ≤ 2 + 500 * 402 := by
  obtain ⟨_, hl, hs⟩ := isPoolB_facts h
  have g : ∀ (p : List ByteArray), (∀ s ∈ p, s.size ≤ 400) → (poolBytes p).length ≤ 402 * p.length := by
    intro p
    induction p with
    | nil => intro _; simp [poolBytes]
    | cons s p ih =>
      intro hs
      have h1 := ih (fun x hx => hs x (List.mem_cons_of_mem _ hx))
      have h2 := hs s List.mem_cons_self
      rw [poolBytes, List.length_append, List.length_append, bytesB_len, bytesOf_length, List.length_cons]
      omega
  have := g p hs
  rw [firstP, List.length_append, List.length_append, bytesB_len]
  simp only [List.length_nil]
  omega
theorem wrules_len : ∀ (xs : List (Int × ByteArray)) (ns : List Int) (st : List Int × Bool), (wrules xs ns st).1.length ≤ st.1.length + 8 * xs.length
  | [], _, st => by rw [wrules]; omega; all_goals simp
  | x :: xs, [], st => by rw [wrules]; omega; all_goals simp
  | x :: xs, n :: ns, st => by
    rw [wrules]
    have h1 := wrules_len xs ns (wnum n 2 (wnum x.1 1 st))
    have h2 := wnum_len n 2 (wnum x.1 1 st)
    have h3 := wnum_len x.1 1 st
    rw [List.length_cons]
    omega
theorem wcurs_len : ∀ (xs : List (ByteArray × ByteArray × Int)) (ns : List Int) (st : List Int × Bool), (wcurs xs ns st).1.length ≤ st.1.length + 12 * xs.length
  | [], _, st => by rw [wcurs]; omega; all_goals simp
  | x :: xs, [], st => by rw [wcurs]; omega; all_goals simp
  | x :: xs, [_], st => by rw [wcurs]; omega; all_goals simp
  | x :: xs, n :: m :: ns, st => by
    rw [wcurs]
    have h1 := wcurs_len xs ns (wnum x.2.2 1 (wnum m 2 (wnum n 2 st)))
    have h2 := wnum_len x.2.2 1 (wnum m 2 (wnum n 2 st))
    have h3 := wnum_len m 2 (wnum n 2 st)
    have h4 := wnum_len n 2 st
    rw [List.length_cons]
    omega
theorem wcomps_len : ∀ (xs : List (Int × Int × ByteArray)) (ns : List Int) (st : List Int × Bool), (wcomps xs ns st).1.length ≤ st.1.length + 12 * xs.length
  | [], _, st => by rw [wcomps]; omega; all_goals simp
  | x :: xs, [], st => by rw [wcomps]; omega; all_goals simp
  | x :: xs, n :: ns, st => by
    rw [wcomps]
    have h1 := wcomps_len xs ns (wnum n 2 (wnum x.2.1 1 (wnum x.1 1 st)))
    have h2 := wnum_len n 2 (wnum x.2.1 1 (wnum x.1 1 st))
    have h3 := wnum_len x.2.1 1 (wnum x.1 1 st)
    have h4 := wnum_len x.1 1 st
    rw [List.length_cons]
    omega
theorem wdir_len : ∀ (qs : List (List Int)) (at_ : Int) (st : List Int × Bool), (wdir qs at_ st).1.length ≤ st.1.length + 8 * qs.length
  | [], _, st => by show st.1.length ≤ _; omega
  | q :: qs, at_, st => by
    rw [wdir]
    have h1 := wdir_len qs (at_ + q.length) (wnum q.length 4 (wnum at_ 4 st))
    have h2 := wnum_len q.length 4 (wnum at_ 4 st)
    have h3 := wnum_len at_ 4 st
    rw [List.length_cons]
    omega
theorem secs_len {p : List ByteArray} {L : Loc} (h : LocB L) : (sec2 p L).1.length ≤ 32 ∧ (sec3 p L).1.length ≤ 16 ∧ (sec4 p L).1.length ≤ 1000000 ∧ (sec5 p L).1.length ≤ 1000000 ∧ (sec6 p L).1.length ≤ 1000000 := by
  obtain ⟨h1, h2, h3⟩ := h
  refine ⟨?_, ?_, ?_, ?_, ?_⟩
  · have a := wfold_len [L.s0, L.s1, L.s2, L.s3, L.s4, L.s5, L.s6] (wnum (ix p L.tag) 2 ([], false))
    have b := wnum_len (ix p L.tag) 2 ([], false)
    simp only [List.length_cons, List.length_nil] at a b
    unfold sec2 whead
    omega
  · unfold sec3
    have a := wnum_len (ix p L.p0) 2 ([], (sec2 p L).2)
    have b := wnum_len (ix p L.p1) 2 (wnum (ix p L.p0) 2 ([], (sec2 p L).2))
    have c := wnum_len (ix p L.p2) 2 (wnum (ix p L.p1) 2 (wnum (ix p L.p0) 2 ([], (sec2 p L).2)))
    have d := wnum_len (ix p L.p3) 2 (wnum (ix p L.p2) 2 (wnum (ix p L.p1) 2 (wnum (ix p L.p0) 2 ([], (sec2 p L).2))))
    simp only [List.length_nil] at a
    omega
  · unfold sec4
    have a := wrules_len L.rules ((rT L).map (ix p)) (wnum L.rules.length 2 ([], (sec3 p L).2))
    have b := wnum_len L.rules.length 2 ([], (sec3 p L).2)
    simp only [List.length_nil] at b
    omega
  · unfold sec5
    have a := wcurs_len L.curs ((cT L).map (ix p)) (wnum L.curs.length 2 ([], (sec4 p L).2))
    have b := wnum_len L.curs.length 2 ([], (sec4 p L).2)
    simp only [List.length_nil] at b
    omega
  · unfold sec6
    have a := wcomps_len L.comps ((mT L).map (ix p)) (wnum L.comps.length 2 ([], (sec5 p L).2))
    have b := wnum_len L.comps.length 2 ([], (sec5 p L).2)
    simp only [List.length_nil] at b
    omega
theorem parts_len {p : List ByteArray} {L : Loc} (h : LocB L) (hp : isPoolB p = true) : (partsL p L).flatten.length ≤ 4000000 ∧ (headL p L).1.length ≤ 100 := by
  obtain ⟨h2, h3, h4, h5, h6⟩ := secs_len (p := p) h
  have h1 := firstP_len hp
  refine ⟨?_, ?_⟩
  · simp only [partsL, List.flatten_cons, List.flatten_nil, List.length_append, List.length_nil]
    omega
  · unfold headL
    have a := wdir_len (partsL p L) 56 (wnum 6 2 (wnum 1 2 ([69, 88, 76, 66], (sec6 p L).2)))
    have b := wnum_len 6 2 (wnum 1 2 ([69, 88, 76, 66], (sec6 p L).2))
    have c := wnum_len 1 2 ([69, 88, 76, 66], (sec6 p L).2)
    rw [show (partsL p L).length = 6 from rfl] at a
    simp only [List.length_cons, List.length_nil] at b c
    omega
-- all that is written are bytes
theorem wnum_ok {st : List Int × Bool} (n s : Int) (h : bytesOk st.1) : bytesOk (wnum n s st).1 := by
  rw [wnum_def]
  split
  · exact fun x hx => (List.mem_append.1 hx).elim (h x) (bytesB_ok _ _ x)
  · exact h
theorem wfold_ok (xs : List Int) : ∀ st : List Int × Bool, bytesOk st.1 → bytesOk (xs.foldl (fun st x => wnum x 4 st) st).1 := by
  induction xs with
  | nil => exact fun st h => h
  | cons x xs ih => exact fun st h => ih _ (wnum_ok x 4 h)
theorem wrules_ok : ∀ (xs : List (Int × ByteArray)) (ns : List Int) (st : List Int × Bool), bytesOk st.1 → bytesOk (wrules xs ns st).1
  | [], _, st, h => by rw [wrules]; exact h; all_goals simp
  | x :: xs, [], st, h => by rw [wrules]; exact h; all_goals simp
  | x :: xs, n :: ns, st, h => by rw [wrules]; exact wrules_ok xs ns _ (wnum_ok _ _ (wnum_ok _ _ h))
theorem wcurs_ok : ∀ (xs : List (ByteArray × ByteArray × Int)) (ns : List Int) (st : List Int × Bool), bytesOk st.1 → bytesOk (wcurs xs ns st).1
  | [], _, st, h => by rw [wcurs]; exact h; all_goals simp
  | x :: xs, [], st, h => by rw [wcurs]; exact h; all_goals simp
  | x :: xs, [_], st, h => by rw [wcurs]; exact h; all_goals simp
  | x :: xs, n :: m :: ns, st, h => by rw [wcurs]; exact wcurs_ok xs ns _ (wnum_ok _ _ (wnum_ok _ _ (wnum_ok _ _ h)))
theorem wcomps_ok : ∀ (xs : List (Int × Int × ByteArray)) (ns : List Int) (st : List Int × Bool), bytesOk st.1 → bytesOk (wcomps xs ns st).1
  | [], _, st, h => by rw [wcomps]; exact h; all_goals simp
  | x :: xs, [], st, h => by rw [wcomps]; exact h; all_goals simp
  | x :: xs, n :: ns, st, h => by rw [wcomps]; exact wcomps_ok xs ns _ (wnum_ok _ _ (wnum_ok _ _ (wnum_ok _ _ h)))
theorem wdir_ok : ∀ (qs : List (List Int)) (at_ : Int) (st : List Int × Bool), bytesOk st.1 → bytesOk (wdir qs at_ st).1
  | [], _, st, h => by rw [wdir]; exact h
  | q :: qs, at_, st, h => by rw [wdir]; exact wdir_ok qs _ _ (wnum_ok _ _ (wnum_ok _ _ h))
theorem poolB_ok : ∀ l, bytesOk (poolBytes l)
  | [] => fun x hx => by cases hx
  | s :: l => by
    rw [poolBytes]
    exact fun x hx => (List.mem_append.1 hx).elim (fun h => (List.mem_append.1 h).elim (bytesB_ok _ _ x) (bytesOf_ok s x)) (poolB_ok l x)
theorem nil_ok : bytesOk ([] : List Int) := fun x hx => by cases hx
theorem firstP_ok (p : List ByteArray) : bytesOk (firstP p) := fun x hx => by
  rcases List.mem_append.1 hx with h | h
  · rcases List.mem_append.1 h with h | h
    · cases h
    · exact bytesB_ok _ _ x h
  · exact poolB_ok p x h
theorem parts_ok (p : List ByteArray) (L : Loc) : bytesOk (partsL p L).flatten ∧ bytesOk (headL p L).1 := by
  refine ⟨fun x hx => ?_, ?_⟩
  · obtain ⟨q, hq, hxq⟩ := List.mem_flatten.1 hx
    simp only [partsL, List.mem_cons, List.not_mem_nil, or_false] at hq
    rcases hq with rfl | rfl | rfl | rfl | rfl | rfl
    · exact firstP_ok p x hxq
    · exact wfold_ok _ _ (wnum_ok _ _ nil_ok) x hxq
    · exact wnum_ok _ _ (wnum_ok _ _ (wnum_ok _ _ (wnum_ok _ _ nil_ok))) x hxq
    · exact wrules_ok _ _ _ (wnum_ok _ _ nil_ok) x hxq
    · exact wcurs_ok _ _ _ (wnum_ok _ _ nil_ok) x hxq
    · exact wcomps_ok _ _ _ (wnum_ok _ _ nil_ok) x hxq
  · exact wdir_ok _ _ _ (wnum_ok _ _ (wnum_ok _ _ (by intro x hx; simp only [List.mem_cons, List.not_mem_nil, or_false] at hx; omega)))
end Go.Proofs.Ytmhpcjncngonbaa.Q
/- What is written is read, in plain Lean; rows of 65535 at most. -/
namespace Go.Proofs.Ytmhpcjncngonbaa.Q
open Go.RowKit Go.Proofs.Ytmhpcjncngonbaa.Mine Go.Proofs.YtmhpcjncngonbaaW.PrintWords Go.Proofs.YtmhpcjncngonbaaW.PrintLast Go.Proofs.YtmhpcjncngonbaaW.PrintMore
set_option linter.unusedVariables false
set_option linter.unusedSimpArgs false
open Go.Proofs.Ytmhpcjncngonbaa.Spec (I Y)
/-- numbers with their sizes, written one behind the other -/
def numsB (ns : List (Int × Int)) : List Int := ns.flatMap fun x => bytesB x.1 x.2.toNat
def okN (x : Int × Int) : Bool := decide (0 ≤ x.1) && putsB x.1 x.2
def okB (ns : List (Int × Int)) : Bool := ns.all okN
theorem numsB_cons (x : Int × Int) (ns : List (Int × Int)) : numsB (x :: ns) = bytesB x.1 x.2.toNat ++ numsB ns := by unfold numsB; rw [List.flatMap_cons]
theorem okB_cons (x : Int × Int) (ns : List (Int × Int)) : okB (x :: ns) = (okN x && okB ns) := rfl
theorem okB_app (a b : List (Int × Int)) : okB (a ++ b) = (okB a && okB b) := by unfold okB; rw [List.all_append]
theorem okN_iff {n s : Int} : okN (n, s) = true ↔ 0 ≤ n ∧ putsB n s = true := by unfold okN; rw [Bool.and_eq_true, decide_eq_true_eq]
theorem puts_lt {n s : Int} (h : putsB n s = true) : n < 4294967296 := by
  simp only [putsB, Bool.and_eq_true, decide_eq_true_eq] at h
  obtain ⟨h1, h2⟩ := h
  rcases isSz_iff.1 h1 with rfl | rfl | rfl
  · have e : (256 : Int) ^ (1 : Int).toNat = 256 := by decide
    omega
  · have e : (256 : Int) ^ (2 : Int).toNat = 65536 := by decide
    omega
  · have e : (256 : Int) ^ (4 : Int).toNat = 4294967296 := by decide
    omega
theorem puts1 {n : Int} : putsB n 1 = true ↔ n < 256 := by
  have e : (256 : Int) ^ (1 : Int).toNat = 256 := by decide
  simp only [putsB, Bool.and_eq_true, decide_eq_true_eq, e]
  exact ⟨fun h => h.2, fun h => ⟨by decide, h⟩⟩
theorem puts2 {n : Int} : putsB n 2 = true ↔ n < 65536 := by
  have e : (256 : Int) ^ (2 : Int).toNat = 65536 := by decide
  simp only [putsB, Bool.and_eq_true, decide_eq_true_eq, e]
  exact ⟨fun h => h.2, fun h => ⟨by decide, h⟩⟩
theorem puts4 {n : Int} : putsB n 4 = true ↔ n < 4294967296 := by
  have e : (256 : Int) ^ (4 : Int).toNat = 4294967296 := by decide
  simp only [putsB, Bool.and_eq_true, decide_eq_true_eq, e]
  exact ⟨fun h => h.2, fun h => ⟨by decide, h⟩⟩
theorem okN_wnum {n s : Int} (h : okN (n, s) = true) (st : List Int × Bool) : wnum n s st = (st.1 ++ bytesB n s.toNat, st.2) := by
  obtain ⟨h0, h1⟩ := okN_iff.1 h
  rw [wnum_def, if_pos ⟨⟨h0, puts_lt h1⟩, h1⟩]
theorem noN_wnum {n s : Int} (h : okN (n, s) = false) (st : List Int × Bool) : wnum n s st = (st.1, true) := by
  rw [wnum_def, if_neg]
  rintro ⟨⟨h0, _⟩, h1⟩
  rw [okN_iff.2 ⟨h0, h1⟩] at h
  cases h
noncomputable def wall (ns : List (Int × Int)) (st : List Int × Bool) : List Int × Bool := ns.foldl (fun st x => wnum x.1 x.2 st) st
theorem wall_cons (x : Int × Int) (ns : List (Int × Int)) (st : List Int × Bool) : wall (x :: ns) st = wall ns (wnum x.1 x.2 st) := rfl
theorem wall_ok : ∀ (ns : List (Int × Int)) (st : List Int × Bool), okB ns = true → wall ns st = (st.1 ++ numsB ns, st.2)
  | [], st, _ => by show st = _; simp [numsB]
  | x :: ns, st, h => by
    rw [okB_cons, Bool.and_eq_true] at h
    rw [wall_cons, okN_wnum h.1, wall_ok ns _ h.2, numsB_cons, List.append_assoc]
theorem wall_bad : ∀ (ns : List (Int × Int)) (st : List Int × Bool), (wall ns st).2 = (st.2 || !okB ns)
  | [], st => by show st.2 = _; simp [okB]
  | x :: ns, st => by
    rw [wall_cons, wall_bad ns, okB_cons]
    cases h : okN x with
    | true => rw [okN_wnum h]; simp
    | false => rw [noN_wnum h]; simp
/-- the numbers of the sections -/
def nm2 (p : List ByteArray) (L : Loc) : List (Int × Int) := [(ix p L.tag, 2), (L.s0, 4), (L.s1, 4), (L.s2, 4), (L.s3, 4), (L.s4, 4), (L.s5, 4), (L.s6, 4)]
def nm3 (p : List ByteArray) (L : Loc) : List (Int × Int) := [(ix p L.p0, 2), (ix p L.p1, 2), (ix p L.p2, 2), (ix p L.p3, 2)]
def nr (p : List ByteArray) (xs : List (Int × ByteArray)) : List (Int × Int) := xs.flatMap fun x => [(x.1, 1), (ix p x.2, 2)]
def nc (p : List ByteArray) (xs : List (ByteArray × ByteArray × Int)) : List (Int × Int) := xs.flatMap fun x => [(ix p x.1, 2), (ix p x.2.1, 2), (x.2.2, 1)]
def nk (p : List ByteArray) (xs : List (Int × Int × ByteArray)) : List (Int × Int) := xs.flatMap fun x => [(x.1, 1), (x.2.1, 1), (ix p x.2.2, 2)]
def nm4 (p : List ByteArray) (L : Loc) : List (Int × Int) := ((L.rules.length : Int), 2) :: nr p L.rules
def nm5 (p : List ByteArray) (L : Loc) : List (Int × Int) := ((L.curs.length : Int), 2) :: nc p L.curs
def nm6 (p : List ByteArray) (L : Loc) : List (Int × Int) := ((L.comps.length : Int), 2) :: nk p L.comps
def nmAll (p : List ByteArray) (L : Loc) : List (Int × Int) := nm2 p L ++ (nm3 p L ++ (nm4 p L ++ (nm5 p L ++ nm6 p L)))
theorem sec2_wall (p : List ByteArray) (L : Loc) : sec2 p L = wall (nm2 p L) ([], false) := rfl
theorem sec3_wall (p : List ByteArray) (L : Loc) : sec3 p L = wall (nm3 p L) ([], (sec2 p L).2) := rfl
theorem wrules_wall (p : List ByteArray) : ∀ (xs : List (Int × ByteArray)) (st : List Int × Bool), wrules xs ((xs.flatMap fun x => [x.2]).map (ix p)) st = wall (nr p xs) st
  | [], st => by show wrules [] [] st = st; rw [wrules]; all_goals simp
  | x :: xs, st => by
    show wrules (x :: xs) (ix p x.2 :: (xs.flatMap fun x => [x.2]).map (ix p)) st = _
    rw [wrules, wrules_wall p xs]
    rfl
theorem wcurs_wall (p : List ByteArray) : ∀ (xs : List (ByteArray × ByteArray × Int)) (st : List Int × Bool), wcurs xs ((xs.flatMap fun x => [x.1, x.2.1]).map (ix p)) st = wall (nc p xs) st
  | [], st => by show wcurs [] [] st = st; rw [wcurs]; all_goals simp
  | x :: xs, st => by
    show wcurs (x :: xs) (ix p x.1 :: ix p x.2.1 :: (xs.flatMap fun x => [x.1, x.2.1]).map (ix p)) st = _
    rw [wcurs, wcurs_wall p xs]
    rfl
theorem wcomps_wall (p : List ByteArray) : ∀ (xs : List (Int × Int × ByteArray)) (st : List Int × Bool), wcomps xs ((xs.flatMap fun x => [x.2.2]).map (ix p)) st = wall (nk p xs) st
  | [], st => by show wcomps [] [] st = st; rw [wcomps]; all_goals simp
  | x :: xs, st => by
    show wcomps (x :: xs) (ix p x.2.2 :: (xs.flatMap fun x => [x.2.2]).map (ix p)) st = _
    rw [wcomps, wcomps_wall p xs]
    rfl
theorem sec4_wall (p : List ByteArray) (L : Loc) : sec4 p L = wall (nm4 p L) ([], (sec3 p L).2) := by
  unfold sec4 rT
  rw [wrules_wall]
  rfl
theorem sec5_wall (p : List ByteArray) (L : Loc) : sec5 p L = wall (nm5 p L) ([], (sec4 p L).2) := by
  unfold sec5 cT
  rw [wcurs_wall]
  rfl
theorem sec6_wall (p : List ByteArray) (L : Loc) : sec6 p L = wall (nm6 p L) ([], (sec5 p L).2) := by
  unfold sec6 mT
  rw [wcomps_wall]
  rfl
theorem sec_bad (p : List ByteArray) (L : Loc) : (sec6 p L).2 = !okB (nmAll p L) := by
  rw [sec6_wall, wall_bad, sec5_wall, wall_bad, sec4_wall, wall_bad, sec3_wall, wall_bad, sec2_wall, wall_bad, nmAll, okB_app, okB_app, okB_app, okB_app]
  generalize okB (nm2 p L) = a
  generalize okB (nm3 p L) = b
  generalize okB (nm4 p L) = c
  generalize okB (nm5 p L) = d
  generalize okB (nm6 p L) = e
  cases a <;> cases b <;> cases c <;> cases d <;> cases e <;> rfl
/-- the parts of a bundle -/
def qs (p : List ByteArray) (L : Loc) : List (List Int) := [firstP p, numsB (nm2 p L), numsB (nm3 p L), numsB (nm4 p L), numsB (nm5 p L), numsB (nm6 p L)]
theorem okAll {p : List ByteArray} {L : Loc} (h : okB (nmAll p L) = true) : okB (nm2 p L) = true ∧ okB (nm3 p L) = true ∧ okB (nm4 p L) = true ∧ okB (nm5 p L) = true ∧ okB (nm6 p L) = true := by
  simpa only [nmAll, okB_app, Bool.and_eq_true] using h
theorem parts_qs {p : List ByteArray} {L : Loc} (h : okB (nmAll p L) = true) : partsL p L = qs p L := by
  obtain ⟨h2, h3, h4, h5, h6⟩ := okAll h
  unfold partsL qs
  rw [sec6_wall, wall_ok _ _ h6, sec5_wall, wall_ok _ _ h5, sec4_wall, wall_ok _ _ h4, sec3_wall, wall_ok _ _ h3, sec2_wall, wall_ok _ _ h2]
  simp only [List.nil_append]
/-- the numbers of a directory -/
def dirN : List (List Int) → Int → List (Int × Int)
  | [], _ => []
  | q :: qs, at_ => (at_, 4) :: ((q.length : Int), 4) :: dirN qs (at_ + q.length)
theorem wdir_wall : ∀ (qs : List (List Int)) (at_ : Int) (st : List Int × Bool), wdir qs at_ st = wall (dirN qs at_) st
  | [], _, _ => rfl
  | q :: qs, at_, st => by rw [wdir, wdir_wall qs]; rfl
theorem dirN_ok : ∀ (qs : List (List Int)) (at_ : Int), 0 ≤ at_ → at_ + qs.flatten.length < 4294967296 → okB (dirN qs at_) = true
  | [], _, _, _ => rfl
  | q :: qs, at_, h0, h1 => by
    rw [List.flatten_cons, List.length_append] at h1
    rw [dirN, okB_cons, okB_cons, dirN_ok qs _ (by omega) (by omega), okN_iff.2 ⟨h0, puts4.2 (by omega)⟩, okN_iff.2 ⟨by omega, puts4.2 (by omega)⟩]
    rfl
def dirA (p : List ByteArray) (L : Loc) : List Int := [69, 88, 76, 66] ++ numsB ((1, 2) :: (6, 2) :: dirN (qs p L) 56)
/-- a bundle, ahead of its checksum -/
def bundleB (p : List ByteArray) (L : Loc) : List Int := dirA p L ++ (qs p L).flatten
theorem headL_wall (p : List ByteArray) (L : Loc) : headL p L = wall ((1, 2) :: (6, 2) :: dirN (partsL p L) 56) ([69, 88, 76, 66], (sec6 p L).2) := by
  unfold headL
  rw [wdir_wall]
  rfl
theorem encIn_no {L : Loc} (h : isPoolB (gpool (textsL L)) = false ∨ okB (nmAll (gpool (textsL L)) L) = false) : encIn L = none := by
  unfold encIn
  rcases h with h | h
  · rw [if_neg (by rw [h]; simp)]
  · split
    · rw [if_pos]
      rw [headL_wall, wall_bad, sec_bad, h]
      rfl
    · rfl
theorem encIn_yes {L : Loc} (hL : LocB L) (h : isPoolB (gpool (textsL L)) = true) (h2 : okB (nmAll (gpool (textsL L)) L) = true) : encIn L = some (bundleB (gpool (textsL L)) L) := by
  have hl := (parts_len (p := gpool (textsL L)) hL h).1
  unfold encIn
  rw [if_pos h]
  generalize gpool (textsL L) = p at *
  have e := headL_wall p L
  rw [parts_qs h2] at e hl ⊢
  have hd : okB ((1, 2) :: (6, 2) :: dirN (qs p L) 56) = true := by
    rw [okB_cons, okB_cons, dirN_ok _ _ (by decide) (by omega)]
    decide
  rw [wall_ok _ _ hd, sec_bad, h2] at e
  rw [e, if_neg (by simp)]
  rfl
theorem encIn_some {L : Loc} {x : List Int} (hL : LocB L) (h : encIn L = some x) : isPoolB (gpool (textsL L)) = true ∧ okB (nmAll (gpool (textsL L)) L) = true ∧ x = bundleB (gpool (textsL L)) L := by
  cases h1 : isPoolB (gpool (textsL L)) with
  | false => rw [encIn_no (.inl h1)] at h; cases h
  | true =>
    cases h2 : okB (nmAll (gpool (textsL L)) L) with
    | false => rw [encIn_no (.inr h2)] at h; cases h
    | true => rw [encIn_yes hL h1 h2] at h; exact ⟨rfl, rfl, (Option.some.inj h).symm⟩
theorem numsB_len4 : ∀ (qs : List (List Int)) (at_ : Int), (numsB (dirN qs at_)).length = 8 * qs.length
  | [], _ => rfl
  | q :: qs, at_ => by
    rw [dirN, numsB_cons, numsB_cons, List.length_append, List.length_append, numsB_len4 qs, bytesB_len, bytesB_len, List.length_cons]
    show 4 + (4 + _) = _
    omega
theorem dirA_len (p : List ByteArray) (L : Loc) : (dirA p L).length = 56 := by
  unfold dirA
  rw [numsB_cons, numsB_cons, List.length_append, List.length_append, List.length_append, numsB_len4, bytesB_len, bytesB_len]
  rfl
-- what is written is read
/-- bytes from a place on -/
def Rem (B : List Int) (at_ : Int) (C : List Int) : Prop := ∃ A, B = A ++ C ∧ at_ = A.length
theorem Rem.next {B : List Int} {at_ : Int} {x C : List Int} (h : Rem B at_ (x ++ C)) : Rem B (at_ + x.length) C := by
  obtain ⟨A, rfl, rfl⟩ := h
  exact ⟨A ++ x, (List.append_assoc _ _ _).symm, by rw [List.length_append]; omega⟩
theorem Rem.num {B : List Int} {at_ n s : Int} {C : List Int} (h : Rem B at_ (bytesB n s.toNat ++ C)) (ho : okN (n, s) = true) : ∃ q, rnum B s at_ = some (n, q) ∧ Rem B q C := by
  obtain ⟨h0, h1⟩ := okN_iff.1 ho
  have hn := h.next
  obtain ⟨A, rfl, rfl⟩ := h
  have ht := put_take A C n s h0 h1
  refine ⟨_, ?_, hn⟩
  unfold rnum
  rw [ht]
  dsimp only
  rw [if_pos rfl, bytesB_len]
  have hs : isSz s = true := by simp only [putsB, Bool.and_eq_true] at h1; exact h1.1
  have : ((s.toNat : Nat) : Int) = s := by rcases isSz_iff.1 hs with rfl | rfl | rfl <;> rfl
  rw [this]
theorem Rem.sign {B : List Int} {at_ n : Int} {C : List Int} (h : Rem B at_ (bytesB n 4 ++ C)) (h0 : 0 ≤ n) (h1 : n < 2147483648) : ∃ q, rsign B at_ = some (n, q) ∧ Rem B q C := by
  obtain ⟨q, hq, hR⟩ := Rem.num (s := 4) h (okN_iff.2 ⟨h0, puts4.2 (by omega)⟩)
  refine ⟨q, ?_, hR⟩
  unfold rsign
  rw [hq, Option.map_some]
  have : wrap32 n = n := by unfold wrap32; omega
  dsimp only
  rw [this]
theorem Rem.text {B : List Int} {at_ : Int} {p : List ByteArray} {s : ByteArray} {C : List Int} (h : Rem B at_ (bytesB (ix p s) 2 ++ C)) (hs : s ∈ p) (hp : p.length ≤ 500) : ∃ q, rtext B p at_ = some (s, q) ∧ Rem B q C := by
  have hlt := List.idxOf_lt_length_of_mem hs
  obtain ⟨q, hq, hR⟩ := Rem.num (s := 2) h (okN_iff.2 ⟨by unfold ix; omega, puts2.2 (by unfold ix; omega)⟩)
  refine ⟨q, ?_, hR⟩
  unfold rtext
  rw [hq, Option.bind_some]
  dsimp only
  rw [if_pos (by unfold ix; omega)]
  unfold ix
  rw [rs_at hlt, List.getElem_idxOf]
set_option maxRecDepth 100000 in
theorem Rem.rules {B : List Int} {p : List ByteArray} (hp : p.length ≤ 500) : ∀ (xs : List (Int × ByteArray)) (at_ : Int) (acc : List (Int × ByteArray)) (C : List Int), Rem B at_ (numsB (nr p xs) ++ C) → okB (nr p xs) = true → (∀ x ∈ xs, x.2 ∈ p) → ∃ q, rrules B p xs.length at_ acc = some (acc ++ xs, q) ∧ Rem B q C
  | [], at_, acc, C, h, _, _ => ⟨at_, by rw [List.length_nil, rrules, List.append_nil], h⟩
  | x :: xs, at_, acc, C, h, ho, hm => by
    have e : nr p (x :: xs) = (x.1, 1) :: (ix p x.2, 2) :: nr p xs := rfl
    rw [e, okB_cons, okB_cons, Bool.and_eq_true, Bool.and_eq_true] at ho
    rw [e, numsB_cons, numsB_cons, List.append_assoc, List.append_assoc] at h
    obtain ⟨q1, h1, R1⟩ := h.num ho.1
    obtain ⟨q2, h2, R2⟩ := Rem.text R1 (hm x List.mem_cons_self) hp
    obtain ⟨q3, h3, R3⟩ := Rem.rules hp xs q2 (acc ++ [x]) C R2 ho.2.2 (fun y hy => hm y (List.mem_cons_of_mem _ hy))
    refine ⟨q3, ?_, R3⟩
    rw [List.length_cons, rrules, h1, Option.bind_some]
    dsimp only
    rw [h2, Option.bind_some, h3, List.append_assoc]
    rfl
theorem Rem.curs {B : List Int} {p : List ByteArray} (hp : p.length ≤ 500) (xs : List (ByteArray × ByteArray × Int)) : ∀ (at_ : Int) (acc : List (ByteArray × ByteArray × Int)) (C : List Int), Rem B at_ (numsB (nc p xs) ++ C) → okB (nc p xs) = true → (∀ x ∈ xs, x.1 ∈ p ∧ x.2.1 ∈ p) → ∃ q, rcurs B p xs.length at_ acc = some (acc ++ xs, q) ∧ Rem B q C := by
  induction xs with
  | nil => exact fun at_ acc C h _ _ => ⟨at_, by rw [List.length_nil, rcurs, List.append_nil], h⟩
  | cons x xs ih =>
    intro at_ acc C h ho hm
    have e : nc p (x :: xs) = (ix p x.1, 2) :: (ix p x.2.1, 2) :: (x.2.2, 1) :: nc p xs := rfl
    rw [e, okB_cons, okB_cons, okB_cons, Bool.and_eq_true, Bool.and_eq_true, Bool.and_eq_true] at ho
    have eh : numsB (nc p (x :: xs)) ++ C = bytesB (ix p x.1) 2 ++ (bytesB (ix p x.2.1) 2 ++ (bytesB x.2.2 1 ++ (numsB (nc p xs) ++ C))) := by
      rw [e]
      simp only [numsB_cons, List.append_assoc]
      rfl
    rw [eh] at h
    obtain ⟨q1, h1, R1⟩ := Rem.text h (hm x List.mem_cons_self).1 hp
    obtain ⟨q2, h2, R2⟩ := Rem.text R1 (hm x List.mem_cons_self).2 hp
    obtain ⟨q3, h3, R3⟩ := R2.num ho.2.2.1
    obtain ⟨q4, h4, R4⟩ := ih q3 (acc ++ [x]) C R3 ho.2.2.2 (fun y hy => hm y (List.mem_cons_of_mem _ hy))
    refine ⟨q4, ?_, R4⟩
    rw [List.length_cons, rcurs, h1, Option.bind_some]
    dsimp only
    rw [h2, Option.bind_some]
    dsimp only
    rw [h3, Option.bind_some, h4, List.append_assoc]
    rfl
set_option maxRecDepth 100000 in
theorem Rem.comps {B : List Int} {p : List ByteArray} (hp : p.length ≤ 500) : ∀ (xs : List (Int × Int × ByteArray)) (at_ : Int) (acc : List (Int × Int × ByteArray)) (C : List Int), Rem B at_ (numsB (nk p xs) ++ C) → okB (nk p xs) = true → (∀ x ∈ xs, x.2.2 ∈ p) → ∃ q, rcomps B p xs.length at_ acc = some (acc ++ xs, q) ∧ Rem B q C
  | [], at_, acc, C, h, _, _ => ⟨at_, by rw [List.length_nil, rcomps, List.append_nil], h⟩
  | x :: xs, at_, acc, C, h, ho, hm => by
    have e : nk p (x :: xs) = (x.1, 1) :: (x.2.1, 1) :: (ix p x.2.2, 2) :: nk p xs := rfl
    rw [e, okB_cons, okB_cons, okB_cons, Bool.and_eq_true, Bool.and_eq_true, Bool.and_eq_true] at ho
    rw [e, numsB_cons, numsB_cons, numsB_cons, List.append_assoc, List.append_assoc, List.append_assoc] at h
    obtain ⟨q1, h1, R1⟩ := h.num ho.1
    obtain ⟨q2, h2, R2⟩ := R1.num ho.2.1
    obtain ⟨q3, h3, R3⟩ := Rem.text R2 (hm x List.mem_cons_self) hp
    obtain ⟨q4, h4, R4⟩ := Rem.comps hp xs q3 (acc ++ [x]) C R3 ho.2.2.2 (fun y hy => hm y (List.mem_cons_of_mem _ hy))
    refine ⟨q4, ?_, R4⟩
    rw [List.length_cons, rcomps, h1, Option.bind_some]
    dsimp only
    rw [h2, Option.bind_some]
    dsimp only
    rw [h3, Option.bind_some, h4, List.append_assoc]
    rfl
/-- a pool that is put, whatever stands behind, is taken -/
theorem pool_takeC (b : List Int) (ts : List ByteArray) (C : List Int) (h : isPoolB ts = true) : takePool (b ++ (bytesB ts.length 2 ++ (poolBytes ts ++ C))) b.length = (ts, (b.length : Int) + (bytesB ts.length 2 ++ poolBytes ts).length, 0) := by
  obtain ⟨_, h5, h4⟩ := isPoolB_facts h
  have ht := put_take b (poolBytes ts ++ C) ts.length 2 (by omega) (by simp [putsB, isSz]; omega)
  have e0 : b ++ (bytesB ts.length 2 ++ (poolBytes ts ++ C)) = b ++ (bytesB ts.length (Int.toNat 2) ++ (poolBytes ts ++ C)) := rfl
  rw [← e0] at ht
  have hx := textsN_put ts (b ++ bytesB ts.length 2) [] C (fun s hs => by have := h4 s hs; omega)
  have e2 : ((b ++ bytesB ts.length 2).length : Int) = (b.length : Int) + 2 := by rw [List.length_append, bytesB_len]; omega
  rw [e2, List.append_assoc, List.nil_append] at hx
  unfold takePool
  rw [ht]
  dsimp only
  rw [if_neg (by simp), Int.toNat_natCast, hx]
  dsimp only
  rw [if_pos h]
  congr 2
  rw [List.length_append, bytesB_len]
  omega
theorem texts_mem (L : Loc) : L.tag ∈ textsL L ∧ L.p0 ∈ textsL L ∧ L.p1 ∈ textsL L ∧ L.p2 ∈ textsL L ∧ L.p3 ∈ textsL L ∧ (∀ x ∈ L.rules, x.2 ∈ textsL L) ∧ (∀ x ∈ L.curs, x.1 ∈ textsL L ∧ x.2.1 ∈ textsL L) ∧ (∀ x ∈ L.comps, x.2.2 ∈ textsL L) := by
  refine ⟨by simp [textsL], by simp [textsL], by simp [textsL], by simp [textsL], by simp [textsL], fun x hx => ?_, fun x hx => ⟨?_, ?_⟩, fun x hx => ?_⟩
  · unfold textsL
    exact List.mem_append_left _ (List.mem_append_left _ (List.mem_append_right _ (List.mem_flatMap.2 ⟨x, hx, by simp⟩)))
  · unfold textsL
    exact List.mem_append_left _ (List.mem_append_right _ (List.mem_flatMap.2 ⟨x, hx, by simp⟩))
  · unfold textsL
    exact List.mem_append_left _ (List.mem_append_right _ (List.mem_flatMap.2 ⟨x, hx, by simp⟩))
  · unfold textsL
    exact List.mem_append_right _ (List.mem_flatMap.2 ⟨x, hx, by simp⟩)
set_option maxRecDepth 100000 in
/-- a locale that is written is read -/
theorem read_back {p : List ByteArray} {L : Loc} (hs : LocS L) (hp : isPoolB p = true) (ho : okB (nmAll p L) = true) (hm : ∀ s ∈ textsL L, s ∈ p) : readL (bundleB p L) = some L := by
  obtain ⟨h2, h3, h4, h5, h6⟩ := okAll ho
  obtain ⟨_, hp5, _⟩ := isPoolB_facts hp
  obtain ⟨mt, m0, m1, m2, m3, mr, mc, mk⟩ := texts_mem L
  have eB : bundleB p L = dirA p L ++ (bytesB p.length 2 ++ (poolBytes p ++ (numsB (nm2 p L) ++ (numsB (nm3 p L) ++ (numsB (nm4 p L) ++ (numsB (nm5 p L) ++ (numsB (nm6 p L) ++ []))))))) := by
    simp only [bundleB, qs, firstP, List.flatten_cons, List.flatten_nil, List.append_assoc, List.nil_append]
  have ht := pool_takeC (dirA p L) p (numsB (nm2 p L) ++ (numsB (nm3 p L) ++ (numsB (nm4 p L) ++ (numsB (nm5 p L) ++ (numsB (nm6 p L) ++ []))))) hp
  rw [← eB, dirA_len] at ht
  have R0 : Rem (bundleB p L) (((56 : Nat) : Int) + (bytesB p.length 2 ++ poolBytes p).length) (numsB (nm2 p L) ++ (numsB (nm3 p L) ++ (numsB (nm4 p L) ++ (numsB (nm5 p L) ++ (numsB (nm6 p L) ++ []))))) :=
    ⟨dirA p L ++ (bytesB p.length 2 ++ poolBytes p), by rw [eB]; simp only [List.append_assoc], (Int.natCast_add _ _).symm.trans (congrArg Nat.cast (by rw [← dirA_len p L, ← List.length_append]))⟩
  generalize bundleB p L = B at *
  generalize (((56 : Nat) : Int) + (bytesB p.length 2 ++ poolBytes p).length) = q0 at *
  have ht : takePool B 56 = (p, q0, 0) := ht
  simp only [nm2, okB_cons, Bool.and_eq_true] at h2
  simp only [nm3, okB_cons, Bool.and_eq_true] at h3
  simp only [nm4, okB_cons, Bool.and_eq_true] at h4
  simp only [nm5, okB_cons, Bool.and_eq_true] at h5
  simp only [nm6, okB_cons, Bool.and_eq_true] at h6
  simp only [LocS, List.mem_cons, List.not_mem_nil, or_false, forall_eq_or_imp, forall_eq] at hs
  have e2 : ∀ C, numsB (nm2 p L) ++ C = bytesB (ix p L.tag) 2 ++ (bytesB L.s0 4 ++ (bytesB L.s1 4 ++ (bytesB L.s2 4 ++ (bytesB L.s3 4 ++ (bytesB L.s4 4 ++ (bytesB L.s5 4 ++ (bytesB L.s6 4 ++ C))))))) := fun C => by
    simp only [nm2, numsB, List.flatMap_cons, List.flatMap_nil, List.append_assoc, List.nil_append]
    rfl
  have e3 : ∀ C, numsB (nm3 p L) ++ C = bytesB (ix p L.p0) 2 ++ (bytesB (ix p L.p1) 2 ++ (bytesB (ix p L.p2) 2 ++ (bytesB (ix p L.p3) 2 ++ C))) := fun C => by
    simp only [nm3, numsB, List.flatMap_cons, List.flatMap_nil, List.append_assoc, List.nil_append]
    rfl
  rw [e2] at R0
  obtain ⟨q1, t1, R1⟩ := Rem.text R0 (hm _ mt) hp5
  obtain ⟨a0, s0, R1⟩ := R1.sign (okN_iff.1 h2.2.1).1 hs.1.2
  obtain ⟨a1, s1, R1⟩ := R1.sign (okN_iff.1 h2.2.2.1).1 hs.2.1.2
  obtain ⟨a2, s2, R1⟩ := R1.sign (okN_iff.1 h2.2.2.2.1).1 hs.2.2.1.2
  obtain ⟨a3, s3, R1⟩ := R1.sign (okN_iff.1 h2.2.2.2.2.1).1 hs.2.2.2.1.2
  obtain ⟨a4, s4, R1⟩ := R1.sign (okN_iff.1 h2.2.2.2.2.2.1).1 hs.2.2.2.2.1.2
  obtain ⟨a5, s5, R1⟩ := R1.sign (okN_iff.1 h2.2.2.2.2.2.2.1).1 hs.2.2.2.2.2.1.2
  obtain ⟨a6, s6, R1⟩ := R1.sign (okN_iff.1 h2.2.2.2.2.2.2.2.1).1 hs.2.2.2.2.2.2.2
  rw [e3] at R1
  obtain ⟨b0, u0, R1⟩ := Rem.text R1 (hm _ m0) hp5
  obtain ⟨b1, u1, R1⟩ := Rem.text R1 (hm _ m1) hp5
  obtain ⟨b2, u2, R1⟩ := Rem.text R1 (hm _ m2) hp5
  obtain ⟨b3, u3, R1⟩ := Rem.text R1 (hm _ m3) hp5
  rw [nm4, numsB_cons, List.append_assoc] at R1
  obtain ⟨c0, v0, R1⟩ := R1.num h4.1
  obtain ⟨c1, v1, R1⟩ := Rem.rules hp5 L.rules c0 [] _ R1 h4.2 (fun x hx => hm _ (mr x hx))
  rw [nm5, numsB_cons, List.append_assoc] at R1
  obtain ⟨d0, w0, R1⟩ := R1.num h5.1
  obtain ⟨d1, w1, R1⟩ := Rem.curs hp5 L.curs d0 [] _ R1 h5.2 (fun x hx => ⟨hm _ (mc x hx).1, hm _ (mc x hx).2⟩)
  rw [nm6, numsB_cons, List.append_assoc] at R1
  obtain ⟨e0, x0, R1⟩ := R1.num h6.1
  obtain ⟨e1, x1, R1⟩ := Rem.comps hp5 L.comps e0 [] _ R1 h6.2 (fun x hx => hm _ (mk x hx))
  unfold readL
  rw [ht]
  dsimp only
  rw [if_neg (by simp), t1, Option.bind_some]
  dsimp only [rK1]
  simp only [rsigns, s0, s1, s2, s3, s4, s5, s6, Option.bind_some, rK2, rpats, u0, u1, u2, u3, rK3, v0, Int.toNat_natCast, v1, rK4, w0, w1, rK5, x0, x1, List.nil_append]
  rfl
theorem mem_gpoolL (L : Loc) : ∀ s ∈ textsL L, s ∈ gpool (textsL L) := fun s hs => mem_gpool hs
theorem enc_read {L : Loc} {x : List Int} (hL : LocB L) (hs : LocS L) (h : encIn L = some x) : readL x = some L := by
  obtain ⟨h1, h2, rfl⟩ := encIn_some hL h
  exact read_back hs h1 h2 (mem_gpoolL L)
end Go.Proofs.Ytmhpcjncngonbaa.Q
/- What slices.Grow of nothing and slices.Concat come to; rows of bytes. -/
namespace Go.Proofs.Ytmhpcjncngonbaa.Q
open Go.RowKit Go.Proofs.Ytmhpcjncngonbaa.Mine Go.Proofs.YtmhpcjncngonbaaW.PrintWords Go.Proofs.YtmhpcjncngonbaaW.PrintLast Go.Proofs.YtmhpcjncngonbaaW.PrintMore
set_option linter.unusedVariables false
set_option linter.unusedSimpArgs false
set_option maxHeartbeats 4000000 in
set_option maxRecDepth 100000 in
theorem grow.calls (n : Int) (w : World) (h0 : 0 ≤ n) (h1 : n ≤ 140737488355328) :
    Calls Try.prog 50 #[.slice none 0 0, .int .i64 n] w fun e w' => ∃ v0_ : Value, e = .returned v0_ ∧ Kd.R (Kd.int .u8) 5 w' w.heap.size (fun _ => True) v0_ [] ∧ Below w.heap.size w w' := by
  have hn : decide (n < 0) = false := decide_eq_false (by omega)
  have hw : wrap64 n = n := by unfold wrap64; omega
  by_cases hz : n = 0
  · subst hz
    go_enter Try.func50, Try.ntmps50
    go_wp2
    go_ret
    exact ⟨_, rfl, Kd.R_nil _ _ _ _ _, Below.refl _ _⟩
  · have hg : decide (n > 0) = true := decide_eq_true (by omega)
    have hg2 : decide (0 < n) = true := decide_eq_true (by omega)
    have HN := Aside0.mk (show 0 ≤ n ∧ n ≤ 140737488355328 from ⟨h0, h1⟩)
    clear hz
    go_enter Try.func50, Try.ntmps50
    go_wp2_with ((with_reducible refine gate_builtin (b := .append) (xs := #[.tmp 20, .tmp 21]) rfl ?_); at_builtin; refine Kd.R_append_zeros (Kd.int .u8) (w0 := w) w.heap.size rfl (.tmp 20) (.tmp 21) 32 3 5 (.int .u8 0) 1 rfl Try.underlying32 Try.underlying3 info5 rfl (by decide) (by omega) (.slice none 0 0) [] (0 : Int) n (fun _ => True) rfl rfl rfl (fun _ _ => trivial) (Kd.R_nil _ _ _ _ _) HN.out.1 (Below.refl _ _) (Nat.le_refl _) (by have := HN.out; simp; omega) ?_; intro v5 w5 ho_ hb_ _ _; obtain ⟨A, c, hv5⟩ := Kd.R_slice ho_; subst hv5; have HO5 := Aside0.mk ho_; have HB5 := Aside0.mk hb_; clear ho_ hb_)
    go_ret
    exact ⟨_, rfl, by have := Kd.R_take (m := 0) HO5.out (Nat.zero_le _); simpa using this, HB5.out⟩
/-- how long the first rows are together -/
def flen (ls : List (List Int)) (j : Nat) : Nat := (ls.take j).flatten.length
theorem rdL1 {ls : List (List Int)} {j : Nat} {x : List Int} (hx : ls[j]? = some x) : rd_L1 ls (j : Int) = x := by
  unfold rd_L1
  rw [Int.toNat_natCast, List.getD_eq_getElem?_getD, hx]
  rfl
set_option maxHeartbeats 4000000 in
set_option maxRecDepth 100000 in
theorem concat.calls (A0 : Option Addr) (c0 : Nat) (ls : List (List Int)) (w : World) (hr : Kd.C (Kd.slice 5 (Kd.int .u8)) w A0 ls.length ls) (hc : ls.length ≤ c0) (ht : ls.flatten.length < 140737488355328) :
    Calls Try.prog 33 #[.slice A0 ls.length c0] w fun e w' => ∃ v0_ : Value, e = .returned v0_ ∧ Kd.R (Kd.int .u8) 5 w' w.heap.size (fun _ => True) v0_ ls.flatten ∧ Below w.heap.size w w' := by
  have HR := Aside0.mk hr
  have HT := Aside0.mk ht
  have HM := Aside0.mk (show ls.length ≤ 9223372036854775807 from hr.2.1)
  have HS := Aside0.mk (show ∀ (j : Nat) (x : List Int), ls[j]? = some x → flen ls j + x.length = flen ls (j + 1) ∧ flen ls (j + 1) ≤ ls.flatten.length ∧ (ls.take j).flatten ++ x = (ls.take (j + 1)).flatten from fun j x hx => by
    obtain ⟨hl, he⟩ := List.getElem?_eq_some_iff.1 hx
    have e1 : (ls.take (j + 1)) = ls.take j ++ [x] := by rw [List.take_succ_eq_append_getElem hl, he]
    have e2 : ls.flatten = (ls.take (j + 1)).flatten ++ (ls.drop (j + 1)).flatten := by rw [← List.flatten_append, List.take_append_drop]
    have e3 : (ls.take (j + 1)).flatten = (ls.take j).flatten ++ x := by rw [e1, List.flatten_append]; simp
    refine ⟨by rw [flen, flen, e3, List.length_append], ?_, e3.symm⟩
    rw [flen]
    rw [e2, List.length_append]
    omega)
  clear hr ht
  go_enter Try.func33, Try.ntmps33
  go_wp2_with fail
  go_loopg [3, 11] ls.length (fun kq v3 v11 w' => w = w' ∧ ∃ (j : Nat), v11 = .int .i64 (j : Int) ∧ v3 = .int .i64 (flen ls j : Int) ∧ Aside0 (j ≤ ls.length) ∧ Aside0 (ls.length - j = kq))
  case atStart => exact ⟨rfl, 0, rfl, rfl, ⟨Nat.zero_le _⟩, ⟨rfl⟩⟩
  case round =>
    obtain ⟨rfl, j, rfl, rfl, HJ, HKQ⟩ := hrel
    by_cases hlt : j < ls.length
    · have hlt2 : (j : Int) < (ls.length : Int) := by omega
      obtain ⟨x, hx⟩ : ∃ x, ls[j]? = some x := ⟨_, List.getElem?_eq_getElem hlt⟩
      obtain ⟨ad, A1, c1, rfl, hcell, hl1, hC1⟩ := at_L1 HR.out (j : Int) (by omega) (by omega)
      rw [rdL1 hx, Int.toNat_natCast] at hcell
      have hs := HS.out j x hx
      have hT := HT.out
      have hw1 : wrap64 ((flen ls j : Int) + (x.length : Int)) = (flen ls (j + 1) : Int) := by rw [← hs.1]; unfold wrap64; omega
      have hd : decide ((flen ls (j + 1) : Int) < 0) = false := decide_eq_false (by omega)
      have HLT := Aside0.mk hlt
      clear hs hT hl1 hC1 hx hlt
      go_wp2
      go_roundg (ls.length - (j + 1))
      case measure => have := HLT.out; have := HKQ.out; omega
      case rel => exact ⟨rfl, j + 1, by have h1 := HLT.out; have h2 := HM.out; first | rfl | (congr 1; unfold wrap64; omega), by first | rfl | rw [hw1], ⟨HLT.out⟩, ⟨rfl⟩⟩
    · have hj : j = ls.length := by have := HJ.out; omega
      subst hj
      have hT := HT.out
      have et : flen ls ls.length = ls.flatten.length := by rw [flen, List.take_of_length_le (Nat.le_refl _)]
      have HG := Aside0.mk (fun w => grow.calls (flen ls ls.length : Int) w (by omega) (by omega))
      have HFL := Aside0.mk et
      clear hlt hT et
      go_wp2_with fail
      refine (HG.out _).mono ?_
      rintro e w1 ⟨v0, rfl, ho, hb⟩
      have HO := Aside0.mk ho
      have HB := Aside0.mk hb
      clear ho hb
      dsimp only
      go_wp2_with fail
      go_loopg [6, 27] ls.length (fun kq v6 v27 w' => ∃ (j : Nat), v27 = .int .i64 (j : Int) ∧ Aside0 (j ≤ ls.length) ∧ Aside0 (ls.length - j = kq) ∧ Aside0 (Kd.R (Kd.int .u8) 5 w' w.heap.size (fun _ => True) v6 (ls.take j).flatten) ∧ Aside0 (Below w.heap.size w w'))
      case atStart => exact ⟨0, rfl, ⟨Nat.zero_le _⟩, ⟨rfl⟩, HO, HB⟩
      case round =>
        obtain ⟨j, rfl, HJ, HKQ, HOJ, HBJ⟩ := hrel
        by_cases hlt : j < ls.length
        · have hlt2 : (j : Int) < (ls.length : Int) := by omega
          obtain ⟨x, hx⟩ : ∃ x, ls[j]? = some x := ⟨_, List.getElem?_eq_getElem hlt⟩
          obtain ⟨ad, A1, c1, hA, hcell, hl1, hC1⟩ := at_L1 (Kd.C_below HR.out HBJ.out) (j : Int) (by omega) (by omega)
          subst hA
          rw [rdL1 hx, Int.toNat_natCast] at hcell
          rw [rdL1 hx] at hC1
          have hs := HS.out j x hx
          have HC1 := Aside0.mk hC1
          have HSS := Aside0.mk hs
          have HLEN := Aside0.mk (show ((ls.take j).flatten.length + x.length) * 1 ≤ 140737488355328 by have := HT.out; have h1 := hs.1; have h2 := hs.2.1; rw [show (ls.take j).flatten.length = flen ls j from rfl]; omega)
          have HLT := Aside0.mk hlt
          clear hl1 hC1 hx hlt hs
          go_wp2_with ((with_reducible refine gate_builtin (b := .append) (xs := #[.tmp 31, .tmp 32]) rfl ?_); at_builtin; refine Kd.R_append_rows (Kd.int .u8) (w0 := w) w.heap.size rfl (.tmp 31) (.tmp 32) 32 5 (.int .u8 0) 1 rfl Try.underlying32 info5 rfl (by decide) (by omega) u6 (ls.take j).flatten x _ _ _ (fun _ => True) (fun _ => False) rfl rfl ?aO ?aR (fun _ _ h => h) (fun _ h => h.elim) ?aF ?aB ?aS ?aL ?_; (case aF => exact (fun _ _ => trivial)); (case aO => exact HOJ.out); (case aR => exact HC1.out); (case aB => exact HBJ.out); (case aS => exact HBJ.out.size); (case aL => exact HLEN.out); intro v7 w7 ho_ hb_ _ _; have HO7 := Aside0.mk ho_; have HB7 := Aside0.mk hb_; clear ho_ hb_)
          rw [HSS.out.2.2] at HO7
          go_roundg (ls.length - (j + 1))
          case measure => have := HLT.out; have := HKQ.out; omega
          case rel => exact ⟨j + 1, by have h1 := HLT.out; have h2 := HM.out; first | rfl | (congr 1; unfold wrap64; omega), ⟨HLT.out⟩, ⟨rfl⟩, HO7, HB7⟩
        · have hj : j = ls.length := by have := HJ.out; omega
          subst hj
          rw [List.take_of_length_le (Nat.le_refl _)] at HOJ
          clear hlt
          go_wp2
          go_ret
          exact ⟨_, rfl, HOJ.out, HBJ.out⟩
end Go.Proofs.Ytmhpcjncngonbaa.Q
/- The writer's methods, by their numbers; rows of 65535 at most. -/
namespace Go.Proofs.Ytmhpcjncngonbaa.Q
open Go.RowKit Go.Proofs.Ytmhpcjncngonbaa.Mine Go.Proofs.YtmhpcjncngonbaaW.PrintWords Go.Proofs.YtmhpcjncngonbaaW.PrintLast Go.Proofs.YtmhpcjncngonbaaW.PrintMore
set_option linter.unusedVariables false
set_option linter.unusedSimpArgs false
open Go.Proofs.Ytmhpcjncngonbaa.Spec (I Y)
/-- a row of one element, just laid -/
theorem R_lit_one {α : Type} (d : Kd α) (hsz : d.sz = 1) (w : World) (e base : Nat) (ok okp : Nat → Prop) (x : α) (v : Value) (hM : d.M w base okp x [v]) (hok : ∀ k, okp k → ok k) (hfresh : ok w.heap.size) (hb : base ≤ w.heap.size) :
    d.R e (w.alloc (.cells #[v] e)) base ok (.slice (some ⟨w.heap.size, 0, none⟩) 1 1) [x] := by
  refine ⟨fun k hk => ?_, [v], ?_, ⟨?_, fun j p hj => ?_⟩⟩
  · have : w.heap.size = k := by simpa [Value.ownBlock] using hk
    exact this ▸ hfresh
  · have h2 := World.ownsRow_lit (base := base) (e := e) (size := d.sz) w #[v] 1 hb (by simp only [maxLen]; omega) (by rw [hsz]; rfl)
    exact h2
  · show 1 = 1 * d.sz
    rw [hsz]
  · cases j with
    | succ j => simp at hj
    | zero =>
      have hp : x = p := by simpa using hj
      subst hp
      rw [Nat.zero_mul, List.drop_zero, hsz]
      show d.M (w.alloc (.cells #[v] e)) base _ x [v]
      refine d.M_mono (fun k hk => ⟨hok k hk.1, fun he => ?_⟩) (Kd.M_below (d.M_bound hM) (below_alloc (Below.refl _ _) _))
      have h3 : k = w.heap.size := by simpa [Value.ownBlock] using he
      have := hk.2.2.1
      omega
/-- a writer's block, whatever it has written last -/
def Wn (g : Nat) (refs : List Int) (L : Loc) (a : Lat) (bad : Bool) (w0 w : World) : Prop :=
  ∃ bv A c, w.heap[g]? = some (.cells (wrC bv (.slice A refs.length c) L a bad) 69 (0, 0)) ∧ (Kd.int .i64).C w0 A refs.length refs ∧ refs.length ≤ c ∧ w0.heap.size = g ∧ LocC L a w0 ∧ Below g w0 w
theorem Wt.n {g : Nat} {refs : List Int} {L : Loc} {a : Lat} {st : List Int × Bool} {w0 w : World} (h : Wt g refs L a st w0 w) : Wn g refs L a st.2 w0 w := by
  obtain ⟨A, c, ⟨bv, hw, _, hB⟩, h1, h2, h3, h4⟩ := h
  exact ⟨bv, A, c, hw, h1, h2, h3, h4, hB⟩
theorem Wn.lt {g : Nat} {refs : List Int} {L : Loc} {a : Lat} {bad : Bool} {w0 w : World} (h : Wn g refs L a bad w0 w) : g < w.heap.size := by
  obtain ⟨_, _, _, hw, _⟩ := h
  exact blk_lt hw
/-- what has been written is dropped -/
theorem Wn.nil {g : Nat} {refs : List Int} {L : Loc} {a : Lat} {bad : Bool} {w0 w : World} (h : Wn g refs L a bad w0 w) : Wt g refs L a ([], bad) w0 (w.setCell ⟨g, 0, none⟩ (.slice none 0 0)) := by
  obtain ⟨bv, A, c, hw, h1, h2, h3, h4, hB⟩ := h
  exact ⟨A, c, ⟨_, blk_put hw 0 _ rfl, Kd.R_nil _ _ _ _ _, hB.setCell (Nat.le_refl g) _⟩, h1, h2, h3, h4⟩
theorem Wn.cell {g : Nat} {refs : List Int} {L : Loc} {a : Lat} {bad : Bool} {w0 w : World} (h : Wn g refs L a bad w0 w) : ∃ bv, w.cell? ⟨g, 0, none⟩ = some bv ∧ w.frozen? ⟨g, 0, none⟩ = false := by
  obtain ⟨bv, A, c, hw, _⟩ := h
  exact ⟨bv, (blk_cell hw 0).trans rfl, blk_frozen hw 0⟩
/-- a row that is no writer's has grown -/
theorem Wn.grown {g : Nat} {refs : List Int} {L : Loc} {a : Lat} {bad : Bool} {w0 w w1 : World} (h : Wn g refs L a bad w0 w) {row : Option Nat} (hg : w.grownBy w1 row) (hr : ∀ k, row = some k → g < k) : Wn g refs L a bad w0 w1 := by
  have hlt := h.lt
  obtain ⟨bv, A, c, hw, h1, h2, h3, h4, hB⟩ := h
  exact ⟨bv, A, c, blk_grown hw hg (fun e => by have := hr g e.symm; omega), h1, h2, h3, h4, pw_below_grown hB row (Nat.le_of_lt hlt) hg (fun k hk => Nat.le_of_lt (hr k hk))⟩
theorem Wt.row {g : Nat} {refs : List Int} {L : Loc} {a : Lat} {st : List Int × Bool} {w0 w : World} (h : Wt g refs L a st w0 w) : ∃ A c, w.cell? ⟨g, 0, none⟩ = some (.slice A st.1.length c) ∧ w.frozen? ⟨g, 0, none⟩ = false ∧ (Kd.int .u8).R 5 w (g + 1) (fun k => g + 1 ≤ k) (.slice A st.1.length c) st.1 := by
  obtain ⟨A', c', ⟨bv, hw, hr, hB⟩, _⟩ := h
  obtain ⟨A, c, hv⟩ := Kd.R_slice hr
  subst hv
  exact ⟨A, c, (blk_cell hw 0).trans rfl, blk_frozen hw 0, hr⟩
/-- the writer's methods, by their numbers -/
noncomputable def stepS (p : List ByteArray) (L : Loc) : Nat → List Int × Bool
  | 0 => ([], false)
  | 1 => sec2 p L
  | 2 => sec3 p L
  | 3 => sec4 p L
  | 4 => sec5 p L
  | _ => sec6 p L
def refsN (p : List ByteArray) (L : Loc) : Nat → List Int
  | 0 => ix p L.tag :: ix p L.p0 :: ix p L.p1 :: ix p L.p2 :: ix p L.p3 :: ((rT L).map (ix p) ++ ((cT L).map (ix p) ++ ((mT L).map (ix p) ++ [])))
  | 1 => ix p L.p0 :: ix p L.p1 :: ix p L.p2 :: ix p L.p3 :: ((rT L).map (ix p) ++ ((cT L).map (ix p) ++ ((mT L).map (ix p) ++ [])))
  | 2 => (rT L).map (ix p) ++ ((cT L).map (ix p) ++ ((mT L).map (ix p) ++ []))
  | 3 => (cT L).map (ix p) ++ ((mT L).map (ix p) ++ [])
  | 4 => (mT L).map (ix p) ++ []
  | _ => []
theorem step.calls (j : Nat) (hj : j < 5) (g : Nat) (p : List ByteArray) (L : Loc) (a : Lat) (w0 w : World) (hL : LocB L) (h : Wt g (refsN p L j) L a ([], (stepS p L j).2) w0 w) :
    Calls Try.prog (26 + j) #[.pointer (some ⟨g, 0, none⟩)] w fun e w' => e = .returned (.tuple #[]) ∧ Wt g (refsN p L (j + 1)) L a (stepS p L (j + 1)) w0 w' ∧ KeepBut w w' g none := by
  have h0 : (([], (stepS p L j).2) : List Int × Bool).1.length < 140737480000000 := by simp
  match j, hj, h, h0 with
  | 0, _, h, h0 => exact whead.calls g _ _ L a _ w0 w h (by simp)
  | 1, _, h, h0 => exact wpats.calls g _ _ _ _ _ L a _ w0 w h (by simp)
  | 2, _, h, h0 => exact wrules.calls g _ _ L a _ w0 w h h0 (by rw [List.length_map, rT_len]) hL.1
  | 3, _, h, h0 => exact wcurs.calls g _ _ L a _ w0 w h h0 (by rw [List.length_map, cT_len]) hL.2.1
  | 4, _, h, h0 => exact wcomps.calls g _ _ L a _ w0 w h h0 (by rw [List.length_map, mT_len]) hL.2.2
theorem Wn.below {g : Nat} {refs : List Int} {L : Loc} {a : Lat} {bad : Bool} {w0 w w1 : World} (h : Wn g refs L a bad w0 w) (hb : Below w.heap.size w w1) : Wn g refs L a bad w0 w1 := by
  have hl := h.lt
  obtain ⟨bv, A, c, hw, h1, h2, h3, h4, hB⟩ := h
  exact ⟨bv, A, c, blk_below hw hb, h1, h2, h3, h4, hB.trans (hb.mono (Nat.le_of_lt hl))⟩
/-- a row is laid into the writer -/
theorem Wn.put {g : Nat} {refs : List Int} {L : Loc} {a : Lat} {bad : Bool} {w0 w : World} {v : Value} {l : List Int} (h : Wn g refs L a bad w0 w) (hr : (Kd.int .u8).R 5 w (g + 1) (fun k => g + 1 ≤ k) v l) : Wt g refs L a (l, bad) w0 (w.setCell ⟨g, 0, none⟩ v) := by
  obtain ⟨bv, A, c, hw, h1, h2, h3, h4, hB⟩ := h
  exact ⟨A, c, ⟨_, blk_put hw 0 _ rfl, Kd.R_set hr hw ne5_69 0 _, hB.setCell (Nat.le_refl g) _⟩, h1, h2, h3, h4⟩
theorem gpool_le : ∀ (l p : List ByteArray), (l.foldl gstep p).length ≤ p.length + l.length
  | [], p => Nat.le_refl _
  | s :: l, p => by
    have h := gpool_le l (gstep p s)
    have h2 : (gstep p s).length ≤ p.length + 1 := by
      unfold gstep
      split
      · omega
      · rw [List.length_append]; simp
    rw [List.foldl_cons, List.length_cons]
    omega
theorem boxCells {w : World} {g : Nat} {L : Loc} {a : Lat} (h : w.heap[g]? = some (.cells (boxL L a) 29 (0, 0))) :
    w.cell? ⟨g, 0, none⟩ = some (.string L.tag) ∧ w.cell? ⟨g, 1, none⟩ = some (.int .i32 L.s0) ∧ w.cell? ⟨g, 2, none⟩ = some (.int .i32 L.s1) ∧ w.cell? ⟨g, 3, none⟩ = some (.int .i32 L.s2) ∧ w.cell? ⟨g, 4, none⟩ = some (.int .i32 L.s3) ∧ w.cell? ⟨g, 5, none⟩ = some (.int .i32 L.s4) ∧ w.cell? ⟨g, 6, none⟩ = some (.int .i32 L.s5) ∧ w.cell? ⟨g, 7, none⟩ = some (.int .i32 L.s6) ∧ w.cell? ⟨g, 8, none⟩ = some (.string L.p0) ∧ w.cell? ⟨g, 9, none⟩ = some (.string L.p1) ∧ w.cell? ⟨g, 10, none⟩ = some (.string L.p2) ∧ w.cell? ⟨g, 11, none⟩ = some (.string L.p3) ∧ w.cell? ⟨g, 12, none⟩ = some (.slice a.A3 L.rules.length a.c3) ∧ w.cell? ⟨g, 13, none⟩ = some (.slice a.A4 L.curs.length a.c4) ∧ w.cell? ⟨g, 14, none⟩ = some (.slice a.A5 L.comps.length a.c5) :=
  ⟨(blk_cell h 0).trans rfl, (blk_cell h 1).trans rfl, (blk_cell h 2).trans rfl, (blk_cell h 3).trans rfl, (blk_cell h 4).trans rfl, (blk_cell h 5).trans rfl, (blk_cell h 6).trans rfl, (blk_cell h 7).trans rfl, (blk_cell h 8).trans rfl, (blk_cell h 9).trans rfl, (blk_cell h 10).trans rfl, (blk_cell h 11).trans rfl, (blk_cell h 12).trans rfl, (blk_cell h 13).trans rfl, (blk_cell h 14).trans rfl⟩
theorem info32 : (Try.prog.info? 32).map (fun i => (i.zero, i.size, i.bytes)) = some (some (.slice none 0 0), 1, 24) := by kernel_rfl
theorem parts_step (p : List ByteArray) (L : Loc) : ∀ j, j < 5 → (partsL p L).take (j + 1) ++ [(stepS p L (j + 1)).1] = (partsL p L).take (j + 2)
  | 0, _ => rfl
  | 1, _ => rfl
  | 2, _ => rfl
  | 3, _ => rfl
  | 4, _ => rfl
def fnsV (g : Nat) : Array Value := #[.func (.func 26) #[.pointer (some ⟨g, 0, none⟩)] #[], .func (.func 27) #[.pointer (some ⟨g, 0, none⟩)] #[], .func (.func 28) #[.pointer (some ⟨g, 0, none⟩)] #[], .func (.func 29) #[.pointer (some ⟨g, 0, none⟩)] #[], .func (.func 30) #[.pointer (some ⟨g, 0, none⟩)] #[]]
theorem fns_cell {w : World} {b g : Nat} (h : w.heap[b]? = some (.cells (fnsV g) 1 (0, 0))) : ∀ j, j < 5 → w.cell? ⟨b, j, none⟩ = some (.func (.func (26 + j)) #[.pointer (some ⟨g, 0, none⟩)] #[])
  | 0, _ => (blk_cell h 0).trans rfl
  | 1, _ => (blk_cell h 1).trans rfl
  | 2, _ => (blk_cell h 2).trans rfl
  | 3, _ => (blk_cell h 3).trans rfl
  | 4, _ => (blk_cell h 4).trans rfl
theorem Wn.start {w5 : World} {L : Loc} {a : Lat} {p : List ByteArray} {A4 : Option Addr} {q4 : Nat} (hC : (Kd.int .i64).C w5 A4 (grefs p (textsL L)).length (grefs p (textsL L))) (hq : (grefs p (textsL L)).length ≤ q4) (hL : LocC L a w5) :
    Wn w5.heap.size (refsN p L 0) L a (stepS p L 0).2 w5 (w5.alloc (.cells (wrC (.slice none 0 0) (.slice A4 (grefs p (textsL L)).length q4) L a false) 69)) := by
  have e : grefs p (textsL L) = refsN p L 0 := refs_eq p L
  rw [e] at hC hq ⊢
  exact ⟨.slice none 0 0, A4, q4, blk_new w5 _, hC, hq, rfl, hL, (Below.refl _ _).alloc (Nat.le_refl _) _⟩
theorem ownb {α : Type} {d : Kd α} {e : Nat} {w : World} {base : Nat} {ok : Nat → Prop} {v : Value} {xs : List α} (h : d.R e w base ok v xs) (hp : 0 < xs.length) : ∃ g cells, v.ownBlock = some g ∧ w.heap[g]? = some (.cells cells e (0, 0)) := by
  obtain ⟨g, cap, rfl, _, _, cells, hc⟩ := Kd.R_form h hp
  exact ⟨g, cells, by simp [Value.ownBlock], hc⟩
/-- what stands behind a method of the writer, ahead of the append to the parts; and behind it -/
theorem enc_after {w w5 wr w10 : World} {refs : List Int} {L : Loc} {a : Lat} {st : List Int × Bool} {v9 : Value} {acc : List (List Int)} {Ab : Option Addr} {cb : Nat}
    (ho : Kd.R (Kd.slice 5 (Kd.int .u8)) 32 wr w.heap.size (fun k => k ≠ w5.heap.size) v9 acc) (hob : ∀ k, v9.ownBlock = some k → w5.heap.size < k) (hf : wr.heap[w5.heap.size + 2]? = some (.cells (fnsV w5.heap.size) 1 (0, 0))) (hB : Below w.heap.size w w5)
    (hw : Wt w5.heap.size refs L a st w5 w10) (hk : KeepBut wr w10 w5.heap.size none) (hrb : (Kd.int .u8).R 5 w10 (w5.heap.size + 1) (fun k => w5.heap.size + 1 ≤ k) (.slice Ab st.1.length cb) st.1) (hp : 0 < acc.length) :
    Kd.R (Kd.slice 5 (Kd.int .u8)) 32 w10 w.heap.size (fun k => k ≠ w5.heap.size) v9 acc ∧ (Kd.int .u8).R 5 w10 w.heap.size (fun k => w5.heap.size + 1 ≤ k ∧ some k ≠ v9.ownBlock) (.slice Ab st.1.length cb) st.1 ∧ Below w.heap.size w w10 ∧ w.heap.size ≤ w10.heap.size ∧ w5.heap.size < w10.heap.size ∧ True ∧
    ∀ (v11 : Value) (w11 : World), w10.grownBy w11 v9.ownBlock → (v11.ownBlock = v9.ownBlock ∨ ∃ b, v11.ownBlock = some b ∧ w10.heap.size ≤ b) → Wn w5.heap.size refs L a st.2 w5 w11 ∧ (∀ k, v11.ownBlock = some k → w5.heap.size < k) ∧ w11.heap[w5.heap.size + 2]? = some (.cells (fnsV w5.heap.size) 1 (0, 0)) := by
  have hlt := hB.size
  have h1 := Kd.R_keep ho hk (fun k hk => hk)
  obtain ⟨g9, cells, hg9, hc9⟩ := ownb h1 hp
  have hf10 := KeepBut.blk hk hf (by omega) (by simp)
  have hlt2 := hw.lt
  refine ⟨h1, ?_, ?_, by omega, hlt2, trivial, fun v11 w11 hg ha => ⟨(hw.n).grown hg hob, fun k hk2 => ?_, ?_⟩⟩
  · have h2 := Kd.R_types hrb hc9 (by decide)
    refine Kd.R_lower (Kd.R_mono h2 (fun k hk => ⟨hk.1, fun e => hk.2 ?_⟩)) (by omega)
    rw [hg9] at e
    exact Option.some.inj e
  · exact hB.trans (hw.bel.1.mono hlt)
  · rcases ha with ha | ⟨b, hb, hle⟩
    · exact hob k (ha ▸ hk2)
    · rw [hb] at hk2
      obtain rfl := Option.some.inj hk2
      omega
  · exact blk_grown hf10 hg (Kd.R_ne h1 hf10 (by decide))
theorem C_fourI {w : World} {ad : Addr} {x0 x1 x2 x3 : Int} (h0 : w.cell? ad = some (.int .u8 x0)) (h1 : w.cell? (ad.add 1) = some (.int .u8 x1)) (h2 : w.cell? (ad.add 2) = some (.int .u8 x2)) (h3 : w.cell? (ad.add 3) = some (.int .u8 x3)) :
    (Kd.int .u8).C w (some ad) 4 [x0, x1, x2, x3] := by
  refine ⟨rfl, by decide, fun _ => ⟨ad, rfl, fun j p hj => ⟨[.int .u8 p], rfl, rfl, fun i u hi => ?_⟩⟩⟩
  cases i with
  | succ i => simp at hi
  | zero =>
    have hu : u = .int .u8 p := by simpa using hi.symm
    subst hu
    have e2 : (Kd.int .u8).sz = 1 := rfl
    rw [e2, Nat.mul_one, Nat.add_zero]
    match j, hj with
    | 0, hj => simp at hj; subst hj; exact h0
    | 1, hj => simp at hj; subst hj; exact h1
    | 2, hj => simp at hj; subst hj; exact h2
    | 3, hj => simp at hj; subst hj; exact h3
    | j + 4, hj => simp at hj
set_option maxHeartbeats 2000000 in
set_option maxRecDepth 100000 in
/-- a number behind a row that is only read: the magic -/
theorem wmagic.calls (g : Nat) (rv : Value) (L : Loc) (a : Lat) (A : Option Addr) (c : Nat) (l : List Int) (bad : Bool) (n s : Int) (w0 w : World) (hw : w.heap[g]? = some (.cells (wrC (.slice A l.length c) rv L a bad) 69 (0, 0))) (hC : (Kd.int .u8).C w A l.length l) (hlc : l.length ≤ c) (hB : Below g w0 w) (hl : l.length < 140737488355000) (h0 : 0 ≤ n) (h1 : n < 4294967296) (hp : putsB n s = true) :
    Calls Try.prog 31 #[.pointer (some ⟨g, 0, none⟩), .int .i64 n, .int .i64 s] w fun e w' => e = .returned (.tuple #[]) ∧ Wr g rv L a (wnum n s (l, bad)) w0 w' ∧ KeepBut w w' g none := by
  have HW := Aside0.mk hw
  have HB := Aside0.mk hB
  have hcb : w.cell? ⟨g, 0, none⟩ = some (.slice A l.length c) := (blk_cell hw 0).trans rfl
  have hcd : w.cell? ⟨g, 17, none⟩ = some (.bool bad) := (blk_cell hw 17).trans rfl
  have hf0 := blk_frozen hw 0
  have hf1 := blk_frozen hw 17
  have b0 : decide (n < 0) = false := decide_eq_false (by omega)
  have b1 : decide (n > 4294967295) = false := decide_eq_false (by omega)
  have b2 : decide (4294967295 < n) = false := decide_eq_false (by omega)
  have hm : n % 4294967296 = n := Int.emod_eq_of_lt (by omega) (by omega)
  have hP := put_yes.calls A c l n s w hC hlc hl h0 h1 hp
  have e : wnum n s (l, bad) = (l ++ bytesB n s.toNat, bad) := (wnum_def n s (l, bad)).trans (if_pos ⟨⟨h0, h1⟩, hp⟩)
  rw [e]
  generalize l ++ bytesB n s.toNat = ys at hP ⊢
  have HP := Aside0.mk hP
  clear hP
  clear hw hB hlc hC hl h0 e h1 hp
  go_enter Try.func31, Try.ntmps31
  go_wp2_with fail
  refine HP.out.mono ?_
  rintro e w1 ⟨v0, rfl, hr1, hb1⟩
  obtain ⟨A', c', hv0⟩ := Kd.R_slice hr1
  subst hv0
  have HW1 := Aside0.mk (blk_below HW.out hb1)
  have HR1 := Aside0.mk hr1
  have HB1 := Aside0.mk hb1
  have hcb : w1.cell? ⟨g, 0, none⟩ = some (.slice A l.length c) := (blk_cell HW1.out 0).trans rfl
  have hcd : w1.cell? ⟨g, 17, none⟩ = some (.bool bad) := (blk_cell HW1.out 17).trans rfl
  have hf0 := blk_frozen HW1.out 0
  have hf1 := blk_frozen HW1.out 17
  clear hr1 hb1
  dsimp only
  cases bad <;> (go_wp2; go_end0)
  all_goals exact ⟨rfl, Wr.setRow _ HW1.out (Kd.R_mono (Kd.R_lower (Kd.R_bound HR1.out) (blk_lt HW.out)) (fun k hk => Nat.le_trans (blk_lt HW.out) hk.2.1)) (HB.out.trans (HB1.out.mono (Nat.le_of_lt (blk_lt HW.out)))), KeepBut.put (KeepBut.put (KeepBut.of_below HB1.out g none) _ _) _ _⟩
/-- the magic is laid, and the number behind it -/
theorem Wn.magic {g : Nat} {refs : List Int} {L : Loc} {a : Lat} {bad : Bool} {w0 w : World} (h : Wn g refs L a bad w0 w) :
    (Calls Try.prog 31 #[.pointer (some ⟨g, 0, none⟩), .int .i64 1, .int .i64 2] ((w.alloc (.cells #[.int .u8 69, .int .u8 88, .int .u8 76, .int .u8 66] 5 (4, 5))).setCell ⟨g, 0, none⟩ (.slice (some ⟨w.heap.size, 0, none⟩) 4 4)) fun e w' => e = .returned (.tuple #[]) ∧ Wt g refs L a (wnum 1 2 ([69, 88, 76, 66], bad)) w0 w' ∧ KeepBut w w' g none) := by
  obtain ⟨bv, A, c, hw, h1, h2, h3, h4, hB⟩ := h
  have hlt := blk_lt hw
  have hb : Below w.heap.size w (w.alloc (.cells #[.int .u8 69, .int .u8 88, .int .u8 76, .int .u8 66] 5 (4, 5))) := (Below.refl w.heap.size w).alloc (Nat.le_refl _) _
  have hk : KeepBut w ((w.alloc (.cells #[.int .u8 69, .int .u8 88, .int .u8 76, .int .u8 66] 5 (4, 5))).setCell ⟨g, 0, none⟩ (.slice (some ⟨w.heap.size, 0, none⟩) 4 4)) g none := KeepBut.put (KeepBut.of_below hb g none) _ _
  have hn : ((w.alloc (.cells #[.int .u8 69, .int .u8 88, .int .u8 76, .int .u8 66] 5 (4, 5))).setCell ⟨g, 0, none⟩ (.slice (some ⟨w.heap.size, 0, none⟩) 4 4)).heap[w.heap.size]? = some (.cells #[.int .u8 69, .int .u8 88, .int .u8 76, .int .u8 66] 5 (4, 5)) :=
    (Below.heap_setCell _ ⟨g, 0, none⟩ _ w.heap.size (by show w.heap.size ≠ g; omega)).trans (blk_new w _)
  have hc : ∀ i, ((w.alloc (.cells #[.int .u8 69, .int .u8 88, .int .u8 76, .int .u8 66] 5 (4, 5))).setCell ⟨g, 0, none⟩ (.slice (some ⟨w.heap.size, 0, none⟩) 4 4)).cell? ⟨w.heap.size, i, none⟩ = (#[.int .u8 69, .int .u8 88, .int .u8 76, .int .u8 66] : Array Value)[i]? := fun i => cell_of_row _ _ i _ 5 (4, 5) hn
  refine (wmagic.calls g _ L a _ 4 [69, 88, 76, 66] bad 1 2 w0 _ (blk_put (blk_below hw hb) 0 _ rfl) (C_fourI (ad := ⟨w.heap.size, 0, none⟩) (hc 0) (hc 1) (hc 2) (hc 3)) (Nat.le_refl _) ((hB.trans (hb.mono (Nat.le_of_lt hlt))).setCell (Nat.le_refl g) _) (by simp) (by decide) (by decide) (by decide)).mono ?_
  rintro e w1 ⟨rfl, hr, hk1⟩
  exact ⟨rfl, ⟨A, c, hr, h1, h2, h3, h4⟩, KeepBut.trans hk hk1 (.inl rfl)⟩
theorem Wt.badc {g : Nat} {refs : List Int} {L : Loc} {a : Lat} {st : List Int × Bool} {w0 w : World} (h : Wt g refs L a st w0 w) : w.cell? ⟨g, 17, none⟩ = some (.bool st.2) := by
  obtain ⟨A, c, ⟨bv, hw, _⟩, _⟩ := h
  exact (blk_cell hw 17).trans rfl
theorem Put_c {k : Nat} {x : List Int} (hb : bytesOk x) (hl : x.length < 140737488355000) (hk : x.length < k) : crc_Put.f k x = some (putC x) := by
  have := Spec.Put_f (k := k) (toY x) (by rw [toY_len]; exact hl) (by rw [toY_len]; exact hk)
  rw [toY_I hb] at this
  exact this
end Go.Proofs.Ytmhpcjncngonbaa.Q
/- Functions of the translation as plain Lean functions, each with a proof that the Go code comes to its answers, wherever the function has one; no other condition. Written by this session's own program (wip/myprint.py). -/
namespace Go.Proofs.Ytmhpcjncngonbaa.Q
open Go.RowKit Go.Proofs.Ytmhpcjncngonbaa.Mine Go.Proofs.YtmhpcjncngonbaaW.PrintWords Go.Proofs.YtmhpcjncngonbaaW.PrintLast Go.Proofs.YtmhpcjncngonbaaW.PrintMore
attribute [local go_sem] max2_int min2_int max_two min_two max_three min_three max_four min_four   -- for this text's walks alone
set_option linter.unusedVariables false
set_option linter.unusedSimpArgs false

/-! ### bytes_Equal: function 37 -/
def bytes_Equal.f (l0 : List Int) (l1 : List Int) : Option (Bool) := some ((strOfNums l0).toList == (strOfNums l1).toList)
set_option maxHeartbeats 8000000 in
set_option maxRecDepth 100000 in
theorem bytes_Equal.calls (A0 : Option Addr) (c0 : Nat) (l0 : List Int) (A1 : Option Addr) (c1 : Nat) (l1 : List Int) (r : Bool) (w : World) (hr0 : Kd.C (Kd.int .u8) w A0 l0.length l0) (hc0 : l0.length ≤ c0) (hr1 : Kd.C (Kd.int .u8) w A1 l1.length l1) (hc1 : l1.length ≤ c1) (h : bytes_Equal.f l0 l1 = some r) :
    Calls Try.prog 37 #[.slice A0 l0.length c0, .slice A1 l1.length c1] w fun e w' => e = .returned (.bool r) ∧ Drawn0 w w' := by
  have HR0 := Aside0.mk hr0
  have HC0 := Aside0.mk hc0
  clear hr0 hc0
  have HR1 := Aside0.mk hr1
  have HC1 := Aside0.mk hc1
  clear hr1 hc1
  have H : (some ((strOfNums l0).toList == (strOfNums l1).toList)) = some r := h
  clear h
  obtain rfl := Option.some.inj H
  have hcv3 := Kd.C_string (P := Try.prog) (A := A0) (c := c0) Try.underlying32 Try.underlying5 Try.underlying9 HR0.out
  have hcv4 := Kd.C_string (P := Try.prog) (A := A1) (c := c1) Try.underlying32 Try.underlying5 Try.underlying9 HR1.out
  go_enter Try.func37, Try.ntmps37
  go_wp2
  go_ret
  exact ⟨by first | rfl | (simp; done) | (simp [*]; done), by repeat (first | exact Drawn0.refl _ | apply Drawn0.step)⟩

end Go.Proofs.Ytmhpcjncngonbaa.Q
