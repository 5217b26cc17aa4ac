/- Texts of this claim, joined; what the kit's print wrote stands under a line of its own, LESS the theorems that this claim does not use (left out by prune16.py). -/
import Derived.Test.YtmhpcjncngonbaaZM6
import Derived.Test.YtmhpcjncngonbaaZDecode
import Derived.Test.YtmhpcjncngonbaaZSame
/- What is told as a bundle is told back, and no two are alike, in plain Lean; rows of 65535 at most. -/
namespace Go.Proofs.Ytmhpcjncngonbaa.Q
open Go.RowKit Go.Proofs.Ytmhpcjncngonbaa.Mine Go.Proofs.YtmhpcjncngonbaaW.PrintWords Go.Proofs.YtmhpcjncngonbaaW.PrintLast Go.Proofs.YtmhpcjncngonbaaW.PrintMore
set_option linter.unusedVariables false
set_option linter.unusedSimpArgs false
open Go.Proofs.Ytmhpcjncngonbaa.Spec (I Y)
theorem bundle_ok (p : List ByteArray) (L : Loc) : bytesOk (bundleB p L) := by
  have hn : ∀ ns : List (Int × Int), bytesOk (numsB ns) := fun ns x hx => by
    obtain ⟨y, _, hy⟩ := List.mem_flatMap.1 hx
    exact bytesB_ok _ _ x hy
  intro x hx
  rcases List.mem_append.1 hx with h | h
  · rcases List.mem_append.1 h with h | h
    · simp only [List.mem_cons, List.not_mem_nil, or_false] at h; omega
    · exact hn _ x h
  · obtain ⟨q, hq, hxq⟩ := List.mem_flatten.1 h
    simp only [qs, List.mem_cons, List.not_mem_nil, or_false] at hq
    rcases hq with rfl | rfl | rfl | rfl | rfl | rfl
    · exact firstP_ok p x hxq
    all_goals exact hn _ x hxq
/-- a bundle, or none -/
theorem enc_cases (L : Loc) : (encIn L = none ∧ encE L = 1 ∧ encR L = []) ∨ ∃ x, encIn L = some x ∧ encE L = 0 ∧ encR L = putC x := by
  unfold encE encR
  cases encIn L with
  | none => exact .inl ⟨rfl, rfl, rfl⟩
  | some x => exact .inr ⟨x, rfl, rfl, rfl⟩
theorem enc_zero {L : Loc} (h : encE L = 0) : ∃ x, encIn L = some x ∧ encR L = putC x := by
  rcases enc_cases L with ⟨_, h1, _⟩ | ⟨x, h1, _, h2⟩
  · rw [h1] at h; cases h
  · exact ⟨x, h1, h2⟩
theorem enc_len {L : Loc} {x : List Int} (hL : LocB L) (h : encIn L = some x) : 56 ≤ x.length ∧ x.length < 5000000 ∧ bytesOk x := by
  obtain ⟨h1, h2, rfl⟩ := encIn_some hL h
  have hl := (parts_len (p := gpool (textsL L)) hL h1).1
  rw [parts_qs h2] at hl
  have e : (bundleB (gpool (textsL L)) L).length = 56 + (qs (gpool (textsL L)) L).flatten.length := by
    unfold bundleB
    rw [List.length_append, dirA_len]
  exact ⟨by omega, by omega, bundle_ok _ _⟩
theorem encR_len {L : Loc} (hL : LocB L) : (encR L).length < 5000100 := by
  rcases enc_cases L with ⟨_, _, h⟩ | ⟨x, h1, _, h2⟩
  · rw [h]; decide
  · rw [h2, putC_len]; have := enc_len hL h1; omega
/-- bytes' checksum, as bytes -/
def crcB (x : List Int) : List Int := I (Spec.toldB (Spec.crc 0#32 (toY x)))
theorem crcB_len (x : List Int) : (crcB x).length = 4 := by unfold crcB; rw [Spec.I_len, Spec.toldB_len]
theorem putC_app {x : List Int} (h : bytesOk x) : putC x = x ++ crcB x := by
  unfold putC crcB Spec.put
  rw [Spec.I_append, toY_I h]
-- what is read is no longer than two bytes can tell
theorem rrules_len (B : List Int) (pool : List ByteArray) : ∀ (k : Nat) (at_ : Int) (acc xs : List (Int × ByteArray)) (q : Int), rrules B pool k at_ acc = some (xs, q) → xs.length = acc.length + k := by
  intro k
  induction k with
  | zero => intro at_ acc xs q h; rw [rrules] at h; rw [← (Prod.mk.inj (Option.some.inj h)).1]; rfl
  | succ k ih =>
    intro at_ acc xs q h
    rw [rrules] at h
    obtain ⟨t, _, h⟩ := Option.bind_eq_some_iff.1 h
    obtain ⟨u, _, h⟩ := Option.bind_eq_some_iff.1 h
    rw [ih _ _ _ _ h, List.length_append]
    simp; omega
theorem rcurs_len (B : List Int) (pool : List ByteArray) : ∀ (k : Nat) (at_ : Int) (acc xs : List (ByteArray × ByteArray × Int)) (q : Int), rcurs B pool k at_ acc = some (xs, q) → xs.length = acc.length + k := by
  intro k
  induction k with
  | zero => intro at_ acc xs q h; rw [rcurs] at h; rw [← (Prod.mk.inj (Option.some.inj h)).1]; rfl
  | succ k ih =>
    intro at_ acc xs q h
    rw [rcurs] at h
    obtain ⟨t, _, h⟩ := Option.bind_eq_some_iff.1 h
    obtain ⟨u, _, h⟩ := Option.bind_eq_some_iff.1 h
    obtain ⟨v, _, h⟩ := Option.bind_eq_some_iff.1 h
    rw [ih _ _ _ _ h, List.length_append]
    simp; omega
theorem rcomps_len (B : List Int) (pool : List ByteArray) : ∀ (k : Nat) (at_ : Int) (acc xs : List (Int × Int × ByteArray)) (q : Int), rcomps B pool k at_ acc = some (xs, q) → xs.length = acc.length + k := by
  intro k
  induction k with
  | zero => intro at_ acc xs q h; rw [rcomps] at h; rw [← (Prod.mk.inj (Option.some.inj h)).1]; rfl
  | succ k ih =>
    intro at_ acc xs q h
    rw [rcomps] at h
    obtain ⟨t, _, h⟩ := Option.bind_eq_some_iff.1 h
    obtain ⟨u, _, h⟩ := Option.bind_eq_some_iff.1 h
    obtain ⟨v, _, h⟩ := Option.bind_eq_some_iff.1 h
    rw [ih _ _ _ _ h, List.length_append]
    simp; omega
def R32 (n : Int) : Prop := -2147483648 ≤ n ∧ n < 2147483648
theorem rsigns_range (B : List Int) : ∀ (k : Nat) (at_ : Int) (f g : Nat → Int) (q : Int), (∀ i, R32 (f i)) → rsigns B k at_ f = some (g, q) → ∀ i, R32 (g i) := by
  intro k
  induction k with
  | zero => intro at_ f g q hf h; rw [rsigns] at h; rw [← (Prod.mk.inj (Option.some.inj h)).1]; exact hf
  | succ k ih =>
    intro at_ f g q hf h
    rw [rsigns] at h
    obtain ⟨⟨n, q1⟩, h1, h⟩ := Option.bind_eq_some_iff.1 h
    refine ih _ _ _ _ (fun i => ?_) h
    unfold upd
    split
    · exact rsign_range h1
    · exact hf i
theorem rnum2_lt {B : List Int} (hb : bytesOk B) {at_ n q : Int} (h : rnum B 2 at_ = some (n, q)) : 0 ≤ n ∧ n < 65536 := by
  have h1 := rnum_some hb h
  have h2 : (256 : Int) ^ (2 : Int).toNat = 65536 := by decide
  have h3 := h1.2.2.2.2.2.2.2.1
  rw [h2] at h3
  exact ⟨h1.2.2.2.2.2.2.1, h3⟩
theorem readL_bs {B : List Int} (hb : bytesOk B) {M : Loc} (h : readL B = some M) : LocB M ∧ LocS M := by
  unfold readL at h
  split at h
  · cases h
  obtain ⟨⟨tag, q0⟩, _, h⟩ := Option.bind_eq_some_iff.1 h
  rw [rK1] at h
  obtain ⟨⟨f, q1⟩, hf, h⟩ := Option.bind_eq_some_iff.1 h
  rw [rK2] at h
  obtain ⟨⟨p, q2⟩, _, h⟩ := Option.bind_eq_some_iff.1 h
  rw [rK3] at h
  obtain ⟨⟨n3, q3⟩, h3, h⟩ := Option.bind_eq_some_iff.1 h
  obtain ⟨⟨x3, q4⟩, g3, h⟩ := Option.bind_eq_some_iff.1 h
  rw [rK4] at h
  obtain ⟨⟨n4, q5⟩, h4, h⟩ := Option.bind_eq_some_iff.1 h
  obtain ⟨⟨x4, q6⟩, g4, h⟩ := Option.bind_eq_some_iff.1 h
  rw [rK5] at h
  obtain ⟨⟨n5, q7⟩, h5, h⟩ := Option.bind_eq_some_iff.1 h
  obtain ⟨⟨x5, q8⟩, g5, h⟩ := Option.bind_eq_some_iff.1 h
  obtain rfl := Option.some.inj h
  have l3 := rrules_len _ _ _ _ _ _ _ g3
  have l4 := rcurs_len _ _ _ _ _ _ _ g4
  have l5 := rcomps_len _ _ _ _ _ _ _ g5
  have m3 := rnum2_lt hb h3
  have m4 := rnum2_lt hb h4
  have m5 := rnum2_lt hb h5
  have hr := rsigns_range _ _ _ _ _ _ (fun i => ⟨by show (-2147483648 : Int) ≤ 0; omega, by show (0 : Int) < 2147483648; omega⟩) hf
  simp only [List.length_nil] at l3 l4 l5
  refine ⟨⟨?_, ?_, ?_⟩, ?_⟩
  · show x3.length ≤ 65535; omega
  · show x4.length ≤ 65535; omega
  · show x5.length ≤ 65535; omega
  · intro x hx
    simp only [mkLoc, List.mem_cons, List.not_mem_nil, or_false] at hx
    rcases hx with rfl | rfl | rfl | rfl | rfl | rfl | rfl <;> exact hr _
theorem zeroL_s : LocS zeroL := by
  intro x hx
  simp only [zeroL, List.mem_cons, List.not_mem_nil, or_false] at hx
  omega
theorem dec_bs (b : List Int) : LocB (decR b).1 ∧ LocS (decR b).1 := by
  unfold decR
  split
  · cases hr : readL (cutC b).1 with
    | none => exact ⟨zeroL_b, zeroL_s⟩
    | some L =>
      dsimp only
      split
      · exact readL_bs (cutC_ok b) hr
      · exact ⟨zeroL_b, zeroL_s⟩
  · exact ⟨zeroL_b, zeroL_s⟩
theorem dec_b (b : List Int) : LocB (decR b).1 := (dec_bs b).1
/-- what is told as a bundle is told back -/
theorem dec_enc {L : Loc} (hL : LocB L) (hs : LocS L) (h : encE L = 0) : decR (encR L) = (L, 0) := by
  obtain ⟨x, h1, h2⟩ := enc_zero h
  obtain ⟨_, _, hx⟩ := enc_len hL h1
  unfold decR
  rw [h2, cutC_put hx, if_pos rfl]
  dsimp only
  rw [enc_read hL hs h1]
  dsimp only
  rw [if_pos ⟨h, h2⟩]
theorem dec_none {b : List Int} (h : (decR b).2 ≠ 0) : (decR b).1 = zeroL := by
  unfold decR at h ⊢
  by_cases hz : (cutC b).2 = 0
  · rw [if_pos hz] at h ⊢
    cases hr : readL (cutC b).1 with
    | none => rfl
    | some L =>
      rw [hr] at h
      dsimp only at h ⊢
      by_cases hc : encE L = 0 ∧ encR L = b
      · rw [if_pos hc] at h; exact absurd rfl h
      · rw [if_neg hc]
  · rw [if_neg hz]
end Go.Proofs.Ytmhpcjncngonbaa.Q
/- The document's example comes out true; no condition. -/
namespace Go.Proofs.Ytmhpcjncngonbaa.Q
open Go.RowKit Go.Proofs.Ytmhpcjncngonbaa.Mine Go.Proofs.YtmhpcjncngonbaaW.PrintWords Go.Proofs.YtmhpcjncngonbaaW.PrintLast Go.Proofs.YtmhpcjncngonbaaW.PrintMore
set_option linter.unusedVariables false
set_option linter.unusedSimpArgs false
/-- the document's example -/
def L0 : Loc := ⟨⟨#[101, 110]⟩, 48, 0, 0, 0, 0, 0, 0, ⟨#[48]⟩, ⟨#[48, 37]⟩, ⟨#[48, 69, 48]⟩, ⟨#[194, 164, 48]⟩, [], [], []⟩
theorem L0_s : LocS L0 := by
  intro x hx
  simp only [L0, List.mem_cons, List.not_mem_nil, or_false] at hx
  omega
theorem L0_c (w : World) : LocC L0 zeroA w := ⟨⟨Kd.C_nil _ _, Nat.le_refl _⟩, ⟨Kd.C_nil _ _, Nat.le_refl _⟩, ⟨Kd.C_nil _ _, Nat.le_refl _⟩, L0_s⟩
theorem L0_b : LocB L0 := ⟨Nat.zero_le _, Nat.zero_le _, Nat.zero_le _⟩
theorem L0_in : encIn L0 = some (bundleB (gpool (textsL L0)) L0) := encIn_yes L0_b (by decide +kernel) (by decide +kernel)
theorem L0_e : encE L0 = 0 := by unfold encE; rw [L0_in]
theorem L0_dec : decR (encR L0) = (L0, 0) := dec_enc L0_b L0_s L0_e
/-- how a bundle begins -/
theorem enc_head {L : Loc} {x : List Int} (hL : LocB L) (h : encIn L = some x) : ∃ rest, x = 69 :: 88 :: 76 :: 66 :: 0 :: 1 :: 0 :: 6 :: 0 :: 0 :: 0 :: 56 :: rest ∧ 90 ≤ rest.length := by
  obtain ⟨_, _, rfl⟩ := encIn_some hL h
  generalize gpool (textsL L) = p
  have hl : (bundleB p L).length = 56 + (qs p L).flatten.length := by unfold bundleB; rw [List.length_append, dirA_len]
  have hq : 46 ≤ (qs p L).flatten.length := by
    simp only [qs, firstP, nm2, nm3, nm4, nm5, nm6, numsB_cons, List.flatten_cons, List.flatten_nil, List.length_append, bytesB_len, List.nil_append]
    have e2 : (2 : Int).toNat = 2 := rfl
    have e4 : (4 : Int).toNat = 4 := rfl
    rw [e2, e4]
    omega
  obtain ⟨rest, hr⟩ : ∃ rest, bundleB p L = 69 :: 88 :: 76 :: 66 :: 0 :: 1 :: 0 :: 6 :: 0 :: 0 :: 0 :: 56 :: rest := ⟨_, rfl⟩
  refine ⟨rest, hr, ?_⟩
  rw [hr] at hl
  simp only [List.length_cons] at hl
  omega
/-- a whole bundle begins so, too -/
theorem encR_head {L : Loc} (hL : LocB L) (h : encE L = 0) : ∃ rest, encR L = 69 :: 88 :: 76 :: 66 :: 0 :: 1 :: 0 :: 6 :: 0 :: 0 :: 0 :: 56 :: rest ∧ 94 ≤ rest.length := by
  obtain ⟨x, h1, h2⟩ := enc_zero h
  obtain ⟨rest, rfl, hl⟩ := enc_head hL h1
  refine ⟨rest ++ crcB (69 :: 88 :: 76 :: 66 :: 0 :: 1 :: 0 :: 6 :: 0 :: 0 :: 0 :: 56 :: rest), ?_, ?_⟩
  · rw [h2, putC_app (enc_len hL h1).2.2]
    rfl
  · rw [List.length_append, crcB_len]
    omega
theorem C_at {w : World} {A : Option Addr} {B : List Int} (h : (Kd.int .u8).C w A B.length B) (i : Nat) (x : Int) (hx : B[i]? = some x) : ∃ ad, A = some ad ∧ w.cell? (ad.add i) = some (.int .u8 x) := by
  obtain ⟨hl, he⟩ := List.getElem?_eq_some_iff.1 hx
  obtain ⟨ad, hA, hc⟩ := Kd.at_int h (i : Int) (by omega) (by omega)
  rw [Spec.rd_at hl, he, Int.toNat_natCast] at hc
  exact ⟨ad, hA, hc⟩
theorem C_at1 {w : World} {A : Option Addr} {B : List Int} (h : (Kd.int .u8).C w A B.length B) (i : Nat) (h0 : 0 < i) (x : Int) (hx : B[i]? = some x) : ∃ ad, A = some ad ∧ w.cell? ⟨ad.block, ad.off + i, none⟩ = some (.int .u8 x) := by
  obtain ⟨ad, hA, hc⟩ := C_at h i x hx
  obtain ⟨k, rfl⟩ : ∃ k, i = k + 1 := ⟨i - 1, by omega⟩
  rw [Addr.add_succ'] at hc
  exact ⟨ad, hA, hc⟩
set_option maxHeartbeats 16000000 in
set_option maxRecDepth 100000 in
theorem shown.calls (w : World) : Calls Try.prog 10 #[] w fun e w' => e = .returned (.bool true) ∧ Below w.heap.size w w' := by
  obtain ⟨w1, hw1⟩ : ∃ w1, w1 = w.alloc (.cells (boxL L0 zeroA) 29) := ⟨_, rfl⟩
  have hb1 : Below w.heap.size w w1 := by rw [hw1]; exact (Below.refl w.heap.size w).alloc (Nat.le_refl _) _
  have HX1 := Aside0.mk (show w1.heap[w.heap.size]? = some (.cells (boxL L0 zeroA) 29 (0, 0)) by rw [hw1]; exact blk_new w _)
  have HB1 := Aside0.mk hb1
  have HE1 := Aside0.mk (show w1 = w.alloc (.cells #[.string ⟨#[101, 110]⟩, .int .i32 48, .int .i32 0, .int .i32 0, .int .i32 0, .int .i32 0, .int .i32 0, .int .i32 0, .string ⟨#[48]⟩, .string ⟨#[48, 37]⟩, .string ⟨#[48, 69, 48]⟩, .string ⟨#[194, 164, 48]⟩, .slice none 0 0, .slice none 0 0, .slice none 0 0] 29) from hw1)
  obtain ⟨rest, hrest, hlen⟩ := encR_head L0_b L0_e
  have HEN : Aside0 (Calls Try.prog 12 #[locV L0 zeroA] w1 fun e w' => ∃ v0_ : Value, e = .returned (.tuple #[v0_, .int .i64 0]) ∧ Kd.R (Kd.int .u8) 5 w' w1.heap.size (fun _ => True) v0_ (encR L0) ∧ Below w1.heap.size w1 w') := Aside0.mk (by have := bund_Encode.calls L0 zeroA w1 (L0_c w1) L0_b; rwa [L0_e] at this)
  have HDE : Aside0 (∀ (A : Option Addr) (c : Nat) (W : World), (Kd.int .u8).C W A (encR L0).length (encR L0) → (encR L0).length ≤ c → Calls Try.prog 15 #[.slice A (encR L0).length c] W fun e w' => ∃ a, e = .returned (.tuple #[locV L0 a, .int .i64 0]) ∧ LocR L0 a w' W.heap.size ∧ Below W.heap.size W w') := Aside0.mk (fun A c W h hc => (decode.calls A c (encR L0) W h hc (encR_ok L0) (by have := encR_len L0_b; omega)).mono (fun e w' => by
    rintro ⟨a, he, hR, _, hb⟩
    rw [L0_dec] at he hR
    exact ⟨a, he, hR, hb⟩))
  generalize encR L0 = B at *
  have HLEN := Aside0.mk (show 100 ≤ B.length by rw [hrest]; simp only [List.length_cons]; omega)
  have HB5 := Aside0.mk (show B[5]? = some 1 by rw [hrest]; rfl)
  have HB7 := Aside0.mk (show B[7]? = some 6 by rw [hrest]; rfl)
  have HB11 := Aside0.mk (show B[11]? = some 56 by rw [hrest]; rfl)
  have HB4 := Aside0.mk (show B.take 4 = [69, 88, 76, 66] by rw [hrest]; rfl)
  clear hb1 hw1 hlen hrest
  go_enter Try.func10, Try.ntmps10
  go_wp2_with fail
  rw [← HE1.out]
  refine HEN.out.mono ?_
  rintro e w2 ⟨v2, rfl, ho, hb⟩
  obtain ⟨A2, c2, hv2⟩ := Kd.R_slice ho
  subst hv2
  have HC2 := Aside0.mk (Kd.R_reads' ho).2.2
  have HK2 := Aside0.mk (Kd.R_reads' ho).2.1
  have HX2 := Aside0.mk (blk_below HX1.out hb)
  have HB2 := Aside0.mk (HB1.out.trans (hb.mono HB1.out.size))
  clear ho hb
  dsimp only
  go_wp2_with fail
  refine (HDE.out A2 c2 w2 HC2.out HK2.out).mono ?_
  rintro e w3 ⟨a, rfl, hR, hb⟩
  obtain ⟨A3, c3, A4, c4, A5, c5⟩ := a
  obtain ⟨w4, hw4⟩ : ∃ w4, w4 = w3.alloc (.cells (boxL L0 ⟨A3, c3, A4, c4, A5, c5⟩) 29) := ⟨_, rfl⟩
  have hb4 : Below w3.heap.size w3 w4 := by rw [hw4]; exact (Below.refl w3.heap.size w3).alloc (Nat.le_refl _) _
  have HX4 := Aside0.mk (blk_below (blk_below HX2.out hb) hb4)
  have HY4 := Aside0.mk (show w4.heap[w3.heap.size]? = some (.cells (boxL L0 ⟨A3, c3, A4, c4, A5, c5⟩) 29 (0, 0)) by rw [hw4]; exact blk_new w3 _)
  have HC4 := Aside0.mk (Kd.C_below (Kd.C_below HC2.out hb) hb4)
  have HR4 := Aside0.mk (hR.below hb4)
  have HB4' := Aside0.mk (HB2.out.trans ((hb.trans (hb4.mono hb.size)).mono HB2.out.size))
  have HE4 := Aside0.mk (show w4 = w3.alloc (.cells #[.string L0.tag, .int .i32 L0.s0, .int .i32 L0.s1, .int .i32 L0.s2, .int .i32 L0.s3, .int .i32 L0.s4, .int .i32 L0.s5, .int .i32 L0.s6, .string L0.p0, .string L0.p1, .string L0.p2, .string L0.p3, .slice A3 L0.rules.length c3, .slice A4 L0.curs.length c4, .slice A5 L0.comps.length c5] 29) from hw4)
  obtain ⟨ad, hA, h5⟩ := C_at1 HC4.out 5 (by decide) 1 HB5.out
  subst hA
  obtain ⟨ad', hA, h7⟩ := C_at1 HC4.out 7 (by decide) 6 HB7.out
  obtain rfl := Option.some.inj hA
  obtain ⟨ad', hA, h11⟩ := C_at1 HC4.out 11 (by decide) 56 HB11.out
  obtain rfl := Option.some.inj hA
  have hcut := cut_to (P := Try.prog) 32 5 .i64 Try.underlying32 (show Try.prog.info? 5 = some _ from rfl) (some ad) B.length c2 4 (by decide) (by have := HLEN.out; omega) HK2.out
  have hst : ∀ W, (Kd.int .u8).C W (some ad) 4 [69, 88, 76, 66] → (convert 32 9 (.slice (some ad) 4 c2)).run Try.prog W = .ok (.string ⟨#[69, 88, 76, 66]⟩) W := fun W h => Kd.C_string (P := Try.prog) (A := some ad) (c := c2) Try.underlying32 Try.underlying5 Try.underlying9 h
  have hst4 := hst w4 (by have := Kd.C_take (m := 4) HC4.out (by have := HLEN.out; omega); rwa [HB4.out] at this)
  have hl1 : decide ((B.length : Int) > 60) = true := decide_eq_true (by have := HLEN.out; omega)
  have hl2 : decide (60 < (B.length : Int)) = true := decide_eq_true (by have := HLEN.out; omega)
  have hl5 : ((5 : Int) < (B.length : Int)) = True := eq_true (by have := HLEN.out; omega)
  have hl7 : ((7 : Int) < (B.length : Int)) = True := eq_true (by have := HLEN.out; omega)
  have hl11 : ((11 : Int) < (B.length : Int)) = True := eq_true (by have := HLEN.out; omega)
  clear hst hw4 hb hb4 hR hA
  obtain ⟨hx0, hx1, hx2, hx3, hx4, hx5, hx6, hx7, hx8, hx9, hx10, hx11, hx12, hx13, hx14⟩ := boxCells HX4.out
  obtain ⟨hy0, hy1, hy2, hy3, hy4, hy5, hy6, hy7, hy8, hy9, hy10, hy11, hy12, hy13, hy14⟩ := boxCells HY4.out
  dsimp only
  go_upto_region 4 with fail
  rw [← HE4.out]
  have HSM : Aside0 (Calls Try.prog 17 #[locV L0 zeroA, locV L0 ⟨A3, c3, A4, c4, A5, c5⟩] w4 fun e w' => e = .returned (.bool true) ∧ Below w4.heap.size w4 w') := Aside0.mk (by have := same.calls L0 L0 zeroA ⟨A3, c3, A4, c4, A5, c5⟩ w4 (L0_c w4) HR4.out.c L0_b L0_b; rwa [decide_eq_true rfl] at this)
  obtain ⟨T, hT⟩ : ∃ T, T = textsL L0 := ⟨_, rfl⟩
  have HTX : Aside0 (∀ W, Calls Try.prog 21 #[locV L0 zeroA] W fun e w' => ∃ v0_ : Value, e = .returned v0_ ∧ Kd.R Kd.string 9 w' W.heap.size (fun _ => True) v0_ T ∧ Below W.heap.size W w') := Aside0.mk (fun W => by rw [hT]; exact bund_Texts.calls L0 zeroA W (L0_c W) L0_b)
  have HTL := Aside0.mk (show T.length = 5 by rw [hT]; rfl)
  clear hT
  go_wp2_with fail
  refine HSM.out.mono ?_
  rintro e w5 ⟨rfl, hb5⟩
  have HB5' := Aside0.mk (HB4'.out.trans (hb5.mono HB4'.out.size))
  obtain ⟨hx0, hx1, hx2, hx3, hx4, hx5, hx6, hx7, hx8, hx9, hx10, hx11, hx12, hx13, hx14⟩ := boxCells (blk_below HX4.out hb5)
  clear hb5
  dsimp only
  go_wp2_with fail
  refine (HTX.out w5).mono ?_
  rintro e w6 ⟨v6, rfl, ho, hb⟩
  obtain ⟨A6, c6, hv6⟩ := Kd.R_slice ho
  rw [HTL.out] at hv6
  subst hv6
  have HB6 := Aside0.mk (HB5'.out.trans (hb.mono HB5'.out.size))
  clear ho hb
  dsimp only
  go_wp2
  go_ret
  exact ⟨rfl, HB6.out⟩
end Go.Proofs.Ytmhpcjncngonbaa.Q
