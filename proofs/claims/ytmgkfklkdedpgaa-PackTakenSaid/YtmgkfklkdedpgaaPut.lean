/- What pack.Put comes to, where a number can be put and where it can't; whole numbers of 32 bits. -/
import Derived.Test.YtmgkfklkdedpgaaGath
namespace Go.Proofs.Ytmgkfklkdedpgaa.Q
open Go.RowKit Go.Proofs.Ytmgkfklkdedpgaa.Mine Go.Proofs.YtmgkfklkdedpgaaW.PrintWords Go.Proofs.YtmgkfklkdedpgaaW.PrintLast Go.Proofs.YtmgkfklkdedpgaaW.PrintMore
set_option linter.unusedVariables false
set_option linter.unusedSimpArgs false
/-- is there such a size? -/
def isSz (s : Int) : Bool := s == 1 || s == 2 || s == 4
theorem isSz_iff {s : Int} : isSz s = true ↔ s = 1 ∨ s = 2 ∨ s = 4 := by simp [isSz, or_assoc]
theorem pack_isSz.calls (s : Int) (w : World) : Calls Try.prog 29 #[.int .i64 s] w fun e w' => e = .returned (.bool (isSz s)) ∧ w = w' := by
  by_cases h1 : s = 1
  · subst h1
    go_enter Try.func29, Try.ntmps29
    go_wp2
    go_ret
    exact ⟨rfl, rfl⟩
  by_cases h2 : s = 2
  · subst h2
    go_enter Try.func29, Try.ntmps29
    go_wp2
    go_ret
    exact ⟨rfl, rfl⟩
  have b1 : (s == 1) = false := beq_eq_false_iff_ne.2 h1
  have b2 : (s == 2) = false := beq_eq_false_iff_ne.2 h2
  clear h1 h2
  have e : isSz s = (s == 4) := by rw [isSz, b1, b2]; rfl
  rw [e]
  clear e
  go_enter Try.func29, Try.ntmps29
  go_wp2
  go_ret
  exact ⟨by first | rfl | (simp; done), rfl⟩
/-- a number's bytes, the greatest first -/
def bytesB (n : Int) : Nat → List Int
  | 0 => []
  | k + 1 => n / 256 ^ k % 256 :: bytesB n k
theorem bytesB_len (n : Int) : ∀ k, (bytesB n k).length = k
  | 0 => rfl
  | k + 1 => by rw [bytesB, List.length_cons, bytesB_len n k]
def vk : Nat → Int
  | 0 => -1
  | k + 1 => (k : Int)
/-- can a number be put so? -/
def putsB (n s : Int) : Bool := isSz s && decide (n < 256 ^ s.toNat)
theorem clip.calls (A0 : Option Addr) (c0 : Nat) (l0 : List Int) (w : World) (hr0 : Kd.C (Kd.int .u8) w A0 l0.length l0) (hc0 : l0.length ≤ c0) :
    Calls Try.prog 30 #[.slice A0 l0.length c0] w fun e w' => e = .returned (.slice A0 l0.length l0.length) ∧ w = w' := by
  have hlen : l0.length ≤ 9223372036854775807 := hr0.2.1
  go_enter Try.func30, Try.ntmps30
  go_wp2
  go_ret
  exact ⟨rfl, rfl⟩
set_option maxHeartbeats 2000000 in
set_option maxRecDepth 100000 in
/-- a number that can't be put: the row that came in, and an error -/
theorem put_no.calls (v : Value) (n s : Int) (w : World) (h0 : 0 ≤ n) (h1 : n < 4294967296) (h : putsB n s = false) :
    Calls Try.prog 11 #[v, .int .u32 n, .int .i64 s] w fun e w' => e = .returned (.tuple #[v, .int .i64 1]) ∧ w = w' := by
  cases hs : isSz s with
  | false =>
    have HS := Aside0.mk hs
    have hc : ∀ w, Calls Try.prog 29 #[.int .i64 s] w fun e w' => e = .returned (.bool false) ∧ w = w' := fun w => hs ▸ pack_isSz.calls s w
    have HC := Aside0.mk hc
    clear hs hc h
    go_enter Try.func11, Try.ntmps11
    go_wp2_with fail
    refine (HC.out _).mono ?_
    rintro e w1 ⟨rfl, rfl⟩
    dsimp only
    go_wp2
    go_ret2
    exact ⟨rfl, rfl⟩
  | true =>
    have hlt : ¬ n < 256 ^ s.toNat := by simpa [putsB, hs] using h
    have hc : ∀ w, Calls Try.prog 29 #[.int .i64 s] w fun e w' => e = .returned (.bool true) ∧ w = w' := fun w => hs ▸ pack_isSz.calls s w
    rcases isSz_iff.1 hs with rfl | rfl | rfl
    · have hq : (n / 256 == 0) = false := beq_eq_false_iff_ne.2 (by simp at hlt; omega)
      have HC := Aside0.mk hc
      clear hs hc h hlt
      go_enter Try.func11, Try.ntmps11
      go_wp2_with fail
      refine (HC.out _).mono ?_
      rintro e w1 ⟨rfl, rfl⟩
      dsimp only
      go_wp2
      go_ret2
      exact ⟨rfl, rfl⟩
    · have hq : (n / 65536 == 0) = false := beq_eq_false_iff_ne.2 (by simp at hlt; omega)
      have HC := Aside0.mk hc
      clear hs hc h hlt
      go_enter Try.func11, Try.ntmps11
      go_wp2_with fail
      refine (HC.out _).mono ?_
      rintro e w1 ⟨rfl, rfl⟩
      dsimp only
      go_wp2
      go_ret2
      exact ⟨rfl, rfl⟩
    · exact absurd (show n < 4294967296 from h1) (by simpa using hlt)
set_option maxHeartbeats 4000000 in
set_option maxRecDepth 100000 in
theorem put_yes.calls (A0 : Option Addr) (c0 : Nat) (l0 : List Int) (n s : Int) (w : World) (hr0 : Kd.C (Kd.int .u8) w A0 l0.length l0) (hc0 : l0.length ≤ c0) (hl : l0.length < 140737488355000) (h0 : 0 ≤ n) (h1 : n < 4294967296) (h : putsB n s = true) :
    Calls Try.prog 11 #[.slice A0 l0.length c0, .int .u32 n, .int .i64 s] w fun e w' => ∃ v0_ : Value, e = .returned (.tuple #[v0_, .int .i64 0]) ∧ Kd.R (Kd.int .u8) 5 w' w.heap.size (fun _ => True) v0_ (l0 ++ bytesB n s.toNat) ∧ Below w.heap.size w w' := by
  have hs : isSz s = true := by simp only [putsB, Bool.and_eq_true] at h; exact h.1
  have hlt : n < 256 ^ s.toNat := by simp only [putsB, Bool.and_eq_true, decide_eq_true_eq] at h; exact h.2
  have HC := Aside0.mk (show ∀ w, Calls Try.prog 29 #[.int .i64 s] w fun e w' => e = .returned (.bool true) ∧ w = w' from fun w => hs ▸ pack_isSz.calls s w)
  have HL := Aside0.mk hl
  have HR0 := Aside0.mk hr0
  have HC0 := Aside0.mk hc0
  have HCL := Aside0.mk (clip.calls A0 c0 l0 w hr0 hc0)
  have HS := Aside0.mk (isSz_iff.1 hs)
  clear hr0 hc0 hl h
  have fin : ∀ (wr : World) (v8 : Value) (xs : List Int), Ap l0 5 wr w.heap.size (fun _ => True) v8 xs → xs ++ bytesB n 0 = l0 ++ bytesB n s.toNat → Kd.R (Kd.int .u8) 5 wr w.heap.size (fun _ => True) v8 (l0 ++ bytesB n s.toNat) := fun wr v8 xs ha he => by
    have e1 : xs = l0 ++ bytesB n s.toNat := by rw [← he]; simp [bytesB]
    rw [← e1]
    refine Ap_own ha (fun e => ?_)
    have := congrArg List.length (e1.symm.trans e)
    rw [List.length_append, bytesB_len] at this
    rcases HS.out with h | h | h <;> (subst h; simp at this)
  obtain ⟨T, hT⟩ : ∃ T, T = l0 ++ bytesB n s.toNat := ⟨_, rfl⟩
  rw [← hT] at fin ⊢
  have HT := Aside0.mk hT
  have FIN := Aside0.mk fin
  clear fin hT
  have hq : isSz s = true → ∀ u : Int, (s = 1 → u = n / 256) → (s = 2 → u = n / 65536) → (s = 4 → u = n / 4294967296) → u = 0 := fun _ u g1 g2 g4 => by
    rcases HS.out with h | h | h
    · rw [g1 h]; subst h; simp at hlt; omega
    · rw [g2 h]; subst h; simp at hlt; omega
    · rw [g4 h]; omega
  have HB := Aside0.mk (Below.refl w.heap.size w)
  rcases isSz_iff.1 hs with rfl | rfl | rfl
  all_goals
    first
      | have hq0 : n / 256 = 0 := hq rfl _ (fun _ => rfl) (fun h => absurd h (by decide)) (fun h => absurd h (by decide))
      | have hq0 : n / 65536 = 0 := hq rfl _ (fun h => absurd h (by decide)) (fun _ => rfl) (fun h => absurd h (by decide))
      | have hq0 : n / 4294967296 = 0 := hq rfl _ (fun h => absurd h (by decide)) (fun h => absurd h (by decide)) (fun _ => rfl)
    clear hq hlt hs
    go_enter Try.func11, Try.ntmps11
    go_wp2_with fail
    refine (HC.out _).mono ?_
    rintro e w1 ⟨rfl, rfl⟩
    dsimp only
    go_wp2_with fail
    refine HCL.out.mono ?_
    rintro e w1 ⟨rfl, rfl⟩
    dsimp only
    clear hq0
    go_wp2_with fail
    go_loopg [8, 9] 4 (fun kq v8 v9 wr => ∃ (j : Nat) (xs : List Int), v9 = .int .i64 (vk j) ∧ Aside0 (j ≤ kq) ∧ Aside0 (kq ≤ 4) ∧ Aside0 (Ap l0 5 wr w.heap.size (fun _ => True) v8 xs) ∧ Aside0 (xs ++ bytesB n j = T) ∧ Aside0 (Below w.heap.size w wr))
    case atStart => first | exact ⟨1, l0, rfl, ⟨by decide⟩, ⟨by decide⟩, ⟨.inr ⟨rfl, A0, rfl, HR0.out⟩⟩, ⟨HT.out.symm⟩, HB⟩ | exact ⟨2, l0, rfl, ⟨by decide⟩, ⟨by decide⟩, ⟨.inr ⟨rfl, A0, rfl, HR0.out⟩⟩, ⟨HT.out.symm⟩, HB⟩ | exact ⟨4, l0, rfl, ⟨by decide⟩, ⟨by decide⟩, ⟨.inr ⟨rfl, A0, rfl, HR0.out⟩⟩, ⟨HT.out.symm⟩, HB⟩
    case round =>
      obtain ⟨j, xs, hv9, HJ, HK, HO, HE, HB1⟩ := hrel
      have HXL := Aside0.mk (show xs.length ≤ l0.length + 4 by
        have h1 := congrArg List.length HE.out
        have h2 := congrArg List.length HT.out
        rw [List.length_append] at h1 h2
        rw [bytesB_len] at h2
        simp at h2
        omega)
      cases j with
      | zero =>
        have hv : _ = Value.int .i64 (-1) := hv9
        clear hv9
        subst hv
        go_wp2
        go_ret2
        exact ⟨_, rfl, FIN.out _ _ _ HO.out HE.out, HB1.out⟩
      | succ j =>
        have hj : j = 0 ∨ j = 1 ∨ j = 2 ∨ j = 3 := by have := HJ.out; have := HK.out; omega
        have HE2 := Aside0.mk (show (xs ++ [n / 256 ^ j % 256]) ++ bytesB n j = T by rw [← HE.out, List.append_assoc]; rfl)
        have HJ2 := Aside0.mk (show j ≤ gk - 1 ∧ gk - 1 < gk ∧ gk - 1 ≤ 4 by have := HJ.out; have := HK.out; omega)
        clear HE HJ
        rcases hj with rfl | rfl | rfl | rfl
        · have hv : _ = Value.int .i64 0 := hv9
          clear hv9
          subst hv
          go_wp2_with ((with_reducible refine gate_builtin (b := .append) (xs := #[.tmp 30, .tmp 36]) rfl ?_); at_builtin; refine Ap_append l0 (w0 := w) w.heap.size rfl (.tmp 30) (.tmp 36) 22 5 (.int .u8 0) 1 rfl Try.underlying22 info5 rfl (by decide) (by omega) u8 xs (n % 256) [.int .u8 (n % 256)] (fun _ => True) (fun _ => False) rfl rfl ?aP (fun _ hk => hk.elim) (fun _ _ => trivial) HO.out HB1.out HB1.out.size ?aL ?_; (case aP => exact rfl); (case aL => have := HL.out; have := HXL.out; omega); intro v3 w3 ho hb hg hat; have HO3 := Aside0.mk ho; have HB3 := Aside0.mk hb; clear ho hb hg hat)
          go_roundg (gk - 1)
          case measure => exact HJ2.out.2.1
          case rel => exact ⟨0, xs ++ [n % 256], by rfl, ⟨HJ2.out.1⟩, ⟨HJ2.out.2.2⟩, HO3, ⟨by have h2 := HE2.out; simpa using h2⟩, HB3⟩
        · have hv : _ = Value.int .i64 1 := hv9
          clear hv9
          subst hv
          go_wp2_with ((with_reducible refine gate_builtin (b := .append) (xs := #[.tmp 30, .tmp 36]) rfl ?_); at_builtin; refine Ap_append l0 (w0 := w) w.heap.size rfl (.tmp 30) (.tmp 36) 22 5 (.int .u8 0) 1 rfl Try.underlying22 info5 rfl (by decide) (by omega) u8 xs (n / 256 % 256) [.int .u8 (n / 256 % 256)] (fun _ => True) (fun _ => False) rfl rfl ?aP (fun _ hk => hk.elim) (fun _ _ => trivial) HO.out HB1.out HB1.out.size ?aL ?_; (case aP => exact rfl); (case aL => have := HL.out; have := HXL.out; omega); intro v3 w3 ho hb hg hat; have HO3 := Aside0.mk ho; have HB3 := Aside0.mk hb; clear ho hb hg hat)
          go_roundg (gk - 1)
          case measure => exact HJ2.out.2.1
          case rel => exact ⟨1, xs ++ [n / 256 % 256], by rfl, ⟨HJ2.out.1⟩, ⟨HJ2.out.2.2⟩, HO3, ⟨by have h2 := HE2.out; simpa using h2⟩, HB3⟩
        · have hv : _ = Value.int .i64 2 := hv9
          clear hv9
          subst hv
          go_wp2_with ((with_reducible refine gate_builtin (b := .append) (xs := #[.tmp 30, .tmp 36]) rfl ?_); at_builtin; refine Ap_append l0 (w0 := w) w.heap.size rfl (.tmp 30) (.tmp 36) 22 5 (.int .u8 0) 1 rfl Try.underlying22 info5 rfl (by decide) (by omega) u8 xs (n / 65536 % 256) [.int .u8 (n / 65536 % 256)] (fun _ => True) (fun _ => False) rfl rfl ?aP (fun _ hk => hk.elim) (fun _ _ => trivial) HO.out HB1.out HB1.out.size ?aL ?_; (case aP => exact rfl); (case aL => have := HL.out; have := HXL.out; omega); intro v3 w3 ho hb hg hat; have HO3 := Aside0.mk ho; have HB3 := Aside0.mk hb; clear ho hb hg hat)
          go_roundg (gk - 1)
          case measure => exact HJ2.out.2.1
          case rel => exact ⟨2, xs ++ [n / 65536 % 256], by rfl, ⟨HJ2.out.1⟩, ⟨HJ2.out.2.2⟩, HO3, ⟨by have h2 := HE2.out; simpa using h2⟩, HB3⟩
        · have hv : _ = Value.int .i64 3 := hv9
          clear hv9
          subst hv
          go_wp2_with ((with_reducible refine gate_builtin (b := .append) (xs := #[.tmp 30, .tmp 36]) rfl ?_); at_builtin; refine Ap_append l0 (w0 := w) w.heap.size rfl (.tmp 30) (.tmp 36) 22 5 (.int .u8 0) 1 rfl Try.underlying22 info5 rfl (by decide) (by omega) u8 xs (n / 16777216) [.int .u8 (n / 16777216)] (fun _ => True) (fun _ => False) rfl rfl ?aP (fun _ hk => hk.elim) (fun _ _ => trivial) HO.out HB1.out HB1.out.size ?aL ?_; (case aP => exact rfl); (case aL => have := HL.out; have := HXL.out; omega); intro v3 w3 ho hb hg hat; have HO3 := Aside0.mk ho; have HB3 := Aside0.mk hb; clear ho hb hg hat)
          go_roundg (gk - 1)
          case measure => exact HJ2.out.2.1
          case rel => exact ⟨3, xs ++ [n / 16777216], by rfl, ⟨HJ2.out.1⟩, ⟨HJ2.out.2.2⟩, HO3, ⟨by have h2 := HE2.out; rw [show n / 256 ^ 3 % 256 = n / 16777216 by omega] at h2; exact h2⟩, HB3⟩
end Go.Proofs.Ytmgkfklkdedpgaa.Q
