/- What the reference's Put comes to; whole numbers of 32 bits. -/
import Derived.Test.YtmgkfklkdedpgaaPut
namespace Go.Proofs.Ytmgkfklkdedpgaa.Q
open Go.RowKit Go.Proofs.Ytmgkfklkdedpgaa.Mine Go.Proofs.YtmgkfklkdedpgaaW.PrintWords Go.Proofs.YtmgkfklkdedpgaaW.PrintLast Go.Proofs.YtmgkfklkdedpgaaW.PrintMore
set_option linter.unusedVariables false
set_option linter.unusedSimpArgs false
set_option maxHeartbeats 4000000 in
set_option maxRecDepth 100000 in
theorem refPut_no.calls (A0 : Option Addr) (c0 : Nat) (l0 : List Int) (n s : Int) (w : World) (hr0 : Kd.C (Kd.int .u8) w A0 l0.length l0) (hc0 : l0.length ≤ c0) (hl : l0.length < 140737488355000) (h0 : 0 ≤ n) (h1 : n < 4294967296) (h : putsB n s = false) :
    Calls Try.prog 12 #[.slice A0 l0.length c0, .int .u32 n, .int .i64 s] w fun e w' => e = .returned (.tuple #[.slice A0 l0.length c0, .int .i64 1]) ∧ Below w.heap.size w w' := by
  have HR0 := Aside0.mk hr0
  have HC0 := Aside0.mk hc0
  have HL := Aside0.mk hl
  have HB := Aside0.mk (Below.refl w.heap.size w)
  have h4 : s ≠ 4 := fun e => by subst e; simp [putsB, isSz] at h; omega
  have a4 : (s == 4) = false := beq_eq_false_iff_ne.2 h4
  have hz : (s ≠ 1 ∧ s ≠ 2) ∨ (s = 1 ∧ ¬ n < 256) ∨ (s = 2 ∧ ¬ n < 65536) := by
    by_cases q1 : s = 1
    · subst q1; simp [putsB, isSz] at h; omega
    by_cases q2 : s = 2
    · subst q2; simp [putsB, isSz] at h; omega
    exact .inl ⟨q1, q2⟩
  clear hr0 hc0 hl h h4
  rcases hz with ⟨q1, q2⟩ | ⟨rfl, q⟩ | ⟨rfl, q⟩
  · have a1 : (s == 1) = false := beq_eq_false_iff_ne.2 q1
    have a2 : (s == 2) = false := beq_eq_false_iff_ne.2 q2
    clear q1 q2
    go_enter Try.func12, Try.ntmps12
    go_wp2_with (first | ((with_reducible refine gate_dst (N := 9) rfl ?_); refine Kd.R_lit (Kd.int .u8) _ 5 ?hg (N := 9) ?hd (xs := ([] : List Int)) (inner := []) (ok := fun _ => True) (okp := fun _ => True) ?hr ?hp (fun _ hk => hk) trivial (Below.refl _ _) (Nat.le_refl _) (by simp) ?_; (case hd => rfl); (case hg => rfl); (case hr => first | (go_simp; done) | (go_simp; rfl)); (case hp => exact (Reps.none _ _)); intro v2 w2 ho hb hg_ hnew_; clear hg_ hnew_; have HO2 := Aside0.mk (Kd.R_lower ho HB.out.size); have HB2 := Aside0.mk (HB.out.trans (hb.mono HB.out.size)); clear ho hb) | ((with_reducible refine gate_builtin (b := .append) (xs := #[.tmp 9, .tmp 10]) rfl ?_); at_builtin; refine Kd.R_append_rows (Kd.int .u8) (w0 := w) w.heap.size rfl (.tmp 9) (.tmp 10) 22 5 (.int .u8 0) 1 rfl Try.underlying22 info5 rfl (by decide) (by omega) v2 [] l0 _ _ _ (fun _ => True) (fun _ => False) rfl rfl HO2.out ?aR (fun _ _ h => h) (fun _ h => h.elim) (fun _ _ => trivial) HB2.out HB2.out.size ?aL ?_; (case aR => exact (Kd.C_below HR0.out HB2.out)); (case aL => have := HL.out; simp; omega); intro v3 w3 ho hb hg hat; have HB3 := Aside0.mk hb; clear ho hb hg hat))
    go_ret2
    exact ⟨rfl, HB3.out⟩
  · have hd : decide (n < 256) = false := decide_eq_false q
    clear q
    go_enter Try.func12, Try.ntmps12
    go_wp2_with (first | ((with_reducible refine gate_dst (N := 9) rfl ?_); refine Kd.R_lit (Kd.int .u8) _ 5 ?hg (N := 9) ?hd (xs := ([] : List Int)) (inner := []) (ok := fun _ => True) (okp := fun _ => True) ?hr ?hp (fun _ hk => hk) trivial (Below.refl _ _) (Nat.le_refl _) (by simp) ?_; (case hd => rfl); (case hg => rfl); (case hr => first | (go_simp; done) | (go_simp; rfl)); (case hp => exact (Reps.none _ _)); intro v2 w2 ho hb hg_ hnew_; clear hg_ hnew_; have HO2 := Aside0.mk (Kd.R_lower ho HB.out.size); have HB2 := Aside0.mk (HB.out.trans (hb.mono HB.out.size)); clear ho hb) | ((with_reducible refine gate_builtin (b := .append) (xs := #[.tmp 9, .tmp 10]) rfl ?_); at_builtin; refine Kd.R_append_rows (Kd.int .u8) (w0 := w) w.heap.size rfl (.tmp 9) (.tmp 10) 22 5 (.int .u8 0) 1 rfl Try.underlying22 info5 rfl (by decide) (by omega) v2 [] l0 _ _ _ (fun _ => True) (fun _ => False) rfl rfl HO2.out ?aR (fun _ _ h => h) (fun _ h => h.elim) (fun _ _ => trivial) HB2.out HB2.out.size ?aL ?_; (case aR => exact (Kd.C_below HR0.out HB2.out)); (case aL => have := HL.out; simp; omega); intro v3 w3 ho hb hg hat; have HB3 := Aside0.mk hb; clear ho hb hg hat))
    go_ret2
    exact ⟨rfl, HB3.out⟩
  · have hd : decide (n < 65536) = false := decide_eq_false q
    clear q
    go_enter Try.func12, Try.ntmps12
    go_wp2_with (first | ((with_reducible refine gate_dst (N := 9) rfl ?_); refine Kd.R_lit (Kd.int .u8) _ 5 ?hg (N := 9) ?hd (xs := ([] : List Int)) (inner := []) (ok := fun _ => True) (okp := fun _ => True) ?hr ?hp (fun _ hk => hk) trivial (Below.refl _ _) (Nat.le_refl _) (by simp) ?_; (case hd => rfl); (case hg => rfl); (case hr => first | (go_simp; done) | (go_simp; rfl)); (case hp => exact (Reps.none _ _)); intro v2 w2 ho hb hg_ hnew_; clear hg_ hnew_; have HO2 := Aside0.mk (Kd.R_lower ho HB.out.size); have HB2 := Aside0.mk (HB.out.trans (hb.mono HB.out.size)); clear ho hb) | ((with_reducible refine gate_builtin (b := .append) (xs := #[.tmp 9, .tmp 10]) rfl ?_); at_builtin; refine Kd.R_append_rows (Kd.int .u8) (w0 := w) w.heap.size rfl (.tmp 9) (.tmp 10) 22 5 (.int .u8 0) 1 rfl Try.underlying22 info5 rfl (by decide) (by omega) v2 [] l0 _ _ _ (fun _ => True) (fun _ => False) rfl rfl HO2.out ?aR (fun _ _ h => h) (fun _ h => h.elim) (fun _ _ => trivial) HB2.out HB2.out.size ?aL ?_; (case aR => exact (Kd.C_below HR0.out HB2.out)); (case aL => have := HL.out; simp; omega); intro v3 w3 ho hb hg hat; have HB3 := Aside0.mk hb; clear ho hb hg hat))
    go_ret2
    exact ⟨rfl, HB3.out⟩
set_option maxHeartbeats 4000000 in
set_option maxRecDepth 100000 in
theorem refPut_yes.calls (A0 : Option Addr) (c0 : Nat) (l0 : List Int) (n s : Int) (w : World) (hr0 : Kd.C (Kd.int .u8) w A0 l0.length l0) (hc0 : l0.length ≤ c0) (hl : l0.length < 140737488355000) (h0 : 0 ≤ n) (h1 : n < 4294967296) (h : putsB n s = true) :
    Calls Try.prog 12 #[.slice A0 l0.length c0, .int .u32 n, .int .i64 s] w fun e w' => ∃ v0_ : Value, e = .returned (.tuple #[v0_, .int .i64 0]) ∧ Kd.R (Kd.int .u8) 5 w' w.heap.size (fun _ => True) v0_ (l0 ++ bytesB n s.toNat) ∧ Below w.heap.size w w' := by
  have HR0 := Aside0.mk hr0
  have HC0 := Aside0.mk hc0
  have HL := Aside0.mk hl
  have HB := Aside0.mk (Below.refl w.heap.size w)
  have hs : isSz s = true := by simp only [putsB, Bool.and_eq_true] at h; exact h.1
  have hlt : n < 256 ^ s.toNat := by simp only [putsB, Bool.and_eq_true, decide_eq_true_eq] at h; exact h.2
  clear hr0 hc0 hl h
  rcases isSz_iff.1 hs with rfl | rfl | rfl
  · have hn : n < 256 := hlt
    have hb2 : bytesB n (Int.toNat 1) = [n] := by
      show [n / 256 ^ 0 % 256] = _
      rw [show n / 256 ^ 0 % 256 = n by simp; omega]
    rw [hb2]
    have hd : decide (n < 256) = true := decide_eq_true hn
    clear hs hlt hb2
    go_enter Try.func12, Try.ntmps12
    go_wp2_with (first | ((with_reducible refine gate_dst (N := 9) rfl ?_); refine Kd.R_lit (Kd.int .u8) _ 5 ?hg (N := 9) ?hd (xs := ([] : List Int)) (inner := []) (ok := fun _ => True) (okp := fun _ => True) ?hr ?hp (fun _ hk => hk) trivial (Below.refl _ _) (Nat.le_refl _) (by simp) ?_; (case hd => rfl); (case hg => rfl); (case hr => first | (go_simp; done) | (go_simp; rfl)); (case hp => exact (Reps.none _ _)); intro v2 w2 ho hb hg_ hnew_; clear hg_ hnew_; have HO2 := Aside0.mk (Kd.R_lower ho HB.out.size); have HB2 := Aside0.mk (HB.out.trans (hb.mono HB.out.size)); clear ho hb) | ((with_reducible refine gate_builtin (b := .append) (xs := #[.tmp 9, .tmp 10]) rfl ?_); at_builtin; refine Kd.R_append_rows (Kd.int .u8) (w0 := w) w.heap.size rfl (.tmp 9) (.tmp 10) 22 5 (.int .u8 0) 1 rfl Try.underlying22 info5 rfl (by decide) (by omega) v2 [] l0 _ _ _ (fun _ => True) (fun _ => False) rfl rfl HO2.out ?aR (fun _ _ h => h) (fun _ h => h.elim) (fun _ _ => trivial) HB2.out HB2.out.size ?aL ?_; (case aR => exact (Kd.C_below HR0.out HB2.out)); (case aL => have := HL.out; simp; omega); intro v3 w3 ho hb hg hat; have HO3 := Aside0.mk (show (Kd.int .u8).R 5 w3 w.heap.size (fun _ => True) v3 l0 from ho); have HB3 := Aside0.mk hb; clear ho hb hg hat) | ((with_reducible refine gate_builtin (b := .append) (xs := #[.tmp 18, .tmp 21]) rfl ?_); at_builtin; refine Kd.R_append (Kd.int .u8) (w0 := w) w.heap.size rfl (.tmp 18) (.tmp 21) 22 5 (.int .u8 0) 1 rfl Try.underlying22 info5 rfl (by decide) (by omega) v3 l0 n [.int .u8 n] (fun _ => True) (fun _ => False) rfl rfl ?aP (fun _ hk => hk.elim) (fun _ _ => trivial) HO3.out HB3.out HB3.out.size ?aL ?_; (case aP => exact rfl); (case aL => have := HL.out; omega); intro v4 w4 ho hb hg hat; have HO4 := Aside0.mk ho; have HB4 := Aside0.mk hb; clear ho hb hg hat))
    go_ret2
    exact ⟨_, rfl, HO4.out, HB4.out⟩
  · have hn : n < 65536 := hlt
    have hb2 : bytesB n (Int.toNat 2) = [n / 256, n % 256] := by
      show [n / 256 ^ 1 % 256, n / 256 ^ 0 % 256] = _
      rw [show n / 256 ^ 1 % 256 = n / 256 by omega, show n / 256 ^ 0 % 256 = n % 256 by simp]
    rw [hb2]
    have hd : decide (n < 65536) = true := decide_eq_true hn
    clear hs hlt hb2
    go_enter Try.func12, Try.ntmps12
    go_wp2_with (first | ((with_reducible refine gate_dst (N := 9) rfl ?_); refine Kd.R_lit (Kd.int .u8) _ 5 ?hg (N := 9) ?hd (xs := ([] : List Int)) (inner := []) (ok := fun _ => True) (okp := fun _ => True) ?hr ?hp (fun _ hk => hk) trivial (Below.refl _ _) (Nat.le_refl _) (by simp) ?_; (case hd => rfl); (case hg => rfl); (case hr => first | (go_simp; done) | (go_simp; rfl)); (case hp => exact (Reps.none _ _)); intro v2 w2 ho hb hg_ hnew_; clear hg_ hnew_; have HO2 := Aside0.mk (Kd.R_lower ho HB.out.size); have HB2 := Aside0.mk (HB.out.trans (hb.mono HB.out.size)); clear ho hb) | ((with_reducible refine gate_builtin (b := .append) (xs := #[.tmp 9, .tmp 10]) rfl ?_); at_builtin; refine Kd.R_append_rows (Kd.int .u8) (w0 := w) w.heap.size rfl (.tmp 9) (.tmp 10) 22 5 (.int .u8 0) 1 rfl Try.underlying22 info5 rfl (by decide) (by omega) v2 [] l0 _ _ _ (fun _ => True) (fun _ => False) rfl rfl HO2.out ?aR (fun _ _ h => h) (fun _ h => h.elim) (fun _ _ => trivial) HB2.out HB2.out.size ?aL ?_; (case aR => exact (Kd.C_below HR0.out HB2.out)); (case aL => have := HL.out; simp; omega); intro v3 w3 ho hb hg hat; have HO3 := Aside0.mk (show (Kd.int .u8).R 5 w3 w.heap.size (fun _ => True) v3 l0 from ho); have HB3 := Aside0.mk hb; clear ho hb hg hat) | ((with_reducible refine gate_builtin (b := .append) (xs := #[.tmp 29, .tmp 36]) rfl ?_); at_builtin; refine Kd.R_append_rows (Kd.int .u8) (w0 := w) w.heap.size rfl (.tmp 29) (.tmp 36) 22 5 (.int .u8 0) 1 rfl Try.underlying22 info5 rfl (by decide) (by omega) v3 l0 [n / 256, n % 256] _ _ _ (fun _ => True) (fun _ => False) rfl rfl (Kd.R_alloc HO3.out _) ?aR (fun _ _ h => h) (fun _ h => h.elim) (fun _ _ => trivial) (HB3.out.alloc HB3.out.size _) (HB3.out.alloc HB3.out.size _).size ?aL ?_; (case aR => exact (C_block (k := .u8) (xs := [n / 256, n % 256]) (blk_new w3 _) rfl (by simp))); (case aL => have := HL.out; omega); intro v4 w4 ho hb hg hat; have HO4 := Aside0.mk ho; have HB4 := Aside0.mk hb; clear ho hb hg hat))
    go_ret2
    exact ⟨_, rfl, HO4.out, HB4.out⟩
  · have hb2 : bytesB n (Int.toNat 4) = [n / 16777216, n / 65536 % 256, n / 256 % 256, n % 256] := by
      show [n / 256 ^ 3 % 256, n / 256 ^ 2 % 256, n / 256 ^ 1 % 256, n / 256 ^ 0 % 256] = _
      rw [show n / 256 ^ 3 % 256 = n / 16777216 by omega, show n / 256 ^ 0 % 256 = n % 256 by simp]
      rfl
    rw [hb2]
    clear hs hlt hb2
    go_enter Try.func12, Try.ntmps12
    go_wp2_with (first | ((with_reducible refine gate_dst (N := 9) rfl ?_); refine Kd.R_lit (Kd.int .u8) _ 5 ?hg (N := 9) ?hd (xs := ([] : List Int)) (inner := []) (ok := fun _ => True) (okp := fun _ => True) ?hr ?hp (fun _ hk => hk) trivial (Below.refl _ _) (Nat.le_refl _) (by simp) ?_; (case hd => rfl); (case hg => rfl); (case hr => first | (go_simp; done) | (go_simp; rfl)); (case hp => exact (Reps.none _ _)); intro v2 w2 ho hb hg_ hnew_; clear hg_ hnew_; have HO2 := Aside0.mk (Kd.R_lower ho HB.out.size); have HB2 := Aside0.mk (HB.out.trans (hb.mono HB.out.size)); clear ho hb) | ((with_reducible refine gate_builtin (b := .append) (xs := #[.tmp 9, .tmp 10]) rfl ?_); at_builtin; refine Kd.R_append_rows (Kd.int .u8) (w0 := w) w.heap.size rfl (.tmp 9) (.tmp 10) 22 5 (.int .u8 0) 1 rfl Try.underlying22 info5 rfl (by decide) (by omega) v2 [] l0 _ _ _ (fun _ => True) (fun _ => False) rfl rfl HO2.out ?aR (fun _ _ h => h) (fun _ h => h.elim) (fun _ _ => trivial) HB2.out HB2.out.size ?aL ?_; (case aR => exact (Kd.C_below HR0.out HB2.out)); (case aL => have := HL.out; simp; omega); intro v3 w3 ho hb hg hat; have HO3 := Aside0.mk (show (Kd.int .u8).R 5 w3 w.heap.size (fun _ => True) v3 l0 from ho); have HB3 := Aside0.mk hb; clear ho hb hg hat) | ((with_reducible refine gate_builtin (b := .append) (xs := #[.tmp 40, .tmp 55]) rfl ?_); at_builtin; refine Kd.R_append_rows (Kd.int .u8) (w0 := w) w.heap.size rfl (.tmp 40) (.tmp 55) 22 5 (.int .u8 0) 1 rfl Try.underlying22 info5 rfl (by decide) (by omega) v3 l0 [n / 16777216, n / 65536 % 256, n / 256 % 256, n % 256] _ _ _ (fun _ => True) (fun _ => False) rfl rfl (Kd.R_alloc HO3.out _) ?aR (fun _ _ h => h) (fun _ h => h.elim) (fun _ _ => trivial) (HB3.out.alloc HB3.out.size _) (HB3.out.alloc HB3.out.size _).size ?aL ?_; (case aR => exact (C_block (k := .u8) (xs := [n / 16777216, n / 65536 % 256, n / 256 % 256, n % 256]) (blk_new w3 _) rfl (by simp))); (case aL => have := HL.out; omega); intro v4 w4 ho hb hg hat; have HO4 := Aside0.mk ho; have HB4 := Aside0.mk hb; clear ho hb hg hat))
    go_ret2
    exact ⟨_, rfl, HO4.out, HB4.out⟩
end Go.Proofs.Ytmgkfklkdedpgaa.Q
