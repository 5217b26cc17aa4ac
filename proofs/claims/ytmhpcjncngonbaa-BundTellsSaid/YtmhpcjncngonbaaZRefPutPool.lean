/- Texts of this claim, joined; the first one's sentence stands below. -/
import Derived.Test.YtmhpcjncngonbaaZM5
import Derived.Test.YtmhpcjncngonbaaZM4
/- What the reference's PutPool comes to; rows of bytes. -/
namespace Go.Proofs.Ytmhpcjncngonbaa.Q
open Go.RowKit Go.Proofs.Ytmhpcjncngonbaa.Mine Go.Proofs.YtmhpcjncngonbaaW.PrintWords Go.Proofs.YtmhpcjncngonbaaW.PrintLast Go.Proofs.YtmhpcjncngonbaaW.PrintMore
set_option linter.unusedVariables false
set_option linter.unusedSimpArgs false
set_option maxHeartbeats 4000000 in
set_option maxRecDepth 100000 in
theorem refPutPool_no.calls (k : Nat) (v : Value) (A1 : Option Addr) (c1 : Nat) (l1 : List ByteArray) (w : World) (hr1 : Kd.C Kd.string w A1 l1.length l1) (hc1 : l1.length ≤ c1) (h : exergueref09_Pool.f k l1 = some false) :
    Calls Try.prog 56 #[v, .slice A1 l1.length c1] w fun e w' => e = .returned (.tuple #[v, .int .i64 1]) ∧ Below w.heap.size w w' := by
  have HC := Aside0.mk (exergueref09_Pool.calls k A1 c1 l1 false w hr1 hc1 h)
  clear hr1 hc1 h
  go_enter Try.func56, Try.ntmps56
  go_wp2_with fail
  refine HC.out.mono ?_
  rintro e w1 ⟨rfl, ⟨m, rfl⟩⟩
  dsimp only
  go_wp2
  go_ret2
  exact ⟨rfl, pw_below_drewN (Below.refl _ _) _⟩
set_option maxHeartbeats 4000000 in
set_option maxRecDepth 100000 in
theorem refPutPool_yes.calls (k : Nat) (A0 : Option Addr) (c0 : Nat) (l0 : List Int) (A1 : Option Addr) (c1 : Nat) (l1 : List ByteArray) (w : World) (hr0 : Kd.C (Kd.int .u8) w A0 l0.length l0) (hc0 : l0.length ≤ c0) (hl0 : l0.length < 140737488000000) (hr1 : Kd.C Kd.string w A1 l1.length l1) (hc1 : l1.length ≤ c1) (h : exergueref09_Pool.f k l1 = some true) (hlen : l1.length ≤ 500) (hsz : ∀ s ∈ l1, s.size ≤ 400) :
    Calls Try.prog 56 #[.slice A0 l0.length c0, .slice A1 l1.length c1] w fun e w' => ∃ v0_ : Value, e = .returned (.tuple #[v0_, .int .i64 0]) ∧ Kd.R (Kd.int .u8) 5 w' w.heap.size (fun _ => True) v0_ (l0 ++ bytesB l1.length 2 ++ poolBytes l1) ∧ Below w.heap.size w w' := by
  have HC := Aside0.mk (exergueref09_Pool.calls k A1 c1 l1 true w hr1 hc1 h)
  have HR0 := Aside0.mk hr0
  have HC0 := Aside0.mk hc0
  have HL0 := Aside0.mk hl0
  have HR1 := Aside0.mk hr1
  have HSZ := Aside0.mk hsz
  have HPL := Aside0.mk (fun n => poolBytes_len (l1.take n) (fun s hs => hsz s (List.mem_of_mem_take hs)))
  clear hr0 hc0 hr1 hc1 h hl0 hsz
  have HB0 := Aside0.mk (Below.refl w.heap.size w)
  go_enter Try.func56, Try.ntmps56
  go_wp2_with fail
  refine HC.out.mono ?_
  rintro e w1 ⟨rfl, ⟨m, rfl⟩⟩
  have HB := Aside0.mk (pw_below_drewN HB0.out m)
  generalize w.drewN m = w1 at HB ⊢
  clear HC
  dsimp only
  go_wp2_with (first | ((with_reducible refine gate_dst (N := 15) rfl ?_); refine Kd.R_lit (Kd.int .u8) _ 5 ?hg (N := 15) ?hd (xs := ([] : List Int)) (inner := []) (ok := fun _ => True) (okp := fun _ => True) ?hr ?hp (fun _ hk => hk) trivial (Below.refl _ _) (Nat.le_refl _) (by simp) ?_; (case hd => rfl); (case hg => rfl); (case hr => first | (go_simp; done) | (go_simp; rfl)); (case hp => exact (Reps.none _ _)); intro v2 w2 ho hb hg_ hnew_; clear hg_ hnew_; have HO2 := Aside0.mk (Kd.R_lower ho HB.out.size); have HB2 := Aside0.mk (HB.out.trans (hb.mono HB.out.size)); clear ho hb) | ((with_reducible refine gate_builtin (b := .append) (xs := #[.tmp 15, .tmp 16]) rfl ?_); at_builtin; refine Kd.R_append_rows (Kd.int .u8) (w0 := w) w.heap.size rfl (.tmp 15) (.tmp 16) 32 5 (.int .u8 0) 1 rfl Try.underlying32 info5 rfl (by decide) (by omega) v2 [] l0 _ _ _ (fun _ => True) (fun _ => False) rfl rfl HO2.out ?aR (fun _ _ h => h) (fun _ h => h.elim) (fun _ _ => trivial) HB2.out HB2.out.size ?aL ?_; (case aR => exact (Kd.C_below HR0.out HB2.out)); (case aL => have := HL0.out; simp; omega); intro v3 w3 ho hb hg hat; have HO3 := Aside0.mk (show (Kd.int .u8).R 5 w3 w.heap.size (fun _ => True) v3 l0 from ho); have HB3 := Aside0.mk hb; clear ho hb hg hat) | ((with_reducible refine gate_builtin (b := .append) (xs := #[.tmp 18, .tmp 27]) rfl ?_); at_builtin; refine Kd.R_append_rows (Kd.int .u8) (w0 := w) w.heap.size rfl (.tmp 18) (.tmp 27) 32 5 (.int .u8 0) 1 rfl Try.underlying32 info5 rfl (by decide) (by omega) v3 l0 [(l1.length : Int) / 256, (l1.length : Int) % 256] _ _ _ (fun _ => True) (fun _ => False) rfl rfl (Kd.R_alloc HO3.out _) ?aR (fun _ _ h => h) (fun _ h => h.elim) (fun _ _ => trivial) (HB3.out.alloc HB3.out.size _) (HB3.out.alloc HB3.out.size _).size ?aL ?_; (case aR => exact (C_block (k := .u8) (xs := [(l1.length : Int) / 256, (l1.length : Int) % 256]) (blk_new w3 _) rfl (by simp))); (case aL => have := HL0.out; omega); intro v4 w4 ho hb hg hat; have HO4 := Aside0.mk (show (Kd.int .u8).R 5 w4 w.heap.size (fun _ => True) v4 (l0 ++ [(l1.length : Int) / 256, (l1.length : Int) % 256]) from ho); have HB4 := Aside0.mk hb; clear ho hb hg hat))
  have hb2 : bytesB l1.length 2 = [(l1.length : Int) / 256, (l1.length : Int) % 256] := by
    show [(l1.length : Int) / 256 ^ 1 % 256, (l1.length : Int) / 256 ^ 0 % 256] = _
    rw [show (l1.length : Int) / 256 ^ 1 % 256 = (l1.length : Int) / 256 by omega, show (l1.length : Int) / 256 ^ 0 % 256 = (l1.length : Int) % 256 by simp]
  rw [← hb2] at HO4
  clear hb2
  go_loopg [7, 8] l1.length (fun kq v7 v8 wr => ∃ n : Nat, v8 = .int .i64 (n : Int) ∧ Aside0 (n ≤ l1.length) ∧ Aside0 (l1.length - n = kq) ∧ Aside0 (Kd.R (Kd.int .u8) 5 wr w.heap.size (fun _ => True) v7 (l0 ++ bytesB l1.length 2 ++ poolBytes (l1.take n))) ∧ Aside0 (Below w.heap.size w wr))
  case atStart => exact ⟨0, rfl, ⟨Nat.zero_le _⟩, ⟨rfl⟩, ⟨by have h2 := HO4.out; rw [List.take_zero, poolBytes, List.append_nil]; exact h2⟩, HB4⟩
  case round =>
    obtain ⟨n, rfl, HN, HK, HO1, HB1⟩ := hrel
    by_cases hlt : n < l1.length
    · have HLT := Aside0.mk hlt
      obtain ⟨ad, hA, hcell⟩ := Kd.at_string (Kd.C_below HR1.out HB1.out) (n : Int) (by omega) (by omega)
      have hcell2 : ∀ w', Below w.heap.size w w' → w'.cell? (ad.add n) = some (.string l1[n]) := fun w' hb => by
        obtain ⟨ad2, hA2, hc⟩ := Kd.at_string (Kd.C_below HR1.out hb) (n : Int) (by omega) (by omega)
        have hrd : rdOf ByteArray.empty l1 (n : Int) = l1[n] := by simp [rdOf, List.getD_eq_getElem?_getD, hlt]
        rw [hrd, Int.toNat_natCast] at hc
        rw [hA] at hA2
        cases hA2
        exact hc
      have hrd : rdOf ByteArray.empty l1 (n : Int) = l1[n] := by simp [rdOf, List.getD_eq_getElem?_getD, hlt]
      rw [hrd, Int.toNat_natCast] at hcell
      have hsn := HSZ.out l1[n] (List.getElem_mem hlt)
      have ht1 : poolBytes (l1.take (n + 1)) = poolBytes (l1.take n) ++ (bytesB l1[n].size 2 ++ bytesOf l1[n]) := by
        rw [List.take_succ_eq_append_getElem hlt, poolBytes_app, poolBytes_one]
      generalize l1[n] = s at hcell hsn ht1 hcell2
      cases hA
      clear hrd
      have HCELL := Aside0.mk hcell2
      have HT1 := Aside0.mk ht1
      have HTL := Aside0.mk (show (l0 ++ bytesB l1.length 2 ++ poolBytes (l1.take n)).length ≤ l0.length + 2 + 402 * 500 by
        have h1 := HPL.out n
        have h2 : (l1.take n).length ≤ 500 := Nat.le_trans (List.length_take_le' _ _) hlen
        rw [List.length_append, List.length_append, bytesB_len]
        omega)
      generalize hys : l0 ++ bytesB l1.length 2 ++ poolBytes (l1.take n) = ys at HO1 HTL
      have HYS := Aside0.mk hys
      clear hys ht1 hcell2
      have kb := fun W => print_bytes (P := Try.prog) 9 32 5 Try.underlying9 Try.underlying32 Try.underlying5 s W
      go_wp2_with (first | ((with_reducible refine gate_builtin (b := .append) (xs := #[.tmp 40, .tmp 47]) rfl ?_); at_builtin; refine Kd.R_append_rows (Kd.int .u8) (w0 := w) w.heap.size rfl (.tmp 40) (.tmp 47) 32 5 (.int .u8 0) 1 rfl Try.underlying32 info5 rfl (by decide) (by omega) u7 ys [(s.size : Int) / 256, (s.size : Int) % 256] _ _ _ (fun _ => True) (fun _ => False) rfl rfl (Kd.R_alloc HO1.out _) ?aR (fun _ _ h => h) (fun _ h => h.elim) (fun _ _ => trivial) (HB1.out.alloc HB1.out.size _) (HB1.out.alloc HB1.out.size _).size ?aL ?_; (case aR => exact (C_block (k := .u8) (xs := [(s.size : Int) / 256, (s.size : Int) % 256]) (blk_new wr _) rfl (by simp))); (case aL => have := HL0.out; have := HTL.out; omega); intro v5 w5 ho hb hg hat; have HO5 := Aside0.mk ho; have HB5 := Aside0.mk hb; have hcell := HCELL.out w5 hb; clear ho hb hg hat) | ((with_reducible refine gate_builtin (b := .append) (xs := #[.tmp 49, .tmp 54]) rfl ?_); at_builtin; refine Kd.R_append_rows (Kd.int .u8) (w0 := w) w.heap.size rfl (.tmp 49) (.tmp 54) 32 5 (.int .u8 0) 1 rfl Try.underlying32 info5 rfl (by decide) (by omega) v5 (ys ++ [(s.size : Int) / 256, (s.size : Int) % 256]) (bytesOf s) _ _ _ (fun _ => True) (fun _ => False) rfl rfl (Kd.R_below HO5.out (bytes_below (Below.refl _ _) (Nat.le_refl _) 5 s)) ?aR (fun _ _ h => h) (fun _ h => h.elim) (fun _ _ => trivial) (bytes_below HB5.out HB5.out.size 5 s) (bytes_below HB5.out HB5.out.size 5 s).size ?aL ?_; (case aR => exact Kd.C_of_reads (h1 := fun _ => rfl) (bytes_reads w5 5 s (by omega))); (case aL => have := HL0.out; have := HTL.out; rw [List.length_append]; simp; omega); intro v6 w6 ho hb hg hat; have HO6 := Aside0.mk ho; have HB6 := Aside0.mk hb; clear ho hb hg hat))
      go_roundg (l1.length - (n + 1))
      case measure => have := HLT.out; have := HK.out; omega
      case rel =>
        refine ⟨n + 1, by go_num, ⟨HLT.out⟩, ⟨rfl⟩, ⟨?_⟩, HB6⟩
        have h2 := HO6.out
        have hb2 : bytesB s.size 2 = [(s.size : Int) / 256, (s.size : Int) % 256] := by
          show [(s.size : Int) / 256 ^ 1 % 256, (s.size : Int) / 256 ^ 0 % 256] = _
          rw [show (s.size : Int) / 256 ^ 1 % 256 = (s.size : Int) / 256 by omega, show (s.size : Int) / 256 ^ 0 % 256 = (s.size : Int) % 256 by simp]
        rw [HT1.out, ← List.append_assoc, ← List.append_assoc, HYS.out, hb2]
        exact h2
    · have hn : n = l1.length := by have := HN.out; omega
      subst hn
      have h2 := HO1.out
      rw [List.take_length] at h2
      have HO2 := Aside0.mk h2
      clear h2 HO1
      go_wp2
      go_ret2
      exact ⟨_, rfl, HO2.out, HB1.out⟩
end Go.Proofs.Ytmhpcjncngonbaa.Q
