/- What pack.isPool comes to; rows as long as memory has room. -/
import Derived.Test.YtmgkfklkdedpgaaGather
namespace Go.Proofs.Ytmgkfklkdedpgaa.Q
open Go.RowKit Go.Proofs.Ytmgkfklkdedpgaa.Mine Go.Proofs.YtmgkfklkdedpgaaW.PrintWords Go.Proofs.YtmgkfklkdedpgaaW.PrintLast Go.Proofs.YtmgkfklkdedpgaaW.PrintMore
set_option linter.unusedVariables false
set_option linter.unusedSimpArgs false
def fidx : List ByteArray → Nat → Int
  | [], _ => -1
  | s :: l, n => if 400 < s.size then (n : Int) else fidx l (n + 1)
theorem fidx_any : ∀ (l : List ByteArray) (n : Nat), decide (fidx l n ≥ 0) = l.any fun s => decide (400 < s.size)
  | [], n => rfl
  | s :: l, n => by
    rw [fidx, List.any_cons]
    by_cases h : 400 < s.size
    · rw [if_pos h, decide_eq_true h, Bool.true_or, decide_eq_true (by omega)]
    · rw [if_neg h, decide_eq_false h, Bool.false_or]
      exact fidx_any l (n + 1)
theorem isPool_1.calls (s : ByteArray) (w : World) : Calls Try.prog 33 #[.string s] w fun e w' => e = .returned (.bool (decide (400 < s.size))) ∧ w = w' := by
  go_enter Try.func33, Try.ntmps33
  go_wp2
  go_ret
  exact ⟨by first | rfl | (simp; done) | (simp; omega), rfl⟩
set_option maxHeartbeats 2000000 in
set_option maxRecDepth 100000 in
theorem isPool_2.calls (A0 : Option Addr) (c0 : Nat) (l0 : List ByteArray) (w : World) (hr0 : Kd.C Kd.string w A0 l0.length l0) :
    Calls Try.prog 35 #[.slice A0 l0.length c0, .func (.func 33) #[] #[]] w fun e w' => e = .returned (.int .i64 (fidx l0 0)) ∧ w = w' := by
  have HR0 := Aside0.mk hr0
  have hm : l0.length ≤ 9223372036854775807 := hr0.2.1
  clear hr0
  go_enter Try.func35, Try.ntmps35
  go_wp2
  go_loopg [8] l0.length (fun kq v8 wr => ∃ n : Nat, v8 = .int .i64 (n : Int) ∧ Aside0 (n ≤ l0.length) ∧ Aside0 (l0.length - n = kq) ∧ Aside0 (fidx l0 0 = fidx (l0.drop n) n) ∧ wr = w)
  case atStart => exact ⟨0, rfl, ⟨Nat.zero_le _⟩, ⟨rfl⟩, ⟨rfl⟩, rfl⟩
  case round =>
    obtain ⟨n, rfl, HN, HK, HF, rfl⟩ := hrel
    by_cases hlt : n < l0.length
    · have HLT := Aside0.mk hlt
      obtain ⟨ad, hA, hcell⟩ := Kd.at_string HR0.out (n : Int) (by omega) (by omega)
      have hrd : rdOf ByteArray.empty l0 (n : Int) = l0[n] := by simp [rdOf, List.getD_eq_getElem?_getD, hlt]
      rw [hrd, Int.toNat_natCast] at hcell
      have hf := HF.out
      rw [List.drop_eq_getElem_cons hlt, fidx] at hf
      generalize hs : l0[n] = s at hcell hf
      clear hrd hs
      cases hA
      have HF2 := Aside0.mk hf
      clear hf
      by_cases hq : 400 < s.size
      · have HQ := Aside0.mk hq
        go_wp2_with fail
        refine (isPool_1.calls s _).mono ?_
        rintro e w1 ⟨rfl, rfl⟩
        have hd : decide (400 < s.size) = true := decide_eq_true HQ.out
        dsimp only
        rw [hd]
        go_wp2
        go_ret
        have h2 := HF2.out
        rw [if_pos HQ.out] at h2
        exact ⟨by rw [h2]; rfl, rfl⟩
      · have HQ := Aside0.mk hq
        go_wp2_with fail
        refine (isPool_1.calls s _).mono ?_
        rintro e w1 ⟨rfl, rfl⟩
        have hd : decide (400 < s.size) = false := decide_eq_false HQ.out
        dsimp only
        rw [hd]
        go_wp2
        go_roundg (l0.length - (n + 1))
        case measure => have := HLT.out; have := HK.out; omega
        case rel =>
          have h2 := HF2.out
          rw [if_neg HQ.out] at h2
          exact ⟨n + 1, by go_num, ⟨HLT.out⟩, ⟨rfl⟩, ⟨h2⟩, rfl⟩
    · have h2 := HF.out
      have HN2 := HN.out
      rw [List.drop_eq_nil_of_le (by omega)] at h2
      have HF2 := Aside0.mk h2
      clear h2
      go_wp2
      go_ret
      exact ⟨by rw [HF2.out]; rfl, rfl⟩
set_option maxHeartbeats 2000000 in
set_option maxRecDepth 100000 in
theorem isPool_3.calls (A0 : Option Addr) (c0 : Nat) (l0 : List ByteArray) (w : World) (hr0 : Kd.C Kd.string w A0 l0.length l0) :
    Calls Try.prog 34 #[.slice A0 l0.length c0, .func (.func 33) #[] #[]] w fun e w' => e = .returned (.bool (l0.any fun s => decide (400 < s.size))) ∧ w = w' := by
  have HR0 := Aside0.mk hr0
  clear hr0
  go_enter Try.func34, Try.ntmps34
  go_wp2_with fail
  refine (isPool_2.calls A0 c0 l0 _ HR0.out).mono ?_
  rintro e w1 ⟨rfl, rfl⟩
  have hany := Aside0.mk (fidx_any l0 0)
  dsimp only
  generalize fidx l0 0 = i at hany ⊢
  go_wp2
  go_ret
  exact ⟨by rw [← hany.out]; rfl, rfl⟩
/-- is it a pool? -/
def isPoolB (l : List ByteArray) : Bool := decide ((gpool l).length = l.length) && (decide (l.length ≤ 500) && !(l.any fun s => decide (400 < s.size)))
def pack_isPool.f (l0 : List ByteArray) : Option Bool := if l0.length < 8796093022208 then some (isPoolB l0) else none
set_option maxHeartbeats 2000000 in
set_option maxRecDepth 100000 in
theorem pack_isPool.calls (A0 : Option Addr) (c0 : Nat) (l0 : List ByteArray) (r : Bool) (w : World) (hr0 : Kd.C Kd.string w A0 l0.length l0) (hc0 : l0.length ≤ c0) (h : pack_isPool.f l0 = some r) :
    Calls Try.prog 31 #[.slice A0 l0.length c0] w fun e w' => e = .returned (.bool r) ∧ Below w.heap.size w w' := by
  unfold pack_isPool.f at h
  by_cases hl : l0.length < 8796093022208
  case neg => rw [if_neg hl] at h; cases h
  rw [if_pos hl] at h
  obtain rfl := Option.some.inj h
  have HR0 := Aside0.mk hr0
  have HC0 := Aside0.mk hc0
  have A1 := Aside0.mk (show pack_Gather.f l0 = some (gpool l0, grefs (gpool l0) l0) from if_pos hl)
  clear hr0 hc0 hl h
  go_enter Try.func31, Try.ntmps31
  go_wp2_with fail
  refine (pack_Gather.calls A0 c0 l0 _ _ _ HR0.out HC0.out A1.out).mono ?_
  rintro e w1 ⟨v0, v1, rfl, ho, hi, hb⟩
  obtain ⟨A5, c5, rfl⟩ := Kd.R_slice ho
  obtain ⟨A6, c6, rfl⟩ := Kd.R_slice hi
  have HB := Aside0.mk hb
  have HR1 := Aside0.mk (Kd.C_below HR0.out hb)
  clear ho hi hb
  obtain ⟨q, hq⟩ : ∃ q, q = (gpool l0).length := ⟨_, rfl⟩
  have HQ := Aside0.mk hq
  have hany : ∀ b, (l0.any fun s => decide (400 < s.size)) = b → Calls Try.prog 34 #[.slice A0 l0.length c0, .func (.func 33) #[] #[]] w1 fun e w' => e = .returned (.bool b) ∧ w1 = w' := fun b hb => hb ▸ isPool_3.calls A0 c0 l0 w1 HR1.out
  have HANY := Aside0.mk hany
  clear hany
  dsimp only
  rw [← hq]
  clear hq
  by_cases c1 : q = l0.length
  · subst c1
    by_cases c2 : l0.length ≤ 500
    · have HC2 := Aside0.mk c2
      cases c3 : (l0.any fun s => decide (400 < s.size)) with
      | true =>
        have H3 := Aside0.mk c3
        clear c3
        go_wp2_with fail
        refine (HANY.out _ H3.out).mono ?_
        rintro e w2 ⟨rfl, rfl⟩
        dsimp only
        go_wp2
        go_ret
        exact ⟨by rw [isPoolB, H3.out]; simp, HB.out⟩
      | false =>
        have H3 := Aside0.mk c3
        clear c3
        go_wp2_with fail
        refine (HANY.out _ H3.out).mono ?_
        rintro e w2 ⟨rfl, rfl⟩
        dsimp only
        go_wp2
        go_ret
        exact ⟨by rw [isPoolB, H3.out, decide_eq_true HC2.out, decide_eq_true HQ.out.symm]; rfl, HB.out⟩
    · have HC2 := Aside0.mk c2
      have hd : decide (l0.length ≤ 500) = false := decide_eq_false c2
      have hd2 : decide ((l0.length : Int) ≤ 500) = false := decide_eq_false (by omega)
      clear c2
      go_wp2
      go_ret
      exact ⟨by rw [isPoolB, decide_eq_false HC2.out]; simp, HB.out⟩
  · have HC1 := Aside0.mk c1
    have hd : (q == l0.length) = false := beq_eq_false_iff_ne.2 c1
    have hd2 : decide (q = l0.length) = false := decide_eq_false c1
    have hd3 : ((q : Int) == (l0.length : Int)) = false := beq_eq_false_iff_ne.2 (by omega)
    clear c1
    go_wp2
    go_ret
    exact ⟨by rw [isPoolB, ← HQ.out, decide_eq_false HC1.out]; rfl, HB.out⟩
end Go.Proofs.Ytmgkfklkdedpgaa.Q
