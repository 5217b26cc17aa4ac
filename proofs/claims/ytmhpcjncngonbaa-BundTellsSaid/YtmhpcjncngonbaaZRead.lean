/- Texts of this claim, joined; the first one's sentence stands below. -/
import Derived.Test.YtmhpcjncngonbaaZRloc
import Derived.Defers
import Derived.Recover
import Derived.Laws.Pointers
import Derived.Tactics2
/- What bund.read comes to, with what it recovers; rows of bytes. -/
namespace Go.Proofs.Ytmhpcjncngonbaa.Q
open Go.RowKit Go.Proofs.Ytmhpcjncngonbaa.Mine Go.Proofs.YtmhpcjncngonbaaW.PrintWords Go.Proofs.YtmhpcjncngonbaaW.PrintLast Go.Proofs.YtmhpcjncngonbaaW.PrintMore
set_option linter.unusedVariables false
set_option linter.unusedSimpArgs false
/-- a locale's rows stay -/
theorem LocR.below {L : Loc} {a : Lat} {w w1 : World} {base : Nat} (h : LocR L a w base) (hb : Below w.heap.size w w1) : LocR L a w1 base := ⟨Kd.R_below h.1 hb, Kd.R_below h.2.1 hb, Kd.R_below h.2.2.1 hb, h.2.2.2⟩
theorem LocR.lower {L : Loc} {a : Lat} {w : World} {base base' : Nat} (h : LocR L a w base) (hb : base' ≤ base) : LocR L a w base' := ⟨Kd.R_lower h.1 hb, Kd.R_lower h.2.1 hb, Kd.R_lower h.2.2.1 hb, h.2.2.2⟩
theorem LocR.fill {L : Loc} {a : Lat} {w : World} {base r : Nat} (h : LocR L a w base) (vs : List Value) (i : Nat) (cs : Array Value) (hb : w.heap[r]? = some (.cells cs 29 (0, 0))) : LocR L a (fill r w vs i) base :=
  ⟨fill_row (t := 29) (by decide) vs w i cs hb h.1, fill_row (t := 29) (by decide) vs w i cs hb h.2.1, fill_row (t := 29) (by decide) vs w i cs hb h.2.2.1, h.2.2.2⟩
theorem LocR.set {L : Loc} {a : Lat} {w : World} {base r t : Nat} (h : LocR L a w base) {cs : Array Value} (hb : w.heap[r]? = some (.cells cs t (0, 0))) (h3 : ∀ q, q ∈ 58 :: Kd.rule.E → q ≠ t) (h4 : ∀ q, q ∈ 60 :: Kd.cur.E → q ≠ t) (h5 : ∀ q, q ∈ 62 :: Kd.comp.E → q ≠ t) (j : Nat) (u : Value) : LocR L a (w.setCell ⟨r, j, none⟩ u) base :=
  ⟨Kd.R_set h.1 hb h3 j u, Kd.R_set h.2.1 hb h4 j u, Kd.R_set h.2.2.1 hb h5 j u, h.2.2.2⟩
theorem fill_far {r g t : Nat} (hne : g ≠ r) : ∀ (vs : List Value) (w : World) (i : Nat) (cs : Array Value), w.heap[g]? = some (.cells cs t (0, 0)) → (fill r w vs i).heap[g]? = some (.cells cs t (0, 0))
  | [], w, i, cs, h => h
  | v :: vs, w, i, cs, h => fill_far hne vs _ (i + 1) _ (blk_far h (p := ⟨r, i, none⟩) hne v)
/-- a locale of nothing -/
def zeroL : Loc := ⟨⟨#[]⟩, 0, 0, 0, 0, 0, 0, 0, ⟨#[]⟩, ⟨#[]⟩, ⟨#[]⟩, ⟨#[]⟩, [], [], []⟩
def zeroA : Lat := ⟨none, 0, none, 0, none, 0⟩
theorem zeroL_c (w : World) : LocC zeroL zeroA w := by
  refine ⟨⟨Kd.C_nil _ _, Nat.le_refl _⟩, ⟨Kd.C_nil _ _, Nat.le_refl _⟩, ⟨Kd.C_nil _ _, Nat.le_refl _⟩, ?_⟩
  intro x hx
  simp only [zeroL, List.mem_cons, List.not_mem_nil, or_false] at hx
  omega
theorem zeroL_r (w : World) (base : Nat) : LocR zeroL zeroA w base := ⟨Kd.R_nil _ _ _ _ _, Kd.R_nil _ _ _ _ _, Kd.R_nil _ _ _ _ _, (zeroL_c w).2.2.2⟩
theorem zeroL_b : LocB zeroL := ⟨Nat.zero_le _, Nat.zero_le _, Nat.zero_le _⟩
/-- the cells of a locale of nothing -/
@[reducible] def box0 : Array Value := boxF ⟨#[]⟩ (fun _ => 0) (fun _ => ⟨#[]⟩) (.slice none 0 0) (.slice none 0 0) (.slice none 0 0)
set_option maxHeartbeats 2000000 in
set_option maxRecDepth 100000 in
theorem catch_wrong (l k : Nat) (b : Bool) (u : TypeId) (pv : Value) (older : List PanicEntry) (w : World) (hl : w.heap[l]? = some (.cells box0 29 (0, 0))) (hk : w.cell? ⟨k, 0, none⟩ = some (.bool b)) (hz : w.frozen? ⟨k, 0, none⟩ = false) (hlk : l ≠ k) :
    CallsD Try.prog 52 #[.pointer (some ⟨l, 0, none⟩), .pointer (some ⟨k, 0, none⟩)] (.panicking ({ v := .iface u pv, recovered := false } :: older)) w fun e u' w' =>
      e = .returned (.tuple #[]) ∧ u' = .panicking ({ v := .iface u pv, recovered := true } :: older) ∧ w'.heap[l]? = some (.cells box0 29 (0, 0)) ∧ w'.cell? ⟨k, 0, none⟩ = some (.bool false) ∧ ∀ base, base ≤ l → base ≤ k → ∀ w0, Below base w0 w → Below base w0 w' := by
  refine callsD_of_wpS Try.func52 rfl fun c₀ cs hu => ?_
  apply wpS_seq
  apply wpS_region
  simp [wpOpsS, go_sem, recoverD, hu, Try.ntmps52, Exit.thenS]
  refine wpS_cond (t := true) (by simp [Act.eval, Array.replicate]) ?_
  simp only [if_true]
  apply wpS_region
  obtain ⟨hx0, hx1, hx2, hx3, hx4, hx5, hx6, hx7, hx8, hx9, hx10, hx11, hx12, hx13, hx14⟩ := boxFCells hl
  have hfz := fun i => blk_frozen hl i
  simp [wpOpsS, go_sem, hk, hz, hx0, hx1, hx2, hx3, hx4, hx5, hx6, hx7, hx8, hx9, hx10, hx11, hx12, hx13, hx14, hfz, bodyPostS, results, Try.results52]
  refine ⟨blk_far (p := ⟨k, 0, none⟩) (fill_box hl ⟨#[]⟩ (fun _ => 0) (fun _ => ⟨#[]⟩) (.slice none 0 0) (.slice none 0 0) (.slice none 0 0)) hlk _, fun base h1 h2 w0 hB => ?_⟩
  exact (fill_below (g := base) (r := l) h1 [.string ⟨#[]⟩, .int .i32 0, .int .i32 0, .int .i32 0, .int .i32 0, .int .i32 0, .int .i32 0, .int .i32 0, .string ⟨#[]⟩, .string ⟨#[]⟩, .string ⟨#[]⟩, .string ⟨#[]⟩, .slice none 0 0, .slice none 0 0, .slice none 0 0] w 0 hB).setCell h2 _
set_option maxHeartbeats 2000000 in
set_option maxRecDepth 100000 in
theorem catch_none (p q : Addr) (w : World) :
    CallsD Try.prog 52 #[.pointer (some p), .pointer (some q)] .returning w fun e u' w' => e = .returned (.tuple #[]) ∧ u' = .returning ∧ w' = w := by
  refine callsD_of_wpS Try.func52 rfl fun c₀ cs hu => ?_
  apply wpS_seq
  apply wpS_region
  simp [wpOpsS, go_sem, recoverD, hu, Try.ntmps52, Exit.thenS]
  refine wpS_cond (t := false) (by simp [Act.eval, Array.replicate]) ?_
  simp only [Bool.false_eq_true, if_false]
  refine wpS_of_wp (wp_skip ?_)
  cases c₀
  simp_all [bodyPostS, results, Try.results52]
theorem results_read (tmps : Array Value) (w : World) (l k : Nat) (cs : Array Value) (b : Bool) (hp : tmps.getD 2 undef = .pointer (some ⟨l, 0, none⟩)) (hq : tmps.getD 3 undef = .pointer (some ⟨k, 0, none⟩)) (hl : w.heap[l]? = some (.cells cs 29 (0, 0))) (hs : (Try.prog.info? 29).map (·.size) = some cs.size) (hk : w.cell? ⟨k, 0, none⟩ = some (.bool b)) :
    (results Try.f36 tmps).run Try.prog w = .ok (.tuple #[.agg cs, .bool b]) w := by
  have h1 : tmps[2]?.getD undef = .pointer (some ⟨l, 0, none⟩) := by simpa using hp
  have h2 : tmps[3]?.getD undef = .pointer (some ⟨k, 0, none⟩) := by simpa using hq
  simp [results, Try.results36, h1, h2, asAddr, run_loadVar_row w l 29 29 cs (0, 0) _ hl Try.underlying29 rfl hs]
  simp [go_sem, hk]
/-- what a reading comes to: a locale, and whether there is one -/
def readPost (B : List Int) (w : World) (e : Ending) (w' : World) : Prop :=
  ∃ a, e = .returned (.tuple #[locV ((readL B).getD zeroL) a, .bool (readL B).isSome]) ∧ LocR ((readL B).getD zeroL) a w' w.heap.size ∧ LocB ((readL B).getD zeroL) ∧ Below w.heap.size w w'
set_option maxHeartbeats 8000000 in
set_option maxRecDepth 100000 in
theorem read.calls (A : Option Addr) (c : Nat) (B : List Int) (w : World) (hr : (Kd.int .u8).C w A B.length B) (hc : B.length ≤ c) (hok : bytesOk B) :
    Calls Try.prog 36 #[.slice A B.length c] w fun e w' => readPost B w e w' := by
  have hmf : ∀ (fn : Fn) (first cap : Array Value) (w : World), (Instr.makeFunc fn first cap).run Try.prog w = .ok (.func fn first cap) w := fun _ _ _ _ => rfl
  obtain ⟨w2, hw2⟩ : ∃ w2, w2 = (w.alloc (.cells box0 29)).alloc (.cells #[.bool false] 4) := ⟨_, rfl⟩
  have hs2 : w2.heap.size = w.heap.size + 2 := by rw [hw2]; simp
  have hb2 : Below w.heap.size w w2 := by rw [hw2]; exact ((Below.refl w.heap.size w).alloc (Nat.le_refl _) _).alloc (by simp) _
  obtain ⟨w3, hw3⟩ : ∃ w3, w3 = w2.alloc (.cells #[.slice A B.length c, .int .i64 0, .slice none 0 0] 92) := ⟨_, rfl⟩
  have hb3 : Below w2.heap.size w2 w3 := by rw [hw3]; exact (Below.refl _ _).alloc (Nat.le_refl _) _
  have hRd : Rd (w.heap.size + 2) B [] 0 w2 w3 := ⟨A, c, .slice none 0 0, by rw [hw3, ← hs2]; exact blk_new w2 _, Kd.C_below hr hb2, hc, Kd.R_nil _ _ _ _ _, hs2 ▸ hb3, hs2, hok, by decide, by decide⟩
  have HL : Aside0 (Calls Try.prog 53 #[.pointer (some ⟨w.heap.size + 1 + 1, 0, none⟩)] w3 fun e w' => locPost B w2 e w') := Aside0.mk (rlocale.calls (w.heap.size + 2) B w2 w3 hRd)
  have HE := Aside0.mk (show w3 = ((w.alloc (.cells box0 29)).alloc (.cells #[.bool false] 4)).alloc (.cells #[.slice A B.length c, .int .i64 0, .slice none 0 0] 92) by rw [hw3, hw2])
  have HB2 := Aside0.mk hb2
  have HS2 := Aside0.mk hs2
  have HX2 := Aside0.mk (show w2.heap[w.heap.size]? = some (.cells box0 29 (0, 0)) by rw [hw2]; exact blk_alloc (blk_new w _) _)
  have HK2 := Aside0.mk (show w2.heap[w.heap.size + 1]? = some (.cells #[.bool false] 4 (0, 0)) by
    rw [hw2]
    have := blk_new (w.alloc (.cells box0 29)) (.cells #[.bool false] 4)
    rwa [show (w.alloc (.cells box0 29)).heap.size = w.heap.size + 1 by simp] at this)
  clear hw2 hw3 hb3 hs2 hb2 hRd hr
  go_enter_defers Try.func36, Try.ntmps36
  go_wp2_with fail
  rw [← HE.out]
  refine HL.out.mono ?_
  rintro e w4 ⟨hy, hn, hb⟩
  have HB4 := Aside0.mk hb
  have HX4 := Aside0.mk (blk_below HX2.out hb)
  have HK4 := Aside0.mk (blk_below HK2.out hb)
  cases hrd : readL B with
  | none =>
    obtain rfl := hn hrd
    have HN := Aside0.mk hrd
    clear hy hn hb hrd
    dsimp only [wrongP]
    refine leaves_cons (f := 52) (args := #[.pointer (some ⟨w.heap.size, 0, none⟩), .pointer (some ⟨w.heap.size + 1, 0, none⟩)]) (by simp) (by simp [go_sem]) ?_
    refine (catch_wrong w.heap.size (w.heap.size + 1) false 116 _ [] w4 HX4.out ((blk_cell HK4.out 0).trans rfl) (blk_frozen HK4.out 0) (by omega)).mono ?_
    rintro e u' w5 ⟨rfl, rfl, h1, h2, h3⟩
    refine ⟨_, results_read _ _ w.heap.size (w.heap.size + 1) box0 false rfl rfl h1 (by kernel_rfl) h2, ?_⟩
    refine ⟨zeroA, ?_, ?_, ?_, ?_⟩
    · rw [HN.out]; rfl
    · rw [HN.out]; exact zeroL_r _ _
    · rw [HN.out]; exact zeroL_b
    · exact h3 _ (Nat.le_refl _) (Nat.le_succ _) _ (HB2.out.trans (HB4.out.mono HB2.out.size))
  | some L =>
    obtain ⟨a, rfl, hR, hLB⟩ := hy L hrd
    have HN := Aside0.mk hrd
    have HR := Aside0.mk hR
    have HLB := Aside0.mk hLB
    clear hy hn hb hrd hR hLB
    obtain ⟨A3, c3, A4, c4, A5, c5⟩ := a
    obtain ⟨hx0, hx1, hx2, hx3, hx4, hx5, hx6, hx7, hx8, hx9, hx10, hx11, hx12, hx13, hx14⟩ := boxFCells HX4.out
    have hfz := fun i => blk_frozen HX4.out i
    have hk4 : w4.cell? ⟨w.heap.size + 1, 0, none⟩ = some (.bool false) := (blk_cell HK4.out 0).trans rfl
    have hkf := blk_frozen HK4.out 0
    dsimp only
    go_wp2_with fail
    clear hx0 hx1 hx2 hx3 hx4 hx5 hx6 hx7 hx8 hx9 hx10 hx11 hx12 hx13 hx14 hfz hk4 hkf
    obtain ⟨w5, hw5⟩ : ∃ w5, w5 = fill w.heap.size w4 [.string L.tag, .int .i32 L.s0, .int .i32 L.s1, .int .i32 L.s2, .int .i32 L.s3, .int .i32 L.s4, .int .i32 L.s5, .int .i32 L.s6, .string L.p0, .string L.p1, .string L.p2, .string L.p3, .slice A3 L.rules.length c3, .slice A4 L.curs.length c4, .slice A5 L.comps.length c5] 0 := ⟨_, rfl⟩
    have hbox : w5.heap[w.heap.size]? = some (.cells #[.string L.tag, .int .i32 L.s0, .int .i32 L.s1, .int .i32 L.s2, .int .i32 L.s3, .int .i32 L.s4, .int .i32 L.s5, .int .i32 L.s6, .string L.p0, .string L.p1, .string L.p2, .string L.p3, .slice A3 L.rules.length c3, .slice A4 L.curs.length c4, .slice A5 L.comps.length c5] 29 (0, 0)) := by
      rw [hw5]
      exact fill_box HX4.out L.tag (fun i => match i with | 0 => L.s0 | 1 => L.s1 | 2 => L.s2 | 3 => L.s3 | 4 => L.s4 | 5 => L.s5 | _ => L.s6) (fun i => match i with | 0 => L.p0 | 1 => L.p1 | 2 => L.p2 | _ => L.p3) (.slice A3 L.rules.length c3) (.slice A4 L.curs.length c4) (.slice A5 L.comps.length c5)
    have hk5 : w5.heap[w.heap.size + 1]? = some (.cells #[.bool false] 4 (0, 0)) := by rw [hw5]; exact fill_far (by omega) _ _ _ _ HK4.out
    have hR5 : LocR L ⟨A3, c3, A4, c4, A5, c5⟩ w5 w2.heap.size := by rw [hw5]; exact HR.out.fill _ _ _ HX4.out
    have hB5 : Below w.heap.size w w5 := by rw [hw5]; exact fill_below (Nat.le_refl _) _ _ _ (HB2.out.trans (HB4.out.mono HB2.out.size))
    show bodyPostD Try.prog Try.f36 (fun e w' => readPost B w e w') Exit.ret _ ((fill w.heap.size w4 [.string L.tag, .int .i32 L.s0, .int .i32 L.s1, .int .i32 L.s2, .int .i32 L.s3, .int .i32 L.s4, .int .i32 L.s5, .int .i32 L.s6, .string L.p0, .string L.p1, .string L.p2, .string L.p3, .slice A3 L.rules.length c3, .slice A4 L.curs.length c4, .slice A5 L.comps.length c5] 0).setCell ⟨w.heap.size + 1, 0, none⟩ (.bool true))
    rw [← hw5]
    clear hw5
    have hbox6 := blk_far hbox (p := ⟨w.heap.size + 1, 0, none⟩) (by show w.heap.size ≠ w.heap.size + 1; omega) (.bool true)
    have hk6 := blk_put (cs' := #[.bool true]) hk5 0 (.bool true) rfl
    have hR6 := hR5.set hk5 (by decide) (by decide) (by decide) 0 (.bool true)
    have hB6 := hB5.setCell (p := ⟨w.heap.size + 1, 0, none⟩) (Nat.le_succ _) (.bool true)
    generalize w5.setCell ⟨w.heap.size + 1, 0, none⟩ (.bool true) = w6 at hbox6 hk6 hR6 hB6 ⊢
    refine leaves_cons (f := 52) (args := #[.pointer (some ⟨w.heap.size, 0, none⟩), .pointer (some ⟨w.heap.size + 1, 0, none⟩)]) (by simp) (by simp [go_sem]) ?_
    refine (catch_none ⟨w.heap.size, 0, none⟩ ⟨w.heap.size + 1, 0, none⟩ w6).mono ?_
    rintro e u' w7 ⟨rfl, rfl, rfl⟩
    refine ⟨_, results_read _ _ w.heap.size (w.heap.size + 1) _ true rfl rfl hbox6 (by kernel_rfl) ((blk_cell hk6 0).trans rfl), ?_⟩
    refine ⟨⟨A3, c3, A4, c4, A5, c5⟩, ?_, ?_, ?_, ?_⟩
    · rw [HN.out]; rfl
    · rw [HN.out]; exact hR6.lower (by have := HS2.out; omega)
    · rw [HN.out]; exact HLB.out
    · exact hB6
end Go.Proofs.Ytmhpcjncngonbaa.Q
