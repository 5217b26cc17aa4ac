/- Texts of this claim, joined; the first one's sentence stands below. -/
import Derived.Test.YtmhpcjncngonbaaZRefRd
import Derived.Deep.RegionHeld3
/- What the reference's signs come to; rows of bytes. -/
namespace Go.Proofs.Ytmhpcjncngonbaa.Q
open Go.RowKit Go.Proofs.Ytmhpcjncngonbaa.Mine Go.Proofs.YtmhpcjncngonbaaW.PrintWords Go.Proofs.YtmhpcjncngonbaaW.PrintLast Go.Proofs.YtmhpcjncngonbaaW.PrintMore
set_option linter.unusedVariables false
set_option linter.unusedSimpArgs false
theorem fill_farS {r g t : Nat} (hne : g ≠ r) : ∀ (vs : List Value) (w : World) (i : Nat) (cs : Array Value), w.heap[g]? = some (.cells cs t (0, 0)) → (fill r w vs i).heap[g]? = some (.cells cs t (0, 0))
  | [], w, i, cs, h => h
  | v :: vs, w, i, cs, h => fill_farS hne vs _ (i + 1) _ (blk_far h (p := ⟨r, i, none⟩) hne v)
/-- the cells of seven runes -/
@[reducible] def arr7 (f : Nat → Int) : Array Value := #[.int .i32 (f 0), .int .i32 (f 1), .int .i32 (f 2), .int .i32 (f 3), .int .i32 (f 4), .int .i32 (f 5), .int .i32 (f 6)]
theorem arr7_set (f : Nat → Int) (x : Int) : ∀ j, j < 7 → (arr7 f).setIfInBounds j (.int .i32 x) = arr7 (upd f j x)
  | 0, _ => rfl
  | 1, _ => rfl
  | 2, _ => rfl
  | 3, _ => rfl
  | 4, _ => rfl
  | 5, _ => rfl
  | 6, _ => rfl
theorem arr7_cell {w : World} {g t : Nat} {f : Nat → Int} (h : w.heap[g]? = some (.cells (arr7 f) t (0, 0))) : ∀ j, j < 7 → w.cell? ⟨g, j, none⟩ = some (.int .i32 (f j))
  | 0, _ => (blk_cell h 0).trans rfl
  | 1, _ => (blk_cell h 1).trans rfl
  | 2, _ => (blk_cell h 2).trans rfl
  | 3, _ => (blk_cell h 3).trans rfl
  | 4, _ => (blk_cell h 4).trans rfl
  | 5, _ => (blk_cell h 5).trans rfl
  | 6, _ => (blk_cell h 6).trans rfl
theorem rsigns_bind (B : List Int) (k : Nat) (f : Nat → Int) (K : (Nat → Int) → Int → Option Loc) (q : Int) : ((rsigns B (k + 1) q f).bind fun u => K u.1 u.2) = (rnum B 4 q).bind fun t => (rsigns B k t.2 (upd f (6 - k) (wrap32 t.1))).bind fun u => K u.1 u.2 := by
  rw [rsigns, rsign]
  cases rnum B 4 q with
  | none => rfl
  | some t => rfl
/-- what stands in memory while seven runes are read -/
def Sg (A : Option Addr) (n c : Nat) (at_ : Int) (bad : Bool) (f : Nat → Int) (w w' : World) : Prop :=
  w'.heap[w.heap.size]? = some (.cells #[.slice A n c, .int .i64 at_, .bool bad] 101 (0, 0)) ∧ w'.heap[w.heap.size + 1]? = some (.cells (arr7 fun _ => 0) 23 (0, 0)) ∧ w'.heap[w.heap.size + 2]? = some (.cells #[.slice none 0 0, .int .i64 0, .bool false] 101 (0, 0)) ∧ w'.heap[w.heap.size + 3]? = some (.cells (arr7 f) 124 (0, 0)) ∧ Below w.heap.size w w'
theorem Sg.below {A : Option Addr} {n c : Nat} {at_ : Int} {bad : Bool} {f : Nat → Int} {w w1 w2 : World} (h : Sg A n c at_ bad f w w1) (hb : Below w1.heap.size w1 w2) : Sg A n c at_ bad f w w2 :=
  ⟨blk_below h.1 hb, blk_below h.2.1 hb, blk_below h.2.2.1 hb, blk_below h.2.2.2.1 hb, h.2.2.2.2.trans (hb.mono h.2.2.2.2.size)⟩
theorem Sg.start (A : Option Addr) (n c : Nat) (at_ : Int) (bad : Bool) (w : World) : ∃ w', w' = (((w.alloc (.cells #[.slice A n c, .int .i64 at_, .bool bad] 101)).alloc (.cells #[.int .i32 0, .int .i32 0, .int .i32 0, .int .i32 0, .int .i32 0, .int .i32 0, .int .i32 0] 23)).alloc (.cells #[.slice none 0 0, .int .i64 0, .bool false] 101)).alloc (.cells #[.int .i32 0, .int .i32 0, .int .i32 0, .int .i32 0, .int .i32 0, .int .i32 0, .int .i32 0] 124) ∧ Sg A n c at_ bad (fun _ => 0) w w' := by
  refine ⟨_, rfl, ?_⟩
  have h1 : Below w.heap.size w (w.alloc (.cells #[.slice A n c, .int .i64 at_, .bool bad] 101)) := (Below.refl w.heap.size w).alloc (Nat.le_refl _) _
  have e1 := blk_new w (.cells #[.slice A n c, .int .i64 at_, .bool bad] 101)
  generalize hw1 : w.alloc (.cells #[.slice A n c, .int .i64 at_, .bool bad] 101) = w1 at *
  have s1 : w1.heap.size = w.heap.size + 1 := by rw [← hw1]; simp
  have h2 := h1.alloc (by omega) (.cells #[.int .i32 0, .int .i32 0, .int .i32 0, .int .i32 0, .int .i32 0, .int .i32 0, .int .i32 0] 23)
  have e2 := blk_new w1 (.cells #[.int .i32 0, .int .i32 0, .int .i32 0, .int .i32 0, .int .i32 0, .int .i32 0, .int .i32 0] 23)
  have e1 := blk_alloc e1 (.cells #[.int .i32 0, .int .i32 0, .int .i32 0, .int .i32 0, .int .i32 0, .int .i32 0, .int .i32 0] 23)
  generalize hw2 : w1.alloc (.cells #[.int .i32 0, .int .i32 0, .int .i32 0, .int .i32 0, .int .i32 0, .int .i32 0, .int .i32 0] 23) = w2 at *
  have s2 : w2.heap.size = w.heap.size + 2 := by rw [← hw2]; simp [s1]
  have h3 := h2.alloc (by omega) (.cells #[.slice none 0 0, .int .i64 0, .bool false] 101)
  have e3 := blk_new w2 (.cells #[.slice none 0 0, .int .i64 0, .bool false] 101)
  have e1 := blk_alloc e1 (.cells #[.slice none 0 0, .int .i64 0, .bool false] 101)
  have e2 := blk_alloc e2 (.cells #[.slice none 0 0, .int .i64 0, .bool false] 101)
  generalize hw3 : w2.alloc (.cells #[.slice none 0 0, .int .i64 0, .bool false] 101) = w3 at *
  have s3 : w3.heap.size = w.heap.size + 3 := by rw [← hw3]; simp [s2]
  have h4 := h3.alloc (by omega) (.cells #[.int .i32 0, .int .i32 0, .int .i32 0, .int .i32 0, .int .i32 0, .int .i32 0, .int .i32 0] 124)
  have e4 := blk_new w3 (.cells #[.int .i32 0, .int .i32 0, .int .i32 0, .int .i32 0, .int .i32 0, .int .i32 0, .int .i32 0] 124)
  rw [s1] at e2
  rw [s2] at e3
  rw [s3] at e4
  exact ⟨blk_alloc e1 _, blk_alloc e2 _, blk_alloc e3 _, e4, h4⟩
set_option maxHeartbeats 16000000 in
set_option maxRecDepth 100000 in
theorem rsignsI.calls (A : Option Addr) (c : Nat) (B : List Int) (R : Option Loc) (K : (Nat → Int) → Int → Option Loc) (at_ : Int) (bad : Bool) (w : World) (hr : (Kd.int .u8).C w A B.length B) (hc : B.length ≤ c) (hb : bytesOk B) (hat : R64 at_) (hI : Inv R at_ bad (fun q => (rsigns B 7 q (fun _ => 0)).bind fun u => K u.1 u.2)) :
    Calls Try.prog 61 #[rdV A B.length c at_ bad] w fun e w' => ∃ (f : Nat → Int) (at' : Int) (bad' : Bool), e = .returned (.tuple #[.agg (arr7 f), rdV A B.length c at' bad']) ∧ Inv R at' bad' (fun q => K f q) ∧ (∀ i, -2147483648 ≤ f i ∧ f i < 2147483648) ∧ R64 at' ∧ Below w.heap.size w w' := by
  obtain ⟨w1, hw1, hs⟩ := Sg.start A B.length c at_ bad w
  have HE1 := Aside0.mk hw1
  have HS1 := Aside0.mk hs
  have HR := Aside0.mk hr
  have HC := Aside0.mk hc
  have HB := Aside0.mk hb
  have HAT := Aside0.mk hat
  have HI := Aside0.mk (show Inv R at_ bad (fun q => (rsigns B (7 - 0) q (fun _ => 0)).bind fun u => K u.1 u.2) from hI)
  clear hr hc hb hat hI hw1 hs
  go_enter Try.func61, Try.ntmps61
  go_wp2_with fail
  rw [← HE1.out]
  go_loopg [5] 7 (fun kq v5 w' => ∃ (j : Nat) (f : Nat → Int) (q : Int) (b : Bool), v5 = .int .i64 (j : Int) ∧ Aside0 (j ≤ 7) ∧ Aside0 (7 - j = kq) ∧ Aside0 (Sg A B.length c q b f w w') ∧ Aside0 (Inv R q b (fun q => (rsigns B (7 - j) q f).bind fun u => K u.1 u.2)) ∧ Aside0 (∀ i, -2147483648 ≤ f i ∧ f i < 2147483648) ∧ Aside0 (R64 q))
  case atStart => exact ⟨0, fun _ => 0, at_, bad, rfl, ⟨by decide⟩, ⟨rfl⟩, HS1, HI, ⟨fun _ => ⟨by show (-2147483648 : Int) ≤ 0; omega, by show (0 : Int) < 2147483648; omega⟩⟩, HAT⟩
  case round =>
    obtain ⟨j, f, q, b, rfl, HJ, HKQ, HS, HI, HF, HQ⟩ := hrel
    by_cases hlt : j < 7
    · have hlt2 : (j : Int) < 7 := by omega
      obtain ⟨k, hk⟩ : ∃ k, 7 - j = k + 1 := ⟨6 - j, by omega⟩
      have hj6 : 6 - k = j := by omega
      have HK := Aside0.mk (show 7 - (j + 1) = k by omega)
      have hi := HI.out
      rw [hk] at hi
      simp only [rsigns_bind, hj6] at hi
      have HLT := Aside0.mk hlt
      obtain ⟨hx0, hx1, hx2⟩ := box101 HS.out.1
      have HTK := Aside0.mk (rtake.calls A c B R (fun n q => (rsigns B k q (upd f j (wrap32 n))).bind fun u => K u.1 u.2) q 4 b wr (Kd.C_below HR.out HS.out.2.2.2.2) HC.out HB.out HQ.out rfl hi)
      clear hi hk hj6 hlt
      go_wp2_with fail
      refine HTK.out.mono ?_
      rintro e w2 ⟨n, q2, b2, rfl, hI2, hrg, hq2, hb2⟩
      obtain ⟨w3, hw3, hb3, hz3⟩ := new_rd A B.length c q2 b2 w2
      have HE3 := Aside0.mk hw3
      have HS3 := Aside0.mk ((HS.out.below hb2).below hb3)
      have HBW := Aside0.mk hb2.size
      have HZ3 := Aside0.mk hz3
      have HI2 := Aside0.mk hI2
      have HRG := Aside0.mk hrg
      have HQ2 := Aside0.mk hq2
      clear hI2 hrg hq2 hb2 hb3 hw3 hz3 hx0 hx1 hx2
      dsimp only
      go_upto_region 6 with fail
      rw [← HE3.out]
      have hcs := arr7_cell HS3.out.2.2.2.1 j HLT.out
      have hfs := blk_frozen HS3.out.2.2.2.1 j
      obtain ⟨hx0, hx1, hx2⟩ := box101 HS3.out.1
      have hfx := fun i => blk_frozen HS3.out.1 i
      obtain ⟨hz0, hz1, hz2⟩ := box101 HZ3.out
      go_upto_region 7 with fail
      obtain ⟨w4, hw4⟩ : ∃ w4, w4 = w3.setCell ⟨w.heap.size + 1 + 1 + 1, j, none⟩ (.int .i32 (wrap32 (n % 4294967296))) := ⟨_, rfl⟩
      rw [← hw4]
      have hmod : n % 4294967296 = n := by have h := HRG.out; have h2 : (256 : Int) ^ (4 : Int).toNat = 4294967296 := by decide
                                           rw [h2] at h; omega
      rw [hmod] at hw4
      have hg2 : w.heap.size + 3 < w2.heap.size := by
        have h1 := blk_lt HS3.out.2.2.2.1
        have h2 := blk_lt (HS.out.2.2.2.1)
        have h3 := HBW.out
        omega
      have HS4 := Aside0.mk (show Sg A B.length c q b (upd f j (wrap32 n)) w w4 by
        rw [hw4]
        refine ⟨blk_far HS3.out.1 (p := ⟨w.heap.size + 3, j, none⟩) (by show w.heap.size ≠ w.heap.size + 3; omega) _, blk_far HS3.out.2.1 (p := ⟨w.heap.size + 3, j, none⟩) (by show w.heap.size + 1 ≠ w.heap.size + 3; omega) _, blk_far HS3.out.2.2.1 (p := ⟨w.heap.size + 3, j, none⟩) (by show w.heap.size + 2 ≠ w.heap.size + 3; omega) _, blk_put HS3.out.2.2.2.1 j _ (arr7_set f (wrap32 n) j HLT.out), HS3.out.2.2.2.2.setCell (p := ⟨w.heap.size + 3, j, none⟩) (by show w.heap.size ≤ w.heap.size + 3; omega) _⟩)
      have HZ4 := Aside0.mk (show w4.heap[w2.heap.size]? = some (.cells #[.slice A B.length c, .int .i64 q2, .bool b2] 101 (0, 0)) by
        rw [hw4]
        exact blk_far HZ3.out (p := ⟨w.heap.size + 3, j, none⟩) (by show w2.heap.size ≠ w.heap.size + 3; omega) _)
      have HRF := Aside0.mk (show ∀ i, -2147483648 ≤ upd f j (wrap32 n) i ∧ upd f j (wrap32 n) i < 2147483648 from fun i => by
        unfold upd
        split
        · unfold wrap32; omega
        · exact HF.out i)
      clear hcs hfs hx0 hx1 hx2 hfx hz0 hz1 hz2 hw4 hg2 hmod
      obtain ⟨hx0, hx1, hx2⟩ := box101 HS4.out.1
      have hfx := fun i => blk_frozen HS4.out.1 i
      obtain ⟨hz0, hz1, hz2⟩ := box101 HZ4.out
      go_wp2
      go_roundg (7 - (j + 1))
      case measure => have := HLT.out; have := HKQ.out; omega
      case rel =>
        refine ⟨j + 1, upd f j (wrap32 n), q2, b2, by have h1 := HLT.out; first | rfl | (congr 1; unfold wrap64; omega), ⟨HLT.out⟩, ⟨rfl⟩, ⟨?_⟩, ⟨by rw [HK.out]; exact HI2.out⟩, HRF, HQ2⟩
        exact ⟨lay101 HS4.out.1 rfl A B.length c q2 b2, blk_far (blk_far (blk_far HS4.out.2.1 (p := ⟨w.heap.size, 0, none⟩) (Nat.succ_ne_self _) _) (p := ⟨w.heap.size, 1, none⟩) (Nat.succ_ne_self _) _) (p := ⟨w.heap.size, 2, none⟩) (Nat.succ_ne_self _) _, blk_far (blk_far (blk_far HS4.out.2.2.1 (p := ⟨w.heap.size, 0, none⟩) (by show w.heap.size + 2 ≠ w.heap.size; omega) _) (p := ⟨w.heap.size, 1, none⟩) (by show w.heap.size + 2 ≠ w.heap.size; omega) _) (p := ⟨w.heap.size, 2, none⟩) (by show w.heap.size + 2 ≠ w.heap.size; omega) _, blk_far (blk_far (blk_far HS4.out.2.2.2.1 (p := ⟨w.heap.size, 0, none⟩) (by show w.heap.size + 3 ≠ w.heap.size; omega) _) (p := ⟨w.heap.size, 1, none⟩) (by show w.heap.size + 3 ≠ w.heap.size; omega) _) (p := ⟨w.heap.size, 2, none⟩) (by show w.heap.size + 3 ≠ w.heap.size; omega) _, ((HS4.out.2.2.2.2.setCell (p := ⟨w.heap.size, 0, none⟩) (Nat.le_refl _) _).setCell (p := ⟨w.heap.size, 1, none⟩) (Nat.le_refl _) _).setCell (p := ⟨w.heap.size, 2, none⟩) (Nat.le_refl _) _⟩
    · have hj : j = 7 := by have := HJ.out; omega
      subst hj
      have HN := Aside0.mk (show Inv R q b (fun q => K f q) from HI.out)
      clear hlt HI HKQ HJ
      obtain ⟨ha0, ha1, ha2⟩ := box101 HS.out.1
      have hf0 := arr7_cell HS.out.2.2.2.1 0 (by decide)
      have hf1 := arr7_cell HS.out.2.2.2.1 1 (by decide)
      have hf2 := arr7_cell HS.out.2.2.2.1 2 (by decide)
      have hf3 := arr7_cell HS.out.2.2.2.1 3 (by decide)
      have hf4 := arr7_cell HS.out.2.2.2.1 4 (by decide)
      have hf5 := arr7_cell HS.out.2.2.2.1 5 (by decide)
      have hf6 := arr7_cell HS.out.2.2.2.1 6 (by decide)
      have hp0 := arr7_cell HS.out.2.1 0 (by decide)
      have hp1 := arr7_cell HS.out.2.1 1 (by decide)
      have hp2 := arr7_cell HS.out.2.1 2 (by decide)
      have hp3 := arr7_cell HS.out.2.1 3 (by decide)
      have hp4 := arr7_cell HS.out.2.1 4 (by decide)
      have hp5 := arr7_cell HS.out.2.1 5 (by decide)
      have hp6 := arr7_cell HS.out.2.1 6 (by decide)
      obtain ⟨hq0, hq1, hq2⟩ := box101 HS.out.2.2.1
      have hfa := fun i => blk_frozen HS.out.2.1 i
      have hfb := fun i => blk_frozen HS.out.2.2.1 i
      have hn1 : (w.heap.size = w.heap.size + 1 + 1) = False := eq_false (by omega)
      have hn2 : (w.heap.size + 1 + 1 = w.heap.size) = False := eq_false (by omega)
      have hn3 : ¬ w.heap.size = w.heap.size + 1 + 1 := by omega
      go_wp2_with fail
      go_region_held3 (fun w' => w'.cell? ⟨w.heap.size, 0, none⟩ = some (.slice A B.length c) ∧ w'.cell? ⟨w.heap.size, 1, none⟩ = some (.int .i64 q) ∧ w'.cell? ⟨w.heap.size, 2, none⟩ = some (.bool b) ∧ w'.cell? ⟨w.heap.size + 3, 0, none⟩ = some (.int .i32 (f 0)) ∧ w'.cell? ⟨w.heap.size + 3, 1, none⟩ = some (.int .i32 (f 1)) ∧ w'.cell? ⟨w.heap.size + 3, 2, none⟩ = some (.int .i32 (f 2)) ∧ w'.cell? ⟨w.heap.size + 3, 3, none⟩ = some (.int .i32 (f 3)) ∧ w'.cell? ⟨w.heap.size + 3, 4, none⟩ = some (.int .i32 (f 4)) ∧ w'.cell? ⟨w.heap.size + 3, 5, none⟩ = some (.int .i32 (f 5)) ∧ w'.cell? ⟨w.heap.size + 3, 6, none⟩ = some (.int .i32 (f 6))) (go_keep) (fail)
      all_goals
        go_wp2_with fail
        clear hn1 hn2 hn3 ha0 ha1 ha2 hf0 hf1 hf2 hf3 hf4 hf5 hf6 hp0 hp1 hp2 hp3 hp4 hp5 hp6 hq0 hq1 hq2 hfa hfb
        have k1 : (fill (w.heap.size + 1) wr [.int .i32 (f 0), .int .i32 (f 1), .int .i32 (f 2), .int .i32 (f 3), .int .i32 (f 4), .int .i32 (f 5), .int .i32 (f 6)] 0).heap[w.heap.size + 1]? = some (.cells (arr7 f) 23 (0, 0)) :=
          blk_put (blk_put (blk_put (blk_put (blk_put (blk_put (blk_put HS.out.2.1 0 (.int .i32 (f 0)) rfl) 1 (.int .i32 (f 1)) rfl) 2 (.int .i32 (f 2)) rfl) 3 (.int .i32 (f 3)) rfl) 4 (.int .i32 (f 4)) rfl) 5 (.int .i32 (f 5)) rfl) 6 (.int .i32 (f 6)) rfl
        have k2 : (fill (w.heap.size + 1) wr [.int .i32 (f 0), .int .i32 (f 1), .int .i32 (f 2), .int .i32 (f 3), .int .i32 (f 4), .int .i32 (f 5), .int .i32 (f 6)] 0).heap[w.heap.size + 2]? = some (.cells #[.slice none 0 0, .int .i64 0, .bool false] 101 (0, 0)) := fill_farS (by omega) _ _ _ _ HS.out.2.2.1
        have k3 := fill_below (g := w.heap.size) (r := w.heap.size + 1) (by omega) [.int .i32 (f 0), .int .i32 (f 1), .int .i32 (f 2), .int .i32 (f 3), .int .i32 (f 4), .int .i32 (f 5), .int .i32 (f 6)] wr 0 HS.out.2.2.2.2
        show bodyPost Try.prog Try.f61 _ Exit.ret _ ((((fill (w.heap.size + 1) wr [.int .i32 (f 0), .int .i32 (f 1), .int .i32 (f 2), .int .i32 (f 3), .int .i32 (f 4), .int .i32 (f 5), .int .i32 (f 6)] 0).setCell ⟨w.heap.size + 2, 0, none⟩ (.slice A B.length c)).setCell ⟨w.heap.size + 2, 1, none⟩ (.int .i64 q)).setCell ⟨w.heap.size + 2, 2, none⟩ (.bool b)).drew
        generalize fill (w.heap.size + 1) wr [.int .i32 (f 0), .int .i32 (f 1), .int .i32 (f 2), .int .i32 (f 3), .int .i32 (f 4), .int .i32 (f 5), .int .i32 (f 6)] 0 = W at k1 k2 k3 ⊢
        have k4 := blk_drew (lay101 k2 rfl A B.length c q b)
        have k5 := blk_drew (blk_far (blk_far (blk_far k1 (p := ⟨w.heap.size + 2, 0, none⟩) (by show w.heap.size + 1 ≠ w.heap.size + 2; omega) (.slice A B.length c)) (p := ⟨w.heap.size + 2, 1, none⟩) (by show w.heap.size + 1 ≠ w.heap.size + 2; omega) (.int .i64 q)) (p := ⟨w.heap.size + 2, 2, none⟩) (by show w.heap.size + 1 ≠ w.heap.size + 2; omega) (.bool b))
        have k6 := (((k3.setCell (p := ⟨w.heap.size + 2, 0, none⟩) (by show w.heap.size ≤ w.heap.size + 2; omega) (.slice A B.length c)).setCell (p := ⟨w.heap.size + 2, 1, none⟩) (by show w.heap.size ≤ w.heap.size + 2; omega) (.int .i64 q)).setCell (p := ⟨w.heap.size + 2, 2, none⟩) (by show w.heap.size ≤ w.heap.size + 2; omega) (.bool b)).drew
        refine bodyPost_ret (results_cc rfl _ _ (w.heap.size + 1) (w.heap.size + 2) 23 101 _ _ (0, 0) (0, 0) _ _ rfl k5 Try.underlying23 rfl (by kernel_rfl) rfl k4 Try.underlying101 rfl (by kernel_rfl)) rfl ?_
        exact ⟨f, q, b, rfl, HN.out, HF.out, HQ.out, k6⟩
end Go.Proofs.Ytmhpcjncngonbaa.Q
