/- Texts of this claim, joined; the first one's sentence stands below. -/
import Derived.Test.YtmhpcjncngonbaaZRefSg
import Derived.Test.YtmhpcjncngonbaaZRefTakePool
import Derived.Test.YtmhpcjncngonbaaZM4
/- How memory stands while the reference reads a locale; rows of bytes. -/
namespace Go.Proofs.Ytmhpcjncngonbaa.Q
open Go.RowKit Go.Proofs.Ytmhpcjncngonbaa.Mine Go.Proofs.YtmhpcjncngonbaaW.PrintWords Go.Proofs.YtmhpcjncngonbaaW.PrintLast Go.Proofs.YtmhpcjncngonbaaW.PrintMore
set_option linter.unusedVariables false
set_option linter.unusedSimpArgs false
@[reducible] def boxZ : Array Value := boxF ⟨#[]⟩ (fun _ => 0) (fun _ => ⟨#[]⟩) (.slice none 0 0) (.slice none 0 0) (.slice none 0 0)
/-- what stands in memory while the reference reads a locale -/
structure Lr (A : Option Addr) (n c : Nat) (pool : List ByteArray) (w : World) (gs : Nat) (at_ : Int) (bad : Bool) (vp : Value) (tag : ByteArray) (f : Nat → Int) (p : Nat → ByteArray) (v3 : Value) (a3 : List (Int × ByteArray)) (v4 : Value) (a4 : List (ByteArray × ByteArray × Int)) (v5 : Value) (a5 : List (Int × Int × ByteArray)) (w' : World) : Prop where
  bl : w'.heap[w.heap.size + 1]? = some (.cells (boxF tag f p v3 v4 v5) 29 (0, 0))
  br : w'.heap[w.heap.size]? = some (.cells boxZ 29 (0, 0))
  bs : w'.heap[gs]? = some (.cells #[.slice A n c, .int .i64 at_, .bool bad] 101 (0, 0))
  hg : w.heap.size + 1 < gs
  bw : Below w.heap.size w w'
  rp : Kd.string.R 9 w' w.heap.size (fun _ => True) vp pool
  r3 : Kd.rule.R 58 w' w.heap.size (fun _ => True) v3 a3
  r4 : Kd.cur.R 60 w' w.heap.size (fun _ => True) v4 a4
  r5 : Kd.comp.R 62 w' w.heap.size (fun _ => True) v5 a5
section
variable {A : Option Addr} {n c : Nat} {pool : List ByteArray} {w : World} {gs : Nat} {at_ : Int} {bad : Bool} {vp : Value} {tag : ByteArray} {f : Nat → Int} {p : Nat → ByteArray} {v3 : Value} {a3 : List (Int × ByteArray)} {v4 : Value} {a4 : List (ByteArray × ByteArray × Int)} {v5 : Value} {a5 : List (Int × Int × ByteArray)} {w1 w2 : World}
theorem Lr.below (h : Lr A n c pool w gs at_ bad vp tag f p v3 a3 v4 a4 v5 a5 w1) (hb : Below w1.heap.size w1 w2) : Lr A n c pool w gs at_ bad vp tag f p v3 a3 v4 a4 v5 a5 w2 :=
  ⟨blk_below h.bl hb, blk_below h.br hb, blk_below h.bs hb, h.hg, h.bw.trans (hb.mono h.bw.size), Kd.R_below h.rp hb, Kd.R_below h.r3 hb, Kd.R_below h.r4 hb, Kd.R_below h.r5 hb⟩
theorem Lr.read (h : Lr A n c pool w gs at_ bad vp tag f p v3 a3 v4 a4 v5 a5 w1) {g : Nat} {q : Int} {b : Bool} (hz : w1.heap[g]? = some (.cells #[.slice A n c, .int .i64 q, .bool b] 101 (0, 0))) (hg : w.heap.size + 1 < g) : Lr A n c pool w g q b vp tag f p v3 a3 v4 a4 v5 a5 w1 := { h with bs := hz, hg := hg }
/-- a store into the locale -/
theorem Lr.setL (h : Lr A n c pool w gs at_ bad vp tag f p v3 a3 v4 a4 v5 a5 w1) (j : Nat) (u : Value) {tag' : ByteArray} {f' : Nat → Int} {p' : Nat → ByteArray} (e : (boxF tag f p v3 v4 v5).setIfInBounds j u = boxF tag' f' p' v3 v4 v5) : Lr A n c pool w gs at_ bad vp tag' f' p' v3 a3 v4 a4 v5 a5 (w1.setCell ⟨w.heap.size + 1, j, none⟩ u) :=
  ⟨blk_put h.bl j u e, blk_far h.br (p := ⟨w.heap.size + 1, j, none⟩) (by show w.heap.size ≠ w.heap.size + 1; omega) u, blk_far h.bs (p := ⟨w.heap.size + 1, j, none⟩) (by show gs ≠ w.heap.size + 1; have := h.hg; omega) u, h.hg, h.bw.setCell (p := ⟨w.heap.size + 1, j, none⟩) (Nat.le_succ _) u, Kd.R_set h.rp h.bl (by decide) j u, Kd.R_set h.r3 h.bl (by decide) j u, Kd.R_set h.r4 h.bl (by decide) j u, Kd.R_set h.r5 h.bl (by decide) j u⟩
theorem Lr.set101 (h : Lr A n c pool w gs at_ bad vp tag f p v3 a3 v4 a4 v5 a5 w1) {cs : Array Value} (hb : w1.heap[gs]? = some (.cells cs 101 (0, 0))) (j : Nat) (u : Value) {q : Int} {b : Bool} (e : (w1.setCell ⟨gs, j, none⟩ u).heap[gs]? = some (.cells #[.slice A n c, .int .i64 q, .bool b] 101 (0, 0))) : Lr A n c pool w gs q b vp tag f p v3 a3 v4 a4 v5 a5 (w1.setCell ⟨gs, j, none⟩ u) :=
  ⟨blk_far h.bl (p := ⟨gs, j, none⟩) (by show w.heap.size + 1 ≠ gs; have := h.hg; omega) u, blk_far h.br (p := ⟨gs, j, none⟩) (by show w.heap.size ≠ gs; have := h.hg; omega) u, e, h.hg, h.bw.setCell (p := ⟨gs, j, none⟩) (by show w.heap.size ≤ gs; have := h.hg; omega) u, Kd.R_set h.rp hb (by decide) j u, Kd.R_set h.r3 hb (by decide) j u, Kd.R_set h.r4 hb (by decide) j u, Kd.R_set h.r5 hb (by decide) j u⟩
/-- a reader is laid -/
theorem Lr.lay (h : Lr A n c pool w gs at_ bad vp tag f p v3 a3 v4 a4 v5 a5 w1) (q : Int) (b : Bool) : Lr A n c pool w gs q b vp tag f p v3 a3 v4 a4 v5 a5 (((w1.setCell ⟨gs, 0, none⟩ (.slice A n c)).setCell ⟨gs, 1, none⟩ (.int .i64 q)).setCell ⟨gs, 2, none⟩ (.bool b)) := by
  have h1 := h.set101 h.bs 0 (.slice A n c) (blk_put h.bs 0 _ rfl)
  have h2 := h1.set101 h1.bs 1 (.int .i64 q) (blk_put h1.bs 1 _ rfl)
  exact h2.set101 h2.bs 2 (.bool b) (blk_put h2.bs 2 _ rfl)
/-- the signs are laid -/
theorem Lr.signs (h : Lr A n c pool w gs at_ bad vp tag (fun _ => 0) p v3 a3 v4 a4 v5 a5 w1) (g : Nat → Int) : Lr A n c pool w gs at_ bad vp tag g p v3 a3 v4 a4 v5 a5 (fill (w.heap.size + 1) w1 [.int .i32 (g 0), .int .i32 (g 1), .int .i32 (g 2), .int .i32 (g 3), .int .i32 (g 4), .int .i32 (g 5), .int .i32 (g 6)] 1) := by
  have h0 := h.setL 1 (.int .i32 (g 0)) (boxF_sign tag _ p v3 v4 v5 (g 0) 0 (by decide))
  have h1 := h0.setL 2 (.int .i32 (g 1)) (boxF_sign tag _ p v3 v4 v5 (g 1) 1 (by decide))
  have h2 := h1.setL 3 (.int .i32 (g 2)) (boxF_sign tag _ p v3 v4 v5 (g 2) 2 (by decide))
  have h3 := h2.setL 4 (.int .i32 (g 3)) (boxF_sign tag _ p v3 v4 v5 (g 3) 3 (by decide))
  have h4 := h3.setL 5 (.int .i32 (g 4)) (boxF_sign tag _ p v3 v4 v5 (g 4) 4 (by decide))
  have h5 := h4.setL 6 (.int .i32 (g 5)) (boxF_sign tag _ p v3 v4 v5 (g 5) 5 (by decide))
  have h6 := h5.setL 7 (.int .i32 (g 6)) (tag' := tag) (f' := g) (p' := p) rfl
  exact h6
theorem Lr.app3 (h : Lr A n c pool w gs at_ bad vp tag f p v3 a3 v4 a4 v5 a5 w1) {u : Value} {b3 : List (Int × ByteArray)} (hR : Kd.rule.R 58 w2 w.heap.size (fun _ => True) u b3) (hb : Below w.heap.size w w2) (hg : w1.grownBy w2 v3.ownBlock) : Lr A n c pool w gs at_ bad vp tag f p u b3 v4 a4 v5 a5 (w2.setCell ⟨w.heap.size + 1, 12, none⟩ u) := by
  have hl := blk_grown h.bl hg (Kd.R_ne h.r3 h.bl (by decide))
  exact ⟨blk_put hl 12 u rfl, blk_far (blk_grown h.br hg (Kd.R_ne h.r3 h.br (by decide))) (p := ⟨w.heap.size + 1, 12, none⟩) (by show w.heap.size ≠ w.heap.size + 1; omega) u, blk_far (blk_grown h.bs hg (Kd.R_ne h.r3 h.bs (by decide))) (p := ⟨w.heap.size + 1, 12, none⟩) (by show gs ≠ w.heap.size + 1; have := h.hg; omega) u, h.hg, hb.setCell (p := ⟨w.heap.size + 1, 12, none⟩) (Nat.le_succ _) u, Kd.R_set (row_grown h.rp h.r3 (by decide) hg) hl (by decide) 12 u, Kd.R_set hR hl (by decide) 12 u, Kd.R_set (row_grown h.r4 h.r3 (by decide) hg) hl (by decide) 12 u, Kd.R_set (row_grown h.r5 h.r3 (by decide) hg) hl (by decide) 12 u⟩
theorem Lr.app4 (h : Lr A n c pool w gs at_ bad vp tag f p v3 a3 v4 a4 v5 a5 w1) {u : Value} {b4 : List (ByteArray × ByteArray × Int)} (hR : Kd.cur.R 60 w2 w.heap.size (fun _ => True) u b4) (hb : Below w.heap.size w w2) (hg : w1.grownBy w2 v4.ownBlock) : Lr A n c pool w gs at_ bad vp tag f p v3 a3 u b4 v5 a5 (w2.setCell ⟨w.heap.size + 1, 13, none⟩ u) := by
  have hl := blk_grown h.bl hg (Kd.R_ne h.r4 h.bl (by decide))
  exact ⟨blk_put hl 13 u rfl, blk_far (blk_grown h.br hg (Kd.R_ne h.r4 h.br (by decide))) (p := ⟨w.heap.size + 1, 13, none⟩) (by show w.heap.size ≠ w.heap.size + 1; omega) u, blk_far (blk_grown h.bs hg (Kd.R_ne h.r4 h.bs (by decide))) (p := ⟨w.heap.size + 1, 13, none⟩) (by show gs ≠ w.heap.size + 1; have := h.hg; omega) u, h.hg, hb.setCell (p := ⟨w.heap.size + 1, 13, none⟩) (Nat.le_succ _) u, Kd.R_set (row_grown h.rp h.r4 (by decide) hg) hl (by decide) 13 u, Kd.R_set (row_grown h.r3 h.r4 (by decide) hg) hl (by decide) 13 u, Kd.R_set hR hl (by decide) 13 u, Kd.R_set (row_grown h.r5 h.r4 (by decide) hg) hl (by decide) 13 u⟩
theorem Lr.app5 (h : Lr A n c pool w gs at_ bad vp tag f p v3 a3 v4 a4 v5 a5 w1) {u : Value} {b5 : List (Int × Int × ByteArray)} (hR : Kd.comp.R 62 w2 w.heap.size (fun _ => True) u b5) (hb : Below w.heap.size w w2) (hg : w1.grownBy w2 v5.ownBlock) : Lr A n c pool w gs at_ bad vp tag f p v3 a3 v4 a4 u b5 (w2.setCell ⟨w.heap.size + 1, 14, none⟩ u) := by
  have hl := blk_grown h.bl hg (Kd.R_ne h.r5 h.bl (by decide))
  exact ⟨blk_put hl 14 u rfl, blk_far (blk_grown h.br hg (Kd.R_ne h.r5 h.br (by decide))) (p := ⟨w.heap.size + 1, 14, none⟩) (by show w.heap.size ≠ w.heap.size + 1; omega) u, blk_far (blk_grown h.bs hg (Kd.R_ne h.r5 h.bs (by decide))) (p := ⟨w.heap.size + 1, 14, none⟩) (by show gs ≠ w.heap.size + 1; have := h.hg; omega) u, h.hg, hb.setCell (p := ⟨w.heap.size + 1, 14, none⟩) (Nat.le_succ _) u, Kd.R_set (row_grown h.rp h.r5 (by decide) hg) hl (by decide) 14 u, Kd.R_set (row_grown h.r3 h.r5 (by decide) hg) hl (by decide) 14 u, Kd.R_set (row_grown h.r4 h.r5 (by decide) hg) hl (by decide) 14 u, Kd.R_set hR hl (by decide) 14 u⟩
end
theorem rrules_bind (B : List Int) (pool : List ByteArray) (k : Nat) (acc : List (Int × ByteArray)) (K : List (Int × ByteArray) → Int → Option Loc) (q : Int) : ((rrules B pool (k + 1) q acc).bind fun u => K u.1 u.2) = (rnum B 1 q).bind fun t => (rtext B pool t.2).bind fun s => (rrules B pool k s.2 (acc ++ [(t.1, s.1)])).bind fun u => K u.1 u.2 := by
  rw [rrules, Option.bind_assoc]
  congr 1; funext t
  rw [Option.bind_assoc]
theorem rcurs_bind (B : List Int) (pool : List ByteArray) (k : Nat) (acc : List (ByteArray × ByteArray × Int)) (K : List (ByteArray × ByteArray × Int) → Int → Option Loc) (q : Int) : ((rcurs B pool (k + 1) q acc).bind fun u => K u.1 u.2) = (rtext B pool q).bind fun t => (rtext B pool t.2).bind fun s => (rnum B 1 s.2).bind fun v => (rcurs B pool k v.2 (acc ++ [(t.1, s.1, v.1)])).bind fun u => K u.1 u.2 := by
  rw [rcurs, Option.bind_assoc]
  congr 1; funext t
  rw [Option.bind_assoc]
  congr 1; funext s
  rw [Option.bind_assoc]
theorem rcomps_bind (B : List Int) (pool : List ByteArray) (k : Nat) (acc : List (Int × Int × ByteArray)) (K : List (Int × Int × ByteArray) → Int → Option Loc) (q : Int) : ((rcomps B pool (k + 1) q acc).bind fun u => K u.1 u.2) = (rnum B 1 q).bind fun t => (rnum B 1 t.2).bind fun s => (rtext B pool s.2).bind fun v => (rcomps B pool k v.2 (acc ++ [(t.1, s.1, v.1)])).bind fun u => K u.1 u.2 := by
  rw [rcomps, Option.bind_assoc]
  congr 1; funext t
  rw [Option.bind_assoc]
  congr 1; funext s
  rw [Option.bind_assoc]
theorem rpats_bind (B : List Int) (pool : List ByteArray) (k : Nat) (p : Nat → ByteArray) (K : (Nat → ByteArray) → Int → Option Loc) (q : Int) : ((rpats B pool (k + 1) q p).bind fun u => K u.1 u.2) = (rtext B pool q).bind fun t => (rpats B pool k t.2 (upd p (3 - k) t.1)).bind fun u => K u.1 u.2 := by
  rw [rpats, Option.bind_assoc]
end Go.Proofs.Ytmhpcjncngonbaa.Q
