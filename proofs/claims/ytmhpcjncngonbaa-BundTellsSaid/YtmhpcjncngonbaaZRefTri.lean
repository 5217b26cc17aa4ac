/- Texts of this claim, joined; the first one's sentence stands below. -/
import Derived.Test.YtmhpcjncngonbaaZRefTwo
import Derived.Test.YtmhpcjncngonbaaZM6
/- Two rows of bytes side by side, and three; rows as memory has room. -/
namespace Go.Proofs.Ytmhpcjncngonbaa.Q
open Go.RowKit Go.Proofs.Ytmhpcjncngonbaa.Mine Go.Proofs.YtmhpcjncngonbaaW.PrintWords Go.Proofs.YtmhpcjncngonbaaW.PrintLast Go.Proofs.YtmhpcjncngonbaaW.PrintMore
set_option linter.unusedVariables false
set_option linter.unusedSimpArgs false
/-- two rows of bytes, side by side -/
def Bi (base : Nat) (w : World) (vb va : Value) (b al : List Int) : Prop := ∃ Pb Pa : Nat → Prop, (Kd.int .u8).R 5 w base Pb vb b ∧ (Kd.int .u8).R 5 w base Pa va al ∧ (∀ k, Pb k → Pa k → False) ∧ (∀ k, Pb k → k < w.heap.size) ∧ (∀ k, Pa k → k < w.heap.size)
/-- three of them -/
def Tri (base : Nat) (w : World) (vb va vq : Value) (b al q : List Int) : Prop := ∃ Pb Pa Pq : Nat → Prop, (Kd.int .u8).R 5 w base Pb vb b ∧ (Kd.int .u8).R 5 w base Pa va al ∧ (Kd.int .u8).R 5 w base Pq vq q ∧ (∀ k, Pb k → Pa k → False) ∧ (∀ k, Pb k → Pq k → False) ∧ (∀ k, Pa k → Pq k → False) ∧ (∀ k, Pb k → k < w.heap.size) ∧ (∀ k, Pa k → k < w.heap.size) ∧ (∀ k, Pq k → k < w.heap.size)
theorem Bi.start (w : World) (cells : Array Value) (xs : List Int) (hx : cells.toList = xs.map fun v => Value.int .u8 v) (hm : xs.length ≤ 140737488355328) : Bi w.heap.size (w.alloc (.cells cells 5)) (.slice (some ⟨w.heap.size, 0, none⟩) xs.length xs.length) (.slice none 0 0) xs [] :=
  ⟨fun k => k < (w.alloc (.cells cells 5)).heap.size, fun _ => False, R_lit_new (fun v => Value.int .u8 v) (fun _ => rfl) w cells 5 w.heap.size _ xs hx (Nat.le_refl _) (by simp) hm, Kd.R_nil _ _ _ _ _, fun _ _ h => h, fun _ h => h, fun _ h => h.elim⟩
theorem Bi.three {base : Nat} {w w2 : World} {vb va vq : Value} {b al q : List Int} (h : Bi base w vb va b al) (hb : base ≤ w.heap.size) (hq : (Kd.int .u8).R 5 w2 w.heap.size (fun k => w.heap.size ≤ k) vq q) (hB : Below w.heap.size w w2) : Tri base w2 vb va vq b al q := by
  obtain ⟨Pb, Pa, h1, h2, h3, h4, h5⟩ := h
  refine ⟨Pb, Pa, fun k => w.heap.size ≤ k ∧ k < w2.heap.size, Kd.R_below h1 hB, Kd.R_below h2 hB, Kd.R_lower (Kd.R_mono (Kd.R_bound hq) fun k hk => ⟨hk.1, hk.2.2.1⟩) hb, h3, ?_, ?_, ?_, ?_, fun _ h => h.2⟩
  · intro k a c; have := h4 k a; omega
  · intro k a c; have := h5 k a; omega
  · intro k a; have := h4 k a; have := hB.size; omega
  · intro k a; have := h5 k a; have := hB.size; omega
theorem Tri.four {wS w : World} {vb va vq : Value} {b al q : List Int} (h : Tri wS.heap.size w vb va vq b al q) (hB : Below wS.heap.size wS w) (n : Int) (h0 : 0 ≤ n) (h1 : n < 4294967296) (hl : b.length < 140737487000000) :
    Calls Try.prog 42 #[vb, .int .i64 n] w fun e w' => ∃ vb', e = .returned vb' ∧ Tri wS.heap.size w' vb' va vq (b ++ bytesB n 4) al q ∧ Below wS.heap.size wS w' := by
  obtain ⟨Pb, Pa, Pq, h1', h2, h3, h4, h5, h6, h7, h8, h9⟩ := h
  refine (exergueref16_four.calls Pb vb b n _ wS w hB h1' (four_f b n h0 h1 hl)).mono ?_
  rintro e w' ⟨v', rfl, g1, g2, g3⟩
  refine ⟨v', rfl, ⟨fun k => (Pb k ∨ w.heap.size ≤ k) ∧ k < w'.heap.size, Pa, Pq, Kd.R_mono (Kd.R_bound g1) (fun k hk => ⟨hk.1, hk.2.2.1⟩), Kd.R_kept h2 g3 (fun k a c => h4 k c a), Kd.R_kept h3 g3 (fun k a c => h5 k c a), ?_, ?_, h6, fun k hk => hk.2, ?_, ?_⟩, g2⟩
  · intro k a c; have := h8 k c; rcases a.1 with a | a
    · exact h4 k a c
    · omega
  · intro k a c; have := h9 k c; rcases a.1 with a | a
    · exact h5 k a c
    · omega
  · intro k a; have := h8 k a; have := g3.1; omega
  · intro k a; have := h9 k a; have := g3.1; omega
/-- what an append of the third to the second wants, and what it gives -/
theorem Tri.app {base : Nat} {w : World} {vb va vq : Value} {b al q : List Int} (h : Tri base w vb va vq b al q) : ∃ Pa : Nat → Prop, (Kd.int .u8).R 5 w base Pa va al ∧ (∀ k, w.heap.size ≤ k → Pa k) ∧ ∀ (v1 : Value) (w1 : World), (Kd.int .u8).R 5 w1 base Pa v1 (al ++ q) → w.grownBy w1 va.ownBlock → Bi base w1 vb v1 b (al ++ q) := by
  obtain ⟨Pb, Pa, Pq, h1, h2, h3, h4, h5, h6, h7, h8, h9⟩ := h
  refine ⟨fun k => Pa k ∨ w.heap.size ≤ k, Kd.R_mono h2 (fun _ hk => .inl hk), fun _ hk => .inr hk, ?_⟩
  intro v1 w1 g1 g3
  have g2 := g3.size
  refine ⟨Pb, fun k => (Pa k ∨ w.heap.size ≤ k) ∧ k < w1.heap.size, Kd.R_grown h1 g3 ?_, Kd.R_mono (Kd.R_bound g1) (fun k hk => ⟨hk.1, hk.2.2.1⟩), ?_, ?_, fun _ hk => hk.2⟩
  · intro k a e
    exact h4 k a (h2.1 k e.symm)
  · intro k a c
    have := h7 k a
    rcases c.1 with c | c
    · exact h4 k a c
    · omega
  · intro k a
    have := h7 k a
    omega
theorem Bi.slice {base : Nat} {w : World} {vb va : Value} {b al : List Int} (h : Bi base w vb va b al) : (∃ A c, vb = .slice A b.length c) ∧ (∃ A c, va = .slice A al.length c) := by
  obtain ⟨Pb, Pa, h1, h2, _⟩ := h
  exact ⟨Kd.R_slice h1, Kd.R_slice h2⟩
theorem Bi.rows {base : Nat} {w : World} {vb va : Value} {b al : List Int} (h : Bi base w vb va b al) : (Kd.int .u8).R 5 w base (fun _ => True) vb b ∧ (Kd.int .u8).R 5 w base (fun _ => True) va al := by
  obtain ⟨Pb, Pa, h1, h2, _⟩ := h
  exact ⟨Kd.R_mono h1 (fun _ _ => trivial), Kd.R_mono h2 (fun _ _ => trivial)⟩
theorem Tri.rowq {base : Nat} {w : World} {vb va vq : Value} {b al q : List Int} (h : Tri base w vb va vq b al q) : (Kd.int .u8).R 5 w base (fun _ => True) vq q := by
  obtain ⟨Pb, Pa, Pq, h1, h2, h3, _⟩ := h
  exact Kd.R_mono h3 (fun _ _ => trivial)
theorem refPool.calls (A : Option Addr) (c : Nat) (p : List ByteArray) (w : World) (h : Kd.string.C w A p.length p) (hc : p.length ≤ c) : Calls Try.prog 39 #[.slice A p.length c] w fun e w' => e = .returned (.bool (isPoolB p)) ∧ Below w.heap.size w w' := by
  refine (exergueref09_Pool.calls 1002 A c p (isPoolB p) w h hc (Pool_f p (by decide))).mono ?_
  rintro e w' ⟨rfl, ⟨m, rfl⟩⟩
  exact ⟨rfl, pw_below_drewN (Below.refl _ _) m⟩
end Go.Proofs.Ytmhpcjncngonbaa.Q
