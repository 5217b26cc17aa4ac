/- Texts of this claim, joined; the first one's sentence stands below. -/
import Derived.Test.YtmhpcjncngonbaaZM5
import Derived.Test.YtmhpcjncngonbaaZRefTake
import Derived.Test.YtmhpcjncngonbaaZM4
/- What the reference's reader comes to; rows of bytes. -/
namespace Go.Proofs.Ytmhpcjncngonbaa.Q
open Go.RowKit Go.Proofs.Ytmhpcjncngonbaa.Mine Go.Proofs.YtmhpcjncngonbaaW.PrintWords Go.Proofs.YtmhpcjncngonbaaW.PrintLast Go.Proofs.YtmhpcjncngonbaaW.PrintMore
set_option linter.unusedVariables false
set_option linter.unusedSimpArgs false
/-- a reader of the reference, as a value -/
@[reducible] def rdV (A : Option Addr) (n c : Nat) (at_ : Int) (bad : Bool) : Value := .agg #[.slice A n c, .int .i64 at_, .bool bad]
/-- what stands of a reading: it has gone wrong, or what is left of it is told by K -/
def Inv (R : Option Loc) (at_ : Int) (bad : Bool) (K : Int → Option Loc) : Prop := (bad = true ∧ R = none) ∨ (bad = false ∧ R = K at_)
theorem box101 {w : World} {g : Nat} {A : Option Addr} {n c : Nat} {at_ : Int} {bad : Bool} (h : w.heap[g]? = some (.cells #[.slice A n c, .int .i64 at_, .bool bad] 101 (0, 0))) : w.cell? ⟨g, 0, none⟩ = some (.slice A n c) ∧ w.cell? ⟨g, 1, none⟩ = some (.int .i64 at_) ∧ w.cell? ⟨g, 2, none⟩ = some (.bool bad) :=
  ⟨(blk_cell h 0).trans rfl, (blk_cell h 1).trans rfl, (blk_cell h 2).trans rfl⟩
/-- a reader is laid where there is one -/
theorem lay101 {w : World} {g : Nat} {cs : Array Value} (h : w.heap[g]? = some (.cells cs 101 (0, 0))) (h3 : cs.size = 3) (A : Option Addr) (n c : Nat) (at_ : Int) (bad : Bool) : (((w.setCell ⟨g, 0, none⟩ (.slice A n c)).setCell ⟨g, 1, none⟩ (.int .i64 at_)).setCell ⟨g, 2, none⟩ (.bool bad)).heap[g]? = some (.cells #[.slice A n c, .int .i64 at_, .bool bad] 101 (0, 0)) := by
  obtain ⟨x, y, z, rfl⟩ : ∃ x y z, cs = #[x, y, z] := by
    rcases cs with ⟨l⟩
    match l, h3 with
    | [x, y, z], _ => exact ⟨x, y, z, rfl⟩
  exact blk_put (blk_put (blk_put h 0 _ rfl) 1 _ rfl) 2 _ rfl
theorem lay_b {w W : World} (h : Below w.heap.size w W) (u0 u1 u2 : Value) : Below w.heap.size w (((W.setCell ⟨w.heap.size + 1, 0, none⟩ u0).setCell ⟨w.heap.size + 1, 1, none⟩ u1).setCell ⟨w.heap.size + 1, 2, none⟩ u2) :=
  ((h.setCell (p := ⟨w.heap.size + 1, 0, none⟩) (Nat.le_succ _) u0).setCell (p := ⟨w.heap.size + 1, 1, none⟩) (Nat.le_succ _) u1).setCell (p := ⟨w.heap.size + 1, 2, none⟩) (Nat.le_succ _) u2
theorem two_below {w : World} (o o' : Obj) : Below w.heap.size w ((w.alloc o).alloc o') := ((Below.refl w.heap.size w).alloc (Nat.le_refl _) o).alloc (by simp) o'
def R64 (n : Int) : Prop := -9223372036854775808 ≤ n ∧ n < 9223372036854775808
set_option maxHeartbeats 8000000 in
set_option maxRecDepth 100000 in
theorem rtake.calls (A : Option Addr) (c : Nat) (B : List Int) (R : Option Loc) (K : Int → Int → Option Loc) (at_ s : Int) (bad : Bool) (w : World) (hr : (Kd.int .u8).C w A B.length B) (hc : B.length ≤ c) (hb : bytesOk B) (hat : R64 at_) (hs : isSz s = true) (hI : Inv R at_ bad (fun q => (rnum B s q).bind fun t => K t.1 t.2)) :
    Calls Try.prog 62 #[rdV A B.length c at_ bad, .int .i64 s] w fun e w' => ∃ n at' bad', e = .returned (.tuple #[.int .i64 n, rdV A B.length c at' bad']) ∧ Inv R at' bad' (fun q => K n q) ∧ (0 ≤ n ∧ n < 256 ^ s.toNat) ∧ R64 at' ∧ Below w.heap.size w w' := by
  obtain ⟨w1, hw1⟩ : ∃ w1, w1 = (w.alloc (.cells #[.slice A B.length c, .int .i64 at_, .bool bad] 101)).alloc (.cells #[.slice none 0 0, .int .i64 0, .bool false] 101) := ⟨_, rfl⟩
  have hb1 : Below w.heap.size w w1 := by rw [hw1]; exact two_below _ _
  have hx1 : w1.heap[w.heap.size]? = some (.cells #[.slice A B.length c, .int .i64 at_, .bool bad] 101 (0, 0)) := by rw [hw1]; exact blk_alloc (blk_new w _) _
  have hy1 : w1.heap[w.heap.size + 1]? = some (.cells #[.slice none 0 0, .int .i64 0, .bool false] 101 (0, 0)) := by
    rw [hw1]
    have := blk_new (w.alloc (.cells #[.slice A B.length c, .int .i64 at_, .bool bad] 101)) (.cells #[.slice none 0 0, .int .i64 0, .bool false] 101)
    rwa [show (w.alloc (.cells #[.slice A B.length c, .int .i64 at_, .bool bad] 101)).heap.size = w.heap.size + 1 by simp] at this
  have HE1 := Aside0.mk hw1
  have HB1 := Aside0.mk hb1
  have HX1 := Aside0.mk hx1
  have HY1 := Aside0.mk hy1
  have HTK := Aside0.mk (refTake.calls A c B at_ s w1 (Kd.C_below hr hb1) hc hb hat.1 hat.2)
  have HAT := Aside0.mk hat
  have HI := Aside0.mk hI
  have HPW := Aside0.mk (show (0 : Int) < 256 ^ s.toNat from Int.pow_pos (by decide))
  have hbm : B.length ≤ 9223372036854775807 := hr.2.1
  have HBO := Aside0.mk hb
  have HBM := Aside0.mk hbm
  clear hr hc hb hat hI hw1 hb1 hx1 hy1
  have hwz : (takeN B at_ s).2.2 = 0 → rnum B s at_ = some ((takeN B at_ s).1, (takeN B at_ s).2.1) := fun h => by unfold rnum; rw [if_pos h]
  have hwn : (takeN B at_ s).2.2 ≠ 0 → rnum B s at_ = none := fun h => by unfold rnum; rw [if_neg h]
  have HWZ := Aside0.mk hwz
  have HWN := Aside0.mk hwn
  have HRS := Aside0.mk (show ∀ n q, rnum B s at_ = some (n, q) → (0 ≤ n ∧ n < 256 ^ s.toNat) ∧ R64 q ∧ n < 4294967296 from fun n q h => by
    have := rnum_some HBO.out h
    have h3 : (256 : Int) ^ s.toNat ≤ 4294967296 := by rcases isSz_iff.1 this.2.2.2.2.2.2.2.2 with rfl | rfl | rfl <;> decide
    have h4 := HBM.out
    have h5 : 1 ≤ s := by rcases isSz_iff.1 this.2.2.2.2.2.2.2.2 with rfl | rfl | rfl <;> decide
    refine ⟨⟨this.2.2.2.2.2.2.1, this.2.2.2.2.2.2.2.1⟩, ⟨?_, ?_⟩, ?_⟩ <;> omega)
  generalize (takeN B at_ s).1 = n at *
  generalize (takeN B at_ s).2.1 = q at *
  generalize (takeN B at_ s).2.2 = z at *
  clear hwz hwn hbm
  obtain ⟨hx0, hx1, hx2⟩ := box101 HX1.out
  obtain ⟨hy0, hy1, hy2⟩ := box101 HY1.out
  have hfz := fun i => blk_frozen HY1.out i
  by_cases hbz : bad = true ∨ z ≠ 0
  case pos =>
    have HN := Aside0.mk (show R = none by
      rcases HI.out with ⟨_, h⟩ | ⟨h, h2⟩
      · exact h
      · rcases hbz with h3 | h3
        · rw [h] at h3; cases h3
        · rw [h2]; dsimp only; rw [HWN.out h3]; rfl)
    cases bad with
    | true =>
      clear hbz
      go_enter Try.func62, Try.ntmps62
      go_wp2_with fail
      rw [← HE1.out]
      refine HTK.out.mono ?_
      rintro e w2 ⟨rfl, rfl⟩
      dsimp only
      go_wp2_with fail
      go_region_law fail
      all_goals
        go_wp2_with fail
        refine bodyPost_ret (results_tc rfl _ _ (w.heap.size + 1) 101 _ (0, 0) _ rfl (by first | exact blk_drew (lay101 HY1.out rfl A B.length c at_ true) | exact lay101 (blk_drew HY1.out) rfl A B.length c at_ true) Try.underlying101 rfl (by kernel_rfl)) rfl ?_
        exact ⟨0, at_, true, rfl, .inl ⟨rfl, HN.out⟩, ⟨Int.le_refl _, HPW.out⟩, HAT.out, by first | exact lay_b HB1.out _ _ _ | exact (lay_b (HB1.out.drew) _ _ _) | exact (lay_b HB1.out _ _ _).drew⟩
    | false =>
      have hz : z ≠ 0 := by rcases hbz with h | h; cases h; exact h
      have hb3 : (z == 0) = false := beq_eq_false_iff_ne.2 hz
      have hb4 : (z != 0) = true := bne_iff_ne.2 hz
      clear hbz hz
      go_enter Try.func62, Try.ntmps62
      go_wp2_with fail
      rw [← HE1.out]
      refine HTK.out.mono ?_
      rintro e w2 ⟨rfl, rfl⟩
      dsimp only
      go_wp2_with fail
      go_region_law fail
      all_goals
        go_wp2_with fail
        refine bodyPost_ret (results_tc rfl _ _ (w.heap.size + 1) 101 _ (0, 0) _ rfl (by first | exact blk_drew (lay101 HY1.out rfl A B.length c at_ true) | exact lay101 (blk_drew HY1.out) rfl A B.length c at_ true) Try.underlying101 rfl (by kernel_rfl)) rfl ?_
        exact ⟨0, at_, true, rfl, .inl ⟨rfl, HN.out⟩, ⟨Int.le_refl _, HPW.out⟩, HAT.out, by first | exact lay_b HB1.out _ _ _ | exact (lay_b (HB1.out.drew) _ _ _) | exact (lay_b HB1.out _ _ _).drew⟩
  case neg =>
    have hz : z = 0 := Decidable.byContradiction fun h => hbz (.inr h)
    have hbf : bad = false := by cases bad; rfl; exact absurd (.inl rfl) hbz
    subst hz hbf
    have HRN := Aside0.mk (HWZ.out rfl)
    have HN := Aside0.mk (show R = K n q by
      rcases HI.out with ⟨h, _⟩ | ⟨_, h2⟩
      · cases h
      · rw [h2]; dsimp only; rw [HRN.out]; rfl)
    have HRG := Aside0.mk (HRS.out n q HRN.out)
    have hwr : IntKind.i64.wrap n = n := by rw [IntKind.wrap_i64]; have := HRG.out; omega
    have hwr2 : wrap64 n = n := by unfold wrap64; have := HRG.out; omega
    clear hbz
    go_enter Try.func62, Try.ntmps62
    go_wp2_with fail
    rw [← HE1.out]
    refine HTK.out.mono ?_
    rintro e w2 ⟨rfl, rfl⟩
    dsimp only
    go_wp2_with fail
    go_region_law fail
    all_goals
      go_wp2_with fail
      refine bodyPost_ret (results_tc rfl _ _ (w.heap.size + 1) 101 _ (0, 0) _ rfl (by first | exact blk_drew (lay101 HY1.out rfl A B.length c q false) | exact lay101 (blk_drew HY1.out) rfl A B.length c q false) Try.underlying101 rfl (by kernel_rfl)) rfl ?_
      exact ⟨n, q, false, by first | rfl | (rw [hwr2]; rfl) | (rw [hwr]; rfl), .inr ⟨rfl, HN.out⟩, HRG.out.1, HRG.out.2.1, by first | exact lay_b HB1.out _ _ _ | exact (lay_b (HB1.out.drew) _ _ _) | exact (lay_b HB1.out _ _ _).drew⟩
theorem new_rd (A : Option Addr) (n c : Nat) (at_ : Int) (bad : Bool) (w : World) : ∃ w', w' = w.alloc (.cells #[.slice A n c, .int .i64 at_, .bool bad] 101) ∧ Below w.heap.size w w' ∧ w'.heap[w.heap.size]? = some (.cells #[.slice A n c, .int .i64 at_, .bool bad] 101 (0, 0)) :=
  ⟨_, rfl, (Below.refl w.heap.size w).alloc (Nat.le_refl _) _, blk_new w _⟩
theorem rtext_bind (B : List Int) (pool : List ByteArray) (K : ByteArray → Int → Option Loc) (q : Int) : ((rtext B pool q).bind fun t => K t.1 t.2) = (rnum B 2 q).bind fun t => if t.1 < pool.length then K (rdOf ByteArray.empty pool t.1) t.2 else none := by
  unfold rtext
  cases rnum B 2 q with
  | none => rfl
  | some t =>
    rw [Option.bind_some, Option.bind_some]
    split <;> rfl
set_option maxHeartbeats 8000000 in
set_option maxRecDepth 100000 in
theorem rtextI.calls (A : Option Addr) (c : Nat) (B : List Int) (R : Option Loc) (pool : List ByteArray) (Ap : Option Addr) (cp : Nat) (K : ByteArray → Int → Option Loc) (at_ : Int) (bad : Bool) (w : World) (hr : (Kd.int .u8).C w A B.length B) (hc : B.length ≤ c) (hb : bytesOk B) (hp : Kd.string.C w Ap pool.length pool) (hat : R64 at_) (hI : Inv R at_ bad (fun q => (rtext B pool q).bind fun t => K t.1 t.2)) :
    Calls Try.prog 60 #[rdV A B.length c at_ bad, .slice Ap pool.length cp] w fun e w' => ∃ s at' bad', e = .returned (.tuple #[.string s, rdV A B.length c at' bad']) ∧ Inv R at' bad' (fun q => K s q) ∧ R64 at' ∧ Below w.heap.size w w' := by
  obtain ⟨w1, hw1⟩ : ∃ w1, w1 = (w.alloc (.cells #[.slice A B.length c, .int .i64 at_, .bool bad] 101)).alloc (.cells #[.slice none 0 0, .int .i64 0, .bool false] 101) := ⟨_, rfl⟩
  have hb1 : Below w.heap.size w w1 := by rw [hw1]; exact two_below _ _
  have hx1 : w1.heap[w.heap.size]? = some (.cells #[.slice A B.length c, .int .i64 at_, .bool bad] 101 (0, 0)) := by rw [hw1]; exact blk_alloc (blk_new w _) _
  have hy1 : w1.heap[w.heap.size + 1]? = some (.cells #[.slice none 0 0, .int .i64 0, .bool false] 101 (0, 0)) := by
    rw [hw1]
    have := blk_new (w.alloc (.cells #[.slice A B.length c, .int .i64 at_, .bool bad] 101)) (.cells #[.slice none 0 0, .int .i64 0, .bool false] 101)
    rwa [show (w.alloc (.cells #[.slice A B.length c, .int .i64 at_, .bool bad] 101)).heap.size = w.heap.size + 1 by simp] at this
  have HE1 := Aside0.mk hw1
  have HTK := Aside0.mk (rtake.calls A c B R (fun n q => if n < pool.length then K (rdOf ByteArray.empty pool n) q else none) at_ 2 bad w1 (Kd.C_below hr hb1) hc hb hat rfl (by simpa only [rtext_bind] using hI))
  have HB1 := Aside0.mk hb1
  have HX1 := Aside0.mk hx1
  have HY1 := Aside0.mk hy1
  have HP1 := Aside0.mk (Kd.C_below hp hb1)
  have HAT := Aside0.mk hat
  have hx0 := box101 hx1
  have HPM := Aside0.mk (show pool.length ≤ 9223372036854775807 from hp.2.1)
  clear hr hc hb hp hat hI hw1 hb1 hx1 hy1
  obtain ⟨hx0, hx1, hx2⟩ := hx0
  go_enter Try.func60, Try.ntmps60
  go_wp2_with fail
  rw [← HE1.out]
  refine HTK.out.mono ?_
  rintro e w2 ⟨n, q, b2, rfl, hI2, hrg, hq, hb⟩
  obtain ⟨w3, hw3, hb3, hz3⟩ := new_rd A B.length c q b2 w2
  have HE3 := Aside0.mk hw3
  have hb13 := hb.trans (hb3.mono hb.size)
  have HB3 := Aside0.mk (HB1.out.trans (hb13.mono HB1.out.size))
  have HX3 := Aside0.mk (blk_below HX1.out hb13)
  have HY3 := Aside0.mk (blk_below HY1.out hb13)
  have HP3 := Aside0.mk (Kd.C_below HP1.out hb13)
  have HZ3 := Aside0.mk hz3
  have HI2 := Aside0.mk hI2
  have HRG := Aside0.mk hrg
  have HQ := Aside0.mk hq
  clear hI2 hrg hq hb hb13 hw3 hb3 hz3 hx0 hx1 hx2
  dsimp only
  go_upto_region 2 with fail
  rw [← HE3.out]
  obtain ⟨hx0, hx1, hx2⟩ := box101 HX3.out
  obtain ⟨hy0, hy1, hy2⟩ := box101 HY3.out
  obtain ⟨hz0, hz1, hz2⟩ := box101 HZ3.out
  have hfz := fun i => blk_frozen HY3.out i
  by_cases hbz : b2 = true ∨ ¬ n < (pool.length : Int)
  case pos =>
    have HN := Aside0.mk (show R = none by
      rcases HI2.out with ⟨_, h⟩ | ⟨h, h2⟩
      · exact h
      · rcases hbz with h3 | h3
        · rw [h] at h3; cases h3
        · rw [h2]; dsimp only; rw [if_neg h3])
    cases b2 with
    | true =>
      clear hbz
      go_wp2_with fail
      go_region_law fail
      all_goals
        go_wp2_with fail
        refine bodyPost_ret (results_tc rfl _ _ (w.heap.size + 1) 101 _ (0, 0) _ rfl (by first | exact blk_drew (lay101 HY3.out rfl A B.length c at_ true) | exact lay101 (blk_drew HY3.out) rfl A B.length c at_ true) Try.underlying101 rfl (by kernel_rfl)) rfl ?_
        exact ⟨⟨#[]⟩, at_, true, rfl, .inl ⟨rfl, HN.out⟩, HAT.out, by first | exact lay_b HB3.out _ _ _ | exact (lay_b (HB3.out.drew) _ _ _) | exact (lay_b HB3.out _ _ _).drew⟩
    | false =>
      have hz : ¬ n < (pool.length : Int) := by rcases hbz with h | h; cases h; exact h
      have hg1 : decide (n ≥ (pool.length : Int)) = true := decide_eq_true (by omega)
      have hg2 : decide ((pool.length : Int) ≤ n) = true := decide_eq_true (by omega)
      clear hbz hz
      go_wp2_with fail
      go_region_law fail
      all_goals
        go_wp2_with fail
        refine bodyPost_ret (results_tc rfl _ _ (w.heap.size + 1) 101 _ (0, 0) _ rfl (by first | exact blk_drew (lay101 HY3.out rfl A B.length c at_ true) | exact lay101 (blk_drew HY3.out) rfl A B.length c at_ true) Try.underlying101 rfl (by kernel_rfl)) rfl ?_
        exact ⟨⟨#[]⟩, at_, true, rfl, .inl ⟨rfl, HN.out⟩, HAT.out, by first | exact lay_b HB3.out _ _ _ | exact (lay_b (HB3.out.drew) _ _ _) | exact (lay_b HB3.out _ _ _).drew⟩
  case neg =>
    have hz : n < (pool.length : Int) := Decidable.byContradiction fun h => hbz (.inr h)
    have hbf : b2 = false := by cases b2; rfl; exact absurd (.inl rfl) hbz
    subst hbf
    have HN := Aside0.mk (show R = K (rdOf ByteArray.empty pool n) q by
      rcases HI2.out with ⟨h, _⟩ | ⟨_, h2⟩
      · cases h
      · rw [h2]; dsimp only; rw [if_pos hz])
    have hg1 : decide (n ≥ (pool.length : Int)) = false := decide_eq_false (by omega)
    have hg2 : decide ((pool.length : Int) ≤ n) = false := decide_eq_false (by omega)
    obtain ⟨ad, hA, hcl⟩ := Kd.at_string HP3.out n HRG.out.1 hz
    subst hA
    have hi0 : (0 ≤ n) = True := eq_true HRG.out.1
    have hi1 : (n < (pool.length : Int)) = True := eq_true hz
    have hiw : IntKind.i64.wrap n = n := by rw [IntKind.wrap_i64]; have := HRG.out.1; have := HPM.out; omega
    generalize rdOf ByteArray.empty pool n = sn at hcl HN
    clear hbz hz
    go_wp2_with fail
    go_region_law fail
    all_goals
      go_wp2_with fail
      refine bodyPost_ret (results_tc rfl _ _ (w.heap.size + 1) 101 _ (0, 0) _ rfl (by first | exact blk_drew (lay101 HY3.out rfl A B.length c q false) | exact lay101 (blk_drew HY3.out) rfl A B.length c q false) Try.underlying101 rfl (by kernel_rfl)) rfl ?_
      exact ⟨sn, q, false, rfl, .inr ⟨rfl, HN.out⟩, HQ.out, by first | exact lay_b HB3.out _ _ _ | exact (lay_b (HB3.out.drew) _ _ _) | exact (lay_b HB3.out _ _ _).drew⟩
end Go.Proofs.Ytmhpcjncngonbaa.Q
