/- The document's example comes out true; no condition. -/
import Derived.Test.YtmgkfklkdedpgaaTake
import Derived.Test.YtmgkfklkdedpgaaGather
namespace Go.Proofs.Ytmgkfklkdedpgaa.Q
open Go.RowKit Go.Proofs.Ytmgkfklkdedpgaa.Mine Go.Proofs.YtmgkfklkdedpgaaW.PrintWords Go.Proofs.YtmgkfklkdedpgaaW.PrintLast Go.Proofs.YtmgkfklkdedpgaaW.PrintMore
set_option linter.unusedVariables false
set_option linter.unusedSimpArgs false
theorem sh_put : ([] : List Int) ++ bytesB 258 (Int.toNat 2) = [1, 2] := by decide
theorem sh_take : takeN [1, 2] 0 2 = (258, 2, 0) := by decide
theorem sh_pool : gpool [⟨#[97]⟩, ⟨#[98]⟩, ⟨#[97]⟩] = [⟨#[97]⟩, ⟨#[98]⟩] := by decide +kernel
theorem sh_refs : grefs [⟨#[97]⟩, ⟨#[98]⟩] [⟨#[97]⟩, ⟨#[98]⟩, ⟨#[97]⟩] = [0, 1, 0] := by decide +kernel
theorem sh_gather : pack_Gather.f [⟨#[97]⟩, ⟨#[98]⟩, ⟨#[97]⟩] = some ([⟨#[97]⟩, ⟨#[98]⟩], [0, 1, 0]) := by
  rw [pack_Gather.f, if_pos (by decide), sh_pool, sh_refs]
set_option maxHeartbeats 4000000 in
set_option maxRecDepth 100000 in
theorem shown.calls (w : World) : Calls Try.prog 10 #[] w fun e w' => e = .returned (.bool true) ∧ Below w.heap.size w w' := by
  have HB := Aside0.mk (Below.refl w.heap.size w)
  go_enter Try.func10, Try.ntmps10
  go_wp2_with fail
  refine (put_yes.calls none 0 [] 258 2 _ (Kd.C_nil _ _) (Nat.le_refl _) (by decide) (by decide) (by decide) (by decide)).mono ?_
  rintro e w1 ⟨v1, rfl, ho, hb⟩
  rw [sh_put] at ho
  obtain ⟨A1, c1, rfl⟩ := Kd.R_slice ho
  have HB1 := Aside0.mk hb
  have HC1 := Aside0.mk (show (Kd.int .u8).C w1 A1 2 [1, 2] from (Kd.R_reads' ho).2.2)
  have HL1 := Aside0.mk (show 2 ≤ c1 from (Kd.R_reads' ho).2.1)
  clear ho hb
  dsimp only
  have HT := Aside0.mk (show Calls Try.prog 13 #[.slice A1 2 c1, .int .i64 0, .int .i64 2] w1 fun e w' => e = .returned (.tuple #[.int .u32 258, .int .i64 2, .int .i64 0]) ∧ w1 = w' from by
    have := take.calls A1 c1 [1, 2] 0 2 w1 HC1.out HL1.out (by intro x hx; simp at hx; omega) (by omega) (by omega)
    rw [sh_take] at this
    exact this)
  go_wp2_with fail
  refine HT.out.mono ?_
  rintro e w2 ⟨rfl, rfl⟩
  dsimp only
  go_wp2_with ((with_reducible refine gate_dst (N := 19) rfl ?_); refine Kd.R_lit Kd.string _ 9 ?hg (N := 19) ?hd (xs := ([⟨#[97]⟩, ⟨#[98]⟩, ⟨#[97]⟩] : List ByteArray)) (inner := [.string ⟨#[97]⟩, .string ⟨#[98]⟩, .string ⟨#[97]⟩]) (ok := fun _ => True) (okp := fun _ => True) ?hr ?hp (fun _ hk => hk) trivial (Below.refl _ _) (Nat.le_refl _) (by simp) ?_; (case hd => rfl); (case hg => rfl); (case hr => first | (go_simp; done) | (go_simp; rfl)); (case hp => exact (Reps.snoc (Reps.snoc (Reps.snoc (Reps.none _ _) (show Kd.M Kd.string _ _ _ (⟨#[97]⟩ : ByteArray) [.string ⟨#[97]⟩] from rfl) rfl) (show Kd.M Kd.string _ _ _ (⟨#[98]⟩ : ByteArray) [.string ⟨#[98]⟩] from rfl) rfl) (show Kd.M Kd.string _ _ _ (⟨#[97]⟩ : ByteArray) [.string ⟨#[97]⟩] from rfl) rfl)); intro v2 w2 ho hb hg_ hnew_; clear hg_ hnew_; obtain ⟨A2, c2, rfl⟩ := Kd.R_slice ho; have HC2 := Aside0.mk (show Kd.string.C w2 A2 3 [⟨#[97]⟩, ⟨#[98]⟩, ⟨#[97]⟩] from (Kd.R_reads' ho).2.2); have HL2 := Aside0.mk (show 3 ≤ c2 from (Kd.R_reads' ho).2.1); have HB2 := Aside0.mk (HB1.out.trans (hb.mono HB1.out.size)); have HC1b := Aside0.mk (Kd.C_below HC1.out hb); clear ho hb)
  refine (pack_Gather.calls A2 c2 [⟨#[97]⟩, ⟨#[98]⟩, ⟨#[97]⟩] _ _ _ HC2.out HL2.out sh_gather).mono ?_
  rintro e w3 ⟨v3, v4, rfl, hp, hi, hb⟩
  obtain ⟨A3, c3, rfl⟩ := Kd.R_slice hp
  obtain ⟨A4, c4, rfl⟩ := Kd.R_slice hi
  have HB3 := Aside0.mk (HB2.out.trans (hb.mono HB2.out.size))
  obtain ⟨a1, hA1, h10⟩ := Kd.at_int (Kd.C_below HC1b.out hb) 0 (by omega) (by omega)
  obtain ⟨_, hA1', h11⟩ := Kd.at_int (Kd.C_below HC1b.out hb) 1 (by omega) (by omega)
  obtain ⟨a4, hA4, h42⟩ := Kd.at_int (Kd.R_reads' hi).2.2 2 (by omega) (by decide)
  clear hp hi hb
  rw [hA1] at hA1'
  cases hA1'
  cases hA1
  cases hA4
  have h10' : w3.cell? a1 = some (.int .u8 1) := by
    have h : w3.cell? (a1.add 0) = some (.int .u8 1) := h10
    rwa [show a1.add 0 = a1 by simp [Addr.add]] at h
  have h11' : w3.cell? ⟨a1.block, a1.off + 1, none⟩ = some (.int .u8 2) := h11
  have h42' : w3.cell? ⟨a4.block, a4.off + 2, none⟩ = some (.int .i64 0) := h42
  clear h10 h11 h42
  dsimp only
  go_wp2
  go_ret
  exact ⟨rfl, HB3.out⟩
end Go.Proofs.Ytmgkfklkdedpgaa.Q
