/- Texts of this claim, joined; what the kit's print wrote stands under a line of its own, LESS the theorems that this claim does not use (left out by prune16.py). -/
import Derived.Test.YtmhpcjncngonbaaZM7
import Derived.Test.YtmhpcjncngonbaaZSmall
import Derived.Test.YtmhpcjncngonbaaZM4
import Derived.Test.YtmhpcjncngonbaaZWWords
import Derived.RowKit
import Derived.SizedLaws
import Derived.ChangeArms
import Derived.DataReads
import Derived.OpenShut
import Derived.WideShapes
/- The functions' words for the laws; rows of 65535 at most. -/
namespace Go.Proofs.Ytmhpcjncngonbaa.Q
open Go.RowKit Go.Proofs.Ytmhpcjncngonbaa.Mine Go.Proofs.YtmhpcjncngonbaaW.PrintWords Go.Proofs.YtmhpcjncngonbaaW.PrintLast Go.Proofs.YtmhpcjncngonbaaW.PrintMore
set_option linter.unusedVariables false
set_option linter.unusedSimpArgs false
theorem small_b {L : Loc} (h : smallB L = true) : LocB L := by
  unfold smallB at h
  simp only [Bool.and_eq_true, decide_eq_true_eq] at h
  exact ⟨by omega, by omega, by omega⟩
theorem One.below {L : Loc} {a : Lat} {w w1 w2 : World} (h : One L a w w1) (hb : Below w1.heap.size w1 w2) : One L a w w2 :=
  ⟨h.1.below hb, blk_below h.2.1 hb, h.2.2.trans (hb.mono h.2.2.size)⟩
theorem new_box (M : Loc) (A3 : Option Addr) (c3 : Nat) (A4 : Option Addr) (c4 : Nat) (A5 : Option Addr) (c5 : Nat) (w : World) :
    ∃ w', w' = w.alloc (.cells #[.string M.tag, .int .i32 M.s0, .int .i32 M.s1, .int .i32 M.s2, .int .i32 M.s3, .int .i32 M.s4, .int .i32 M.s5, .int .i32 M.s6, .string M.p0, .string M.p1, .string M.p2, .string M.p3, .slice A3 M.rules.length c3, .slice A4 M.curs.length c4, .slice A5 M.comps.length c5] 29) ∧ Below w.heap.size w w' ∧ w'.heap[w.heap.size]? = some (.cells (boxL M ⟨A3, c3, A4, c4, A5, c5⟩) 29 (0, 0)) :=
  ⟨_, rfl, (Below.refl w.heap.size w).alloc (Nat.le_refl _) _, blk_new w _⟩
theorem row_yes {b : List Int} (hl : b.length < 140737488355328) : exergueref01_Row.f (b.length + 1) b b = some true := by
  rw [Spec.row_f hl (Nat.lt_succ_self _), decide_eq_true rfl]
theorem enc_yes.calls {L : Loc} (hL : LocB L) (h : encE L = 0) (a : Lat) (w : World) (hc : LocC L a w) : Calls Try.prog 12 #[locV L a] w fun e w' => ∃ (A : Option Addr) (c : Nat), e = .returned (.tuple #[.slice A (encR L).length c, .int .i64 0]) ∧ (Kd.int .u8).C w' A (encR L).length (encR L) ∧ (encR L).length ≤ c ∧ Below w.heap.size w w' := by
  refine (bund_Encode.calls L a w hc hL).mono ?_
  rintro e w' ⟨v, rfl, ho, hb⟩
  obtain ⟨A, c, hv⟩ := Kd.R_slice ho
  subst hv
  rw [h]
  exact ⟨A, c, rfl, (Kd.R_reads' ho).2.2, (Kd.R_reads' ho).2.1, hb⟩
theorem enc_no.calls {L : Loc} (hL : LocB L) (h : ¬ encE L = 0) (a : Lat) (w : World) (hc : LocC L a w) : Calls Try.prog 12 #[locV L a] w fun e w' => ∃ (A : Option Addr) (c : Nat), e = .returned (.tuple #[.slice A 0 c, .int .i64 1]) ∧ Below w.heap.size w w' := by
  refine (bund_Encode.calls L a w hc hL).mono ?_
  rintro e w' ⟨v, rfl, ho, hb⟩
  obtain ⟨A, c, hv⟩ := Kd.R_slice ho
  subst hv
  rcases enc_cases L with ⟨_, h1, h2⟩ | ⟨x, _, h1, _⟩
  · rw [h1, h2]
    exact ⟨A, c, rfl, hb⟩
  · exact absurd h1 h
theorem dec_yes.calls {b : List Int} {M : Loc} (h : decR b = (M, 0)) (hok : bytesOk b) (hl : b.length < 140737488000000) (A : Option Addr) (c : Nat) (w : World) (hr : (Kd.int .u8).C w A b.length b) (hc : b.length ≤ c) : Calls Try.prog 15 #[.slice A b.length c] w fun e w' => ∃ A3 c3 A4 c4 A5 c5, e = .returned (.tuple #[locV M ⟨A3, c3, A4, c4, A5, c5⟩, .int .i64 0]) ∧ LocC M ⟨A3, c3, A4, c4, A5, c5⟩ w' ∧ Below w.heap.size w w' := by
  refine (decode.calls A c b w hr hc hok hl).mono ?_
  rintro e w' ⟨⟨A3, c3, A4, c4, A5, c5⟩, rfl, hR, _, hb⟩
  rw [h] at hR ⊢
  exact ⟨A3, c3, A4, c4, A5, c5, rfl, hR.c, hb⟩
theorem dec_no.calls {b : List Int} {z : Int} (h : (decR b).2 = z) (hz : z ≠ 0) (hok : bytesOk b) (hl : b.length < 140737488000000) (A : Option Addr) (c : Nat) (w : World) (hr : (Kd.int .u8).C w A b.length b) (hc : b.length ≤ c) : Calls Try.prog 15 #[.slice A b.length c] w fun e w' => ∃ A3 c3 A4 c4 A5 c5, e = .returned (.tuple #[locV zeroL ⟨A3, c3, A4, c4, A5, c5⟩, .int .i64 z]) ∧ LocC zeroL ⟨A3, c3, A4, c4, A5, c5⟩ w' ∧ Below w.heap.size w w' := by
  refine (decode.calls A c b w hr hc hok hl).mono ?_
  rintro e w' ⟨⟨A3, c3, A4, c4, A5, c5⟩, rfl, hR, _, hb⟩
  rw [dec_none (by rw [h]; exact hz)] at hR ⊢
  rw [h]
  exact ⟨A3, c3, A4, c4, A5, c5, rfl, hR.c, hb⟩
theorem same_yes.calls (L : Loc) (hL : LocB L) (a b : Lat) (w : World) (h : LocC L a w) (h2 : LocC L b w) : Calls Try.prog 17 #[locV L a, locV L b] w fun e w' => e = .returned (.bool true) ∧ Below w.heap.size w w' := by
  have := same.calls L L a b w h h2 hL hL
  rwa [decide_eq_true rfl] at this
theorem row_yes.calls (A : Option Addr) (c : Nat) (A' : Option Addr) (c' : Nat) (b : List Int) (w : World) (hl : b.length < 140737488355328) (h : (Kd.int .u8).C w A b.length b) (hc : b.length ≤ c) (h' : (Kd.int .u8).C w A' b.length b) (hc' : b.length ≤ c') : Calls Try.prog 14 #[.slice A b.length c, .slice A' b.length c'] w fun e w' => e = .returned (.bool true) ∧ Below w.heap.size w w' := by
  refine (exergueref01_Row.calls (b.length + 1) A c b A' c' b true w h hc h' hc' (row_yes hl)).mono ?_
  rintro e w' ⟨rfl, ⟨m, rfl⟩⟩
  exact ⟨rfl, pw_below_drewN (Below.refl _ _) m⟩
end Go.Proofs.Ytmhpcjncngonbaa.Q
/- Reading arguments: what a value that reads as data holds, kind by kind (numbers, texts, rows, records), with the bound on its size. -/
namespace Go.Proofs.Ytmhpcjncngonbaa.Open
open Go.RowKit Go.ChangeShapes Go.WideShapes Go.Proofs.YtmhpcjncngonbaaW.PrintWords
set_option linter.unusedVariables false
set_option linter.unusedSimpArgs false
section
variable {H : Type} {enc : TypeId × Value → H} {P : Program} {w : World} {base : Nat} {spare : Nat → Bool} {held : Bool}
/-- all sizes in a datum are within the reach -/
def Light (P : Program) (t : TypeId) (d : DataW H) : Prop := ∀ n ∈ d.weights P t, n ≤ 140737488351232
theorem Light.of {ts : List TypeId} {ds : List (DataW H)} {j : Nat} {t : TypeId} {d : DataW H} (hsz : (DataW.weightsEach P ts ds).all (· ≤ reachBytes) = true) (ht : ts[j]? = some t) (hd : ds[j]? = some d) : Light P t d := by
  intro n hn
  have := List.all_eq_true.1 hsz _ (DataW.weights_mem_each ht hd n hn)
  have e : reachBytes = 140737488351232 := by decide
  simpa [e] using this
/-- what reads as data of type t is told by K and Q -/
def Opens {α : Type} (enc : TypeId × Value → H) (P : Program) (w : World) (base : Nat) (spare : Nat → Bool) (held : Bool) (t : TypeId) (K : World → α → List Value → Prop) (Q : α → Prop) : Prop :=
  ∀ (fuel : Nat) (cs : List Value) (x : DataW H × List MemPlace), DataW.trod enc P w base spare held fuel t cs = some x → Light P t x.1 → ∃ a : α, K w a cs ∧ Q a
theorem opens_int {t : TypeId} {k : IntKind} (ht : P.underlying t = some (.int k)) : Opens enc P w base spare held t (Kd.int k).K (fun n => (Lit.int k n).wf = true) := by
  intro fuel cs x h _
  obtain ⟨n, rfl, _, hw⟩ := DataW.trod_int ht h
  exact ⟨n, rfl, hw⟩
theorem opens_string {t : TypeId} (ht : P.underlying t = some .string) : Opens enc P w base spare held t Kd.string.K (fun s => s.size ≤ 140737488351232) := by
  intro fuel cs x h hl
  obtain ⟨s, rfl, rfl, _⟩ := DataW.trod_string ht h
  refine ⟨s, rfl, ?_⟩
  have := hl s.data.toList.length (by simp [DataW.weights])
  rw [Array.length_toList] at this
  exact this
theorem all_weight {e : TypeId} : ∀ {ds : List (DataW H)} {d : DataW H}, d ∈ ds → ∀ n ∈ d.weights P e, n ∈ DataW.weightsAll P e ds
  | d0 :: ds, d, hd, n, hn => by
    simp only [DataW.weightsAll, List.mem_append]
    rcases List.mem_cons.1 hd with rfl | hd
    · exact .inl hn
    · exact .inr (all_weight hd n hn)
theorem choose_list {α β : Type} (R : α → β → Prop) : ∀ (l : List α), (∀ x ∈ l, ∃ y, R x y) → ∃ ys : List β, ys.length = l.length ∧ ∀ (j : Nat) (y : β), ys[j]? = some y → ∃ x, l[j]? = some x ∧ R x y
  | [], _ => ⟨[], rfl, fun j y h => by simp at h⟩
  | x :: l, h => by
    obtain ⟨y, hy⟩ := h x List.mem_cons_self
    obtain ⟨ys, hl, hys⟩ := choose_list R l (fun z hz => h z (List.mem_cons_of_mem _ hz))
    refine ⟨y :: ys, by simp [hl], ?_⟩
    intro j z hj
    cases j with
    | zero => simp at hj; subst hj; exact ⟨x, by simp, hy⟩
    | succ j =>
      simp at hj
      obtain ⟨a, ha, hr⟩ := hys j z hj
      exact ⟨a, by simpa using ha, hr⟩
/-- a row of elements -/
theorem opens_slice {α : Type} {t e : TypeId} {d : Kd α} {Q : α → Prop} (e' : Nat) (B : Nat) (ht : P.underlying t = some (.slice e)) (hc : P.cellsOf e = d.sz) (hB : P.bytesOf e = B) (he : Opens enc P w base spare held e d.K Q) :
    Opens enc P w base spare held t (Kd.slice e' d).K (fun l => l.length * B ≤ 140737488351232 ∧ ∀ x ∈ l, Q x) := by
  intro fuel cs x h hl
  rcases DataW.trod_slice ht h with ⟨rfl, rfl⟩ | ⟨a, len, cap, elems, rest, n, _, rfl, rfl, hb, hle, hcap, hlen, hel, hsp, hns⟩
  · exact ⟨[], ⟨none, 0, rfl, Nat.le_refl _, Kd.C_nil d w⟩, by simp, by simp⟩
  · have hw : ∀ m ∈ DataW.weights P t (.slice (elems.map (·.1)) (rest.map (·.1)) : DataW H), m ≤ 140737488351232 := hl
    simp only [DataW.weights, ht] at hw
    have hsize : (elems.length + rest.length) * B ≤ 140737488351232 := by
      have := hw ((elems.length + rest.length) * B) (by rw [hB]; simp)
      exact this
    have hone : ∀ i, i ∈ List.range len → ∃ v : α × List Value, v.2.length = d.sz ∧ d.K w v.1 v.2 ∧ Q v.1 ∧ ∀ j u, v.2[j]? = some u → w.cell? (a.add (i * d.sz + j)) = some u := by
      intro i hi
      have hi' : i < len := List.mem_range.1 hi
      have h1 := hel i hi'
      have h2 : i < elems.length := by omega
      rw [List.getElem?_eq_getElem h2] at h1
      obtain ⟨ccs, hcs, htr⟩ := Option.bind_eq_some_iff.1 h1
      have hlight : Light P e elems[i].1 := by
        intro m hm
        exact hw m (by
          simp only [List.mem_cons, List.mem_append]
          exact .inr (.inl (all_weight (List.mem_map_of_mem (List.getElem_mem h2)) m hm)))
      obtain ⟨v, hK, hQ⟩ := he n ccs elems[i] htr hlight
      obtain ⟨_, hcl, hcell⟩ := World.cells?_some hcs
      refine ⟨(v, ccs), by rw [hcl, hc], hK, hQ, fun j u hj => ?_⟩
      have hj' : j < P.cellsOf e := by
        rw [← hcl]
        exact (List.getElem?_eq_some_iff.1 hj).1
      have := hcell j hj'
      rw [add_add, hc] at this
      rw [this]
      exact hj
    obtain ⟨vs, hvl, hvs⟩ := choose_list _ (List.range len) hone
    rw [List.length_range] at hvl
    have hget : ∀ j v, vs[j]? = some v → v.2.length = d.sz ∧ d.K w v.1 v.2 ∧ Q v.1 ∧ ∀ i u, v.2[i]? = some u → w.cell? (a.add (j * d.sz + i)) = some u := by
      intro j v hj
      obtain ⟨i, hi, h1⟩ := hvs j v hj
      have : i = j := by
        rw [List.getElem?_range (by have := (List.getElem?_eq_some_iff.1 hj).1; omega)] at hi
        exact (Option.some.inj hi).symm
      subst this
      exact h1
    refine ⟨vs.map (·.1), ⟨some a, cap, by simp [hvl], by simp [hvl, hle], by simp, by simp only [List.length_map, hvl]; unfold maxLen at hcap; omega, fun _ => ⟨a, rfl, ?_⟩⟩, ?_, ?_⟩
    · intro j p hj
      rw [List.getElem?_map] at hj
      obtain ⟨v, hv, rfl⟩ := Option.map_eq_some_iff.1 hj
      obtain ⟨h1, h2, _, h4⟩ := hget j v hv
      exact ⟨v.2, h1, h2, h4⟩
    · rw [List.length_map, hvl, ← hlen]
      exact Nat.le_trans (Nat.mul_le_mul_right _ (Nat.le_add_right _ _)) hsize
    · intro z hz
      obtain ⟨v, hv, rfl⟩ := List.mem_map.1 hz
      obtain ⟨j, hj⟩ := List.mem_iff_getElem?.1 hv
      exact (hget j v hj).2.2.1
/-- a record: its fields, each by its own cells -/
theorem opens_field {t : TypeId} {fs : Array Field} {fuel : Nat} {cs : List Value} {x : DataW H × List MemPlace} (ht : P.underlying t = some (.struct fs)) (h : DataW.trod enc P w base spare held fuel t cs = some x) (hl : Light P t x.1) :
    cs.length = P.cellsOf t ∧ ∀ (i : Nat) (f : Field) {α : Type} {K : World → α → List Value → Prop} {Q : α → Prop}, fs[i]? = some f → Opens enc P w base spare held f.type K Q → ∃ a : α, K w a ((cs.drop f.offset).take (P.cellsOf f.type)) ∧ Q a := by
  obtain ⟨xs, n, _, rfl, hcs, hxs, hf⟩ := DataW.trod_struct ht h
  refine ⟨hcs, fun i f _ K Q hi ho => ?_⟩
  have h1 := hf i f hi
  have h2 : i < xs.length := by
    rw [hxs]
    exact (Array.getElem?_eq_some_iff.1 hi).1
  rw [List.getElem?_eq_getElem h2] at h1
  refine ho n _ _ h1 ?_
  intro m hm
  refine hl m ?_
  simp only [DataW.weights, ht]
  refine DataW.weights_mem_each (j := i) (t := f.type) (d := xs[i].1) ?_ ?_ m hm
  · rw [List.getElem?_map, Array.getElem?_toList, hi]
    rfl
  · rw [List.getElem?_map, List.getElem?_eq_getElem h2]
    rfl
/-- an array: its elements, each by its own cells -/
theorem opens_elem {t e : TypeId} {m : Nat} {fuel : Nat} {cs : List Value} {x : DataW H × List MemPlace} (ht : P.underlying t = some (.array m e)) (h : DataW.trod enc P w base spare held fuel t cs = some x) (hl : Light P t x.1) :
    cs.length = P.cellsOf t ∧ ∀ (i : Nat) {α : Type} {K : World → α → List Value → Prop} {Q : α → Prop}, i < m → Opens enc P w base spare held e K Q → ∃ a : α, K w a ((cs.drop (i * P.cellsOf e)).take (P.cellsOf e)) ∧ Q a := by
  obtain ⟨xs, n, _, rfl, hcs, hxs, hf⟩ := DataW.trod_array ht h
  refine ⟨hcs, fun i _ K Q hi ho => ?_⟩
  have h1 := hf i hi
  have h2 : i < xs.length := by omega
  rw [List.getElem?_eq_getElem h2] at h1
  refine ho n _ _ h1 ?_
  intro q hq
  refine hl q ?_
  simp only [DataW.weights, ht]
  exact all_weight (List.mem_map_of_mem (List.getElem_mem h2)) q hq
end
end Go.Proofs.Ytmhpcjncngonbaa.Open
/- A locale that comes in as data: what it holds; sizes as memory has room. -/
namespace Go.Proofs.Ytmhpcjncngonbaa.Q
open Go.RowKit Go.Proofs.Ytmhpcjncngonbaa.Mine Go.Proofs.YtmhpcjncngonbaaW.PrintWords Go.Proofs.YtmhpcjncngonbaaW.PrintLast Go.Proofs.YtmhpcjncngonbaaW.PrintMore
set_option linter.unusedVariables false
set_option linter.unusedSimpArgs false
theorem wf8 {l : List Int} (h : ∀ x ∈ l, (Lit.int .u8 x).wf = true) : bytesOk l := fun x hx => by
  have hx := h x hx
  simp [Lit.wf, IntKind.min, IntKind.max, IntKind.signed, IntKind.bits] at hx
  omega
theorem cells_eq {cs : Array Value} {L : Loc} {a : Lat} (h : (Value.agg cs).cells.toList = cellsL L a) : Value.agg cs = locV L a := by
  have h2 : cs.toList = cellsL L a := h
  have h3 : cs = (cellsL L a).toArray := by rw [← h2]
  rw [h3]
open Go.Proofs.Ytmhpcjncngonbaa.Open Go.ChangeShapes Go.WideShapes
section
variable {H : Type} {enc : TypeId × Value → H} {w : World} {base : Nat} {spare : Nat → Bool} {held : Bool}
theorem cells58 : Try.prog.cellsOf 58 = 2 := by kernel_rfl
theorem cells60 : Try.prog.cellsOf 60 = 3 := by kernel_rfl
theorem cells62 : Try.prog.cellsOf 62 = 3 := by kernel_rfl
theorem cells23 : Try.prog.cellsOf 23 = 7 := by kernel_rfl
theorem cells24 : Try.prog.cellsOf 24 = 4 := by kernel_rfl
theorem cells29 : Try.prog.cellsOf 29 = 15 := by kernel_rfl
theorem cells3 : Try.prog.cellsOf 3 = 1 := by kernel_rfl
theorem cells9 : Try.prog.cellsOf 9 = 1 := by kernel_rfl
theorem cells21 : Try.prog.cellsOf 21 = 1 := by kernel_rfl
theorem cells25 : Try.prog.cellsOf 25 = 1 := by kernel_rfl
theorem cells26 : Try.prog.cellsOf 26 = 1 := by kernel_rfl
theorem cells27 : Try.prog.cellsOf 27 = 1 := by kernel_rfl
theorem list2 {cs : List Value} (h : cs.length = 2) : ∃ a b, cs = [a, b] := by
  match cs, h with
  | [a, b], _ => exact ⟨a, b, rfl⟩
theorem list3 {cs : List Value} (h : cs.length = 3) : ∃ a b c, cs = [a, b, c] := by
  match cs, h with
  | [a, b, c], _ => exact ⟨a, b, c, rfl⟩
theorem list4 {cs : List Value} (h : cs.length = 4) : ∃ a b c d, cs = [a, b, c, d] := by
  match cs, h with
  | [a, b, c, d], _ => exact ⟨a, b, c, d, rfl⟩
theorem list7 {cs : List Value} (h : cs.length = 7) : ∃ a b c d e f g, cs = [a, b, c, d, e, f, g] := by
  match cs, h with
  | [a, b, c, d, e, f, g], _ => exact ⟨a, b, c, d, e, f, g, rfl⟩
theorem list15 {cs : List Value} (h : cs.length = 15) : ∃ a0 a1 a2 a3 a4 a5 a6 a7 a8 a9 a10 a11 a12 a13 a14, cs = [a0, a1, a2, a3, a4, a5, a6, a7, a8, a9, a10, a11, a12, a13, a14] := by
  match cs, h with
  | [a0, a1, a2, a3, a4, a5, a6, a7, a8, a9, a10, a11, a12, a13, a14], _ => exact ⟨a0, a1, a2, a3, a4, a5, a6, a7, a8, a9, a10, a11, a12, a13, a14, rfl⟩
theorem one_eq {a b : Value} (h : [a] = [b]) : a = b := (List.cons.inj h).1
theorem opens_rule : Opens enc Try.prog w base spare held 58 Kd.rule.K (fun x => x.2.size ≤ 140737488351232) := by
  intro fuel cs x h hl
  obtain ⟨hn, fld⟩ := opens_field Try.underlying58 h hl
  rw [cells58] at hn
  obtain ⟨a, b, rfl⟩ := list2 hn
  obtain ⟨n, h0, _⟩ := fld 0 _ rfl (opens_int Try.underlying3)
  have h0 : (Kd.int .i64).K w n (List.take (Try.prog.cellsOf 3) (List.drop (0) _)) := h0
  simp only [cells3] at h0
  obtain ⟨s, h1, q1⟩ := fld 1 _ rfl (opens_string Try.underlying9)
  have h1 : Kd.string.K w s (List.take (Try.prog.cellsOf 9) (List.drop (1) _)) := h1
  simp only [cells9] at h1
  exact ⟨(n, s), ⟨[a], [b], rfl, h0, h1⟩, q1⟩
theorem opens_cur : Opens enc Try.prog w base spare held 60 Kd.cur.K (fun x => x.1.size ≤ 140737488351232 ∧ x.2.1.size ≤ 140737488351232) := by
  intro fuel cs x h hl
  obtain ⟨hn, fld⟩ := opens_field Try.underlying60 h hl
  rw [cells60] at hn
  obtain ⟨a, b, c, rfl⟩ := list3 hn
  obtain ⟨s, h0, q0⟩ := fld 0 _ rfl (opens_string Try.underlying9)
  have h0 : Kd.string.K w s (List.take (Try.prog.cellsOf 9) (List.drop (0) _)) := h0
  simp only [cells9] at h0
  obtain ⟨t, h1, q1⟩ := fld 1 _ rfl (opens_string Try.underlying9)
  have h1 : Kd.string.K w t (List.take (Try.prog.cellsOf 9) (List.drop (1) _)) := h1
  simp only [cells9] at h1
  obtain ⟨n, h2, _⟩ := fld 2 _ rfl (opens_int Try.underlying3)
  have h2 : (Kd.int .i64).K w n (List.take (Try.prog.cellsOf 3) (List.drop (2) _)) := h2
  simp only [cells3] at h2
  exact ⟨(s, t, n), ⟨[a], [b, c], rfl, h0, [b], [c], rfl, h1, h2⟩, q0, q1⟩
theorem opens_comp : Opens enc Try.prog w base spare held 62 Kd.comp.K (fun x => x.2.2.size ≤ 140737488351232) := by
  intro fuel cs x h hl
  obtain ⟨hn, fld⟩ := opens_field Try.underlying62 h hl
  rw [cells62] at hn
  obtain ⟨a, b, c, rfl⟩ := list3 hn
  obtain ⟨m, h0, _⟩ := fld 0 _ rfl (opens_int Try.underlying3)
  have h0 : (Kd.int .i64).K w m (List.take (Try.prog.cellsOf 3) (List.drop (0) _)) := h0
  simp only [cells3] at h0
  obtain ⟨n, h1, _⟩ := fld 1 _ rfl (opens_int Try.underlying3)
  have h1 : (Kd.int .i64).K w n (List.take (Try.prog.cellsOf 3) (List.drop (1) _)) := h1
  simp only [cells3] at h1
  obtain ⟨s, h2, q2⟩ := fld 2 _ rfl (opens_string Try.underlying9)
  have h2 : Kd.string.K w s (List.take (Try.prog.cellsOf 9) (List.drop (2) _)) := h2
  simp only [cells9] at h2
  exact ⟨(m, n, s), ⟨[a], [b, c], rfl, h0, [b], [c], rfl, h1, h2⟩, q2⟩
theorem wf32 {n : Int} (h : (Lit.int .i32 n).wf = true) : -2147483648 ≤ n ∧ n < 2147483648 := by
  simp [Lit.wf, IntKind.min, IntKind.max, IntKind.signed, IntKind.bits] at h
  omega
theorem opens_sym : Opens enc Try.prog w base spare held 23 (fun _ (f : Nat → Int) cs => cs = [.int .i32 (f 0), .int .i32 (f 1), .int .i32 (f 2), .int .i32 (f 3), .int .i32 (f 4), .int .i32 (f 5), .int .i32 (f 6)]) (fun f => ∀ i, i < 7 → -2147483648 ≤ f i ∧ f i < 2147483648) := by
  intro fuel cs x h hl
  obtain ⟨hn, fld⟩ := opens_field Try.underlying23 h hl
  rw [cells23] at hn
  obtain ⟨a, b, c, d, e, f, g, rfl⟩ := list7 hn
  obtain ⟨n0, h0, q0⟩ := fld 0 _ rfl (opens_int Try.underlying21)
  have h0 : (Kd.int .i32).K w n0 (List.take (Try.prog.cellsOf 21) (List.drop (0) _)) := h0
  simp only [cells21] at h0
  obtain ⟨n1, h1, q1⟩ := fld 1 _ rfl (opens_int Try.underlying21)
  have h1 : (Kd.int .i32).K w n1 (List.take (Try.prog.cellsOf 21) (List.drop (1) _)) := h1
  simp only [cells21] at h1
  obtain ⟨n2, h2, q2⟩ := fld 2 _ rfl (opens_int Try.underlying21)
  have h2 : (Kd.int .i32).K w n2 (List.take (Try.prog.cellsOf 21) (List.drop (2) _)) := h2
  simp only [cells21] at h2
  obtain ⟨n3, h3, q3⟩ := fld 3 _ rfl (opens_int Try.underlying21)
  have h3 : (Kd.int .i32).K w n3 (List.take (Try.prog.cellsOf 21) (List.drop (3) _)) := h3
  simp only [cells21] at h3
  obtain ⟨n4, h4, q4⟩ := fld 4 _ rfl (opens_int Try.underlying21)
  have h4 : (Kd.int .i32).K w n4 (List.take (Try.prog.cellsOf 21) (List.drop (4) _)) := h4
  simp only [cells21] at h4
  obtain ⟨n5, h5, q5⟩ := fld 5 _ rfl (opens_int Try.underlying21)
  have h5 : (Kd.int .i32).K w n5 (List.take (Try.prog.cellsOf 21) (List.drop (5) _)) := h5
  simp only [cells21] at h5
  obtain ⟨n6, h6, q6⟩ := fld 6 _ rfl (opens_int Try.underlying21)
  have h6 : (Kd.int .i32).K w n6 (List.take (Try.prog.cellsOf 21) (List.drop (6) _)) := h6
  simp only [cells21] at h6
  obtain rfl := one_eq (show [a] = [Value.int .i32 n0] from h0)
  obtain rfl := one_eq (show [b] = [Value.int .i32 n1] from h1)
  obtain rfl := one_eq (show [c] = [Value.int .i32 n2] from h2)
  obtain rfl := one_eq (show [d] = [Value.int .i32 n3] from h3)
  obtain rfl := one_eq (show [e] = [Value.int .i32 n4] from h4)
  obtain rfl := one_eq (show [f] = [Value.int .i32 n5] from h5)
  obtain rfl := one_eq (show [g] = [Value.int .i32 n6] from h6)
  refine ⟨fun i => match i with | 0 => n0 | 1 => n1 | 2 => n2 | 3 => n3 | 4 => n4 | 5 => n5 | _ => n6, rfl, fun i hi => ?_⟩
  match i, hi with
  | 0, _ => exact wf32 q0
  | 1, _ => exact wf32 q1
  | 2, _ => exact wf32 q2
  | 3, _ => exact wf32 q3
  | 4, _ => exact wf32 q4
  | 5, _ => exact wf32 q5
  | 6, _ => exact wf32 q6
theorem opens_pats : Opens enc Try.prog w base spare held 24 (fun _ (f : Nat → ByteArray) cs => cs = [.string (f 0), .string (f 1), .string (f 2), .string (f 3)]) (fun f => ∀ i, i < 4 → (f i).size ≤ 140737488351232) := by
  intro fuel cs x h hl
  obtain ⟨hn, fld⟩ := opens_elem Try.underlying24 h hl
  rw [cells24] at hn
  obtain ⟨a, b, c, d, rfl⟩ := list4 hn
  obtain ⟨s0, h0, q0⟩ := fld 0 (by decide) (opens_string Try.underlying9)
  simp only [cells9] at h0
  obtain ⟨s1, h1, q1⟩ := fld 1 (by decide) (opens_string Try.underlying9)
  simp only [cells9] at h1
  obtain ⟨s2, h2, q2⟩ := fld 2 (by decide) (opens_string Try.underlying9)
  simp only [cells9] at h2
  obtain ⟨s3, h3, q3⟩ := fld 3 (by decide) (opens_string Try.underlying9)
  simp only [cells9] at h3
  obtain rfl := one_eq (show [a] = [Value.string s0] from h0)
  obtain rfl := one_eq (show [b] = [Value.string s1] from h1)
  obtain rfl := one_eq (show [c] = [Value.string s2] from h2)
  obtain rfl := one_eq (show [d] = [Value.string s3] from h3)
  refine ⟨fun i => match i with | 0 => s0 | 1 => s1 | 2 => s2 | _ => s3, rfl, fun i hi => ?_⟩
  match i, hi with
  | 0, _ => exact q0
  | 1, _ => exact q1
  | 2, _ => exact q2
  | 3, _ => exact q3

set_option maxRecDepth 100000 in
theorem opens_loc : Opens enc Try.prog w base spare held 29 (fun w (La : Loc × Lat) cs => cs = cellsL La.1 La.2 ∧ LocC La.1 La.2 w) (fun La => LocT La.1) := by
  intro fuel cs x h hl
  obtain ⟨hn, fld⟩ := opens_field Try.underlying29 h hl
  rw [cells29] at hn
  obtain ⟨a0, a1, a2, a3, a4, a5, a6, a7, a8, a9, a10, a11, a12, a13, a14, rfl⟩ := list15 hn
  obtain ⟨tag, h0, q0⟩ := fld 0 _ rfl (opens_string Try.underlying9)
  have h0 : Kd.string.K w tag (List.take (Try.prog.cellsOf 9) (List.drop (0) _)) := h0
  simp only [cells9] at h0
  obtain ⟨f, h1, q1⟩ := fld 1 _ rfl opens_sym
  have h1 : List.take (Try.prog.cellsOf 23) (List.drop 1 _) = _ := h1
  rw [cells23] at h1
  obtain ⟨p, h2, q2⟩ := fld 2 _ rfl opens_pats
  have h2 : List.take (Try.prog.cellsOf 24) (List.drop 8 _) = _ := h2
  rw [cells24] at h2
  obtain ⟨rules, h3, q3⟩ := fld 3 _ rfl (opens_slice 58 24 Try.underlying25 (by kernel_rfl) (by kernel_rfl) opens_rule)
  have h3 : (Kd.slice 58 Kd.rule).K w rules (List.take (Try.prog.cellsOf 25) (List.drop 12 _)) := h3
  rw [cells25] at h3
  obtain ⟨curs, h4, q4⟩ := fld 4 _ rfl (opens_slice 60 40 Try.underlying26 (by kernel_rfl) (by kernel_rfl) opens_cur)
  have h4 : (Kd.slice 60 Kd.cur).K w curs (List.take (Try.prog.cellsOf 26) (List.drop 13 _)) := h4
  rw [cells26] at h4
  obtain ⟨comps, h5, q5⟩ := fld 5 _ rfl (opens_slice 62 32 Try.underlying27 (by kernel_rfl) (by kernel_rfl) opens_comp)
  have h5 : (Kd.slice 62 Kd.comp).K w comps (List.take (Try.prog.cellsOf 27) (List.drop 14 _)) := h5
  rw [cells27] at h5
  obtain rfl := one_eq (show [a0] = [Value.string tag] from h0)
  have h1 : [a1, a2, a3, a4, a5, a6, a7] = [.int .i32 (f 0), .int .i32 (f 1), .int .i32 (f 2), .int .i32 (f 3), .int .i32 (f 4), .int .i32 (f 5), .int .i32 (f 6)] := h1
  have h2 : [a8, a9, a10, a11] = [.string (p 0), .string (p 1), .string (p 2), .string (p 3)] := h2
  simp only [List.cons.injEq, and_true] at h1 h2
  obtain ⟨rfl, rfl, rfl, rfl, rfl, rfl, rfl⟩ := h1
  obtain ⟨rfl, rfl, rfl, rfl⟩ := h2
  obtain ⟨A3, c3, e3, m3, g3⟩ := (show (Kd.slice 58 Kd.rule).K w rules [a12] from h3)
  obtain ⟨A4, c4, e4, m4, g4⟩ := (show (Kd.slice 60 Kd.cur).K w curs [a13] from h4)
  obtain ⟨A5, c5, e5, m5, g5⟩ := (show (Kd.slice 62 Kd.comp).K w comps [a14] from h5)
  obtain rfl := one_eq (show [a12] = [Value.slice A3 rules.length c3] from e3)
  obtain rfl := one_eq (show [a13] = [Value.slice A4 curs.length c4] from e4)
  obtain rfl := one_eq (show [a14] = [Value.slice A5 comps.length c5] from e5)
  refine ⟨(⟨tag, f 0, f 1, f 2, f 3, f 4, f 5, f 6, p 0, p 1, p 2, p 3, rules, curs, comps⟩, ⟨A3, c3, A4, c4, A5, c5⟩), ⟨rfl, ⟨g3, m3⟩, ⟨g4, m4⟩, ⟨g5, m5⟩, ?_⟩, ⟨q0, q2 0 (by decide), q2 1 (by decide), q2 2 (by decide), q2 3 (by decide)⟩, q3.2, q4.2, q5.2⟩
  intro x hx
  simp only [List.mem_cons, List.not_mem_nil, or_false] at hx
  rcases hx with rfl | rfl | rfl | rfl | rfl | rfl | rfl
  · exact q1 0 (by decide)
  · exact q1 1 (by decide)
  · exact q1 2 (by decide)
  · exact q1 3 (by decide)
  · exact q1 4 (by decide)
  · exact q1 5 (by decide)
  · exact q1 6 (by decide)
end
end Go.Proofs.Ytmhpcjncngonbaa.Q
