/- Reading arguments: what a value that reads as data holds, kind by kind (numbers, texts, rows, records), with the bound on its size. -/
import Derived.RowKit
import Derived.SizedLaws
import Derived.ChangeArms
import Derived.DataReads
import Derived.OpenShut
import Derived.WideShapes
import Derived.Test.YtmgkfklkdedpgaaWWords
namespace Go.Proofs.Ytmgkfklkdedpgaa.Open
open Go.RowKit Go.ChangeShapes Go.WideShapes Go.Proofs.YtmgkfklkdedpgaaW.PrintWords
set_option linter.unusedVariables false
set_option linter.unusedSimpArgs false
section
variable {H : Type} {enc : TypeId × Value → H} {P : Program} {w : World} {base : Nat} {spare : Nat → Bool} {held : Bool}
/-- all sizes in a datum are within the reach -/
def Light (P : Program) (t : TypeId) (d : DataW H) : Prop := ∀ n ∈ d.weights P t, n ≤ 140737488351232
theorem Light.of {ts : List TypeId} {ds : List (DataW H)} {j : Nat} {t : TypeId} {d : DataW H} (hsz : (DataW.weightsEach P ts ds).all (· ≤ reachBytes) = true) (ht : ts[j]? = some t) (hd : ds[j]? = some d) : Light P t d := by
  intro n hn
  have := List.all_eq_true.1 hsz _ (DataW.weights_mem_each ht hd n hn)
  have e : reachBytes = 140737488351232 := by decide
  simpa [e] using this
/-- what reads as data of type t is told by K and Q -/
def Opens {α : Type} (enc : TypeId × Value → H) (P : Program) (w : World) (base : Nat) (spare : Nat → Bool) (held : Bool) (t : TypeId) (K : World → α → List Value → Prop) (Q : α → Prop) : Prop :=
  ∀ (fuel : Nat) (cs : List Value) (x : DataW H × List MemPlace), DataW.trod enc P w base spare held fuel t cs = some x → Light P t x.1 → ∃ a : α, K w a cs ∧ Q a
theorem opens_int {t : TypeId} {k : IntKind} (ht : P.underlying t = some (.int k)) : Opens enc P w base spare held t (Kd.int k).K (fun n => (Lit.int k n).wf = true) := by
  intro fuel cs x h _
  obtain ⟨n, rfl, _, hw⟩ := DataW.trod_int ht h
  exact ⟨n, rfl, hw⟩
theorem opens_string {t : TypeId} (ht : P.underlying t = some .string) : Opens enc P w base spare held t Kd.string.K (fun s => s.size ≤ 140737488351232) := by
  intro fuel cs x h hl
  obtain ⟨s, rfl, rfl, _⟩ := DataW.trod_string ht h
  refine ⟨s, rfl, ?_⟩
  have := hl s.data.toList.length (by simp [DataW.weights])
  rw [Array.length_toList] at this
  exact this
theorem all_weight {e : TypeId} : ∀ {ds : List (DataW H)} {d : DataW H}, d ∈ ds → ∀ n ∈ d.weights P e, n ∈ DataW.weightsAll P e ds
  | d0 :: ds, d, hd, n, hn => by
    simp only [DataW.weightsAll, List.mem_append]
    rcases List.mem_cons.1 hd with rfl | hd
    · exact .inl hn
    · exact .inr (all_weight hd n hn)
theorem choose_list {α β : Type} (R : α → β → Prop) : ∀ (l : List α), (∀ x ∈ l, ∃ y, R x y) → ∃ ys : List β, ys.length = l.length ∧ ∀ (j : Nat) (y : β), ys[j]? = some y → ∃ x, l[j]? = some x ∧ R x y
  | [], _ => ⟨[], rfl, fun j y h => by simp at h⟩
  | x :: l, h => by
    obtain ⟨y, hy⟩ := h x List.mem_cons_self
    obtain ⟨ys, hl, hys⟩ := choose_list R l (fun z hz => h z (List.mem_cons_of_mem _ hz))
    refine ⟨y :: ys, by simp [hl], ?_⟩
    intro j z hj
    cases j with
    | zero => simp at hj; subst hj; exact ⟨x, by simp, hy⟩
    | succ j =>
      simp at hj
      obtain ⟨a, ha, hr⟩ := hys j z hj
      exact ⟨a, by simpa using ha, hr⟩
/-- a row of elements -/
theorem opens_slice {α : Type} {t e : TypeId} {d : Kd α} {Q : α → Prop} (e' : Nat) (B : Nat) (ht : P.underlying t = some (.slice e)) (hc : P.cellsOf e = d.sz) (hB : P.bytesOf e = B) (he : Opens enc P w base spare held e d.K Q) :
    Opens enc P w base spare held t (Kd.slice e' d).K (fun l => l.length * B ≤ 140737488351232 ∧ ∀ x ∈ l, Q x) := by
  intro fuel cs x h hl
  rcases DataW.trod_slice ht h with ⟨rfl, rfl⟩ | ⟨a, len, cap, elems, rest, n, _, rfl, rfl, hb, hle, hcap, hlen, hel, hsp, hns⟩
  · exact ⟨[], ⟨none, 0, rfl, Nat.le_refl _, Kd.C_nil d w⟩, by simp, by simp⟩
  · have hw : ∀ m ∈ DataW.weights P t (.slice (elems.map (·.1)) (rest.map (·.1)) : DataW H), m ≤ 140737488351232 := hl
    simp only [DataW.weights, ht] at hw
    have hsize : (elems.length + rest.length) * B ≤ 140737488351232 := by
      have := hw ((elems.length + rest.length) * B) (by rw [hB]; simp)
      exact this
    have hone : ∀ i, i ∈ List.range len → ∃ v : α × List Value, v.2.length = d.sz ∧ d.K w v.1 v.2 ∧ Q v.1 ∧ ∀ j u, v.2[j]? = some u → w.cell? (a.add (i * d.sz + j)) = some u := by
      intro i hi
      have hi' : i < len := List.mem_range.1 hi
      have h1 := hel i hi'
      have h2 : i < elems.length := by omega
      rw [List.getElem?_eq_getElem h2] at h1
      obtain ⟨ccs, hcs, htr⟩ := Option.bind_eq_some_iff.1 h1
      have hlight : Light P e elems[i].1 := by
        intro m hm
        exact hw m (by
          simp only [List.mem_cons, List.mem_append]
          exact .inr (.inl (all_weight (List.mem_map_of_mem (List.getElem_mem h2)) m hm)))
      obtain ⟨v, hK, hQ⟩ := he n ccs elems[i] htr hlight
      obtain ⟨_, hcl, hcell⟩ := World.cells?_some hcs
      refine ⟨(v, ccs), by rw [hcl, hc], hK, hQ, fun j u hj => ?_⟩
      have hj' : j < P.cellsOf e := by
        rw [← hcl]
        exact (List.getElem?_eq_some_iff.1 hj).1
      have := hcell j hj'
      rw [add_add, hc] at this
      rw [this]
      exact hj
    obtain ⟨vs, hvl, hvs⟩ := choose_list _ (List.range len) hone
    rw [List.length_range] at hvl
    have hget : ∀ j v, vs[j]? = some v → v.2.length = d.sz ∧ d.K w v.1 v.2 ∧ Q v.1 ∧ ∀ i u, v.2[i]? = some u → w.cell? (a.add (j * d.sz + i)) = some u := by
      intro j v hj
      obtain ⟨i, hi, h1⟩ := hvs j v hj
      have : i = j := by
        rw [List.getElem?_range (by have := (List.getElem?_eq_some_iff.1 hj).1; omega)] at hi
        exact (Option.some.inj hi).symm
      subst this
      exact h1
    refine ⟨vs.map (·.1), ⟨some a, cap, by simp [hvl], by simp [hvl, hle], by simp, by simp only [List.length_map, hvl]; unfold maxLen at hcap; omega, fun _ => ⟨a, rfl, ?_⟩⟩, ?_, ?_⟩
    · intro j p hj
      rw [List.getElem?_map] at hj
      obtain ⟨v, hv, rfl⟩ := Option.map_eq_some_iff.1 hj
      obtain ⟨h1, h2, _, h4⟩ := hget j v hv
      exact ⟨v.2, h1, h2, h4⟩
    · rw [List.length_map, hvl, ← hlen]
      exact Nat.le_trans (Nat.mul_le_mul_right _ (Nat.le_add_right _ _)) hsize
    · intro z hz
      obtain ⟨v, hv, rfl⟩ := List.mem_map.1 hz
      obtain ⟨j, hj⟩ := List.mem_iff_getElem?.1 hv
      exact (hget j v hj).2.2.1
/-- a record: its fields, each by its own cells -/
theorem opens_field {t : TypeId} {fs : Array Field} {fuel : Nat} {cs : List Value} {x : DataW H × List MemPlace} (ht : P.underlying t = some (.struct fs)) (h : DataW.trod enc P w base spare held fuel t cs = some x) (hl : Light P t x.1) :
    cs.length = P.cellsOf t ∧ ∀ (i : Nat) (f : Field) {α : Type} {K : World → α → List Value → Prop} {Q : α → Prop}, fs[i]? = some f → Opens enc P w base spare held f.type K Q → ∃ a : α, K w a ((cs.drop f.offset).take (P.cellsOf f.type)) ∧ Q a := by
  obtain ⟨xs, n, _, rfl, hcs, hxs, hf⟩ := DataW.trod_struct ht h
  refine ⟨hcs, fun i f _ K Q hi ho => ?_⟩
  have h1 := hf i f hi
  have h2 : i < xs.length := by
    rw [hxs]
    exact (Array.getElem?_eq_some_iff.1 hi).1
  rw [List.getElem?_eq_getElem h2] at h1
  refine ho n _ _ h1 ?_
  intro m hm
  refine hl m ?_
  simp only [DataW.weights, ht]
  refine DataW.weights_mem_each (j := i) (t := f.type) (d := xs[i].1) ?_ ?_ m hm
  · rw [List.getElem?_map, Array.getElem?_toList, hi]
    rfl
  · rw [List.getElem?_map, List.getElem?_eq_getElem h2]
    rfl
/-- an array: its elements, each by its own cells -/
theorem opens_elem {t e : TypeId} {m : Nat} {fuel : Nat} {cs : List Value} {x : DataW H × List MemPlace} (ht : P.underlying t = some (.array m e)) (h : DataW.trod enc P w base spare held fuel t cs = some x) (hl : Light P t x.1) :
    cs.length = P.cellsOf t ∧ ∀ (i : Nat) {α : Type} {K : World → α → List Value → Prop} {Q : α → Prop}, i < m → Opens enc P w base spare held e K Q → ∃ a : α, K w a ((cs.drop (i * P.cellsOf e)).take (P.cellsOf e)) ∧ Q a := by
  obtain ⟨xs, n, _, rfl, hcs, hxs, hf⟩ := DataW.trod_array ht h
  refine ⟨hcs, fun i _ K Q hi ho => ?_⟩
  have h1 := hf i hi
  have h2 : i < xs.length := by omega
  rw [List.getElem?_eq_getElem h2] at h1
  refine ho n _ _ h1 ?_
  intro q hq
  refine hl q ?_
  simp only [DataW.weights, ht]
  exact all_weight (List.mem_map_of_mem (List.getElem_mem h2)) q hq
/-- a value whose cells are its own: what stands in a register -/
theorem cells_int {k : IntKind} {n : Int} : (Value.int k n).cells.toList = [.int k n] := rfl
theorem trod_of {t : TypeId} {v : Value} {d : DataW H} {ps : List MemPlace} (h : DataW.Trod enc P w base spare held t v d ps) : ∃ fuel, DataW.trod enc P w base spare held fuel t v.cells.toList = some (d, ps) := h
end
end Go.Proofs.Ytmgkfklkdedpgaa.Open
