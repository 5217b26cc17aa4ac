/- Functions of the translation as plain Lean functions, each with a proof that the Go code comes to its answers, wherever the function has one; no other condition. Written by this session's own program (wip/myprint.py). -/
import Derived.Test.YtgdefjcjikcofaaQx0
import Derived.Test.YtgdefjcjikcofaaQx2
import Derived.Test.YtgdefjcjikcofaaQx3
import Derived.Test.YtgdefjcjikcofaaQx4
namespace Go.Proofs.Ytgdefjcjikcofaa.Q
open Go.RowKit Go.Proofs.Ytgdefjcjikcofaa.Mine Go.Proofs.YtgdefjcjikcofaaW.PrintWords Go.Proofs.YtgdefjcjikcofaaW.PrintLast Go.Proofs.YtgdefjcjikcofaaW.PrintMore
attribute [local go_sem] max2_int min2_int max_two min_two max_three min_three max_four min_four   -- for this text's walks alone
set_option linter.unusedVariables false
set_option linter.unusedSimpArgs false

/-! ### class_Of: function 12 -/
open Go.ChangeMaps (setBlock)
theorem left_lt (n : Nat) (seen : Array Nat) (j : Nat) (hj : j < n) (h : j ∉ seen) : ((List.range n).filter (fun i => !(seen.push j).contains i)).length < ((List.range n).filter (fun i => !seen.contains i)).length := by
  have e : (List.range n).filter (fun i => !(seen.push j).contains i) = ((List.range n).filter (fun i => !seen.contains i)).filter (fun i => i != j) := by
    rw [List.filter_filter]
    congr 1
    funext i
    by_cases h1 : i = j <;> simp [h1]
  rw [e]
  exact List.length_filter_lt_length_iff_exists.2 ⟨j, by simp [hj, h], by simp⟩
theorem next_step (w : World) (r g c0 : Nat) (seen : Array Nat) (L : List (Int × Int × Int)) (hr : w.heap[r]? = some (.mapIter (some g) L.length seen c0)) (hg : w.heap[g]? = some (.map (ents 0 L).toArray L.length)) (hc : L.length ≤ c0) (hne : g ≠ r) (ty : TypeId) :
    ((∀ j, j < L.length → j ∈ seen) ∧ (Instr.next (.pointer (some ⟨r, 0, none⟩)) false ty).run Try.prog w = .ok (.tuple #[.bool false]) w) ∨
    ∃ j x w1, L[j]? = some x ∧ j ∉ seen ∧ (Instr.next (.pointer (some ⟨r, 0, none⟩)) false ty).run Try.prog w = .ok (.tuple #[.bool true, .agg #[.int .i32 x.1, .int .i32 x.2.1], .int .i64 x.2.2]) w1 ∧
      (Instr.entry (.pointer (some ⟨r, 0, none⟩))).run Try.prog w1 = .ok (.tuple #[.agg #[.int .i32 x.1, .int .i32 x.2.1], .int .i64 x.2.2]) w1 ∧
      w1.heap[r]? = some (.mapIter (some g) L.length (seen.push j) L.length) ∧ w1.heap[g]? = some (.map (ents 0 L).toArray L.length) ∧ (∀ B, B ≤ r → Below B w w1) := by
  rcases next_ents w r g c0 seen L hr hg hc ty with h | ⟨j, x, w1, hj, hs, hw, hrun⟩
  · exact .inl h
  · have hh : w1.heap = w.heap := by rcases hw with rfl | rfl <;> rfl
    have hlt : r < w1.heap.size := by rw [hh]; exact blk_lt hr
    have hr1 : (setBlock w1 r (.mapIter (some g) L.length (seen.push j) L.length)).heap[r]? = some (.mapIter (some g) L.length (seen.push j) L.length) := by simp [setBlock, hlt]
    have hg1 : (setBlock w1 r (.mapIter (some g) L.length (seen.push j) L.length)).heap[g]? = some (.map (ents 0 L).toArray L.length) := by
      rw [← hg, ← hh]
      simp [setBlock, Ne.symm hne]
    have hen := run_entry_at (P := Try.prog) (setBlock w1 r (.mapIter (some g) L.length (seen.push j) L.length)) r g L.length seen (ents 0 L).toArray L.length (ent j x) hr1 hg1 (by simpa using (ents_get L 0 _).2 ⟨j, x, hj, by rw [Nat.zero_add]⟩) (by simp only [List.toList_toArray]; rw [ents_born]; exact List.nodup_range')
    refine .inr ⟨j, x, _, hj, hs, hrun, hen, hr1, hg1, fun B hB => ?_⟩
    have hb : Below B w w1 := by rcases hw with rfl | rfl; · exact Below.refl _ _
                                 · exact (Below.refl _ _).drew
    exact hb.trans ⟨rfl, rfl, rfl, by simp [setBlock], fun k hk => by simp [setBlock, show r ≠ k by omega]⟩
def class_Of.f (k : Nat) (a0 : Int) : Option Int := (utf_Is.f a0).bind fun is => if is = true then (match cls a0 with | some c => some c | none => if a0 % 65536 ≥ 65534 then some 3 else (class_Value.f k a0).bind fun v => if v.2 = true then some 5 else some 0) else some 6
theorem class_Of.mono : ∀ a0 k, LeO (class_Of.f k a0) (class_Of.f (k + 1) a0) := by
  intro a0 k
  unfold class_Of.f
  refine LeO.bind (LeO.refl _) (fun is => ?_)
  refine LeO.ite ?_ (LeO.refl _)
  cases cls a0 with
  | some c => exact LeO.refl _
  | none => exact LeO.ite (LeO.refl _) (LeO.bind (class_Value.mono _ _) (fun _ => LeO.refl _))
set_option maxHeartbeats 4000000 in
set_option maxRecDepth 100000 in
theorem class_Of.calls (k : Nat) (a0 : Int) (r : Int) (w : World) (h : class_Of.f k a0 = some r) :
    Calls Try.prog 12 #[.int .i32 a0] w fun e w' => e = .returned (.int .i64 r) ∧ Below w.heap.size w w' := by
  obtain ⟨is, A1_, h⟩ := Option.bind_eq_some_iff.mp h
  have A1 := Aside0.mk A1_
  have H := Aside0.mk h
  clear h A1_
  cases is with
  | false =>
    have h := H.out
    rw [if_neg (by simp)] at h
    obtain rfl := Option.some.inj h
    clear h H
    go_enter Try.func12, Try.ntmps12
    go_wp2_with fail
    refine (utf_Is.calls a0 false _ A1.out).mono ?_
    rintro e w1 ⟨rfl, ⟨m, rfl⟩⟩
    dsimp only
    go_wp2
    go_ret
    exact ⟨rfl, pw_below_drewN (Below.refl _ _) m⟩
  | true =>
    have h := H.out
    rw [if_pos rfl] at h
    have H2 := Aside0.mk h
    clear h H
    go_enter Try.func12, Try.ntmps12
    go_wp2_with fail
    refine (utf_Is.calls a0 true _ A1.out).mono ?_
    rintro e w1 ⟨rfl, ⟨m, rfl⟩⟩
    dsimp only
    go_wp2_with fail
    refine (class_ranges.calls _).mono ?_
    rintro e w2 ⟨g, L, rfl, hg_, hL_, hgs_, hb_⟩
    have HB := Aside0.mk ((pw_below_drewN (Below.refl w.heap.size w) m).trans hb_)
    have HG := Aside0.mk hg_
    have HL := Aside0.mk hL_
    have HGS := Aside0.mk (show w.heap.size ≤ g from hgs_)
    clear hb_ hL_ hgs_
    have hrange : (Instr.range 33 (.map (some g))).run Try.prog w2 = .ok (.pointer (some ⟨w2.heap.size, 0, none⟩)) (w2.alloc (.mapIter (some g) L.length #[] L.length)) := by
      simp [Instr.range, run_underlying Try.underlying33, MapKept.run_getObj_map hg_]
    clear hg_
    dsimp only
    go_wp2_with fail
    have HNE := Aside0.mk (show g ≠ w2.heap.size from Nat.ne_of_lt (blk_lt HG.out))
    clear hrange
    go_loopg [] ((List.range L.length).filter (fun i => !(#[] : Array Nat).contains i)).length (fun kq wr => ∃ (seen : Array Nat) (c0 : Nat), Aside0 (wr.heap[w2.heap.size]? = some (.mapIter (some g) L.length seen c0)) ∧ Aside0 (L.length ≤ c0) ∧ Aside0 (wr.heap[g]? = some (.map (ents 0 L).toArray L.length)) ∧ Aside0 (∀ j x, j ∈ seen → L[j]? = some x → isin a0 x = false) ∧ Aside0 (((List.range L.length).filter (fun i => !seen.contains i)).length = kq) ∧ Aside0 (Below w.heap.size w wr))
    case atStart => exact ⟨#[], L.length, ⟨heap_alloc_new w2 _⟩, ⟨Nat.le_refl _⟩, ⟨blk_alloc HG.out _⟩, ⟨fun j x hj => by simp at hj⟩, ⟨rfl⟩, ⟨HB.out.alloc HB.out.size _⟩⟩
    case round =>
      obtain ⟨seen, c0, HR, HC, HM, HS, HK, HW⟩ := hrel
      rcases next_step wr w2.heap.size g c0 seen L HR.out HM.out HC.out HNE.out 0 with ⟨hall, hrun⟩ | ⟨j, x, w3, hj, hs, hrun, hent, hr3, hg3, hb3⟩
      · have HALL := Aside0.mk hall
        clear hall
        have hcn : cls a0 = none := cls_none (fun x hx => by
          obtain ⟨j, hj⟩ := List.mem_iff_getElem?.1 ((HL.out x).2 hx)
          exact HS.out j x (HALL.out j (List.getElem?_eq_some_iff.1 hj).1) hj)
        have h2 := H2.out
        rw [hcn] at h2
        have HV := Aside0.mk (show (if a0 % 65536 ≥ 65534 then some 3 else (class_Value.f k a0).bind fun v => if v.2 = true then some 5 else some 0) = some r from h2)
        clear h2 hcn H2
        have hw16 : IntKind.u16.wrap a0 = a0 % 65536 := by simp [IntKind.wrap, IntKind.bits, IntKind.signed]
        by_cases q : a0 % 65536 ≥ 65534
        · have h2 := HV.out
          rw [if_pos q] at h2
          obtain rfl := Option.some.inj h2
          clear h2 HV
          go_wp2
          go_ret
          exact ⟨rfl, HW.out⟩
        · have h2 := HV.out
          rw [if_neg q] at h2
          obtain ⟨⟨v1, v2⟩, AV_, h2⟩ := Option.bind_eq_some_iff.mp h2
          have AV := Aside0.mk AV_
          have HV2 := Aside0.mk h2
          clear h2 HV AV_
          go_wp2_with fail
          refine (class_Value.calls k a0 v1 v2 _ AV.out).mono ?_
          rintro e w4 ⟨rfl, hb_⟩
          have HB4 := Aside0.mk (HW.out.trans (hb_.mono HW.out.size))
          clear hb_
          have h2 := HV2.out
          dsimp only
          cases v2 with
          | true =>
            rw [if_pos rfl] at h2
            obtain rfl := Option.some.inj h2
            clear h2 HV2
            go_wp2
            go_ret
            exact ⟨rfl, HB4.out⟩
          | false =>
            rw [if_neg (by simp)] at h2
            obtain rfl := Option.some.inj h2
            clear h2 HV2
            go_wp2
            go_ret
            exact ⟨rfl, HB4.out⟩
      · have hxL : x ∈ RT := (HL.out x).1 (List.mem_of_getElem? hj)
        have HXR := Aside0.mk hxL
        have HJ := Aside0.mk hj
        have HSJ := Aside0.mk hs
        have hW3 := hb3 w.heap.size (Nat.le_trans HGS.out (Nat.le_of_lt (blk_lt HG.out)))
        have HW3 := Aside0.mk (HW.out.trans hW3)
        have HR3 := Aside0.mk hr3
        have HG3 := Aside0.mk hg3
        have HLT := Aside0.mk (left_lt L.length seen j (List.getElem?_eq_some_iff.1 hj).1 hs)
        clear hxL hj hs hW3 hr3 hg3 hb3
        have NEXT := Aside0.mk (show isin a0 x = false → Aside0 (∀ i y, i ∈ seen.push j → L[i]? = some y → isin a0 y = false) from fun hf => ⟨fun i y hi hy => by
          rcases Array.mem_push.1 hi with hi | rfl
          · exact HS.out i y hi hy
          · rw [← Option.some.inj (HJ.out.symm.trans hy)]; exact hf⟩)
        by_cases q1 : x.1 ≤ a0
        · by_cases q2 : a0 ≤ x.2.1
          · have hc : cls a0 = some x.2.2 := cls_hit HXR.out (by simp [isin, q1, q2])
            have h2 := H2.out
            rw [hc] at h2
            obtain rfl := Option.some.inj h2
            clear h2 hc H2
            go_wp2
            go_ret
            exact ⟨rfl, HW3.out.alloc HW3.out.size _⟩
          · have hf : isin a0 x = false := by simp [isin, q2]
            go_wp2
            go_roundg ((List.range L.length).filter (fun i => !(seen.push j).contains i)).length
            case measure => have h1 := HLT.out; have h2 := HK.out; omega
            case rel => exact ⟨seen.push j, L.length, ⟨blk_alloc HR3.out _⟩, ⟨Nat.le_refl _⟩, ⟨blk_alloc HG3.out _⟩, NEXT.out hf, ⟨rfl⟩, ⟨HW3.out.alloc HW3.out.size _⟩⟩
        · have hf : isin a0 x = false := by simp [isin, q1]
          go_wp2
          go_roundg ((List.range L.length).filter (fun i => !(seen.push j).contains i)).length
          case measure => have h1 := HLT.out; have h2 := HK.out; omega
          case rel => exact ⟨seen.push j, L.length, ⟨blk_alloc HR3.out _⟩, ⟨Nat.le_refl _⟩, ⟨blk_alloc HG3.out _⟩, NEXT.out hf, ⟨rfl⟩, ⟨HW3.out.alloc HW3.out.size _⟩⟩

end Go.Proofs.Ytgdefjcjikcofaa.Q
