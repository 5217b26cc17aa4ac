/- Two laws of rows of whole numbers that the print's words lack: make with a capacity of its own, and the builtin copy into a row of the call's own. -/
import Derived.Laws.MakeOwn
import Derived.Laws.CopyOwn
import Derived.OwnWalk
import Derived.ArgAppend
import Derived.Lib.SliceRun
import Derived.Lib.SlBytesConst
import Derived.Laws.Rows
import Derived.Deep.RegionLaw
import Derived.Laws.Cover3
import Derived.DeepKeys
import Derived.WideKeyRuns
import Derived.DeepKeys3
import Derived.Maps.RangeRun
import Derived.ChangeMaps4
import Derived.ChangeKeysEq
import Derived.Test.YtmgkfklkdedpgaaWWords
import Derived.Test.YtmgkfklkdedpgaaWMore
import Derived.Test.YtmgkfklkdedpgaaWInvWords
namespace Go.Proofs.Ytmgkfklkdedpgaa.Mine
open Go.RowKit Go.Proofs.YtmgkfklkdedpgaaW.PrintWords Go.Proofs.YtmgkfklkdedpgaaW.PrintWords.Kd
set_option linter.unusedVariables false
set_option linter.unusedSimpArgs false
section
variable {P : Program} {ops : Array Oper} {rest : List Oper} {o : Oper} {a : Act} {Q : Exit → Act → World → Prop}
theorem ints_len (k : IntKind) (xs : List Int) : (xs.map (Value.int k)).length = xs.length := List.length_map ..
theorem reps_ints (k : IntKind) {w : World} {base : Nat} {ok : Nat → Prop} (xs : List Int) : Reps ((Kd.int k).M w base ok) (Kd.int k).sz xs (xs.map (Value.int k)) := by
  refine ⟨by show _ = xs.length * 1; rw [List.length_map, Nat.mul_one], fun j p hj => ?_⟩
  obtain ⟨hl, hp⟩ := List.getElem?_eq_some_iff.1 hj
  show ((xs.map (Value.int k)).drop (j * 1)).take 1 = [Value.int k p]
  rw [Nat.mul_one, List.drop_eq_getElem_cons (by rw [List.length_map]; exact hl), List.take_succ_cons, List.take_zero, List.getElem_map, hp]
theorem ints_of_reps {k : IntKind} {w : World} {base : Nat} {ok : Nat → Prop} {xs : List Int} {inner : List Value} (h : Reps ((Kd.int k).M w base ok) (Kd.int k).sz xs inner) : inner = xs.map (Value.int k) := by
  obtain ⟨hl, hr⟩ := h
  have hl' : inner.length = xs.length * 1 := hl
  rw [Nat.mul_one] at hl'
  apply List.ext_getElem (by rw [hl', List.length_map])
  intro j h1 h2
  have h3 : j < xs.length := by omega
  have h4 : (inner.drop (j * 1)).take 1 = [Value.int k xs[j]] := hr j xs[j] (List.getElem?_eq_getElem h3)
  rw [Nat.mul_one, List.drop_eq_getElem_cons h1, List.take_succ_cons, List.take_zero] at h4
  rw [List.getElem_map]
  exact (List.cons.inj h4).1
/-- a row of whole numbers of the call's own, told by its block -/
theorem R_ints {k : IntKind} {e : Nat} {w : World} {base : Nat} {ok : Nat → Prop} {v : Value} {xs : List Int} (h : (Kd.int k).R e w base ok v xs) :
    (∀ b, v.ownBlock = some b → ok b) ∧ ((v = .slice none 0 0 ∧ xs = []) ∨ ∃ g cap cur, v = .slice (some ⟨g, 0, none⟩) xs.length cap ∧ base ≤ g ∧ w.heap[g]? = some (.cells cur e (0, 0)) ∧ xs.length ≤ cap ∧ cap ≤ maxLen ∧ cur.size = cap ∧ cur.toList.take xs.length = xs.map (Value.int k)) := by
  obtain ⟨h0, inner, hown, hr⟩ := h
  refine ⟨h0, ?_⟩
  have hi := ints_of_reps hr
  subst hi
  rcases hown.2 with ⟨hv, hn⟩ | ⟨g, cap, cur, hv, hb, hh, hnc, hcm, hcs, ht⟩
  · exact .inl ⟨hv, List.eq_nil_of_length_eq_zero hn⟩
  · refine .inr ⟨g, cap, cur, hv, hb, hh, hnc, hcm, ?_, ?_⟩
    · have : cur.size = cap * 1 := hcs
      rw [this, Nat.mul_one]
    · have : cur.toList.take (xs.length * 1) = _ := ht
      rw [Nat.mul_one] at this
      exact this
theorem R_ints_mk {k : IntKind} {e : Nat} {w : World} {base : Nat} {ok : Nat → Prop} {xs : List Int} {g cap : Nat} {cur : Array Value} (hok : ok g) (hb : base ≤ g) (hh : w.heap[g]? = some (.cells cur e (0, 0))) (hnc : xs.length ≤ cap) (hcm : cap ≤ maxLen) (hcs : cur.size = cap) (ht : cur.toList.take xs.length = xs.map (Value.int k)) :
    (Kd.int k).R e w base ok (.slice (some ⟨g, 0, none⟩) xs.length cap) xs := by
  refine ⟨fun b hb' => ?_, xs.map (Value.int k), ⟨?_, .inr ⟨g, cap, cur, rfl, hb, hh, hnc, hcm, ?_, ?_⟩⟩, reps_ints k xs⟩
  · have : g = b := by simpa [Value.ownBlock] using hb'
    rw [← this]; exact hok
  · show _ = xs.length * 1
    rw [List.length_map, Nat.mul_one]
  · show cur.size = cap * 1
    rw [hcs, Nat.mul_one]
  · show cur.toList.take (xs.length * 1) = _
    rw [Nat.mul_one]; exact ht
/-- make([]T, n, m), T a whole number -/
theorem R_makecap (d : Kd Int) {w0 W : World} (base e : Nat) (hgd : o.guard = none) {N : Tmp} (hd : o.dst = some N) (t : TypeId) (x y : Operand) (ho : o.op = .makeSlice t x y) (n m : Int) (hx : a.eval x = .int .i64 n) (hy : a.eval y = .int .i64 m)
    (ht : P.underlying t = some (.slice e)) (z : Value) (bytes : Nat) (hinfo : (P.info? e).map (fun i => (i.zero, i.size, i.bytes)) = some (some z, d.sz, bytes)) (hb0 : 0 < bytes)
    {ok : Nat → Prop} (hfresh : ok W.heap.size) (h0 : 0 ≤ n) (hnm : n ≤ m) (hl : m.toNat * bytes ≤ 281474976710656) (HB : Below base w0 W) (hbase : base ≤ W.heap.size)
    {k : IntKind} (hk : d = Kd.int k) (hz : z = .int k 0)
    (h : ∀ v1 w1, d.R e w1 base ok v1 (List.replicate n.toNat 0) → Below base w0 w1 → W.grownBy w1 none → (∃ b, v1.ownBlock = some b ∧ W.heap.size ≤ b) → wpList P ops Q rest (a.put o.dst v1) w1) : wpList P ops Q (o :: rest) a W := by
  subst hk hz
  obtain ⟨n, rfl⟩ := Int.eq_ofNat_of_zero_le h0
  obtain ⟨m, rfl⟩ := Int.eq_ofNat_of_zero_le (Int.le_trans h0 hnm)
  simp only [Int.toNat_natCast] at hl h
  obtain ⟨i0, hi, hzz⟩ := Option.map_eq_some_iff.1 hinfo
  simp only [Prod.mk.injEq] at hzz
  obtain ⟨hz0, hz1, hz2⟩ := hzz
  have hz1' : i0.size = 1 := hz1
  have hm : m ≤ 281474976710656 := Nat.le_trans (Nat.le_mul_of_pos_right _ hb0) hl
  have hr := run_make (P := P) W t e i0 _ ht hi hz0 .i64 .i64 (n : Int) (m : Int) (by omega) hnm
    (by
      have h3 : ((i0.bytes * m : Nat) : Int) ≤ 281474976710656 := by rw [hz2, Nat.mul_comm]; omega
      rwa [Int.natCast_mul] at h3) (by omega)
  simp only [Int.toNat_natCast] at hr
  rw [hz1', Nat.mul_one] at hr
  have hcells : (madeCells (Value.int k 0).cells m).toList.take (List.replicate n (0 : Int)).length = (List.replicate n (0 : Int)).map (Value.int k) := by
    apply List.ext_getElem
    · simp [madeCells]; omega
    · intro j h1 h2
      simp [madeCells, Value.cells, Nat.mod_one]
  have hnew := R_ints_mk (k := k) (e := e) (w := W.alloc (.cells (madeCells (Value.int k 0).cells m) e)) (base := base) (ok := ok) (xs := List.replicate n 0) (g := W.heap.size) (cap := m) (cur := madeCells (Value.int k 0).cells m) hfresh hbase (by simpa using heap_alloc_new W _) (by simp; omega) (by unfold maxLen; omega) (size_madeCells _ _) hcells
  rw [List.length_replicate] at hnew
  refine event_run hgd (v := .slice (some ⟨W.heap.size, 0, none⟩) n m) (w1 := W.alloc (.cells (madeCells (Value.int k 0).cells m) e)) ?_ (h _ _ hnew (HB.alloc hbase _) (World.grownBy_alloc W _ none) ⟨W.heap.size, by simp [Value.ownBlock], Nat.le_refl _⟩)
  simp [execOp, ho, hx, hy, hr]
/-- what copy(xs, ys) leaves in xs -/
def cpy (xs ys : List Int) : List Int := ys.take xs.length ++ xs.drop ys.length
theorem cpy_len (xs ys : List Int) : (cpy xs ys).length = xs.length := by simp [cpy]; omega
theorem cpy_nil (xs : List Int) : cpy xs [] = xs := by simp [cpy]
theorem nil_cpy (ys : List Int) : cpy [] ys = [] := by simp [cpy]
theorem cpy_all {xs ys : List Int} (h : ys.length = xs.length) : cpy xs ys = ys := by
  unfold cpy
  rw [List.take_of_length_le (by omega), List.drop_eq_nil_of_le (by omega), List.append_nil]
theorem grown_setRow (w : World) (g : Nat) (cs : Array Value) : w.grownBy (w.setRow g cs) (some g) :=
  ⟨rfl, rfl, rfl, by simp [World.setRow], fun k _ hk => setRow_other w g k cs (fun e => hk (by rw [e]))⟩
/-- copy(xs, ys), rows of whole numbers: xs is the call's own -/
theorem R_copy_rows (d : Kd Int) {Rr : Int → List Value → Prop} {w0 W : World} (base : Nat) (hgd : o.guard = none) (s x : Operand) (t e : TypeId) (z : Value) (bytes : Nat)
    (ho : o.op = .call { callee := .builtin .copy, args := #[s, x], argTypes := #[t, t] })
    (ht : P.underlying t = some (.slice e)) (hinfo : (P.info? e).map (fun i => (i.zero, i.size, i.bytes)) = some (some z, d.sz, bytes)) (hz : z.cells.size = d.sz) (hs0 : 0 < d.sz) (hb0 : 0 < bytes)
    (v : Value) (xs ys : List Int) (A : Option Addr) (m c : Nat) (ok okp : Nat → Prop) (hs : a.eval s = v) (hx : a.eval x = .slice A m c)
    (HO : d.R e W base ok v xs) (HR : ReadsRow Rr d.sz W A m ys) (hKM : ∀ x cs, Rr x cs → d.M W base okp x cs) (hokp : ∀ k, okp k → ok k ∧ some k ≠ v.ownBlock) (hfresh : ∀ k, W.heap.size ≤ k → ok k)
    (HB : Below base w0 W) (hbase : base ≤ W.heap.size) (hl : (xs.length + m) * bytes ≤ 140737488355328)
    (h : ∀ v1 w1, v1 = v → d.R e w1 base ok v1 (cpy xs ys) → Below base w0 w1 → W.grownBy w1 v.ownBlock → (v1.ownBlock = v.ownBlock ∨ ∃ b, v1.ownBlock = some b ∧ W.heap.size ≤ b) → wpList P ops Q rest (a.put o.dst (goInt (Nat.min m xs.length))) w1)
    (hk : ∃ k, d = Kd.int k := by exact ⟨_, rfl⟩) : wpList P ops Q (o :: rest) a W := by
  obtain ⟨k, rfl⟩ := hk
  have hsz : (P.info? e).map (·.size) = some 1 := by
    obtain ⟨i0, hi, hzz⟩ := Option.map_eq_some_iff.1 hinfo
    simp only [Prod.mk.injEq] at hzz
    rw [hi]
    exact congrArg some hzz.2.1
  have hym : ys.length = m := HR.1
  obtain ⟨hok, hform⟩ := R_ints HO
  by_cases h0 : Nat.min m xs.length = 0
  · have hcp : cpy xs ys = xs := by
      rcases Nat.eq_zero_or_pos m with h1 | h1
      · obtain rfl : ys = [] := List.eq_nil_of_length_eq_zero (by omega)
        exact cpy_nil xs
      · obtain rfl : xs = [] := List.eq_nil_of_length_eq_zero (by have : min m xs.length = 0 := h0; omega)
        exact nil_cpy ys
    have hgo : wpList P ops Q rest (a.put o.dst (goInt 0)) W := by
      have := h v W rfl (by rw [hcp]; exact HO) HB ⟨rfl, rfl, rfl, Nat.le_refl _, fun _ _ _ => rfl⟩ (.inl rfl)
      rw [h0] at this
      exact this
    obtain ⟨A1, c1, hv⟩ := R_slice HO
    exact wpList_copy_nothing hgd s x t t ho e ht hsz A1 A xs.length c1 m c (hs.trans hv) hx h0 hgo
  · rcases hform with ⟨_, rfl⟩ | ⟨g, cap, cur, rfl, hg, hh, hnc, hcm, hcs, htk⟩
    · exact absurd (show min m ([] : List Int).length = 0 by simp) h0
    · have hpos : 0 < m := by
        rcases Nat.eq_zero_or_pos m with h1 | h1
        · exact absurd (show min m xs.length = 0 by omega) h0
        · exact h1
      obtain ⟨ad, rfl, hcell⟩ := HR.2.2 hpos
      have hkx : ∀ j p, ys[j]? = some p → W.cell? (ad.add j) = some (.int k p) := by
        intro j p hj
        obtain ⟨cs, _, hR, hc⟩ := hcell j p hj
        have e1 : cs = [Value.int k p] := hKM p cs hR
        subst e1
        have := hc 0 (.int k p) rfl
        have e2 : (Kd.int k).sz = 1 := rfl
        rw [e2, Nat.mul_one, Nat.add_zero] at this
        exact this
      have hmin : Nat.min m xs.length = min m xs.length := rfl
      have hcl : ((ys.take xs.length).map (Value.int k)).length = Nat.min m xs.length := by
        rw [List.length_map, List.length_take, hym, hmin, Nat.min_comm]
      have hxl : xs.length ≤ cur.size := by omega
      refine wpList_copy_own hgd s x t t ho e ht hsz g 0 xs.length cap ad m c hs hx cur e hh ((ys.take xs.length).map (Value.int k)) hcl ?_ ?_ ?_ ?_
      · intro j u hj
        rw [List.getElem?_map] at hj
        obtain ⟨p, hp, rfl⟩ := Option.map_eq_some_iff.1 hj
        refine hkx j p ?_
        rw [List.getElem?_take] at hp
        split at hp
        · exact hp
        · cases hp
      · rw [hcl, hmin]; omega
      · intro u hu
        obtain ⟨p, _, rfl⟩ := List.mem_map.1 hu
        rfl
      · have hnew : (Kd.int k).R e (W.setRow g (cur.toList.take 0 ++ (((ys.take xs.length).map (Value.int k)) ++ cur.toList.drop (0 + ((ys.take xs.length).map (Value.int k)).length))).toArray) base ok (.slice (some ⟨g, 0, none⟩) (cpy xs ys).length cap) (cpy xs ys) := by
          refine R_ints_mk (hok g (by simp [Value.ownBlock])) hg (setRow_heap W g _ _ e _ hh) (by rw [cpy_len]; exact hnc) hcm ?_ ?_
          · simp only [List.take_zero, List.nil_append, Nat.zero_add, List.size_toArray, List.length_append, List.length_drop, Array.length_toList, hcl, hmin]
            omega
          · simp only [List.take_zero, List.nil_append, Nat.zero_add, List.toList_toArray]
            rw [cpy_len, List.take_append, List.take_of_length_le (by rw [hcl, hmin]; omega)]
            unfold cpy
            rw [List.map_append]
            congr 1
            have e1 : (cur.toList.drop (Nat.min m xs.length)).take (xs.length - (ys.take xs.length).length) = (cur.toList.take xs.length).drop (Nat.min m xs.length) := by
              rw [List.drop_take]
              congr 1
              rw [List.length_take, hmin]
              omega
            rw [hcl]
            have e2 : xs.length - Nat.min m xs.length = xs.length - (ys.take xs.length).length := by rw [List.length_take, hmin]; omega
            rw [e2, e1, htk, ← List.map_drop]
            congr 1
            rcases Nat.le_total m xs.length with h1 | h1
            · have : Nat.min m xs.length = ys.length := by rw [hmin]; omega
              rw [this]
            · rw [List.drop_eq_nil_of_le (by rw [hmin]; omega), List.drop_eq_nil_of_le (by omega)]
        rw [cpy_len] at hnew
        have hgo := h _ _ rfl hnew (below_setRow HB hg _) (grown_setRow W g _) (.inl rfl)
        rw [hcl] at hgo
        rw [hcl]
        simpa only [List.take_zero, List.nil_append] using hgo
/-- one operation of a region that draws, by a law on lists of operations -/
theorem step_of_list {P : Program} {ops : Array Oper} {o : Oper} {a : Act} {w : World} {K : Act → World → Prop} {Q : Exit → Act → World → Prop} {E : Prop} (hg : o.guard = none)
    (h : wpList P ops (fun e a w => e = .normal ∧ K a w) [o] a w) : if Region.wanted o (yielded ops a.tmps) = true then Oper.wp P o a w K Q else E := by
  have hw : Region.wanted o (yielded ops a.tmps) = true := by simp [Region.wanted, hg]
  rw [if_pos hw]
  have h1 : (if Region.wanted o (yielded ops a.tmps) then o.wp P a w (wpList P ops (fun e a w => e = .normal ∧ K a w) []) (fun e a w => e = .normal ∧ K a w) ∨ (o.asks P a w ∧ LetsOut (fun e a w => e = .normal ∧ K a w)) else _) := h
  rw [if_pos hw] at h1
  rcases h1 with h1 | ⟨_, a', w', h2, _⟩
  case inr => cases h2
  unfold Oper.wp at *
  generalize (execOp a.eval o).run P w = r at *
  cases r with
  | ok n w' =>
    cases n <;> simp only [Oper.upon] at h1 ⊢ <;>
      first
        | exact h1.2
        | exact Calls.mono h1 (fun e w'' he => by
            cases e
            · exact he.2
            · exact absurd he.1 (by simp)
            · obtain ⟨_, _, h3, _⟩ := he; cases h3)
        | exact Rows.mono h1 (fun _ _ he => he.2)
  | halt x w' => cases x <;> simp only [Oper.upon] at h1 ⊢ <;> first | exact absurd h1.1 (by simp) | exact h1
/-- a block of whole numbers, read as a row -/
theorem C_block {k : IntKind} {w : World} {g : Nat} {t : TypeId} {cs : Array Value} {xs : List Int} (h : w.heap[g]? = some (.cells cs t (0, 0))) (hx : cs.toList = xs.map (Value.int k)) (hl : xs.length ≤ 9223372036854775807) :
    (Kd.int k).C w (some ⟨g, 0, none⟩) xs.length xs := by
  refine ⟨rfl, hl, fun _ => ⟨_, rfl, fun j p hj => ⟨[.int k p], rfl, rfl, fun i u hi => ?_⟩⟩⟩
  cases i with
  | succ i => simp at hi
  | zero =>
    have hu : u = .int k p := by simpa using hi.symm
    subst hu
    have e1 : (⟨g, 0, none⟩ : Addr).add (j * (Kd.int k).sz + 0) = ⟨g, j, none⟩ := by
      rw [Addr.add_lit]
      show (⟨g, 0 + (j * 1 + 0), none⟩ : Addr) = _
      rw [Nat.zero_add, Nat.mul_one, Nat.add_zero]
    rw [e1, blk_cell h j, ← Array.getElem?_toList, hx, List.getElem?_map, hj]
    rfl
/-- two arrays of four whole numbers, compared -/
theorem run_eq4 {P : Program} (w : World) (d : Nat) (t e : TypeId) (k : IntKind) (i : TypeInfo) (a0 a1 a2 a3 b0 b1 b2 b3 : Int) (ht : P.underlying t = some (.array 4 e)) (he : P.underlying e = some (.int k)) (hi : P.info? e = some i) (hk : P.plainKey e = true) (hc : P.cellsOf e = 1) :
    (Op.equalIn (d + 2) t (.agg #[.int k a0, .int k a1, .int k a2, .int k a3]) (.agg #[.int k b0, .int k b1, .int k b2, .int k b3])).run P w = .ok (decide ([a0, a1, a2, a3] = [b0, b1, b2, b3])) w := by
  have q : ∀ (xs : Array Value) (off : Nat) (v : Value) (w : World), xs[off]? = some v → (part e xs off).run P w = .ok v w := fun xs off v w h => run_part_plain w hk h
  have g : ∀ (a b : Int) (w : World), (Op.equalIn (d + 1) e (.int k a) (.int k b)).run P w = .ok (a == b) w := fun a b w => run_equalIn_int w _ _ _ _ _ _ he
  have e3 : List.range 4 = [0, 1, 2, 3] := rfl
  rw [run_equalIn_array w (d + 1) _ _ ht hi, hc, e3]
  have aa0 := fun w => q #[.int k a0, .int k a1, .int k a2, .int k a3] 0 (.int k a0) w rfl
  have aa1 := fun w => q #[.int k a0, .int k a1, .int k a2, .int k a3] 1 (.int k a1) w rfl
  have aa2 := fun w => q #[.int k a0, .int k a1, .int k a2, .int k a3] 2 (.int k a2) w rfl
  have aa3 := fun w => q #[.int k a0, .int k a1, .int k a2, .int k a3] 3 (.int k a3) w rfl
  have bb0 := fun w => q #[.int k b0, .int k b1, .int k b2, .int k b3] 0 (.int k b0) w rfl
  have bb1 := fun w => q #[.int k b0, .int k b1, .int k b2, .int k b3] 1 (.int k b1) w rfl
  have bb2 := fun w => q #[.int k b0, .int k b1, .int k b2, .int k b3] 2 (.int k b2) w rfl
  have bb3 := fun w => q #[.int k b0, .int k b1, .int k b2, .int k b3] 3 (.int k b3) w rfl
  clear q
  simp only [Op.eqItems, Sem.run_bind, Nat.mul_one, aa0, bb0, g, Result.andThen_ok]
  by_cases c0 : a0 = b0
  case neg => simp [c0]
  subst c0
  simp only [beq_self_eq_true, Bool.not_true, Bool.false_eq_true, if_false, Sem.run_bind, aa1, bb1, g, Result.andThen_ok]
  by_cases c1 : a1 = b1
  case neg => simp [c1]
  subst c1
  simp only [beq_self_eq_true, Bool.not_true, Bool.false_eq_true, if_false, Sem.run_bind, aa2, bb2, g, Result.andThen_ok]
  by_cases c2 : a2 = b2
  case neg => simp [c2]
  subst c2
  simp only [beq_self_eq_true, Bool.not_true, Bool.false_eq_true, if_false, Sem.run_bind, aa3, bb3, g, Result.andThen_ok]
  by_cases c3 : a3 = b3 <;> simp [c3]
/-- four bytes of a row, behind each other -/
theorem four_at {k : IntKind} {w : World} {ad : Addr} {q0 q1 q2 q3 : Int} (h : (Kd.int k).C w (some ad) 4 [q0, q1, q2, q3]) :
    w.cell? ad = some (.int k q0) ∧ w.cell? ⟨ad.block, ad.off + 1, none⟩ = some (.int k q1) ∧ w.cell? ⟨ad.block, ad.off + 2, none⟩ = some (.int k q2) ∧ w.cell? ⟨ad.block, ad.off + 3, none⟩ = some (.int k q3) := by
  have g : ∀ i : Nat, i < 4 → w.cell? (ad.add i) = some (.int k (rd [q0, q1, q2, q3] i)) := fun i hi => by
    obtain ⟨ad', e, hc⟩ := Kd.at_int h i (by omega) (by omega)
    obtain rfl := Option.some.inj e
    exact hc
  exact ⟨g 0 (by omega), g 1 (by omega), g 2 (by omega), g 3 (by omega)⟩
theorem four_of {l : List Int} (h : l.length = 4) : ∃ q0 q1 q2 q3, l = [q0, q1, q2, q3] := by
  match l, h with
  | [q0, q1, q2, q3], _ => exact ⟨_, _, _, _, rfl⟩
/-- a row of bytes of the call's own, or the clipped row that came in (what is appended to it lies in new memory) -/
def Ap (l0 : List Int) (e : Nat) (w : World) (base : Nat) (ok : Nat → Prop) (v : Value) (xs : List Int) : Prop :=
  (Kd.int .u8).R e w base ok v xs ∨ (xs = l0 ∧ ∃ A : Option Addr, v = .slice A xs.length xs.length ∧ (Kd.int .u8).C w A xs.length xs)
theorem Ap_lower {l0 : List Int} {e : Nat} {w : World} {base base' : Nat} {ok : Nat → Prop} {v : Value} {xs : List Int} (h : Ap l0 e w base ok v xs) (hb : base' ≤ base) : Ap l0 e w base' ok v xs := h.imp (fun h => Kd.R_lower h hb) id
theorem Ap_below {l0 : List Int} {e : Nat} {w w1 : World} {base : Nat} {ok : Nat → Prop} {v : Value} {xs : List Int} (h : Ap l0 e w base ok v xs) (hb : Below w.heap.size w w1) : Ap l0 e w1 base ok v xs :=
  h.imp (fun h => Kd.R_below h hb) (fun ⟨h1, A, h2, h3⟩ => ⟨h1, A, h2, Kd.C_below h3 hb⟩)
theorem Ap_alloc {l0 : List Int} {e : Nat} {w : World} {base : Nat} {ok : Nat → Prop} {v : Value} {xs : List Int} (h : Ap l0 e w base ok v xs) (o : Obj) : Ap l0 e (w.alloc o) base ok v xs := Ap_below h (below_alloc (Below.refl _ _) o)
theorem Ap_drewN {l0 : List Int} {e : Nat} {w : World} {base : Nat} {ok : Nat → Prop} {v : Value} {xs : List Int} (h : Ap l0 e w base ok v xs) (m : Nat) : Ap l0 e (w.drewN m) base ok v xs := Ap_below h (pw_below_drewN (Below.refl _ _) m)
theorem Ap_drew {l0 : List Int} {e : Nat} {w : World} {base : Nat} {ok : Nat → Prop} {v : Value} {xs : List Int} (h : Ap l0 e w base ok v xs) : Ap l0 e w.drew base ok v xs := Ap_below h (below_drew1 (Below.refl _ _))
theorem Ap_own {l0 : List Int} {e : Nat} {w : World} {base : Nat} {ok : Nat → Prop} {v : Value} {xs : List Int} (h : Ap l0 e w base ok v xs) (hne : xs ≠ l0) : (Kd.int .u8).R e w base ok v xs := h.resolve_right (fun h => hne h.1)
theorem Ap_append (l0 : List Int) {w0 W : World} (base : Nat) (hgd : o.guard = none) (s x : Operand) (t e : TypeId) (z : Value) (bytes : Nat)
    (ho : o.op = .call { callee := .builtin .append, args := #[s, x], argTypes := #[t, t] })
    (ht : P.underlying t = some (.slice e)) (hinfo : (P.info? e).map (fun i => (i.zero, i.size, i.bytes)) = some (some z, (Kd.int .u8).sz, bytes)) (hz : z.cells.size = (Kd.int .u8).sz) (hs0 : 0 < (Kd.int .u8).sz) (hb0 : 0 < bytes)
    (v : Value) (xs : List Int) (p : Int) (cs : List Value) (ok okp : Nat → Prop) (hs : a.eval s = v) (hx : a.eval x = .slice (some ⟨W.heap.size, 0, none⟩) 1 1) (hp : (Kd.int .u8).M W base okp p cs) (hokp : ∀ k, okp k → ok k ∧ some k ≠ v.ownBlock) (hfresh : ∀ k, W.heap.size ≤ k → ok k)
    (HO : Ap l0 e W base ok v xs) (HB : Below base w0 W) (hbase : base ≤ W.heap.size) (hl : (xs.length + 1) * bytes ≤ 140737488355328)
    (h : ∀ v1 w1, Ap l0 e w1 base ok v1 (xs ++ [p]) → Below base w0 w1 → W.grownBy w1 v.ownBlock → (v1.ownBlock = v.ownBlock ∨ ∃ b, v1.ownBlock = some b ∧ W.heap.size ≤ b) → wpList P ops Q rest (a.put o.dst v1) w1) :
    wpList P ops Q (o :: rest) a (W.alloc (.cells cs.toArray e)) := by
  rcases HO with HO | ⟨_, A, rfl, hC⟩
  · exact Kd.R_append (Kd.int .u8) base hgd s x t e z bytes ho ht hinfo hz hs0 hb0 v xs p cs ok okp hs hx hp hokp hfresh HO HB hbase hl (fun v1 w1 h1 => h v1 w1 (.inl h1))
  · obtain ⟨i0, hi, hzz⟩ := Option.map_eq_some_iff.1 hinfo
    simp only [Prod.mk.injEq] at hzz
    obtain ⟨hz0, hz1, hz2⟩ := hzz
    have hp1 : cs = [Value.int .u8 p] := hp
    subst hp1
    have hC2 : (Kd.int .u8).C (W.alloc (.cells #[Value.int .u8 p] e)) A xs.length xs := Kd.C_below hC (below_alloc (Below.refl _ _) _)
    have hcell : ∀ ad, A = some ad → ∀ j u, (xs.map (Value.int .u8))[j]? = some u → (W.alloc (.cells #[Value.int .u8 p] e)).cell? (ad.add j) = some u := by
      intro ad hA j u hj
      rw [List.getElem?_map] at hj
      obtain ⟨q, hq, rfl⟩ := Option.map_eq_some_iff.1 hj
      obtain ⟨hjl, _⟩ := List.getElem?_eq_some_iff.1 hq
      obtain ⟨ad', hA', hc⟩ := hC2.2.2 (by omega)
      rw [hA] at hA'
      obtain rfl := Option.some.inj hA'
      obtain ⟨cs, _, hR, hcc⟩ := hc j q hq
      have e1 : cs = [Value.int .u8 q] := hR
      subst e1
      have := hcc 0 (.int .u8 q) rfl
      have e2 : (Kd.int .u8).sz = 1 := rfl
      rw [e2, Nat.mul_one, Nat.add_zero] at this
      exact this
    have hsz1 : z.cells.size = 1 := hz
    refine wpList_append_grows (W.alloc (.cells #[Value.int .u8 p] e)) hgd s x t ho e i0 z 1 bytes ht hi hz0 hz1 hz2 hsz1 (by omega) A xs.length xs.length (xs.map (Value.int .u8)) hs ?_ (by rw [List.length_map, Nat.mul_one]) hcell ⟨W.heap.size, 0, none⟩ 1 1 [Value.int .u8 p] hx (by simp) ?_ ?_ (by omega) ?_ hl ?_
    · intro hA
      rcases Nat.eq_zero_or_pos xs.length with h0 | h0
      · exact ⟨h0, h0⟩
      · obtain ⟨ad, h1, _⟩ := hC.2.2 h0
        rw [hA] at h1
        cases h1
    · intro j u hj
      cases j with
      | zero =>
        simp at hj
        subst hj
        have e3 : (⟨W.heap.size, 0, none⟩ : Addr).add 0 = ⟨W.heap.size, 0, none⟩ := rfl
        rw [e3]
        unfold World.cell?
        have e4 := heap_alloc_new W (.cells #[Value.int .u8 p] e)
        simp at e4
        simp [e4]
      | succ j => simp at hj
    · intro u hu
      rw [List.mem_singleton.1 hu]
      rfl
    · unfold maxLen
      have : xs.length + 1 ≤ (xs.length + 1) * bytes := Nat.le_mul_of_pos_right _ hb0
      omega
    · intro v1 w1 hown hg
      have hg0 : W.grownBy w1 none := ⟨hg.os, hg.tape, hg.output, Nat.le_trans (by simp) hg.size, fun k hk hn => (hg.block k (by simp; omega) hn).trans (heap_alloc_old W _ hk)⟩
      have hR : (Kd.int .u8).R e w1 base ok v1 (xs ++ [p]) := by
        refine ⟨fun k hk => hfresh k ?_, _, ?_, reps_ints .u8 (xs ++ [p])⟩
        · have := own_base hown k hk
          simp at this
          omega
        · have h2 := own_weaken hown (show base ≤ (W.alloc (.cells #[Value.int .u8 p] e)).heap.size by simp; omega)
          rw [List.map_append, List.length_append]
          exact h2
      refine h v1 w1 (.inl hR) ((HB.alloc hbase _).grown hg (by simp; omega) (by simp)) ⟨hg0.os, hg0.tape, hg0.output, hg0.size, fun k hk _ => hg0.block k hk (by simp)⟩ (.inr ?_)
      rcases hown.2 with ⟨hv, hn⟩ | ⟨g, cap, cur, hv, hgb, _⟩
      · omega
      · refine ⟨g, by rw [hv]; rfl, ?_⟩
        simp at hgb
        omega
end
end Go.Proofs.Ytmgkfklkdedpgaa.Mine
