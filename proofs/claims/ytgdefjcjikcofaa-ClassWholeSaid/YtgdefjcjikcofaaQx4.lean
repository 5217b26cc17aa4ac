/- Functions of the translation as plain Lean functions, each with a proof that the Go code comes to its answers, wherever the function has one; no other condition. Written by this session's own program (wip/myprint.py). -/
import Derived.Test.YtgdefjcjikcofaaQx0
namespace Go.Proofs.Ytgdefjcjikcofaa.Q
open Go.RowKit Go.Proofs.Ytgdefjcjikcofaa.Mine Go.Proofs.YtgdefjcjikcofaaW.PrintWords Go.Proofs.YtgdefjcjikcofaaW.PrintLast Go.Proofs.YtgdefjcjikcofaaW.PrintMore
attribute [local go_sem] max2_int min2_int max_two min_two max_three min_three max_four min_four   -- for this text's walks alone
set_option linter.unusedVariables false
set_option linter.unusedSimpArgs false

/-! ### class_ranges: function 23 -/
open Go.ChangeMaps (setBlock)
set_option linter.unusedVariables false
/-- two arrays of two whole numbers, compared -/
theorem run_eq2 {P : Program} (w : World) (d : Nat) (t e : TypeId) (k : IntKind) (i : TypeInfo) (a0 a1 b0 b1 : Int) (ht : P.underlying t = some (.array 2 e)) (he : P.underlying e = some (.int k)) (hi : P.info? e = some i) (hk : P.plainKey e = true) (hc : P.cellsOf e = 1) :
    (Op.equalIn (d + 2) t (.agg #[.int k a0, .int k a1]) (.agg #[.int k b0, .int k b1])).run P w = .ok (decide (a0 = b0 ∧ a1 = b1)) w := by
  have q : ∀ (xs : Array Value) (off : Nat) (v : Value) (w : World), xs[off]? = some v → (part e xs off).run P w = .ok v w := fun xs off v w h => run_part_plain w hk h
  have g : ∀ (a b : Int) (w : World), (Op.equalIn (d + 1) e (.int k a) (.int k b)).run P w = .ok (a == b) w := fun a b w => run_equalIn_int w _ _ _ _ _ _ he
  have e3 : List.range 2 = [0, 1] := rfl
  rw [run_equalIn_array w (d + 1) _ _ ht hi, hc, e3]
  have aa0 := fun w => q #[.int k a0, .int k a1] 0 (.int k a0) w rfl
  have aa1 := fun w => q #[.int k a0, .int k a1] 1 (.int k a1) w rfl
  have bb0 := fun w => q #[.int k b0, .int k b1] 0 (.int k b0) w rfl
  have bb1 := fun w => q #[.int k b0, .int k b1] 1 (.int k b1) w rfl
  clear q
  simp only [Op.eqItems, Sem.run_bind, Nat.mul_one, aa0, bb0, g, Result.andThen_ok]
  by_cases c0 : a0 = b0
  case neg => simp [c0]
  subst c0
  simp only [beq_self_eq_true, Bool.not_true, Bool.false_eq_true, if_false, Sem.run_bind, aa1, bb1, g, Result.andThen_ok]
  by_cases c1 : a1 = b1 <;> simp [c1]
/-- an entry of the table: the first and the last rune of a range, and its class -/
def ent (n : Nat) (x : Int × Int × Int) : MapEntry := { key := .agg #[.int .i32 x.1, .int .i32 x.2.1], val := .int .i64 x.2.2, born := n }
def ents : Nat → List (Int × Int × Int) → List MapEntry
  | _, [] => []
  | n, x :: l => ent n x :: ents (n + 1) l
theorem ents_snoc (x : Int × Int × Int) : ∀ (l : List (Int × Int × Int)) (n : Nat), ents n (l ++ [x]) = ents n l ++ [ent (n + l.length) x]
  | [], n => rfl
  | y :: l, n => by
    show ent n y :: ents (n + 1) (l ++ [x]) = ent n y :: ents (n + 1) l ++ [_]
    rw [ents_snoc x l (n + 1)]
    simp [Nat.add_comm, Nat.add_left_comm]
theorem find_none (w : World) (a b : Int) : ∀ (l : List (Int × Int × Int)) (n i : Nat), (∀ x ∈ l, ¬ (a = x.1 ∧ b = x.2.1)) →
    (Instr.findAsking 35 (.agg #[.int .i32 a, .int .i32 b]) (ents n l) i).run Try.prog w = .ok none w
  | [], n, i, _ => rfl
  | x :: l, n, i, h => by
    have h1 : (Op.equal 35 (.agg #[.int .i32 a, .int .i32 b]) (ent n x).key).run Try.prog w = .ok false w := by
      have := run_eq2 w 9998 35 21 .i32 _ a b x.1 x.2.1 Try.underlying35 Try.underlying21 (show Try.prog.info? 21 = some _ from rfl) (by kernel_rfl) (by kernel_rfl)
      rw [decide_eq_false (h x List.mem_cons_self)] at this
      exact this
    show (Instr.findAsking 35 (.agg #[.int .i32 a, .int .i32 b]) (ent n x :: ents (n + 1) l) i).run Try.prog w = _
    simp only [Instr.findAsking, Sem.run_bind, h1, Result.andThen_ok, Bool.false_eq_true, if_false]
    exact find_none w a b l (n + 1) (i + 1) (fun y hy => h y (List.mem_cons_of_mem _ hy))
theorem check_one (n : Nat) (v : Int) (w : World) : (Instr.checkKey false (n + 1) 21 (.int .i32 v)).run Try.prog w = .ok () w := by
  simp [Instr.checkKey, run_underlying Try.underlying21]
theorem check_two (n : Nat) (w : World) (a b : Int) : (Instr.checkKey false (n + 2) 35 (.agg #[.int .i32 a, .int .i32 b])).run Try.prog w = .ok () w := by
  have q : ∀ (xs : Array Value) (off : Nat) (v : Value) (w : World), xs[off]? = some v → (part 21 xs off).run Try.prog w = .ok v w := fun xs off v w h => run_part_plain w (by kernel_rfl) h
  have hsz : ∀ w : World, (sizeOf 21).run Try.prog w = .ok 1 w := fun w => run_sizeOf (P := Try.prog) w (show Try.prog.info? 21 = some _ from rfl)
  have aa0 := fun w => q #[.int .i32 a, .int .i32 b] 0 (.int .i32 a) w rfl
  have aa1 := fun w => q #[.int .i32 a, .int .i32 b] 1 (.int .i32 b) w rfl
  clear q
  simp [Instr.checkKey, run_underlying Try.underlying35, Std.Legacy.Range.forIn_eq_forIn_range', Std.Legacy.Range.size, List.range', hsz, aa0, aa1, check_one]
theorem check_ok (w : World) (a b : Int) : (Instr.checkKey false 10000 35 (.agg #[.int .i32 a, .int .i32 b])).run Try.prog w = .ok () w := check_two 9998 w a b
/-- one more entry -/
theorem run_ins (w : World) (g : Nat) (l : List (Int × Int × Int)) (x : Int × Int × Int) (hg : w.heap[g]? = some (.map (ents 0 l).toArray l.length)) (hx : ∀ y ∈ l, ¬ (x.1 = y.1 ∧ x.2.1 = y.2.1)) :
    (Instr.mapUpdate 33 (.map (some g)) (.agg #[.int .i32 x.1, .int .i32 x.2.1]) (.int .i64 x.2.2)).run Try.prog w = .ok () (setBlock w g (.map (ents 0 (l ++ [x])).toArray (l ++ [x]).length)) := by
  have hf := find_none w x.1 x.2.1 l 0 0 hx
  have hf2 := (run_findKey_eq (P := Try.prog) w (k := 35) (by kernel_rfl) (.agg #[.int .i32 x.1, .int .i32 x.2.1]) (ents 0 l)).trans hf
  clear hf
  simp [Instr.mapUpdate, run_underlying Try.underlying33, MapKept.run_getObj_map hg, check_ok, hf2, MapKept.run_setObj_map _ hg, Result.andThen, ents_snoc, ent, setBlock]
def RT : List (Int × Int × Int) := [(0, 31, 1), (127, 159, 1), (1564, 1564, 2), (8206, 8207, 2), (8234, 8238, 2), (8294, 8297, 2), (64976, 65007, 3), (32, 32, 4), (160, 160, 4), (5760, 5760, 4), (8192, 8202, 4), (8232, 8233, 4), (8239, 8239, 4), (8287, 8287, 4), (12288, 12288, 4)]
def rangesT : Bool × List (List Nat × List Nat) := (true, [([], []), ([], []), ([0, 1], [0, 1]), ([], []), ([0, 3], [0, 3]), ([], []), ([0, 5], [0, 5]), ([], []), ([0, 7], [0, 7]), ([], []), ([0, 9], [0, 9]), ([], []), ([0, 11], [0, 11]), ([], []), ([0, 13], [0, 13]), ([], []), ([0, 15], [0, 15]), ([], []), ([0, 17], [0, 17]), ([], []), ([0, 19], [0, 19]), ([], []), ([0, 21], [0, 21]), ([], []), ([0, 23], [0, 23]), ([], []), ([0, 25], [0, 25]), ([], []), ([0, 27], [0, 27]), ([], []), ([0, 29], [0, 29]), ([0, 1, 2, 3, 4, 5, 6, 7, 8, 9, 10, 11, 12, 13, 14, 15, 16, 17, 18, 19, 20, 21, 22, 23, 24, 25, 26, 27, 28, 29, 30], [0]), ([31, 0, 1, 2, 3, 4, 5, 6, 7, 8, 9, 10, 11, 12, 13, 14, 15, 16, 17, 18, 19, 20, 21, 22, 23, 24, 25, 26, 27, 28, 29, 30, 31], [31])])
def rangesB : List Nat := [0, 0, 0, 0, 0, 0, 0, 0, 0, 0, 0, 0, 0, 0, 0, 0, 0, 0, 0, 0, 0, 0, 0, 0, 0, 0, 0, 0, 0, 0, 0, 0, 2147483648]
theorem ranges_tab : rtab .any (opsOf Try.f23 1) = rangesT := by kernel_rfl
theorem RT_keys : ∀ x ∈ RT, ∀ y ∈ RT, (x.1 = y.1 ∧ x.2.1 = y.2.1) → x = y := by decide
theorem RT_nodup : RT.Nodup := by decide
/-- how the table stands while it is laid, in whatever order -/
def RI (g : Nat) (w0 : World) (a0 : Act) (b : Nat → Bool) (a : Act) (w : World) : Prop :=
  a = (if b 32 = true then (a0.put (some 17) (.map (some g))).put (some 0) (.map (some g)) else if b 31 = true then a0.put (some 17) (.map (some g)) else a0) ∧ (b 32 = true → b 31 = true) ∧
  ∃ L, w.heap[g]? = some (.map (ents 0 L).toArray L.length) ∧ (∀ x ∈ L, x ∈ RT) ∧ (∀ j x, RT[j]? = some x → (b (2 * j + 2) = true ↔ x ∈ L)) ∧ Below w0.heap.size w0 w
theorem RT_lt {j : Nat} {x : Int × Int × Int} (h : RT[j]? = some x) : j < 15 := (List.getElem?_eq_some_iff.1 h).1
theorem RI_ins {g : Nat} {w0 : World} {a0 : Act} {b : Nat → Bool} {a : Act} {w : World} (h : RI g w0 a0 b a w) (hg0 : w0.heap.size ≤ g) (j : Nat) (x : Int × Int × Int) (hj : RT[j]? = some x) (hb : b (2 * j + 2) = false) :
    ∃ w1, (Instr.mapUpdate 33 (.map (some g)) (.agg #[.int .i32 x.1, .int .i32 x.2.1]) (.int .i64 x.2.2)).run Try.prog w = .ok () w1 ∧ RI g w0 a0 (up b (2 * j + 2)) a w1 := by
  obtain ⟨ha, h32, L, hg, hL, hd, hB⟩ := h
  have hj15 := RT_lt hj
  have hxL : x ∉ L := fun hx => by
    have := (hd j x hj).2 hx
    rw [hb] at this
    cases this
  have hxR : x ∈ RT := List.mem_of_getElem? hj
  refine ⟨_, run_ins w g L x hg (fun y hy e => hxL ?_), ?_, ?_, L ++ [x], ?_, ?_, ?_, ?_⟩
  · rw [RT_keys x hxR y (hL y hy) e]; exact hy
  · rw [up_ne (show 32 ≠ 2 * j + 2 by omega), up_ne (show 31 ≠ 2 * j + 2 by omega)]
    exact ha
  · rw [up_ne (show 32 ≠ 2 * j + 2 by omega), up_ne (show 31 ≠ 2 * j + 2 by omega)]
    exact h32
  · have hlt := blk_lt hg
    simp [setBlock, hlt]
  · intro y hy
    rcases List.mem_append.1 hy with hy | hy
    · exact hL y hy
    · rw [List.mem_singleton.1 hy]; exact hxR
  · intro j' y hj'
    by_cases e : j' = j
    · subst e
      have : x = y := Option.some.inj (hj.symm.trans hj')
      subst this
      simp [up_self]
    · rw [up_ne (show 2 * j' + 2 ≠ 2 * j + 2 by omega), hd j' y hj', List.mem_append, List.mem_singleton]
      constructor
      · exact Or.inl
      · rintro (h | rfl)
        · exact h
        · exact absurd ((List.getElem?_inj (RT_lt hj') RT_nodup).1 (hj'.trans hj.symm)) e
  · exact hB.trans ⟨rfl, rfl, rfl, by simp [setBlock], fun k hk => by simp [setBlock, show g ≠ k by omega]⟩
set_option maxHeartbeats 4000000 in
set_option maxRecDepth 100000 in
/-- the table of ranges: a map of the call's own, its entries in whatever order -/
theorem class_ranges.calls (w : World) : Calls Try.prog 23 #[] w fun e w' => ∃ g L, e = .returned (.map (some g)) ∧ w'.heap[g]? = some (.map (ents 0 L).toArray L.length) ∧ (∀ x, x ∈ L ↔ x ∈ RT) ∧ w.heap.size ≤ g ∧ Below w.heap.size w w' := by
  go_enter Try.func23, Try.ntmps23
  go_wp2_with fail
  refine start_ (n := 33) (S := fun _ => True) (ds := []) #[false, false, false, false, false, false, false, false, false, false, false, false, false, false, false, false, false, false, false, false, false, false, false, false, false, false, false, false, false, false, false, false, false] (by kernel_rfl) rfl rfl trivial (fun hHeld => ?_)
  have HB := Aside0.mk ((Below.refl w.heap.size w).drew)
  generalize w.drew = w2 at HB ⊢
  refine pure_ (i := 1) (N := some 2) (v := ?_) (a' := ?_) #[false, true, false, false, false, false, false, false, false, false, false, false, false, false, false, false, false, false, false, false, false, false, false, false, false, false, false, false, false, false, false, false, false] rfl rfl (by kernel_rfl) (fun _ _ _ h => h) (Or.inl ⟨by rfl, ?_⟩) ?_ ?_
  rotate_left
  · intro w'
    go_simp
    with_reducible rfl
  rotate_left
  · simp only [Act.put, List.setIfInBounds_toArray, List.set_cons_zero, List.set_cons_succ]
    rfl
  refine pure_ (i := 3) (N := some 3) (v := ?_) (a' := ?_) #[false, true, false, true, false, false, false, false, false, false, false, false, false, false, false, false, false, false, false, false, false, false, false, false, false, false, false, false, false, false, false, false, false] rfl rfl (by kernel_rfl) (fun _ _ _ h => h) (Or.inl ⟨by rfl, ?_⟩) ?_ ?_
  rotate_left
  · intro w'
    go_simp
    with_reducible rfl
  rotate_left
  · simp only [Act.put, List.setIfInBounds_toArray, List.set_cons_zero, List.set_cons_succ]
    rfl
  refine pure_ (i := 5) (N := some 4) (v := ?_) (a' := ?_) #[false, true, false, true, false, true, false, false, false, false, false, false, false, false, false, false, false, false, false, false, false, false, false, false, false, false, false, false, false, false, false, false, false] rfl rfl (by kernel_rfl) (fun _ _ _ h => h) (Or.inl ⟨by rfl, ?_⟩) ?_ ?_
  rotate_left
  · intro w'
    go_simp
    with_reducible rfl
  rotate_left
  · simp only [Act.put, List.setIfInBounds_toArray, List.set_cons_zero, List.set_cons_succ]
    rfl
  refine pure_ (i := 7) (N := some 5) (v := ?_) (a' := ?_) #[false, true, false, true, false, true, false, true, false, false, false, false, false, false, false, false, false, false, false, false, false, false, false, false, false, false, false, false, false, false, false, false, false] rfl rfl (by kernel_rfl) (fun _ _ _ h => h) (Or.inl ⟨by rfl, ?_⟩) ?_ ?_
  rotate_left
  · intro w'
    go_simp
    with_reducible rfl
  rotate_left
  · simp only [Act.put, List.setIfInBounds_toArray, List.set_cons_zero, List.set_cons_succ]
    rfl
  refine pure_ (i := 9) (N := some 6) (v := ?_) (a' := ?_) #[false, true, false, true, false, true, false, true, false, true, false, false, false, false, false, false, false, false, false, false, false, false, false, false, false, false, false, false, false, false, false, false, false] rfl rfl (by kernel_rfl) (fun _ _ _ h => h) (Or.inl ⟨by rfl, ?_⟩) ?_ ?_
  rotate_left
  · intro w'
    go_simp
    with_reducible rfl
  rotate_left
  · simp only [Act.put, List.setIfInBounds_toArray, List.set_cons_zero, List.set_cons_succ]
    rfl
  refine pure_ (i := 11) (N := some 7) (v := ?_) (a' := ?_) #[false, true, false, true, false, true, false, true, false, true, false, true, false, false, false, false, false, false, false, false, false, false, false, false, false, false, false, false, false, false, false, false, false] rfl rfl (by kernel_rfl) (fun _ _ _ h => h) (Or.inl ⟨by rfl, ?_⟩) ?_ ?_
  rotate_left
  · intro w'
    go_simp
    with_reducible rfl
  rotate_left
  · simp only [Act.put, List.setIfInBounds_toArray, List.set_cons_zero, List.set_cons_succ]
    rfl
  refine pure_ (i := 13) (N := some 8) (v := ?_) (a' := ?_) #[false, true, false, true, false, true, false, true, false, true, false, true, false, true, false, false, false, false, false, false, false, false, false, false, false, false, false, false, false, false, false, false, false] rfl rfl (by kernel_rfl) (fun _ _ _ h => h) (Or.inl ⟨by rfl, ?_⟩) ?_ ?_
  rotate_left
  · intro w'
    go_simp
    with_reducible rfl
  rotate_left
  · simp only [Act.put, List.setIfInBounds_toArray, List.set_cons_zero, List.set_cons_succ]
    rfl
  refine pure_ (i := 15) (N := some 9) (v := ?_) (a' := ?_) #[false, true, false, true, false, true, false, true, false, true, false, true, false, true, false, true, false, false, false, false, false, false, false, false, false, false, false, false, false, false, false, false, false] rfl rfl (by kernel_rfl) (fun _ _ _ h => h) (Or.inl ⟨by rfl, ?_⟩) ?_ ?_
  rotate_left
  · intro w'
    go_simp
    with_reducible rfl
  rotate_left
  · simp only [Act.put, List.setIfInBounds_toArray, List.set_cons_zero, List.set_cons_succ]
    rfl
  refine pure_ (i := 17) (N := some 10) (v := ?_) (a' := ?_) #[false, true, false, true, false, true, false, true, false, true, false, true, false, true, false, true, false, true, false, false, false, false, false, false, false, false, false, false, false, false, false, false, false] rfl rfl (by kernel_rfl) (fun _ _ _ h => h) (Or.inl ⟨by rfl, ?_⟩) ?_ ?_
  rotate_left
  · intro w'
    go_simp
    with_reducible rfl
  rotate_left
  · simp only [Act.put, List.setIfInBounds_toArray, List.set_cons_zero, List.set_cons_succ]
    rfl
  refine pure_ (i := 19) (N := some 11) (v := ?_) (a' := ?_) #[false, true, false, true, false, true, false, true, false, true, false, true, false, true, false, true, false, true, false, true, false, false, false, false, false, false, false, false, false, false, false, false, false] rfl rfl (by kernel_rfl) (fun _ _ _ h => h) (Or.inl ⟨by rfl, ?_⟩) ?_ ?_
  rotate_left
  · intro w'
    go_simp
    with_reducible rfl
  rotate_left
  · simp only [Act.put, List.setIfInBounds_toArray, List.set_cons_zero, List.set_cons_succ]
    rfl
  refine pure_ (i := 21) (N := some 12) (v := ?_) (a' := ?_) #[false, true, false, true, false, true, false, true, false, true, false, true, false, true, false, true, false, true, false, true, false, true, false, false, false, false, false, false, false, false, false, false, false] rfl rfl (by kernel_rfl) (fun _ _ _ h => h) (Or.inl ⟨by rfl, ?_⟩) ?_ ?_
  rotate_left
  · intro w'
    go_simp
    with_reducible rfl
  rotate_left
  · simp only [Act.put, List.setIfInBounds_toArray, List.set_cons_zero, List.set_cons_succ]
    rfl
  refine pure_ (i := 23) (N := some 13) (v := ?_) (a' := ?_) #[false, true, false, true, false, true, false, true, false, true, false, true, false, true, false, true, false, true, false, true, false, true, false, true, false, false, false, false, false, false, false, false, false] rfl rfl (by kernel_rfl) (fun _ _ _ h => h) (Or.inl ⟨by rfl, ?_⟩) ?_ ?_
  rotate_left
  · intro w'
    go_simp
    with_reducible rfl
  rotate_left
  · simp only [Act.put, List.setIfInBounds_toArray, List.set_cons_zero, List.set_cons_succ]
    rfl
  refine pure_ (i := 25) (N := some 14) (v := ?_) (a' := ?_) #[false, true, false, true, false, true, false, true, false, true, false, true, false, true, false, true, false, true, false, true, false, true, false, true, false, true, false, false, false, false, false, false, false] rfl rfl (by kernel_rfl) (fun _ _ _ h => h) (Or.inl ⟨by rfl, ?_⟩) ?_ ?_
  rotate_left
  · intro w'
    go_simp
    with_reducible rfl
  rotate_left
  · simp only [Act.put, List.setIfInBounds_toArray, List.set_cons_zero, List.set_cons_succ]
    rfl
  refine pure_ (i := 27) (N := some 15) (v := ?_) (a' := ?_) #[false, true, false, true, false, true, false, true, false, true, false, true, false, true, false, true, false, true, false, true, false, true, false, true, false, true, false, true, false, false, false, false, false] rfl rfl (by kernel_rfl) (fun _ _ _ h => h) (Or.inl ⟨by rfl, ?_⟩) ?_ ?_
  rotate_left
  · intro w'
    go_simp
    with_reducible rfl
  rotate_left
  · simp only [Act.put, List.setIfInBounds_toArray, List.set_cons_zero, List.set_cons_succ]
    rfl
  refine pure_ (i := 29) (N := some 16) (v := ?_) (a' := ?_) #[false, true, false, true, false, true, false, true, false, true, false, true, false, true, false, true, false, true, false, true, false, true, false, true, false, true, false, true, false, true, false, false, false] rfl rfl (by kernel_rfl) (fun _ _ _ h => h) (Or.inl ⟨by rfl, ?_⟩) ?_ ?_
  rotate_left
  · intro w'
    go_simp
    with_reducible rfl
  rotate_left
  · simp only [Act.put, List.setIfInBounds_toArray, List.set_cons_zero, List.set_cons_succ]
    rfl
  refine one_ (i := 0) (N := some 1) #[true, true, false, true, false, true, false, true, false, true, false, true, false, true, false, true, false, true, false, true, false, true, false, true, false, true, false, true, false, true, false, false, false] rfl rfl (by kernel_rfl) (by decide) (fun K hK => ?_)
  refine value_ (by rfl) rfl (v := .map (some w2.heap.size)) (w1 := w2.alloc (.map #[] 0)) (by first | (go_simp; done) | (go_simp; rfl)) ?_
  refine hK.out _ _ trivial (fun hHeld => ?_)
  clear hK K
  refine norm_ (a' := ?_) ?_ ?_
  rotate_left
  · show Act.put _ (some 1) _ = _
    simp only [Act.put, List.setIfInBounds_toArray, List.set_cons_zero, List.set_cons_succ]
    rfl
  have HG := Aside0.mk (show w.heap.size ≤ w2.heap.size from HB.out.size)
  have HB3 := Aside0.mk ((Below.refl w2.heap.size w2).alloc (Nat.le_refl _) (.map #[] 0))
  refine inv_at (T := rangesT) (B := rangesB) [2, 4, 6, 8, 10, 12, 14, 16, 18, 20, 22, 24, 26, 28, 30, 31, 32] (RI w2.heap.size w2) ranges_tab (by kernel_rfl) (by kernel_rfl) (by kernel_rfl) ?first ?steps ?last
  case first =>
    refine ⟨rfl, ?_, [], ?_, ?_, ?_, HB3.out⟩
    · intro h; simp at h
    · simpa [ents] using heap_alloc_new w2 (.map #[] 0)
    · intro x hx; simp at hx
    · intro j x hj; simp
  case steps =>
    refine steps_cons (fun b a' w' hI hb h1 h2 => ⟨_, rfl, fun K hK => ?_⟩) ?_
    · obtain ⟨w1, hrun, hI1⟩ := RI_ins hI (Nat.le_refl _) 0 (0, 31, 1) rfl hb
      have e1 : a'.eval (.tmp 1) = .map (some w2.heap.size) := by rw [hI.1]; (repeat' split) <;> rfl
      have e2 : a'.eval (.tmp 2) = .agg #[.int .i32 0, .int .i32 31] := by rw [hI.1]; (repeat' split) <;> rfl
      have e3 : a'.eval (.const (.int .i64 1)) = .int .i64 1 := rfl
      refine skip_ (by rfl) rfl (w1 := w1) ?_ (hK.out _ _ hI1)
      simp [execOp]
      rw [e1, e2, e3, hrun]
      rfl
    refine steps_cons (fun b a' w' hI hb h1 h2 => ⟨_, rfl, fun K hK => ?_⟩) ?_
    · obtain ⟨w1, hrun, hI1⟩ := RI_ins hI (Nat.le_refl _) 1 (127, 159, 1) rfl hb
      have e1 : a'.eval (.tmp 1) = .map (some w2.heap.size) := by rw [hI.1]; (repeat' split) <;> rfl
      have e2 : a'.eval (.tmp 3) = .agg #[.int .i32 127, .int .i32 159] := by rw [hI.1]; (repeat' split) <;> rfl
      have e3 : a'.eval (.const (.int .i64 1)) = .int .i64 1 := rfl
      refine skip_ (by rfl) rfl (w1 := w1) ?_ (hK.out _ _ hI1)
      simp [execOp]
      rw [e1, e2, e3, hrun]
      rfl
    refine steps_cons (fun b a' w' hI hb h1 h2 => ⟨_, rfl, fun K hK => ?_⟩) ?_
    · obtain ⟨w1, hrun, hI1⟩ := RI_ins hI (Nat.le_refl _) 2 (1564, 1564, 2) rfl hb
      have e1 : a'.eval (.tmp 1) = .map (some w2.heap.size) := by rw [hI.1]; (repeat' split) <;> rfl
      have e2 : a'.eval (.tmp 4) = .agg #[.int .i32 1564, .int .i32 1564] := by rw [hI.1]; (repeat' split) <;> rfl
      have e3 : a'.eval (.const (.int .i64 2)) = .int .i64 2 := rfl
      refine skip_ (by rfl) rfl (w1 := w1) ?_ (hK.out _ _ hI1)
      simp [execOp]
      rw [e1, e2, e3, hrun]
      rfl
    refine steps_cons (fun b a' w' hI hb h1 h2 => ⟨_, rfl, fun K hK => ?_⟩) ?_
    · obtain ⟨w1, hrun, hI1⟩ := RI_ins hI (Nat.le_refl _) 3 (8206, 8207, 2) rfl hb
      have e1 : a'.eval (.tmp 1) = .map (some w2.heap.size) := by rw [hI.1]; (repeat' split) <;> rfl
      have e2 : a'.eval (.tmp 5) = .agg #[.int .i32 8206, .int .i32 8207] := by rw [hI.1]; (repeat' split) <;> rfl
      have e3 : a'.eval (.const (.int .i64 2)) = .int .i64 2 := rfl
      refine skip_ (by rfl) rfl (w1 := w1) ?_ (hK.out _ _ hI1)
      simp [execOp]
      rw [e1, e2, e3, hrun]
      rfl
    refine steps_cons (fun b a' w' hI hb h1 h2 => ⟨_, rfl, fun K hK => ?_⟩) ?_
    · obtain ⟨w1, hrun, hI1⟩ := RI_ins hI (Nat.le_refl _) 4 (8234, 8238, 2) rfl hb
      have e1 : a'.eval (.tmp 1) = .map (some w2.heap.size) := by rw [hI.1]; (repeat' split) <;> rfl
      have e2 : a'.eval (.tmp 6) = .agg #[.int .i32 8234, .int .i32 8238] := by rw [hI.1]; (repeat' split) <;> rfl
      have e3 : a'.eval (.const (.int .i64 2)) = .int .i64 2 := rfl
      refine skip_ (by rfl) rfl (w1 := w1) ?_ (hK.out _ _ hI1)
      simp [execOp]
      rw [e1, e2, e3, hrun]
      rfl
    refine steps_cons (fun b a' w' hI hb h1 h2 => ⟨_, rfl, fun K hK => ?_⟩) ?_
    · obtain ⟨w1, hrun, hI1⟩ := RI_ins hI (Nat.le_refl _) 5 (8294, 8297, 2) rfl hb
      have e1 : a'.eval (.tmp 1) = .map (some w2.heap.size) := by rw [hI.1]; (repeat' split) <;> rfl
      have e2 : a'.eval (.tmp 7) = .agg #[.int .i32 8294, .int .i32 8297] := by rw [hI.1]; (repeat' split) <;> rfl
      have e3 : a'.eval (.const (.int .i64 2)) = .int .i64 2 := rfl
      refine skip_ (by rfl) rfl (w1 := w1) ?_ (hK.out _ _ hI1)
      simp [execOp]
      rw [e1, e2, e3, hrun]
      rfl
    refine steps_cons (fun b a' w' hI hb h1 h2 => ⟨_, rfl, fun K hK => ?_⟩) ?_
    · obtain ⟨w1, hrun, hI1⟩ := RI_ins hI (Nat.le_refl _) 6 (64976, 65007, 3) rfl hb
      have e1 : a'.eval (.tmp 1) = .map (some w2.heap.size) := by rw [hI.1]; (repeat' split) <;> rfl
      have e2 : a'.eval (.tmp 8) = .agg #[.int .i32 64976, .int .i32 65007] := by rw [hI.1]; (repeat' split) <;> rfl
      have e3 : a'.eval (.const (.int .i64 3)) = .int .i64 3 := rfl
      refine skip_ (by rfl) rfl (w1 := w1) ?_ (hK.out _ _ hI1)
      simp [execOp]
      rw [e1, e2, e3, hrun]
      rfl
    refine steps_cons (fun b a' w' hI hb h1 h2 => ⟨_, rfl, fun K hK => ?_⟩) ?_
    · obtain ⟨w1, hrun, hI1⟩ := RI_ins hI (Nat.le_refl _) 7 (32, 32, 4) rfl hb
      have e1 : a'.eval (.tmp 1) = .map (some w2.heap.size) := by rw [hI.1]; (repeat' split) <;> rfl
      have e2 : a'.eval (.tmp 9) = .agg #[.int .i32 32, .int .i32 32] := by rw [hI.1]; (repeat' split) <;> rfl
      have e3 : a'.eval (.const (.int .i64 4)) = .int .i64 4 := rfl
      refine skip_ (by rfl) rfl (w1 := w1) ?_ (hK.out _ _ hI1)
      simp [execOp]
      rw [e1, e2, e3, hrun]
      rfl
    refine steps_cons (fun b a' w' hI hb h1 h2 => ⟨_, rfl, fun K hK => ?_⟩) ?_
    · obtain ⟨w1, hrun, hI1⟩ := RI_ins hI (Nat.le_refl _) 8 (160, 160, 4) rfl hb
      have e1 : a'.eval (.tmp 1) = .map (some w2.heap.size) := by rw [hI.1]; (repeat' split) <;> rfl
      have e2 : a'.eval (.tmp 10) = .agg #[.int .i32 160, .int .i32 160] := by rw [hI.1]; (repeat' split) <;> rfl
      have e3 : a'.eval (.const (.int .i64 4)) = .int .i64 4 := rfl
      refine skip_ (by rfl) rfl (w1 := w1) ?_ (hK.out _ _ hI1)
      simp [execOp]
      rw [e1, e2, e3, hrun]
      rfl
    refine steps_cons (fun b a' w' hI hb h1 h2 => ⟨_, rfl, fun K hK => ?_⟩) ?_
    · obtain ⟨w1, hrun, hI1⟩ := RI_ins hI (Nat.le_refl _) 9 (5760, 5760, 4) rfl hb
      have e1 : a'.eval (.tmp 1) = .map (some w2.heap.size) := by rw [hI.1]; (repeat' split) <;> rfl
      have e2 : a'.eval (.tmp 11) = .agg #[.int .i32 5760, .int .i32 5760] := by rw [hI.1]; (repeat' split) <;> rfl
      have e3 : a'.eval (.const (.int .i64 4)) = .int .i64 4 := rfl
      refine skip_ (by rfl) rfl (w1 := w1) ?_ (hK.out _ _ hI1)
      simp [execOp]
      rw [e1, e2, e3, hrun]
      rfl
    refine steps_cons (fun b a' w' hI hb h1 h2 => ⟨_, rfl, fun K hK => ?_⟩) ?_
    · obtain ⟨w1, hrun, hI1⟩ := RI_ins hI (Nat.le_refl _) 10 (8192, 8202, 4) rfl hb
      have e1 : a'.eval (.tmp 1) = .map (some w2.heap.size) := by rw [hI.1]; (repeat' split) <;> rfl
      have e2 : a'.eval (.tmp 12) = .agg #[.int .i32 8192, .int .i32 8202] := by rw [hI.1]; (repeat' split) <;> rfl
      have e3 : a'.eval (.const (.int .i64 4)) = .int .i64 4 := rfl
      refine skip_ (by rfl) rfl (w1 := w1) ?_ (hK.out _ _ hI1)
      simp [execOp]
      rw [e1, e2, e3, hrun]
      rfl
    refine steps_cons (fun b a' w' hI hb h1 h2 => ⟨_, rfl, fun K hK => ?_⟩) ?_
    · obtain ⟨w1, hrun, hI1⟩ := RI_ins hI (Nat.le_refl _) 11 (8232, 8233, 4) rfl hb
      have e1 : a'.eval (.tmp 1) = .map (some w2.heap.size) := by rw [hI.1]; (repeat' split) <;> rfl
      have e2 : a'.eval (.tmp 13) = .agg #[.int .i32 8232, .int .i32 8233] := by rw [hI.1]; (repeat' split) <;> rfl
      have e3 : a'.eval (.const (.int .i64 4)) = .int .i64 4 := rfl
      refine skip_ (by rfl) rfl (w1 := w1) ?_ (hK.out _ _ hI1)
      simp [execOp]
      rw [e1, e2, e3, hrun]
      rfl
    refine steps_cons (fun b a' w' hI hb h1 h2 => ⟨_, rfl, fun K hK => ?_⟩) ?_
    · obtain ⟨w1, hrun, hI1⟩ := RI_ins hI (Nat.le_refl _) 12 (8239, 8239, 4) rfl hb
      have e1 : a'.eval (.tmp 1) = .map (some w2.heap.size) := by rw [hI.1]; (repeat' split) <;> rfl
      have e2 : a'.eval (.tmp 14) = .agg #[.int .i32 8239, .int .i32 8239] := by rw [hI.1]; (repeat' split) <;> rfl
      have e3 : a'.eval (.const (.int .i64 4)) = .int .i64 4 := rfl
      refine skip_ (by rfl) rfl (w1 := w1) ?_ (hK.out _ _ hI1)
      simp [execOp]
      rw [e1, e2, e3, hrun]
      rfl
    refine steps_cons (fun b a' w' hI hb h1 h2 => ⟨_, rfl, fun K hK => ?_⟩) ?_
    · obtain ⟨w1, hrun, hI1⟩ := RI_ins hI (Nat.le_refl _) 13 (8287, 8287, 4) rfl hb
      have e1 : a'.eval (.tmp 1) = .map (some w2.heap.size) := by rw [hI.1]; (repeat' split) <;> rfl
      have e2 : a'.eval (.tmp 15) = .agg #[.int .i32 8287, .int .i32 8287] := by rw [hI.1]; (repeat' split) <;> rfl
      have e3 : a'.eval (.const (.int .i64 4)) = .int .i64 4 := rfl
      refine skip_ (by rfl) rfl (w1 := w1) ?_ (hK.out _ _ hI1)
      simp [execOp]
      rw [e1, e2, e3, hrun]
      rfl
    refine steps_cons (fun b a' w' hI hb h1 h2 => ⟨_, rfl, fun K hK => ?_⟩) ?_
    · obtain ⟨w1, hrun, hI1⟩ := RI_ins hI (Nat.le_refl _) 14 (12288, 12288, 4) rfl hb
      have e1 : a'.eval (.tmp 1) = .map (some w2.heap.size) := by rw [hI.1]; (repeat' split) <;> rfl
      have e2 : a'.eval (.tmp 16) = .agg #[.int .i32 12288, .int .i32 12288] := by rw [hI.1]; (repeat' split) <;> rfl
      have e3 : a'.eval (.const (.int .i64 4)) = .int .i64 4 := rfl
      refine skip_ (by rfl) rfl (w1 := w1) ?_ (hK.out _ _ hI1)
      simp [execOp]
      rw [e1, e2, e3, hrun]
      rfl
    refine steps_cons (fun b a' w' hI hb h1 h2 => ⟨_, rfl, fun K hK => ?_⟩) ?_
    · obtain ⟨ha, h32, L, hg, hL, hd, hB⟩ := hI
      have hb32 : b 32 = false := by
        cases h : b 32
        · rfl
        · rw [h32 h] at hb; cases hb
      have e1 : a'.eval (.tmp 1) = .map (some w2.heap.size) := by rw [ha]; (repeat' split) <;> rfl
      refine value_ (by rfl) rfl (v := .map (some w2.heap.size)) (w1 := w') (by simp [execOp, e1]) (hK.out _ _ ⟨?_, ?_, L, hg, hL, ?_, hB⟩)
      · rw [ha, hb32, hb, up_ne (show 32 ≠ 31 by decide), hb32, up_self]
        rfl
      · intro _; exact up_self _ _
      · intro j x hj
        rw [up_ne (by omega)]
        exact hd j x hj
    refine steps_cons (fun b a' w' hI hb h1 h2 => ⟨_, rfl, fun K hK => ?_⟩) steps_nil
    · obtain ⟨ha, h32, L, hg, hL, hd, hB⟩ := hI
      have hb31 : b 31 = true := h1 31 (by decide)
      rw [if_neg (by rw [hb]; simp), if_pos hb31] at ha
      have e1 : a'.eval (.tmp 17) = .map (some w2.heap.size) := by rw [ha]; rfl
      refine value_ (by rfl) rfl (v := .map (some w2.heap.size)) (w1 := w') (by simp [execOp, e1]) (hK.out _ _ ⟨?_, ?_, L, hg, hL, ?_, hB⟩)
      · rw [ha, up_self]
        rfl
      · intro _; rw [up_ne (by decide)]; exact hb31
      · intro j x hj
        have := RT_lt hj
        rw [up_ne (by omega)]
        exact hd j x hj
  case last =>
    intro b a' w' hall hI
    obtain ⟨ha, h32, L, hg, hL, hd, hB⟩ := hI
    rw [if_pos (hall 32 (by decide))] at ha
    subst ha
    have HL := Aside0.mk (show ∀ x, x ∈ L ↔ x ∈ RT from fun x => ⟨hL x, fun hx => by
      obtain ⟨j, hj, rfl⟩ := List.mem_iff_getElem.1 hx
      refine (hd j _ (List.getElem?_eq_getElem hj)).1 (hall _ ?_)
      have hj15 : j < 15 := hj
      rcases (show j = 0 ∨ j = 1 ∨ j = 2 ∨ j = 3 ∨ j = 4 ∨ j = 5 ∨ j = 6 ∨ j = 7 ∨ j = 8 ∨ j = 9 ∨ j = 10 ∨ j = 11 ∨ j = 12 ∨ j = 13 ∨ j = 14 by omega) with rfl | rfl | rfl | rfl | rfl | rfl | rfl | rfl | rfl | rfl | rfl | rfl | rfl | rfl | rfl <;> decide⟩)
    have HGG := Aside0.mk hg
    have HBB := Aside0.mk (HB.out.trans (hB.mono HG.out))
    clear hg hL hd hB hall h32
    try simp only [Exit.then, Act.put, List.setIfInBounds_toArray, List.set_cons_zero, List.set_cons_succ]
    go_wp2
    go_ret
    exact ⟨_, L, rfl, HGG.out, HL.out, HG.out, HBB.out⟩
/-- does a rune stand in a range? -/
def isin (r : Int) (x : Int × Int × Int) : Bool := decide (r ≥ x.1) && decide (r ≤ x.2.1)
/-- the class that the table tells, if any -/
def cls (r : Int) : Option Int := (RT.find? (isin r)).map (·.2.2)
theorem RT_apart : ∀ x ∈ RT, ∀ y ∈ RT, x = y ∨ x.2.1 < y.1 ∨ y.2.1 < x.1 := by decide
theorem cls_hit {r : Int} {x : Int × Int × Int} (hx : x ∈ RT) (h : isin r x = true) : cls r = some x.2.2 := by
  unfold cls
  cases hf : RT.find? (isin r) with
  | none => exact absurd h (by simpa using List.find?_eq_none.1 hf x hx)
  | some y =>
    have hy := List.find?_some hf
    have hym := List.mem_of_find?_eq_some hf
    simp only [isin, Bool.and_eq_true, decide_eq_true_eq] at h hy
    rcases RT_apart x hx y hym with e | e | e
    · rw [e]; rfl
    · omega
    · omega
theorem cls_none {r : Int} (h : ∀ x ∈ RT, isin r x = false) : cls r = none := by
  unfold cls
  rw [List.find?_eq_none.2 (fun x hx => by rw [h x hx]; simp)]
  rfl
theorem ents_get (l : List (Int × Int × Int)) : ∀ (n : Nat) (e : MapEntry), e ∈ ents n l ↔ ∃ j x, l[j]? = some x ∧ e = ent (n + j) x := by
  induction l with
  | nil => intro n e; simp [ents]
  | cons y l ih =>
    intro n e
    simp only [ents, List.mem_cons, ih]
    constructor
    · rintro (rfl | ⟨j, x, hj, rfl⟩)
      · exact ⟨0, y, rfl, rfl⟩
      · exact ⟨j + 1, x, by simpa using hj, by rw [Nat.add_assoc, Nat.add_comm 1 j]⟩
    · rintro ⟨j, x, hj, rfl⟩
      cases j with
      | zero => simp at hj; subst hj; exact .inl rfl
      | succ j => exact .inr ⟨j, x, by simpa using hj, by rw [Nat.add_assoc, Nat.add_comm 1 j]⟩
theorem ents_born (l : List (Int × Int × Int)) : ∀ n, (ents n l).map (·.born) = List.range' n l.length := by
  induction l with
  | nil => intro n; rfl
  | cons y l ih => intro n; simp [ents, ih, ent, List.range'_succ]
/-- a step of the range: none is left, or one that was not told yet, whichever -/
theorem next_ents (w : World) (r g c0 : Nat) (seen : Array Nat) (L : List (Int × Int × Int)) (hr : w.heap[r]? = some (.mapIter (some g) L.length seen c0)) (hg : w.heap[g]? = some (.map (ents 0 L).toArray L.length)) (hc : L.length ≤ c0) (ty : TypeId) :
    ((∀ j, j < L.length → j ∈ seen) ∧ (Instr.next (.pointer (some ⟨r, 0, none⟩)) false ty).run Try.prog w = .ok (.tuple #[.bool false]) w) ∨
    ∃ j x w1, L[j]? = some x ∧ j ∉ seen ∧ (w1 = w ∨ w1 = w.drew) ∧ (Instr.next (.pointer (some ⟨r, 0, none⟩)) false ty).run Try.prog w = .ok (.tuple #[.bool true, .agg #[.int .i32 x.1, .int .i32 x.2.1], .int .i64 x.2.2]) (setBlock w1 r (.mapIter (some g) L.length (seen.push j) L.length)) := by
  have hold : ∀ x ∈ (ents 0 L).toArray.toList, x.born < L.length := by
    intro x hx
    obtain ⟨j, y, hj, rfl⟩ := (ents_get L 0 x).1 (by simpa using hx)
    have := (List.getElem?_eq_some_iff.1 hj).1
    simpa [ent] using this
  rcases run_next_at (P := Try.prog) w ty r g L.length c0 seen (ents 0 L).toArray L.length hr hg hold hc with ⟨h0, hrun⟩ | ⟨e, he, w1, hw1, hrun⟩
  · refine .inl ⟨fun j hj => ?_, hrun⟩
    have hmem : ent j L[j] ∈ (ents 0 L) := (ents_get L 0 _).2 ⟨j, L[j], List.getElem?_eq_getElem hj, by rw [Nat.zero_add]⟩
    have he : leftOf (ents 0 L).toArray seen = #[] := Array.eq_empty_of_size_eq_zero h0
    unfold leftOf at he
    have := Array.filter_eq_empty_iff.1 he (ent j L[j]) (by simpa using hmem)
    simpa [ent] using this
  · have he2 : e ∈ ents 0 L ∧ e.born ∉ seen := by simpa [leftOf] using he
    obtain ⟨j, x, hj, rfl⟩ := (ents_get L 0 e).1 he2.1
    rw [Nat.zero_add] at he2 hrun
    exact .inr ⟨j, x, w1, hj, he2.2, hw1, hrun⟩

end Go.Proofs.Ytgdefjcjikcofaa.Q
