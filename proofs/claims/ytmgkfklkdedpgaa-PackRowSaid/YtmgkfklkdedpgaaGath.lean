/- A map from texts to places, as the program keeps it: what is looked up in it, and put in; no condition. -/
import Derived.Test.YtmgkfklkdedpgaaQx0
import Derived.Test.YtmgkfklkdedpgaaMine
import Derived.Deep.LoopGhost
import Derived.WideKeyRuns
import Derived.Maps.RangeRun
import Derived.ChangeMaps4
namespace Go.Proofs.Ytmgkfklkdedpgaa.Q
open Go.RowKit Go.Proofs.Ytmgkfklkdedpgaa.Mine Go.Proofs.YtmgkfklkdedpgaaW.PrintWords Go.Proofs.YtmgkfklkdedpgaaW.PrintLast Go.Proofs.YtmgkfklkdedpgaaW.PrintMore
set_option linter.unusedVariables false
set_option linter.unusedSimpArgs false
open Go.ChangeMaps (setBlock)
/-- an entry of the table: a text that is kept, and its place -/
def went (n : Nat) (s : ByteArray) : MapEntry := { key := .agg #[.int .i64 (s.size : Int), .string s], val := .int .i64 (n : Int), born := n }
def wents : Nat → List ByteArray → List MapEntry
  | _, [] => []
  | n, x :: l => went n x :: wents (n + 1) l
theorem wents_snoc (x : ByteArray) : ∀ (l : List ByteArray) (n : Nat), wents n (l ++ [x]) = wents n l ++ [went (n + l.length) x]
  | [], n => rfl
  | y :: l, n => by
    show went n y :: wents (n + 1) (l ++ [x]) = went n y :: wents (n + 1) l ++ [_]
    rw [wents_snoc x l (n + 1)]
    simp [Nat.add_comm, Nat.add_left_comm]
theorem ba_beq (a b : ByteArray) : (a == b) = (a.data == b.data) := by cases a; cases b; rfl
instance ba_lawful : LawfulBEq ByteArray where
  eq_of_beq := fun {a b} h => by
    rw [ba_beq, beq_iff_eq] at h
    cases a; cases b; cases h; rfl
  rfl := fun {a} => by rw [ba_beq]; simp
theorem toList_eq_iff (s t : ByteArray) : (s.toList == t.toList) = decide (s = t) := by
  rw [← beq_toListBytes]
  by_cases h : s = t
  · subst h; simp
  · rw [decide_eq_false h]; exact beq_eq_false_iff_ne.2 h
theorem run_eqw (w : World) (s t : ByteArray) : (Op.equal 70 (.agg #[.int .i64 (s.size : Int), .string s]) (.agg #[.int .i64 (t.size : Int), .string t])).run Try.prog w = .ok (decide (s = t)) w := by
  have q : ∀ (e : TypeId) (xs : Array Value) (off : Nat) (v : Value), Try.prog.plainKey e = true → xs[off]? = some v → (part e xs off).run Try.prog w = .ok v w := fun e xs off v hk h => run_part_plain w hk h
  have h : (Op.equalIn (9999 + 1) 70 (.agg #[.int .i64 (s.size : Int), .string s]) (.agg #[.int .i64 (t.size : Int), .string t])).run Try.prog w = .ok ((((s.size : Int) == (t.size : Int)) && (s.toList == t.toList))) w := by
    refine eqA_of Try.underlying70 (by kernel_rfl) ?_
    refine eqf_cons (by rfl) (q 3 _ 0 _ (by kernel_rfl) rfl) (q 3 _ 0 _ (by kernel_rfl) rfl) (run_equalIn_int w 9998 3 .i64 .i64 _ _ Try.underlying3) ?_
    exact eqf_last (by rfl) (q 9 _ 1 _ (by kernel_rfl) rfl) (q 9 _ 1 _ (by kernel_rfl) rfl) (run_equalIn_string w 9998 9 _ _ Try.underlying9)
  have e : (((s.size : Int) == (t.size : Int)) && (s.toList == t.toList)) = decide (s = t) := by
    rw [toList_eq_iff]
    by_cases h : s = t
    · subst h; simp
    · simp [h]
  rw [e] at h
  exact h
theorem find_none (w : World) (s : ByteArray) : ∀ (l : List ByteArray) (n i : Nat), s ∉ l →
    (Instr.findAsking 70 (.agg #[.int .i64 (s.size : Int), .string s]) (wents n l) i).run Try.prog w = .ok none w
  | [], n, i, _ => rfl
  | x :: l, n, i, h => by
    have h1 := run_eqw w s x
    rw [decide_eq_false (show ¬ s = x from fun e => h (by rw [e]; exact List.mem_cons_self))] at h1
    show (Instr.findAsking 70 (.agg #[.int .i64 (s.size : Int), .string s]) (went n x :: wents (n + 1) l) i).run Try.prog w = _
    simp only [Instr.findAsking, went, Sem.run_bind, h1, Result.andThen_ok, Bool.false_eq_true, if_false]
    exact find_none w s l (n + 1) (i + 1) (fun hy => h (List.mem_cons_of_mem _ hy))
theorem find_some (w : World) (s : ByteArray) : ∀ (l : List ByteArray) (n i : Nat), s ∈ l →
    (Instr.findAsking 70 (.agg #[.int .i64 (s.size : Int), .string s]) (wents n l) i).run Try.prog w = .ok (some (i + l.idxOf s, .int .i64 ((n + l.idxOf s : Nat) : Int))) w
  | [], n, i, h => by cases h
  | x :: l, n, i, h => by
    have h1 := run_eqw w s x
    show (Instr.findAsking 70 (.agg #[.int .i64 (s.size : Int), .string s]) (went n x :: wents (n + 1) l) i).run Try.prog w = _
    by_cases hx : s = x
    · subst hx
      rw [decide_eq_true rfl] at h1
      simp [Instr.findAsking, went, h1, List.idxOf_cons]
    · rw [decide_eq_false hx] at h1
      have hm : s ∈ l := (List.mem_cons.1 h).resolve_left hx
      simp only [Instr.findAsking, went, Sem.run_bind, h1, Result.andThen_ok, Bool.false_eq_true, if_false]
      refine (find_some w s l (n + 1) (i + 1) hm).trans ?_
      have hb : (x == s) = false := beq_eq_false_iff_ne.2 (fun e => hx e.symm)
      rw [List.idxOf_cons, hb]
      simp [Nat.add_comm, Nat.add_left_comm]
theorem check_w (w : World) (s : ByteArray) (b : Bool) : (Instr.checkKey b 10000 70 (.agg #[.int .i64 (s.size : Int), .string s])).run Try.prog w = .ok () w := by
  have q : ∀ (e : TypeId) (xs : Array Value) (off : Nat) (v : Value) (w : World), Try.prog.plainKey e = true → xs[off]? = some v → (part e xs off).run Try.prog w = .ok v w := fun e xs off v w hk h => run_part_plain w hk h
  have a0 := fun w => q 3 #[.int .i64 (s.size : Int), .string s] 0 _ w (by kernel_rfl) rfl
  have a1 := fun w => q 9 #[.int .i64 (s.size : Int), .string s] 1 _ w (by kernel_rfl) rfl
  have c3 : ∀ (n : Nat) (v : Int) (w : World), (Instr.checkKey b (n + 1) 3 (.int .i64 v)).run Try.prog w = .ok () w := fun n v w => by simp [Instr.checkKey, run_underlying Try.underlying3]
  have c9 : ∀ (n : Nat) (v : ByteArray) (w : World), (Instr.checkKey b (n + 1) 9 (.string v)).run Try.prog w = .ok () w := fun n v w => by simp [Instr.checkKey, run_underlying Try.underlying9]
  have gen : ∀ n, (Instr.checkKey b (n + 2) 70 (.agg #[.int .i64 (s.size : Int), .string s])).run Try.prog w = .ok () w := fun n => by
    clear q
    simp [Instr.checkKey, run_underlying Try.underlying70, a0, a1, c3, c9]
  exact gen 9998
theorem run_look_no (w : World) (g : Nat) (l : List ByteArray) (s : ByteArray) (hg : w.heap[g]? = some (.map (wents 0 l).toArray l.length)) (hs : s ∉ l) :
    (Instr.lookup 68 (.map (some g)) (.agg #[.int .i64 (s.size : Int), .string s]) true).run Try.prog w = .ok (.tuple #[.int .i64 0, .bool false]) w := by
  have hf := (run_findKey_eq (P := Try.prog) w (k := 70) (by kernel_rfl) (.agg #[.int .i64 (s.size : Int), .string s]) (wents 0 l)).trans (find_none w s l 0 0 hs)
  have hz : ∀ w : World, (zeroValue 3).run Try.prog w = .ok (.int .i64 0) w := fun w => by kernel_rfl
  simp [Instr.lookup, run_underlying Try.underlying68, MapKept.run_getObj_map hg, check_w, hf, hz]
theorem run_look_yes (w : World) (g : Nat) (l : List ByteArray) (s : ByteArray) (ok : Bool) (hg : w.heap[g]? = some (.map (wents 0 l).toArray l.length)) (hs : s ∈ l) :
    (Instr.lookup 68 (.map (some g)) (.agg #[.int .i64 (s.size : Int), .string s]) ok).run Try.prog w = .ok (if ok = true then .tuple #[.int .i64 (l.idxOf s : Int), .bool true] else .int .i64 (l.idxOf s : Int)) w := by
  have hf := (run_findKey_eq (P := Try.prog) w (k := 70) (by kernel_rfl) (.agg #[.int .i64 (s.size : Int), .string s]) (wents 0 l)).trans (find_some w s l 0 0 hs)
  simp only [Nat.zero_add] at hf
  simp [Instr.lookup, run_underlying Try.underlying68, MapKept.run_getObj_map hg, check_w, hf]
/-- one more entry -/
theorem run_ins (w : World) (g : Nat) (l : List ByteArray) (s : ByteArray) (hg : w.heap[g]? = some (.map (wents 0 l).toArray l.length)) (hs : s ∉ l) :
    (Instr.mapUpdate 68 (.map (some g)) (.agg #[.int .i64 (s.size : Int), .string s]) (.int .i64 (l.length : Int))).run Try.prog w = .ok () (setBlock w g (.map (wents 0 (l ++ [s])).toArray (l ++ [s]).length)) := by
  have hf2 := (run_findKey_eq (P := Try.prog) w (k := 70) (by kernel_rfl) (.agg #[.int .i64 (s.size : Int), .string s]) (wents 0 l)).trans (find_none w s l 0 0 hs)
  simp [Instr.mapUpdate, run_underlying Try.underlying68, MapKept.run_getObj_map hg, check_w, hf2, MapKept.run_setObj_map _ hg, Result.andThen, wents_snoc, went, setBlock]
end Go.Proofs.Ytmgkfklkdedpgaa.Q
