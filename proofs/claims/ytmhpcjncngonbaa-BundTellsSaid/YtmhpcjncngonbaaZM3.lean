/- Texts of this claim, joined; what the kit's print wrote stands under a line of its own, LESS the theorems that this claim does not use (left out by prune16.py). -/
import Derived.Test.YtmhpcjncngonbaaZM2
import Derived.Deep.LoopGhost
import Derived.WideKeyRuns
import Derived.Maps.RangeRun
import Derived.ChangeMaps4
/- A map from texts to places, as the program keeps it: what is looked up in it, and put in; no condition. -/
namespace Go.Proofs.Ytmhpcjncngonbaa.Q
open Go.RowKit Go.Proofs.Ytmhpcjncngonbaa.Mine Go.Proofs.YtmhpcjncngonbaaW.PrintWords Go.Proofs.YtmhpcjncngonbaaW.PrintLast Go.Proofs.YtmhpcjncngonbaaW.PrintMore
set_option linter.unusedVariables false
set_option linter.unusedSimpArgs false
open Go.ChangeMaps (setBlock)
/-- an entry of the table: a text that is kept, and its place -/
def went (n : Nat) (s : ByteArray) : MapEntry := { key := .agg #[.int .i64 (s.size : Int), .string s], val := .int .i64 (n : Int), born := n }
def wents : Nat → List ByteArray → List MapEntry
  | _, [] => []
  | n, x :: l => went n x :: wents (n + 1) l
theorem wents_snoc (x : ByteArray) : ∀ (l : List ByteArray) (n : Nat), wents n (l ++ [x]) = wents n l ++ [went (n + l.length) x]
  | [], n => rfl
  | y :: l, n => by
    show went n y :: wents (n + 1) (l ++ [x]) = went n y :: wents (n + 1) l ++ [_]
    rw [wents_snoc x l (n + 1)]
    simp [Nat.add_comm, Nat.add_left_comm]
theorem ba_beq (a b : ByteArray) : (a == b) = (a.data == b.data) := by cases a; cases b; rfl
instance ba_lawful : LawfulBEq ByteArray where
  eq_of_beq := fun {a b} h => by
    rw [ba_beq, beq_iff_eq] at h
    cases a; cases b; cases h; rfl
  rfl := fun {a} => by rw [ba_beq]; simp
theorem toList_eq_iff (s t : ByteArray) : (s.toList == t.toList) = decide (s = t) := by
  rw [← beq_toListBytes]
  by_cases h : s = t
  · subst h; simp
  · rw [decide_eq_false h]; exact beq_eq_false_iff_ne.2 h
theorem run_eqw (w : World) (s t : ByteArray) : (Op.equal 84 (.agg #[.int .i64 (s.size : Int), .string s]) (.agg #[.int .i64 (t.size : Int), .string t])).run Try.prog w = .ok (decide (s = t)) w := by
  have q : ∀ (e : TypeId) (xs : Array Value) (off : Nat) (v : Value), Try.prog.plainKey e = true → xs[off]? = some v → (part e xs off).run Try.prog w = .ok v w := fun e xs off v hk h => run_part_plain w hk h
  have h : (Op.equalIn (9999 + 1) 84 (.agg #[.int .i64 (s.size : Int), .string s]) (.agg #[.int .i64 (t.size : Int), .string t])).run Try.prog w = .ok ((((s.size : Int) == (t.size : Int)) && (s.toList == t.toList))) w := by
    refine eqA_of Try.underlying84 (by kernel_rfl) ?_
    refine eqf_cons (by rfl) (q 3 _ 0 _ (by kernel_rfl) rfl) (q 3 _ 0 _ (by kernel_rfl) rfl) (run_equalIn_int w 9998 3 .i64 .i64 _ _ Try.underlying3) ?_
    exact eqf_last (by rfl) (q 9 _ 1 _ (by kernel_rfl) rfl) (q 9 _ 1 _ (by kernel_rfl) rfl) (run_equalIn_string w 9998 9 _ _ Try.underlying9)
  have e : (((s.size : Int) == (t.size : Int)) && (s.toList == t.toList)) = decide (s = t) := by
    rw [toList_eq_iff]
    by_cases h : s = t
    · subst h; simp
    · simp [h]
  rw [e] at h
  exact h
theorem find_none (w : World) (s : ByteArray) : ∀ (l : List ByteArray) (n i : Nat), s ∉ l →
    (Instr.findAsking 84 (.agg #[.int .i64 (s.size : Int), .string s]) (wents n l) i).run Try.prog w = .ok none w
  | [], n, i, _ => rfl
  | x :: l, n, i, h => by
    have h1 := run_eqw w s x
    rw [decide_eq_false (show ¬ s = x from fun e => h (by rw [e]; exact List.mem_cons_self))] at h1
    show (Instr.findAsking 84 (.agg #[.int .i64 (s.size : Int), .string s]) (went n x :: wents (n + 1) l) i).run Try.prog w = _
    simp only [Instr.findAsking, went, Sem.run_bind, h1, Result.andThen_ok, Bool.false_eq_true, if_false]
    exact find_none w s l (n + 1) (i + 1) (fun hy => h (List.mem_cons_of_mem _ hy))
theorem find_some (w : World) (s : ByteArray) : ∀ (l : List ByteArray) (n i : Nat), s ∈ l →
    (Instr.findAsking 84 (.agg #[.int .i64 (s.size : Int), .string s]) (wents n l) i).run Try.prog w = .ok (some (i + l.idxOf s, .int .i64 ((n + l.idxOf s : Nat) : Int))) w
  | [], n, i, h => by cases h
  | x :: l, n, i, h => by
    have h1 := run_eqw w s x
    show (Instr.findAsking 84 (.agg #[.int .i64 (s.size : Int), .string s]) (went n x :: wents (n + 1) l) i).run Try.prog w = _
    by_cases hx : s = x
    · subst hx
      rw [decide_eq_true rfl] at h1
      simp [Instr.findAsking, went, h1, List.idxOf_cons]
    · rw [decide_eq_false hx] at h1
      have hm : s ∈ l := (List.mem_cons.1 h).resolve_left hx
      simp only [Instr.findAsking, went, Sem.run_bind, h1, Result.andThen_ok, Bool.false_eq_true, if_false]
      refine (find_some w s l (n + 1) (i + 1) hm).trans ?_
      have hb : (x == s) = false := beq_eq_false_iff_ne.2 (fun e => hx e.symm)
      rw [List.idxOf_cons, hb]
      simp [Nat.add_comm, Nat.add_left_comm]
theorem check_w (w : World) (s : ByteArray) (b : Bool) : (Instr.checkKey b 10000 84 (.agg #[.int .i64 (s.size : Int), .string s])).run Try.prog w = .ok () w := by
  have q : ∀ (e : TypeId) (xs : Array Value) (off : Nat) (v : Value) (w : World), Try.prog.plainKey e = true → xs[off]? = some v → (part e xs off).run Try.prog w = .ok v w := fun e xs off v w hk h => run_part_plain w hk h
  have a0 := fun w => q 3 #[.int .i64 (s.size : Int), .string s] 0 _ w (by kernel_rfl) rfl
  have a1 := fun w => q 9 #[.int .i64 (s.size : Int), .string s] 1 _ w (by kernel_rfl) rfl
  have c3 : ∀ (n : Nat) (v : Int) (w : World), (Instr.checkKey b (n + 1) 3 (.int .i64 v)).run Try.prog w = .ok () w := fun n v w => by simp [Instr.checkKey, run_underlying Try.underlying3]
  have c9 : ∀ (n : Nat) (v : ByteArray) (w : World), (Instr.checkKey b (n + 1) 9 (.string v)).run Try.prog w = .ok () w := fun n v w => by simp [Instr.checkKey, run_underlying Try.underlying9]
  have gen : ∀ n, (Instr.checkKey b (n + 2) 84 (.agg #[.int .i64 (s.size : Int), .string s])).run Try.prog w = .ok () w := fun n => by
    clear q
    simp [Instr.checkKey, run_underlying Try.underlying84, a0, a1, c3, c9]
  exact gen 9998
theorem run_look_no (w : World) (g : Nat) (l : List ByteArray) (s : ByteArray) (hg : w.heap[g]? = some (.map (wents 0 l).toArray l.length)) (hs : s ∉ l) :
    (Instr.lookup 82 (.map (some g)) (.agg #[.int .i64 (s.size : Int), .string s]) true).run Try.prog w = .ok (.tuple #[.int .i64 0, .bool false]) w := by
  have hf := (run_findKey_eq (P := Try.prog) w (k := 84) (by kernel_rfl) (.agg #[.int .i64 (s.size : Int), .string s]) (wents 0 l)).trans (find_none w s l 0 0 hs)
  have hz : ∀ w : World, (zeroValue 3).run Try.prog w = .ok (.int .i64 0) w := fun w => by kernel_rfl
  simp [Instr.lookup, run_underlying Try.underlying82, MapKept.run_getObj_map hg, check_w, hf, hz]
theorem run_look_yes (w : World) (g : Nat) (l : List ByteArray) (s : ByteArray) (ok : Bool) (hg : w.heap[g]? = some (.map (wents 0 l).toArray l.length)) (hs : s ∈ l) :
    (Instr.lookup 82 (.map (some g)) (.agg #[.int .i64 (s.size : Int), .string s]) ok).run Try.prog w = .ok (if ok = true then .tuple #[.int .i64 (l.idxOf s : Int), .bool true] else .int .i64 (l.idxOf s : Int)) w := by
  have hf := (run_findKey_eq (P := Try.prog) w (k := 84) (by kernel_rfl) (.agg #[.int .i64 (s.size : Int), .string s]) (wents 0 l)).trans (find_some w s l 0 0 hs)
  simp only [Nat.zero_add] at hf
  simp [Instr.lookup, run_underlying Try.underlying82, MapKept.run_getObj_map hg, check_w, hf]
/-- one more entry -/
theorem run_ins (w : World) (g : Nat) (l : List ByteArray) (s : ByteArray) (hg : w.heap[g]? = some (.map (wents 0 l).toArray l.length)) (hs : s ∉ l) :
    (Instr.mapUpdate 82 (.map (some g)) (.agg #[.int .i64 (s.size : Int), .string s]) (.int .i64 (l.length : Int))).run Try.prog w = .ok () (setBlock w g (.map (wents 0 (l ++ [s])).toArray (l ++ [s]).length)) := by
  have hf2 := (run_findKey_eq (P := Try.prog) w (k := 84) (by kernel_rfl) (.agg #[.int .i64 (s.size : Int), .string s]) (wents 0 l)).trans (find_none w s l 0 0 hs)
  simp [Instr.mapUpdate, run_underlying Try.underlying82, MapKept.run_getObj_map hg, check_w, hf2, MapKept.run_setObj_map _ hg, Result.andThen, wents_snoc, went, setBlock]
end Go.Proofs.Ytmhpcjncngonbaa.Q
/- A locale, plainly, and how it stands in memory; no condition. -/
namespace Go.Proofs.Ytmhpcjncngonbaa.Q
open Go.RowKit Go.Proofs.Ytmhpcjncngonbaa.Mine Go.Proofs.YtmhpcjncngonbaaW.PrintWords Go.Proofs.YtmhpcjncngonbaaW.PrintLast Go.Proofs.YtmhpcjncngonbaaW.PrintMore
set_option linter.unusedVariables false
set_option linter.unusedSimpArgs false
/-- a locale, plainly -/
structure Loc where
  tag : ByteArray
  s0 : Int
  s1 : Int
  s2 : Int
  s3 : Int
  s4 : Int
  s5 : Int
  s6 : Int
  p0 : ByteArray
  p1 : ByteArray
  p2 : ByteArray
  p3 : ByteArray
  rules : List (Int × ByteArray)
  curs : List (ByteArray × ByteArray × Int)
  comps : List (Int × Int × ByteArray)
deriving DecidableEq
/-- where a locale's three rows lie, and their capacities -/
structure Lat where
  A3 : Option Addr
  c3 : Nat
  A4 : Option Addr
  c4 : Nat
  A5 : Option Addr
  c5 : Nat
def Kd.rule : Kd (Int × ByteArray) := Kd.pair (Kd.int .i64) Kd.string
def Kd.cur : Kd (ByteArray × ByteArray × Int) := Kd.pair Kd.string (Kd.pair Kd.string (Kd.int .i64))
def Kd.comp : Kd (Int × Int × ByteArray) := Kd.pair (Kd.int .i64) (Kd.pair (Kd.int .i64) Kd.string)
/-- a locale's value -/
@[reducible] def locV (L : Loc) (a : Lat) : Value := .agg #[.string L.tag, .int .i32 L.s0, .int .i32 L.s1, .int .i32 L.s2, .int .i32 L.s3, .int .i32 L.s4, .int .i32 L.s5, .int .i32 L.s6, .string L.p0, .string L.p1, .string L.p2, .string L.p3, .slice a.A3 L.rules.length a.c3, .slice a.A4 L.curs.length a.c4, .slice a.A5 L.comps.length a.c5]
/-- its signs are of 32 bits -/
def LocS (L : Loc) : Prop := ∀ x ∈ [L.s0, L.s1, L.s2, L.s3, L.s4, L.s5, L.s6], -2147483648 ≤ x ∧ x < 2147483648
/-- its rows, as they stand in memory -/
def LocC (L : Loc) (a : Lat) (w : World) : Prop :=
  (Kd.rule.C w a.A3 L.rules.length L.rules ∧ L.rules.length ≤ a.c3) ∧ (Kd.cur.C w a.A4 L.curs.length L.curs ∧ L.curs.length ≤ a.c4) ∧ (Kd.comp.C w a.A5 L.comps.length L.comps ∧ L.comps.length ≤ a.c5) ∧ LocS L
theorem LocC.below {L : Loc} {a : Lat} {w w1 : World} (h : LocC L a w) (hb : Below w.heap.size w w1) : LocC L a w1 :=
  ⟨⟨Kd.C_below h.1.1 hb, h.1.2⟩, ⟨Kd.C_below h.2.1.1 hb, h.2.1.2⟩, ⟨Kd.C_below h.2.2.1.1 hb, h.2.2.1.2⟩, h.2.2.2⟩
/-- a locale's rows are no longer than two bytes can tell -/
def LocB (L : Loc) : Prop := L.rules.length ≤ 65535 ∧ L.curs.length ≤ 65535 ∧ L.comps.length ≤ 65535
theorem cell_off {w : World} {ad : Addr} {m k : Nat} {v : Value} (h : w.cell? (ad.add (m + (k + 1))) = some v) : w.cell? ⟨(ad.add m).block, (ad.add m).off + (k + 1), none⟩ = some v := by
  rw [← Addr.add_add, Addr.add_succ'] at h
  exact h
/-- the cells of an element -/
theorem at_rule {w : World} {A : Option Addr} {n : Nat} {xs : List (Int × ByteArray)} (h : Kd.rule.C w A n xs) (i : Nat) (h1 : i < n) (x : Int × ByteArray) (hx : xs[i]? = some x) : ∃ ad, A = some ad ∧ w.cell? (ad.add (i * 2)) = some (.int .i64 x.1) ∧ w.cell? ⟨(ad.add (i * 2)).block, (ad.add (i * 2)).off + 1, none⟩ = some (.string x.2) := by
  obtain ⟨ad, c, e, _, hK, hc⟩ := Kd.C_get h (0, ByteArray.empty) (i : Int) (by omega) (by omega)
  have e1 : xs.getD ((i : Int).toNat) (0, ByteArray.empty) = x := by rw [Int.toNat_natCast, List.getD_eq_getElem?_getD, hx]; rfl
  rw [e1] at hK
  obtain ⟨c0, c1, rfl, h0, h2⟩ := hK
  have q0 : c0 = [.int .i64 x.1] := h0
  have q1 : c1 = [.string x.2] := h2
  subst q0 q1
  rw [Int.toNat_natCast] at hc
  exact ⟨ad, e, hc 0 _ rfl, cell_off (k := 0) (hc 1 _ rfl)⟩
theorem at_cur {w : World} {A : Option Addr} {n : Nat} {xs : List (ByteArray × ByteArray × Int)} (h : Kd.cur.C w A n xs) (i : Nat) (h1 : i < n) (x : ByteArray × ByteArray × Int) (hx : xs[i]? = some x) : ∃ ad, A = some ad ∧ w.cell? (ad.add (i * 3)) = some (.string x.1) ∧ w.cell? ⟨(ad.add (i * 3)).block, (ad.add (i * 3)).off + 1, none⟩ = some (.string x.2.1) ∧ w.cell? ⟨(ad.add (i * 3)).block, (ad.add (i * 3)).off + 2, none⟩ = some (.int .i64 x.2.2) := by
  obtain ⟨ad, c, e, _, hK, hc⟩ := Kd.C_get h (ByteArray.empty, ByteArray.empty, 0) (i : Int) (by omega) (by omega)
  have e1 : xs.getD ((i : Int).toNat) (ByteArray.empty, ByteArray.empty, 0) = x := by rw [Int.toNat_natCast, List.getD_eq_getElem?_getD, hx]; rfl
  rw [e1] at hK
  obtain ⟨c0, c1, rfl, h0, c2, c3, rfl, h2, h3⟩ := hK
  have q0 : c0 = [.string x.1] := h0
  have q1 : c2 = [.string x.2.1] := h2
  have q2 : c3 = [.int .i64 x.2.2] := h3
  subst q0 q1 q2
  rw [Int.toNat_natCast] at hc
  exact ⟨ad, e, hc 0 _ rfl, cell_off (k := 0) (hc 1 _ rfl), cell_off (k := 1) (hc 2 _ rfl)⟩
theorem at_comp {w : World} {A : Option Addr} {n : Nat} {xs : List (Int × Int × ByteArray)} (h : Kd.comp.C w A n xs) (i : Nat) (h1 : i < n) (x : Int × Int × ByteArray) (hx : xs[i]? = some x) : ∃ ad, A = some ad ∧ w.cell? (ad.add (i * 3)) = some (.int .i64 x.1) ∧ w.cell? ⟨(ad.add (i * 3)).block, (ad.add (i * 3)).off + 1, none⟩ = some (.int .i64 x.2.1) ∧ w.cell? ⟨(ad.add (i * 3)).block, (ad.add (i * 3)).off + 2, none⟩ = some (.string x.2.2) := by
  obtain ⟨ad, c, e, _, hK, hc⟩ := Kd.C_get h (0, 0, ByteArray.empty) (i : Int) (by omega) (by omega)
  have e1 : xs.getD ((i : Int).toNat) (0, 0, ByteArray.empty) = x := by rw [Int.toNat_natCast, List.getD_eq_getElem?_getD, hx]; rfl
  rw [e1] at hK
  obtain ⟨c0, c1, rfl, h0, c2, c3, rfl, h2, h3⟩ := hK
  have q0 : c0 = [.int .i64 x.1] := h0
  have q1 : c2 = [.int .i64 x.2.1] := h2
  have q2 : c3 = [.string x.2.2] := h3
  subst q0 q1 q2
  rw [Int.toNat_natCast] at hc
  exact ⟨ad, e, hc 0 _ rfl, cell_off (k := 0) (hc 1 _ rfl), cell_off (k := 1) (hc 2 _ rfl)⟩
end Go.Proofs.Ytmhpcjncngonbaa.Q
/- What pack.Put comes to, where a number can be put and where it can't; whole numbers of 32 bits. -/
namespace Go.Proofs.Ytmhpcjncngonbaa.Q
open Go.RowKit Go.Proofs.Ytmhpcjncngonbaa.Mine Go.Proofs.YtmhpcjncngonbaaW.PrintWords Go.Proofs.YtmhpcjncngonbaaW.PrintLast Go.Proofs.YtmhpcjncngonbaaW.PrintMore
set_option linter.unusedVariables false
set_option linter.unusedSimpArgs false
/-- is there such a size? -/
def isSz (s : Int) : Bool := s == 1 || s == 2 || s == 4
theorem isSz_iff {s : Int} : isSz s = true ↔ s = 1 ∨ s = 2 ∨ s = 4 := by simp [isSz, or_assoc]
theorem pack_isSz.calls (s : Int) (w : World) : Calls Try.prog 65 #[.int .i64 s] w fun e w' => e = .returned (.bool (isSz s)) ∧ w = w' := by
  by_cases h1 : s = 1
  · subst h1
    go_enter Try.func65, Try.ntmps65
    go_wp2
    go_ret
    exact ⟨rfl, rfl⟩
  by_cases h2 : s = 2
  · subst h2
    go_enter Try.func65, Try.ntmps65
    go_wp2
    go_ret
    exact ⟨rfl, rfl⟩
  have b1 : (s == 1) = false := beq_eq_false_iff_ne.2 h1
  have b2 : (s == 2) = false := beq_eq_false_iff_ne.2 h2
  clear h1 h2
  have e : isSz s = (s == 4) := by rw [isSz, b1, b2]; rfl
  rw [e]
  clear e
  go_enter Try.func65, Try.ntmps65
  go_wp2
  go_ret
  exact ⟨by first | rfl | (simp; done), rfl⟩
/-- a number's bytes, the greatest first -/
def bytesB (n : Int) : Nat → List Int
  | 0 => []
  | k + 1 => n / 256 ^ k % 256 :: bytesB n k
theorem bytesB_len (n : Int) : ∀ k, (bytesB n k).length = k
  | 0 => rfl
  | k + 1 => by rw [bytesB, List.length_cons, bytesB_len n k]
def vk : Nat → Int
  | 0 => -1
  | k + 1 => (k : Int)
/-- can a number be put so? -/
def putsB (n s : Int) : Bool := isSz s && decide (n < 256 ^ s.toNat)
theorem clip.calls (A0 : Option Addr) (c0 : Nat) (l0 : List Int) (w : World) (hr0 : Kd.C (Kd.int .u8) w A0 l0.length l0) (hc0 : l0.length ≤ c0) :
    Calls Try.prog 66 #[.slice A0 l0.length c0] w fun e w' => e = .returned (.slice A0 l0.length l0.length) ∧ w = w' := by
  have hlen : l0.length ≤ 9223372036854775807 := hr0.2.1
  go_enter Try.func66, Try.ntmps66
  go_wp2
  go_ret
  exact ⟨rfl, rfl⟩
set_option maxHeartbeats 2000000 in
set_option maxRecDepth 100000 in
/-- a number that can't be put: the row that came in, and an error -/
theorem put_no.calls (v : Value) (n s : Int) (w : World) (h0 : 0 ≤ n) (h1 : n < 4294967296) (h : putsB n s = false) :
    Calls Try.prog 45 #[v, .int .u32 n, .int .i64 s] w fun e w' => e = .returned (.tuple #[v, .int .i64 1]) ∧ w = w' := by
  cases hs : isSz s with
  | false =>
    have HS := Aside0.mk hs
    have hc : ∀ w, Calls Try.prog 65 #[.int .i64 s] w fun e w' => e = .returned (.bool false) ∧ w = w' := fun w => hs ▸ pack_isSz.calls s w
    have HC := Aside0.mk hc
    clear hs hc h
    go_enter Try.func45, Try.ntmps45
    go_wp2_with fail
    refine (HC.out _).mono ?_
    rintro e w1 ⟨rfl, rfl⟩
    dsimp only
    go_wp2
    go_ret2
    exact ⟨rfl, rfl⟩
  | true =>
    have hlt : ¬ n < 256 ^ s.toNat := by simpa [putsB, hs] using h
    have hc : ∀ w, Calls Try.prog 65 #[.int .i64 s] w fun e w' => e = .returned (.bool true) ∧ w = w' := fun w => hs ▸ pack_isSz.calls s w
    rcases isSz_iff.1 hs with rfl | rfl | rfl
    · have hq : (n / 256 == 0) = false := beq_eq_false_iff_ne.2 (by simp at hlt; omega)
      have HC := Aside0.mk hc
      clear hs hc h hlt
      go_enter Try.func45, Try.ntmps45
      go_wp2_with fail
      refine (HC.out _).mono ?_
      rintro e w1 ⟨rfl, rfl⟩
      dsimp only
      go_wp2
      go_ret2
      exact ⟨rfl, rfl⟩
    · have hq : (n / 65536 == 0) = false := beq_eq_false_iff_ne.2 (by simp at hlt; omega)
      have HC := Aside0.mk hc
      clear hs hc h hlt
      go_enter Try.func45, Try.ntmps45
      go_wp2_with fail
      refine (HC.out _).mono ?_
      rintro e w1 ⟨rfl, rfl⟩
      dsimp only
      go_wp2
      go_ret2
      exact ⟨rfl, rfl⟩
    · exact absurd (show n < 4294967296 from h1) (by simpa using hlt)
set_option maxHeartbeats 4000000 in
set_option maxRecDepth 100000 in
theorem put_yes.calls (A0 : Option Addr) (c0 : Nat) (l0 : List Int) (n s : Int) (w : World) (hr0 : Kd.C (Kd.int .u8) w A0 l0.length l0) (hc0 : l0.length ≤ c0) (hl : l0.length < 140737488355000) (h0 : 0 ≤ n) (h1 : n < 4294967296) (h : putsB n s = true) :
    Calls Try.prog 45 #[.slice A0 l0.length c0, .int .u32 n, .int .i64 s] w fun e w' => ∃ v0_ : Value, e = .returned (.tuple #[v0_, .int .i64 0]) ∧ Kd.R (Kd.int .u8) 5 w' w.heap.size (fun _ => True) v0_ (l0 ++ bytesB n s.toNat) ∧ Below w.heap.size w w' := by
  have hs : isSz s = true := by simp only [putsB, Bool.and_eq_true] at h; exact h.1
  have hlt : n < 256 ^ s.toNat := by simp only [putsB, Bool.and_eq_true, decide_eq_true_eq] at h; exact h.2
  have HC := Aside0.mk (show ∀ w, Calls Try.prog 65 #[.int .i64 s] w fun e w' => e = .returned (.bool true) ∧ w = w' from fun w => hs ▸ pack_isSz.calls s w)
  have HL := Aside0.mk hl
  have HR0 := Aside0.mk hr0
  have HC0 := Aside0.mk hc0
  have HCL := Aside0.mk (clip.calls A0 c0 l0 w hr0 hc0)
  have HS := Aside0.mk (isSz_iff.1 hs)
  clear hr0 hc0 hl h
  have fin : ∀ (wr : World) (v8 : Value) (xs : List Int), Ap l0 5 wr w.heap.size (fun _ => True) v8 xs → xs ++ bytesB n 0 = l0 ++ bytesB n s.toNat → Kd.R (Kd.int .u8) 5 wr w.heap.size (fun _ => True) v8 (l0 ++ bytesB n s.toNat) := fun wr v8 xs ha he => by
    have e1 : xs = l0 ++ bytesB n s.toNat := by rw [← he]; simp [bytesB]
    rw [← e1]
    refine Ap_own ha (fun e => ?_)
    have := congrArg List.length (e1.symm.trans e)
    rw [List.length_append, bytesB_len] at this
    rcases HS.out with h | h | h <;> (subst h; simp at this)
  obtain ⟨T, hT⟩ : ∃ T, T = l0 ++ bytesB n s.toNat := ⟨_, rfl⟩
  rw [← hT] at fin ⊢
  have HT := Aside0.mk hT
  have FIN := Aside0.mk fin
  clear fin hT
  have hq : isSz s = true → ∀ u : Int, (s = 1 → u = n / 256) → (s = 2 → u = n / 65536) → (s = 4 → u = n / 4294967296) → u = 0 := fun _ u g1 g2 g4 => by
    rcases HS.out with h | h | h
    · rw [g1 h]; subst h; simp at hlt; omega
    · rw [g2 h]; subst h; simp at hlt; omega
    · rw [g4 h]; omega
  have HB := Aside0.mk (Below.refl w.heap.size w)
  rcases isSz_iff.1 hs with rfl | rfl | rfl
  all_goals
    first
      | have hq0 : n / 256 = 0 := hq rfl _ (fun _ => rfl) (fun h => absurd h (by decide)) (fun h => absurd h (by decide))
      | have hq0 : n / 65536 = 0 := hq rfl _ (fun h => absurd h (by decide)) (fun _ => rfl) (fun h => absurd h (by decide))
      | have hq0 : n / 4294967296 = 0 := hq rfl _ (fun h => absurd h (by decide)) (fun h => absurd h (by decide)) (fun _ => rfl)
    clear hq hlt hs
    go_enter Try.func45, Try.ntmps45
    go_wp2_with fail
    refine (HC.out _).mono ?_
    rintro e w1 ⟨rfl, rfl⟩
    dsimp only
    go_wp2_with fail
    refine HCL.out.mono ?_
    rintro e w1 ⟨rfl, rfl⟩
    dsimp only
    clear hq0
    go_wp2_with fail
    go_loopg [8, 9] 4 (fun kq v8 v9 wr => ∃ (j : Nat) (xs : List Int), v9 = .int .i64 (vk j) ∧ Aside0 (j ≤ kq) ∧ Aside0 (kq ≤ 4) ∧ Aside0 (Ap l0 5 wr w.heap.size (fun _ => True) v8 xs) ∧ Aside0 (xs ++ bytesB n j = T) ∧ Aside0 (Below w.heap.size w wr))
    case atStart => first | exact ⟨1, l0, rfl, ⟨by decide⟩, ⟨by decide⟩, ⟨.inr ⟨rfl, A0, rfl, HR0.out⟩⟩, ⟨HT.out.symm⟩, HB⟩ | exact ⟨2, l0, rfl, ⟨by decide⟩, ⟨by decide⟩, ⟨.inr ⟨rfl, A0, rfl, HR0.out⟩⟩, ⟨HT.out.symm⟩, HB⟩ | exact ⟨4, l0, rfl, ⟨by decide⟩, ⟨by decide⟩, ⟨.inr ⟨rfl, A0, rfl, HR0.out⟩⟩, ⟨HT.out.symm⟩, HB⟩
    case round =>
      obtain ⟨j, xs, hv9, HJ, HK, HO, HE, HB1⟩ := hrel
      have HXL := Aside0.mk (show xs.length ≤ l0.length + 4 by
        have h1 := congrArg List.length HE.out
        have h2 := congrArg List.length HT.out
        rw [List.length_append] at h1 h2
        rw [bytesB_len] at h2
        simp at h2
        omega)
      cases j with
      | zero =>
        have hv : _ = Value.int .i64 (-1) := hv9
        clear hv9
        subst hv
        go_wp2
        go_ret2
        exact ⟨_, rfl, FIN.out _ _ _ HO.out HE.out, HB1.out⟩
      | succ j =>
        have hj : j = 0 ∨ j = 1 ∨ j = 2 ∨ j = 3 := by have := HJ.out; have := HK.out; omega
        have HE2 := Aside0.mk (show (xs ++ [n / 256 ^ j % 256]) ++ bytesB n j = T by rw [← HE.out, List.append_assoc]; rfl)
        have HJ2 := Aside0.mk (show j ≤ gk - 1 ∧ gk - 1 < gk ∧ gk - 1 ≤ 4 by have := HJ.out; have := HK.out; omega)
        clear HE HJ
        rcases hj with rfl | rfl | rfl | rfl
        · have hv : _ = Value.int .i64 0 := hv9
          clear hv9
          subst hv
          go_wp2_with ((with_reducible refine gate_builtin (b := .append) (xs := #[.tmp 30, .tmp 36]) rfl ?_); at_builtin; refine Ap_append l0 (w0 := w) w.heap.size rfl (.tmp 30) (.tmp 36) 32 5 (.int .u8 0) 1 rfl Try.underlying32 info5 rfl (by decide) (by omega) u8 xs (n % 256) [.int .u8 (n % 256)] (fun _ => True) (fun _ => False) rfl rfl ?aP (fun _ hk => hk.elim) (fun _ _ => trivial) HO.out HB1.out HB1.out.size ?aL ?_; (case aP => exact rfl); (case aL => have := HL.out; have := HXL.out; omega); intro v3 w3 ho hb hg hat; have HO3 := Aside0.mk ho; have HB3 := Aside0.mk hb; clear ho hb hg hat)
          go_roundg (gk - 1)
          case measure => exact HJ2.out.2.1
          case rel => exact ⟨0, xs ++ [n % 256], by rfl, ⟨HJ2.out.1⟩, ⟨HJ2.out.2.2⟩, HO3, ⟨by have h2 := HE2.out; simpa using h2⟩, HB3⟩
        · have hv : _ = Value.int .i64 1 := hv9
          clear hv9
          subst hv
          go_wp2_with ((with_reducible refine gate_builtin (b := .append) (xs := #[.tmp 30, .tmp 36]) rfl ?_); at_builtin; refine Ap_append l0 (w0 := w) w.heap.size rfl (.tmp 30) (.tmp 36) 32 5 (.int .u8 0) 1 rfl Try.underlying32 info5 rfl (by decide) (by omega) u8 xs (n / 256 % 256) [.int .u8 (n / 256 % 256)] (fun _ => True) (fun _ => False) rfl rfl ?aP (fun _ hk => hk.elim) (fun _ _ => trivial) HO.out HB1.out HB1.out.size ?aL ?_; (case aP => exact rfl); (case aL => have := HL.out; have := HXL.out; omega); intro v3 w3 ho hb hg hat; have HO3 := Aside0.mk ho; have HB3 := Aside0.mk hb; clear ho hb hg hat)
          go_roundg (gk - 1)
          case measure => exact HJ2.out.2.1
          case rel => exact ⟨1, xs ++ [n / 256 % 256], by rfl, ⟨HJ2.out.1⟩, ⟨HJ2.out.2.2⟩, HO3, ⟨by have h2 := HE2.out; simpa using h2⟩, HB3⟩
        · have hv : _ = Value.int .i64 2 := hv9
          clear hv9
          subst hv
          go_wp2_with ((with_reducible refine gate_builtin (b := .append) (xs := #[.tmp 30, .tmp 36]) rfl ?_); at_builtin; refine Ap_append l0 (w0 := w) w.heap.size rfl (.tmp 30) (.tmp 36) 32 5 (.int .u8 0) 1 rfl Try.underlying32 info5 rfl (by decide) (by omega) u8 xs (n / 65536 % 256) [.int .u8 (n / 65536 % 256)] (fun _ => True) (fun _ => False) rfl rfl ?aP (fun _ hk => hk.elim) (fun _ _ => trivial) HO.out HB1.out HB1.out.size ?aL ?_; (case aP => exact rfl); (case aL => have := HL.out; have := HXL.out; omega); intro v3 w3 ho hb hg hat; have HO3 := Aside0.mk ho; have HB3 := Aside0.mk hb; clear ho hb hg hat)
          go_roundg (gk - 1)
          case measure => exact HJ2.out.2.1
          case rel => exact ⟨2, xs ++ [n / 65536 % 256], by rfl, ⟨HJ2.out.1⟩, ⟨HJ2.out.2.2⟩, HO3, ⟨by have h2 := HE2.out; simpa using h2⟩, HB3⟩
        · have hv : _ = Value.int .i64 3 := hv9
          clear hv9
          subst hv
          go_wp2_with ((with_reducible refine gate_builtin (b := .append) (xs := #[.tmp 30, .tmp 36]) rfl ?_); at_builtin; refine Ap_append l0 (w0 := w) w.heap.size rfl (.tmp 30) (.tmp 36) 32 5 (.int .u8 0) 1 rfl Try.underlying32 info5 rfl (by decide) (by omega) u8 xs (n / 16777216) [.int .u8 (n / 16777216)] (fun _ => True) (fun _ => False) rfl rfl ?aP (fun _ hk => hk.elim) (fun _ _ => trivial) HO.out HB1.out HB1.out.size ?aL ?_; (case aP => exact rfl); (case aL => have := HL.out; have := HXL.out; omega); intro v3 w3 ho hb hg hat; have HO3 := Aside0.mk ho; have HB3 := Aside0.mk hb; clear ho hb hg hat)
          go_roundg (gk - 1)
          case measure => exact HJ2.out.2.1
          case rel => exact ⟨3, xs ++ [n / 16777216], by rfl, ⟨HJ2.out.1⟩, ⟨HJ2.out.2.2⟩, HO3, ⟨by have h2 := HE2.out; rw [show n / 256 ^ 3 % 256 = n / 16777216 by omega] at h2; exact h2⟩, HB3⟩
end Go.Proofs.Ytmhpcjncngonbaa.Q
/- What the writer's number comes to; any writer. -/
namespace Go.Proofs.Ytmhpcjncngonbaa.Q
open Go.RowKit Go.Proofs.Ytmhpcjncngonbaa.Mine Go.Proofs.YtmhpcjncngonbaaW.PrintWords Go.Proofs.YtmhpcjncngonbaaW.PrintLast Go.Proofs.YtmhpcjncngonbaaW.PrintMore
set_option linter.unusedVariables false
set_option linter.unusedSimpArgs false
/-- the cells of a writer -/
@[reducible] def wrC (bv rv : Value) (L : Loc) (a : Lat) (bad : Bool) : Array Value := #[bv, rv, .string L.tag, .int .i32 L.s0, .int .i32 L.s1, .int .i32 L.s2, .int .i32 L.s3, .int .i32 L.s4, .int .i32 L.s5, .int .i32 L.s6, .string L.p0, .string L.p1, .string L.p2, .string L.p3, .slice a.A3 L.rules.length a.c3, .slice a.A4 L.curs.length a.c4, .slice a.A5 L.comps.length a.c5, .bool bad]
/-- a writer at a block, and the row that it has written -/
def Wr (g : Nat) (rv : Value) (L : Loc) (a : Lat) (st : List Int × Bool) (w0 w : World) : Prop :=
  ∃ bv, w.heap[g]? = some (.cells (wrC bv rv L a st.2) 69 (0, 0)) ∧ (Kd.int .u8).R 5 w (g + 1) (fun k => g + 1 ≤ k) bv st.1 ∧ Below g w0 w
theorem wnum_is : ∃ f : Int → Int → List Int × Bool → List Int × Bool, ∀ n s st, f n s st = if (0 ≤ n ∧ n < 4294967296) ∧ putsB n s = true then (st.1 ++ bytesB n s.toNat, st.2) else (st.1, true) := ⟨_, fun _ _ _ => rfl⟩
/-- a number is written (by choice: the kernel shall not count to 4294967296) -/
noncomputable def wnum : Int → Int → List Int × Bool → List Int × Bool := Classical.choose wnum_is
theorem wnum_def (n s : Int) (st : List Int × Bool) : wnum n s st = if (0 ≤ n ∧ n < 4294967296) ∧ putsB n s = true then (st.1 ++ bytesB n s.toNat, st.2) else (st.1, true) := Classical.choose_spec wnum_is n s st
theorem KeepBut.put {w w1 : World} {g : Nat} (h : KeepBut w w1 g none) (j : Nat) (u : Value) : KeepBut w (w1.setCell ⟨g, j, none⟩ u) g none := KeepBut.set_ h j u
theorem ne5_69 : ∀ q, q ∈ 5 :: (Kd.int .u8).E → q ≠ 69 := by decide
theorem Wr.setBad {g : Nat} {rv bv : Value} {L : Loc} {a : Lat} {l : List Int} {bad : Bool} {w0 w : World} (b : Bool) (hw : w.heap[g]? = some (.cells (wrC bv rv L a bad) 69 (0, 0))) (hr : (Kd.int .u8).R 5 w (g + 1) (fun k => g + 1 ≤ k) bv l) (hB : Below g w0 w) :
    Wr g rv L a (l, b) w0 (w.setCell ⟨g, 17, none⟩ (.bool b)) :=
  ⟨bv, blk_put hw 17 (.bool b) rfl, Kd.R_set hr hw ne5_69 17 _, hB.setCell (Nat.le_refl g) _⟩
theorem Wr.setRow {g : Nat} {rv bv bv2 : Value} {L : Loc} {a : Lat} {l2 : List Int} {bad : Bool} {w0 w : World} (b : Bool) (hw : w.heap[g]? = some (.cells (wrC bv rv L a bad) 69 (0, 0))) (hr : (Kd.int .u8).R 5 w (g + 1) (fun k => g + 1 ≤ k) bv2 l2) (hB : Below g w0 w) :
    Wr g rv L a (l2, b) w0 ((w.setCell ⟨g, 0, none⟩ bv2).setCell ⟨g, 17, none⟩ (.bool b)) :=
  Wr.setBad (bad := bad) b (blk_put hw 0 bv2 rfl) (Kd.R_set hr hw ne5_69 0 _) (hB.setCell (Nat.le_refl g) _)
set_option maxHeartbeats 2000000 in
set_option maxRecDepth 100000 in
theorem wnum.calls (g : Nat) (rv : Value) (L : Loc) (a : Lat) (st : List Int × Bool) (n s : Int) (w0 w : World) (h : Wr g rv L a st w0 w) (hl : st.1.length < 140737488355000) :
    Calls Try.prog 31 #[.pointer (some ⟨g, 0, none⟩), .int .i64 n, .int .i64 s] w fun e w' => e = .returned (.tuple #[]) ∧ Wr g rv L a (wnum n s st) w0 w' ∧ KeepBut w w' g none := by
  obtain ⟨bv, hw, hr, hB⟩ := h
  obtain ⟨l, bad⟩ := st
  obtain ⟨A, c, rfl, hlc, hC⟩ := Kd.R_reads hr
  have HW := Aside0.mk hw
  have HR := Aside0.mk hr
  have HB := Aside0.mk hB
  have hcb : w.cell? ⟨g, 0, none⟩ = some (.slice A l.length c) := (blk_cell hw 0).trans rfl
  have hcd : w.cell? ⟨g, 17, none⟩ = some (.bool bad) := (blk_cell hw 17).trans rfl
  have hf0 := blk_frozen hw 0
  have hf1 := blk_frozen hw 17
  by_cases h0 : n < 0
  · have b0 : decide (n < 0) = true := decide_eq_true h0
    have e : wnum n s (l, bad) = (l, true) := (wnum_def n s (l, bad)).trans (if_neg (fun hh => by omega))
    rw [e]
    clear hw hr hB hlc hC hl h0 e
    go_enter Try.func31, Try.ntmps31
    go_wp2
    refine bodyPost_ret (results_none rfl _ _ _) rfl ?_
    exact ⟨rfl, Wr.setBad true HW.out HR.out HB.out, KeepBut.put (KeepBut.refl _ _ _) _ _⟩
  have b0 : decide (n < 0) = false := decide_eq_false h0
  by_cases h1 : 4294967295 < n
  · have b1 : decide (n > 4294967295) = true := decide_eq_true h1
    have b2 : decide (4294967295 < n) = true := decide_eq_true h1
    have e : wnum n s (l, bad) = (l, true) := (wnum_def n s (l, bad)).trans (if_neg (fun hh => by omega))
    rw [e]
    clear hw hr hB hlc hC hl h0 e h1
    go_enter Try.func31, Try.ntmps31
    go_wp2
    refine bodyPost_ret (results_none rfl _ _ _) rfl ?_
    exact ⟨rfl, Wr.setBad true HW.out HR.out HB.out, KeepBut.put (KeepBut.refl _ _ _) _ _⟩
  have b1 : decide (n > 4294967295) = false := decide_eq_false h1
  have b2 : decide (4294967295 < n) = false := decide_eq_false h1
  have hm : n % 4294967296 = n := Int.emod_eq_of_lt (by omega) (by omega)
  cases hp : putsB n s with
  | false =>
    have HP := Aside0.mk (fun w => put_no.calls (.slice A l.length c) n s w (by omega) (by omega) hp)
    have e : wnum n s (l, bad) = (l, true) := (wnum_def n s (l, bad)).trans (if_neg (fun hh => by rw [hp] at hh; exact absurd hh.2 (by simp)))
    rw [e]
    clear hw hr hB hlc hC hl h0 e h1 hp
    go_enter Try.func31, Try.ntmps31
    go_wp2_with fail
    refine (HP.out _).mono ?_
    rintro e w1 ⟨rfl, rfl⟩
    dsimp only
    cases bad <;> (go_wp2; go_end0)
    all_goals exact ⟨rfl, Wr.setRow true HW.out HR.out HB.out, KeepBut.put (KeepBut.put (KeepBut.refl _ _ _) _ _) _ _⟩
  | true =>
    have hP := put_yes.calls A c l n s w hC hlc hl (by omega) (by omega) hp
    have e : wnum n s (l, bad) = (l ++ bytesB n s.toNat, bad) := (wnum_def n s (l, bad)).trans (if_pos ⟨⟨by omega, by omega⟩, hp⟩)
    rw [e]
    generalize l ++ bytesB n s.toNat = ys at hP ⊢
    have HP := Aside0.mk hP
    clear hP
    clear hw hr hB hlc hC hl h0 e h1 hp
    go_enter Try.func31, Try.ntmps31
    go_wp2_with fail
    refine HP.out.mono ?_
    rintro e w1 ⟨v0, rfl, hr1, hb1⟩
    obtain ⟨A', c', hv0⟩ := Kd.R_slice hr1
    subst hv0
    have HW1 := Aside0.mk (blk_below HW.out hb1)
    have HR1 := Aside0.mk hr1
    have HB1 := Aside0.mk hb1
    have hcb : w1.cell? ⟨g, 0, none⟩ = some (.slice A l.length c) := (blk_cell HW1.out 0).trans rfl
    have hcd : w1.cell? ⟨g, 17, none⟩ = some (.bool bad) := (blk_cell HW1.out 17).trans rfl
    have hf0 := blk_frozen HW1.out 0
    have hf1 := blk_frozen HW1.out 17
    clear hr1 hb1
    dsimp only
    cases bad <;> (go_wp2; go_end0)
    all_goals exact ⟨rfl, Wr.setRow _ HW1.out (Kd.R_mono (Kd.R_lower (Kd.R_bound HR1.out) (blk_lt HW.out)) (fun k hk => Nat.le_trans (blk_lt HW.out) hk.2.1)) (HB.out.trans (HB1.out.mono (Nat.le_of_lt (blk_lt HW.out)))), KeepBut.put (KeepBut.put (KeepBut.of_below HB1.out g none) _ _) _ _⟩
end Go.Proofs.Ytmhpcjncngonbaa.Q
/- What the writer's text comes to; any writer. -/
namespace Go.Proofs.Ytmhpcjncngonbaa.Q
open Go.RowKit Go.Proofs.Ytmhpcjncngonbaa.Mine Go.Proofs.YtmhpcjncngonbaaW.PrintWords Go.Proofs.YtmhpcjncngonbaaW.PrintLast Go.Proofs.YtmhpcjncngonbaaW.PrintMore
set_option linter.unusedVariables false
set_option linter.unusedSimpArgs false
/-- a writer, the references that it has left, and the locale that it writes -/
def Wt (g : Nat) (refs : List Int) (L : Loc) (a : Lat) (st : List Int × Bool) (w0 w : World) : Prop :=
  ∃ A c, Wr g (.slice A refs.length c) L a st w0 w ∧ (Kd.int .i64).C w0 A refs.length refs ∧ refs.length ≤ c ∧ w0.heap.size = g ∧ LocC L a w0
theorem Wt.lt {g : Nat} {refs : List Int} {L : Loc} {a : Lat} {st : List Int × Bool} {w0 w : World} (h : Wt g refs L a st w0 w) : g < w.heap.size := by
  obtain ⟨A, c, ⟨bv, hw, _⟩, _⟩ := h
  exact blk_lt hw
theorem Wt.bel {g : Nat} {refs : List Int} {L : Loc} {a : Lat} {st : List Int × Bool} {w0 w : World} (h : Wt g refs L a st w0 w) : Below w0.heap.size w0 w ∧ w0.heap.size = g := by
  obtain ⟨A, c, ⟨bv, hw, _, hB⟩, _, _, hg, _⟩ := h
  exact ⟨hg ▸ hB, hg⟩
theorem Wt.loc {g : Nat} {refs : List Int} {L : Loc} {a : Lat} {st : List Int × Bool} {w0 w : World} (h : Wt g refs L a st w0 w) : LocC L a w := by
  obtain ⟨A, c, ⟨bv, hw, _, hB⟩, _, _, hg, hL⟩ := h
  exact hL.below (hg ▸ hB)
/-- the world behind: nothing of the writer's is touched -/
theorem Wt.below {g : Nat} {refs : List Int} {L : Loc} {a : Lat} {st : List Int × Bool} {w0 w w1 : World} (h : Wt g refs L a st w0 w) (hb : Below w.heap.size w w1) : Wt g refs L a st w0 w1 := by
  have hl := h.lt
  obtain ⟨A, c, ⟨bv, hw, hr, hB⟩, h2⟩ := h
  exact ⟨A, c, ⟨bv, blk_below hw hb, Kd.R_below hr hb, hB.trans (hb.mono (Nat.le_of_lt hl))⟩, h2⟩
theorem wtnum.calls (g : Nat) (refs : List Int) (L : Loc) (a : Lat) (st : List Int × Bool) (n s : Int) (w0 w : World) (h : Wt g refs L a st w0 w) (hl : st.1.length < 140737488355000) :
    Calls Try.prog 31 #[.pointer (some ⟨g, 0, none⟩), .int .i64 n, .int .i64 s] w fun e w' => e = .returned (.tuple #[]) ∧ Wt g refs L a (wnum n s st) w0 w' ∧ KeepBut w w' g none := by
  obtain ⟨A, c, hw, h2⟩ := h
  refine (wnum.calls g _ L a st n s w0 w hw hl).mono ?_
  rintro e w1 ⟨rfl, h3, h4⟩
  exact ⟨rfl, ⟨A, c, h3, h2⟩, h4⟩
set_option maxHeartbeats 2000000 in
set_option maxRecDepth 100000 in
theorem wtext.calls (g : Nat) (n : Int) (ns : List Int) (L : Loc) (a : Lat) (st : List Int × Bool) (w0 w : World) (h : Wt g (n :: ns) L a st w0 w) (hl : st.1.length < 140737488355000) :
    Calls Try.prog 46 #[.pointer (some ⟨g, 0, none⟩)] w fun e w' => e = .returned (.tuple #[]) ∧ Wt g ns L a (wnum n 2 st) w0 w' ∧ KeepBut w w' g none := by
  obtain ⟨A, c, hw, hC, hc, hg, hL⟩ := h
  have HNUM := Aside0.mk (wnum.calls g _ L a st n 2 w0 w hw hl)
  obtain ⟨bv, hw1, hr, hB⟩ := hw
  obtain ⟨ad, rfl, hcell⟩ := Kd.at_int (Kd.C_below hC (hg ▸ hB)) 0 (by omega) (by simp)
  have hc0 : w.cell? ad = some (.int .i64 n) := hcell
  have hcr : w.cell? ⟨g, 1, none⟩ = some (.slice (some ad) (ns.length + 1) c) := (blk_cell hw1 1).trans rfl
  have HC := Aside0.mk hC
  have HG := Aside0.mk hg
  have HL := Aside0.mk hL
  have HC2 := Aside0.mk hc
  clear hw1 hr hB hcell hC hg hL hl hc
  go_enter Try.func46, Try.ntmps46
  go_wp2_with fail
  refine HNUM.out.mono ?_
  rintro e w1 ⟨rfl, hw, hk⟩
  obtain ⟨bv, hw1, hr, hB⟩ := hw
  dsimp only
  have hcr : w1.cell? ⟨g, 1, none⟩ = some (.slice (some ad) (ns.length + 1) c) := (blk_cell hw1 1).trans rfl
  have hf := blk_frozen hw1 1
  have HW := Aside0.mk hw1
  have HR := Aside0.mk hr
  have HB := Aside0.mk hB
  have HK := Aside0.mk hk
  clear hw1 hr hB hk
  go_wp2
  · go_end0
    have hD := Kd.C_drop (m := 1) (c := c) HC.out (by simp) HC2.out
    refine ⟨rfl, ⟨_, _, ⟨bv, blk_put HW.out 1 _ rfl, Kd.R_set HR.out HW.out ne5_69 1 _, HB.out.setCell (Nat.le_refl g) _⟩, ?_, ?_, HG.out, HL.out⟩, KeepBut.put HK.out _ _⟩
    · rw [if_pos ‹c = 1›] at hD
      exact hD
    · have := HC2.out
      rw [List.length_cons] at this
      omega
  · go_end0
    have hD := Kd.C_drop (m := 1) (c := c) HC.out (by simp) HC2.out
    refine ⟨rfl, ⟨_, _, ⟨bv, blk_put HW.out 1 _ rfl, Kd.R_set HR.out HW.out ne5_69 1 _, HB.out.setCell (Nat.le_refl g) _⟩, ?_, ?_, HG.out, HL.out⟩, KeepBut.put HK.out _ _⟩
    · rw [if_neg ‹¬ c = 1›] at hD
      exact hD
    · have := HC2.out
      rw [List.length_cons] at this
      omega
theorem bytesB_len4 {n s : Int} (h : putsB n s = true) : (bytesB n s.toNat).length ≤ 4 := by
  have hs : isSz s = true := by simp only [putsB, Bool.and_eq_true] at h; exact h.1
  rw [bytesB_len]
  rcases isSz_iff.1 hs with rfl | rfl | rfl <;> decide
theorem wnum_len (n s : Int) (st : List Int × Bool) : (wnum n s st).1.length ≤ st.1.length + 4 := by
  rw [wnum_def]
  split
  · rename_i h
    have := bytesB_len4 h.2
    rw [List.length_append]
    omega
  · show st.1.length ≤ _
    omega
/-- so many texts -/
noncomputable def wtexts : List Int → List Int × Bool → List Int × Bool
  | [], st => st
  | n :: ns, st => wtexts ns (wnum n 2 st)
set_option maxHeartbeats 2000000 in
set_option maxRecDepth 100000 in
theorem wpats.calls (g : Nat) (n0 n1 n2 n3 : Int) (ns : List Int) (L : Loc) (a : Lat) (st : List Int × Bool) (w0 w : World) (h : Wt g (n0 :: n1 :: n2 :: n3 :: ns) L a st w0 w) (hl : st.1.length < 140737488350000) :
    Calls Try.prog 27 #[.pointer (some ⟨g, 0, none⟩)] w fun e w' => e = .returned (.tuple #[]) ∧ Wt g ns L a (wnum n3 2 (wnum n2 2 (wnum n1 2 (wnum n0 2 st)))) w0 w' ∧ KeepBut w w' g none := by
  have l0 := wnum_len n0 2 st
  have l1 := wnum_len n1 2 (wnum n0 2 st)
  have l2 := wnum_len n2 2 (wnum n1 2 (wnum n0 2 st))
  have H0 := Aside0.mk (wtext.calls g n0 (n1 :: n2 :: n3 :: ns) L a st w0 w h (by omega))
  have H1 := Aside0.mk (fun (w : World) (h : Wt g (n1 :: n2 :: n3 :: ns) L a (wnum n0 2 st) w0 w) => wtext.calls g n1 (n2 :: n3 :: ns) L a (wnum n0 2 st) w0 w h (by omega))
  have H2 := Aside0.mk (fun (w : World) (h : Wt g (n2 :: n3 :: ns) L a (wnum n1 2 (wnum n0 2 st)) w0 w) => wtext.calls g n2 (n3 :: ns) L a (wnum n1 2 (wnum n0 2 st)) w0 w h (by omega))
  have H3 := Aside0.mk (fun (w : World) (h : Wt g (n3 :: ns) L a (wnum n2 2 (wnum n1 2 (wnum n0 2 st))) w0 w) => wtext.calls g n3 ns L a (wnum n2 2 (wnum n1 2 (wnum n0 2 st))) w0 w h (by omega))
  have HLT := Aside0.mk h.lt
  clear l0 l1 l2 h hl
  go_enter Try.func27, Try.ntmps27
  go_wp2_with fail
  go_loopg [2] 4 (fun kq v2 w' => (v2 = .int .i64 0 ∧ kq = 4 ∧ w' = w) ∨ (v2 = .int .i64 1 ∧ kq = 3 ∧ Aside0 (Wt g (n1 :: n2 :: n3 :: ns) L a (wnum n0 2 st) w0 w' ∧ KeepBut w w' g none)) ∨ (v2 = .int .i64 2 ∧ kq = 2 ∧ Aside0 (Wt g (n2 :: n3 :: ns) L a (wnum n1 2 (wnum n0 2 st)) w0 w' ∧ KeepBut w w' g none)) ∨ (v2 = .int .i64 3 ∧ kq = 1 ∧ Aside0 (Wt g (n3 :: ns) L a (wnum n2 2 (wnum n1 2 (wnum n0 2 st))) w0 w' ∧ KeepBut w w' g none)) ∨ (v2 = .int .i64 4 ∧ kq = 0 ∧ Aside0 (Wt g ns L a (wnum n3 2 (wnum n2 2 (wnum n1 2 (wnum n0 2 st)))) w0 w' ∧ KeepBut w w' g none)))
  case atStart => exact .inl ⟨rfl, rfl, rfl⟩
  case round =>
    rcases hrel with ⟨rfl, rfl, rfl⟩ | ⟨rfl, rfl, HA⟩ | ⟨rfl, rfl, HA⟩ | ⟨rfl, rfl, HA⟩ | ⟨rfl, rfl, HA⟩
    · go_wp2_with fail
      refine H0.out.mono ?_
      rintro e w1 ⟨rfl, hw, hk⟩
      have HA := Aside0.mk (And.intro hw hk)
      clear hw hk
      go_wp2
      go_roundg 3
      case measure => decide
      case rel => exact .inr (.inl ⟨rfl, rfl, HA⟩)
    · go_wp2_with fail
      refine (H1.out _ HA.out.1).mono ?_
      rintro e w1 ⟨rfl, hw, hk⟩
      have HB := Aside0.mk (And.intro hw (KeepBut.trans HA.out.2 hk (.inl rfl)))
      clear hw hk
      go_wp2
      go_roundg 2
      case measure => decide
      case rel => exact .inr (.inr (.inl ⟨rfl, rfl, HB⟩))
    · go_wp2_with fail
      refine (H2.out _ HA.out.1).mono ?_
      rintro e w1 ⟨rfl, hw, hk⟩
      have HB := Aside0.mk (And.intro hw (KeepBut.trans HA.out.2 hk (.inl rfl)))
      clear hw hk
      go_wp2
      go_roundg 1
      case measure => decide
      case rel => exact .inr (.inr (.inr (.inl ⟨rfl, rfl, HB⟩)))
    · go_wp2_with fail
      refine (H3.out _ HA.out.1).mono ?_
      rintro e w1 ⟨rfl, hw, hk⟩
      have HB := Aside0.mk (And.intro hw (KeepBut.trans HA.out.2 hk (.inl rfl)))
      clear hw hk
      go_wp2
      go_roundg 0
      case measure => decide
      case rel => exact .inr (.inr (.inr (.inr ⟨rfl, rfl, HB⟩)))
    · go_wp2
      go_end0
      exact ⟨rfl, HA.out⟩
end Go.Proofs.Ytmhpcjncngonbaa.Q
/- What pack.Gather comes to: each text once, and the places; rows as long as memory has room. -/
namespace Go.Proofs.Ytmhpcjncngonbaa.Q
open Go.RowKit Go.Proofs.Ytmhpcjncngonbaa.Mine Go.Proofs.YtmhpcjncngonbaaW.PrintWords Go.Proofs.YtmhpcjncngonbaaW.PrintLast Go.Proofs.YtmhpcjncngonbaaW.PrintMore
open Go.ChangeMaps (setBlock)
set_option linter.unusedVariables false
set_option linter.unusedSimpArgs false
def gstep (p : List ByteArray) (s : ByteArray) : List ByteArray := if s ∈ p then p else p ++ [s]
/-- the texts of a row, each once -/
def gpool (l : List ByteArray) : List ByteArray := l.foldl gstep []
/-- the places of a row's texts in a pool -/
def grefs (p : List ByteArray) (l : List ByteArray) : List Int := l.map fun s => (p.idxOf s : Int)
def pack_Gather.f (l0 : List ByteArray) : Option (List ByteArray × List Int) := if l0.length < 8796093022208 then some (gpool l0, grefs (gpool l0) l0) else none
theorem gpool_mem : ∀ (l p : List ByteArray) (x : ByteArray), (x ∈ p ∨ x ∈ l) → x ∈ l.foldl gstep p
  | [], p, x, h => h.resolve_right List.not_mem_nil
  | y :: l, p, x, h => by
    refine gpool_mem l (gstep p y) x ?_
    unfold gstep
    rcases h with h | h
    · left; split
      · exact h
      · exact List.mem_append_left _ h
    · rcases List.mem_cons.1 h with rfl | h
      · left; split
        · assumption
        · exact List.mem_append_right _ (List.mem_singleton.2 rfl)
      · exact .inr h
theorem mem_gpool {l : List ByteArray} {x : ByteArray} (h : x ∈ l) : x ∈ gpool l := gpool_mem l [] x (.inr h)
theorem idx_gstep {p : List ByteArray} {x : ByteArray} (s : ByteArray) (h : x ∈ p) : (gstep p s).idxOf x = p.idxOf x := by
  unfold gstep
  split
  · rfl
  · rw [List.idxOf_append, if_pos h]
theorem grefs_step {p l : List ByteArray} (s : ByteArray) {n k m : Nat} (hl : l.length = n) (hk : m = k + 1) (hm : ∀ x ∈ l, x ∈ p) : (((grefs p l ++ List.replicate m 0).map (Value.int .i64)).toArray).setIfInBounds n (Value.int .i64 ((gstep p s).idxOf s : Int)) = ((grefs (gstep p s) (l ++ [s]) ++ List.replicate k 0).map (Value.int .i64)).toArray := by
  subst hl hk
  have e1 : grefs (gstep p s) (l ++ [s]) = grefs p l ++ [((gstep p s).idxOf s : Int)] := by
    unfold grefs
    rw [List.map_append]
    congr 1
    exact List.map_congr_left (fun x hx => by rw [idx_gstep s (hm x hx)])
  rw [e1]
  have e2 : (grefs p l).length = l.length := by simp [grefs]
  rw [List.setIfInBounds_toArray]
  congr 1
  rw [List.replicate_succ, List.map_append, List.map_cons, List.set_append_right _ _ (by simp [e2])]
  simp [e2]
theorem gstep_len (p : List ByteArray) (s : ByteArray) : (gstep p s).length ≤ p.length + 1 := by unfold gstep; split <;> simp
theorem gpool_lenI : ∀ (l p : List ByteArray), (l.foldl gstep p).length ≤ p.length + l.length
  | [], p => by simp
  | x :: l, p => by
    have h1 := gpool_lenI l (gstep p x)
    have h2 := gstep_len p x
    rw [List.foldl_cons, List.length_cons]
    omega
theorem gpool_len (l : List ByteArray) : (gpool l).length ≤ l.length := by have := gpool_lenI l []; simpa [gpool] using this
theorem setBlock_ne {W : World} {g i : Nat} (o1 : Obj) (o2 : Unit) (h : i ≠ g) : (setBlock W g o1).heap[i]? = W.heap[i]? := by simp [setBlock, Ne.symm h]
theorem below_setBlock {W : World} {g B : Nat} (o : Obj) (u : Unit) (h : B ≤ g) : Below B W (setBlock W g o) := ⟨rfl, rfl, rfl, by simp [setBlock], fun k hk => by simp [setBlock, show g ≠ k by omega]⟩
theorem made_zeros (m : Nat) : madeCells #[Value.int .i64 0] m = ((List.replicate m (0 : Int)).map (Value.int .i64)).toArray := by
  apply Array.ext'
  rw [List.toList_toArray]
  apply List.ext_getElem
  · simp [madeCells]
  · intro i h1 h2
    simp [madeCells, Nat.mod_one]
theorem gpool_take {l : List ByteArray} {n : Nat} (h : n < l.length) : gpool (l.take (n + 1)) = gstep (gpool (l.take n)) l[n] := by
  rw [List.take_succ_eq_append_getElem h]
  unfold gpool
  rw [List.foldl_append]
  rfl
set_option maxHeartbeats 4000000 in
set_option maxRecDepth 100000 in
theorem pack_Gather.calls (A0 : Option Addr) (c0 : Nat) (l0 : List ByteArray) (r1 : List ByteArray) (r2 : List Int) (w : World) (hr0 : Kd.C Kd.string w A0 l0.length l0) (hc0 : l0.length ≤ c0) (h : pack_Gather.f l0 = some (r1, r2)) :
    Calls Try.prog 24 #[.slice A0 l0.length c0] w fun e w' => ∃ v0_ v1_ : Value, e = .returned (.tuple #[v0_, v1_]) ∧ Kd.R Kd.string 9 w' w.heap.size (fun _ => True) v0_ r1 ∧ Kd.R (Kd.int .i64) 3 w' w.heap.size (fun _ => True) v1_ r2 ∧ Below w.heap.size w w' := by
  unfold pack_Gather.f at h
  by_cases hl : l0.length < 8796093022208
  case neg => rw [if_neg hl] at h; cases h
  rw [if_pos hl] at h
  obtain ⟨rfl, rfl⟩ := Prod.mk.inj (Option.some.inj h)
  have HR0 := Aside0.mk hr0
  have HC0 := Aside0.mk hc0
  have HL := Aside0.mk hl
  clear hr0 hc0 hl h
  have hmm := @run_makeMap Try.prog
  have hmk := print_make (P := Try.prog) 63 3 .i64 8 Try.underlying63 info3 (by omega) l0.length (by have := HL.out; omega)
  go_enter Try.func24, Try.ntmps24
  go_wp2_with fail
  have HB := Aside0.mk ((((Below.refl w.heap.size w).alloc (Nat.le_refl _) (.map #[] 0)).alloc (by simp) (.cells (madeCells #[Value.int .i64 0] l0.length) 3)))
  clear hmm hmk
  generalize hW : (w.alloc (Obj.map #[] 0)).alloc (Obj.cells (madeCells #[Value.int .i64 0] l0.length) 3) = w1 at HB ⊢
  have HM := Aside0.mk (show w1.heap[w.heap.size]? = some (.map #[] 0) by rw [← hW]; exact heap_alloc_old _ _ (by simp) |>.trans (heap_alloc_new w _))
  have HG := Aside0.mk (show w1.heap[w.heap.size + 1]? = some (.cells (madeCells #[Value.int .i64 0] l0.length) 3) by rw [← hW]; have := heap_alloc_new (w.alloc (Obj.map #[] 0)) (Obj.cells (madeCells #[Value.int .i64 0] l0.length) 3); simpa using this)
  clear hW
  go_loopg [5, 18] l0.length (fun kq v5 v18 wr => ∃ n : Nat, v18 = .int .i64 (n : Int) ∧ Aside0 (n ≤ l0.length) ∧ Aside0 (l0.length - n = kq) ∧ Aside0 (Kd.string.R 9 wr (w.heap.size + 2) (fun k_ => w.heap.size + 2 ≤ k_) v5 (gpool (l0.take n))) ∧ Aside0 (wr.heap[w.heap.size]? = some (.map (wents 0 (gpool (l0.take n))).toArray (gpool (l0.take n)).length)) ∧ Aside0 (wr.heap[w.heap.size + 1]? = some (.cells (((grefs (gpool (l0.take n)) (l0.take n)) ++ List.replicate (l0.length - n) 0).map (Value.int .i64)).toArray 3 (0, 0))) ∧ Aside0 (Below w.heap.size w wr))
  case atStart =>
    refine ⟨0, rfl, ⟨Nat.zero_le _⟩, ⟨rfl⟩, ⟨?_⟩, HM, ⟨?_⟩, HB⟩
    · exact Kd.R_nil _ _ _ _ _
    · rw [HG.out, made_zeros, List.take_zero]
      rfl
  case round =>
    obtain ⟨n, rfl, HN, HK, HO, HM1, HG1, HB1⟩ := hrel
    by_cases hlt : n < l0.length
    · have HLT := Aside0.mk hlt
      obtain ⟨ad, hA, hcell⟩ := Kd.at_string (Kd.C_below HR0.out HB1.out) (n : Int) (by omega) (by omega)
      have hrd : rdOf ByteArray.empty l0 (n : Int) = l0[n] := by simp [rdOf, List.getD_eq_getElem?_getD, hlt]
      rw [hrd, Int.toNat_natCast] at hcell
      have hp1 := gpool_take hlt
      have ht1 : l0.take (n + 1) = l0.take n ++ [l0[n]] := List.take_succ_eq_append_getElem hlt
      generalize hs : l0[n] = s at hcell hp1 ht1
      generalize hp : gpool (l0.take n) = p at HO HM1 HG1 hp1
      have HP1 := Aside0.mk hp1
      have HT1 := Aside0.mk ht1
      have HP := Aside0.mk hp
      have HBW := Aside0.mk (HB1.out)
      cases hA
      clear hrd hp1 ht1 hp hs
      obtain ⟨A5, c5, rfl⟩ := Kd.R_slice HO.out
      have HMb := Aside0.mk (blk_alloc HM1.out (.cells #[.int .i64 (s.size : Int), .string s] 84))
      have HGb := Aside0.mk (blk_alloc HG1.out (.cells #[.int .i64 (s.size : Int), .string s] 84))
      have HOb := Aside0.mk (Kd.R_alloc HO.out (.cells #[.int .i64 (s.size : Int), .string s] 84))
      have HXb := Aside0.mk (blk_new wr (.cells #[.int .i64 (s.size : Int), .string s] 84))
      have HBb := Aside0.mk (HB1.out.alloc HB1.out.size (.cells #[.int .i64 (s.size : Int), .string s] 84))
      have HTl := Aside0.mk (show (l0.take n).length = n by rw [List.length_take]; omega)
      have HMP := Aside0.mk (show ∀ x ∈ l0.take n, x ∈ p from fun x hx => HP.out ▸ mem_gpool hx)
      have hz0 : ∀ q : List ByteArray, ((grefs q (l0.take n) ++ List.replicate (l0.length - n) 0).map (Value.int .i64)).toArray[n]? = some (.int .i64 0) := fun q => by
        have e2 : (grefs q (l0.take n)).length = n := by rw [← HTl.out]; simp [grefs]
        rw [List.getElem?_toArray, List.getElem?_map, List.getElem?_append_right (by omega), e2, Nat.sub_self, List.getElem?_replicate, if_pos (by omega)]
        rfl
      have hm : l0.length ≤ 9223372036854775807 := by have := HL.out; omega
      by_cases hs : s ∈ p
      · have hlk := run_look_yes (wr.alloc (.cells #[.int .i64 (s.size : Int), .string s] 84)) w.heap.size p s true HMb.out hs
        have hlk2 := run_look_yes (wr.alloc (.cells #[.int .i64 (s.size : Int), .string s] 84)) w.heap.size p s false HMb.out hs
        rw [if_pos rfl] at hlk
        rw [if_neg (by simp)] at hlk2
        have HS := Aside0.mk hs
        clear hs
        have hst := blk_frozen HGb.out n
        have hst0 : (wr.alloc (.cells #[.int .i64 (s.size : Int), .string s] 84)).cell? ⟨w.heap.size + 1, n, none⟩ = some (.int .i64 0) := (blk_cell HGb.out n).trans (hz0 p)
        go_wp2_with fail
        go_roundg (l0.length - (n + 1))
        case measure => have := HLT.out; have := HK.out; omega
        case rel =>
          have hg : gstep p s = p := if_pos HS.out
          refine ⟨n + 1, by go_num, ⟨HLT.out⟩, ⟨rfl⟩, ⟨?_⟩, ⟨?_⟩, ⟨?_⟩, ⟨?_⟩⟩
          · rw [HP1.out, hg]; exact Kd.R_far HOb.out (fun k hk => by show k ≠ w.heap.size + 1; omega) _
          · rw [HP1.out, hg]; exact (Below.heap_setCell _ _ _ _ (by simp)).trans HMb.out
          · rw [HP1.out, HT1.out]; exact blk_put HGb.out n _ (by have := grefs_step (p := p) (l := l0.take n) s (n := n) (k := l0.length - (n + 1)) (m := l0.length - n) HTl.out (by have := HLT.out; omega) HMP.out; rw [hg] at this ⊢; exact this)
          · exact HBb.out.setCell (by simp) _
      · have hlk := run_look_no (wr.alloc (.cells #[.int .i64 (s.size : Int), .string s] 84)) w.heap.size p s HMb.out hs
        have hins := run_ins (wr.alloc (.cells #[.int .i64 (s.size : Int), .string s] 84)) w.heap.size p s HMb.out hs
        have HS := Aside0.mk hs
        clear hs
        have HM2 := Aside0.mk (show (setBlock (wr.alloc (.cells #[.int .i64 (s.size : Int), .string s] 84)) w.heap.size (.map (wents 0 (p ++ [s])).toArray (p ++ [s]).length)).heap[w.heap.size]? = some (.map (wents 0 (p ++ [s])).toArray (p ++ [s]).length) by have := blk_lt HMb.out; simp only [setBlock]; rw [Array.getElem?_setIfInBounds_self_of_lt this])
        have HG2 := Aside0.mk (show (setBlock (wr.alloc (.cells #[.int .i64 (s.size : Int), .string s] 84)) w.heap.size (.map (wents 0 (p ++ [s])).toArray (p ++ [s]).length)).heap[w.heap.size + 1]? = _ from (setBlock_ne _ () (by omega)).trans HGb.out)
        have HX2 := Aside0.mk (show (setBlock (wr.alloc (.cells #[.int .i64 (s.size : Int), .string s] 84)) w.heap.size (.map (wents 0 (p ++ [s])).toArray (p ++ [s]).length)).heap[wr.heap.size]? = _ from (setBlock_ne _ () (by have := blk_lt HM1.out; omega)).trans HXb.out)
        have HO2 := Aside0.mk (show Kd.string.R 9 (setBlock (wr.alloc (.cells #[.int .i64 (s.size : Int), .string s] 84)) w.heap.size (.map (wents 0 (p ++ [s])).toArray (p ++ [s]).length)) (w.heap.size + 2) (fun k_ => w.heap.size + 2 ≤ k_) (.slice A5 p.length c5) p from Kd.R_step HOb.out (fun k hk _ => setBlock_ne _ () (by omega)))
        have HB2 := Aside0.mk (show Below w.heap.size w (setBlock (wr.alloc (.cells #[.int .i64 (s.size : Int), .string s] 84)) w.heap.size (.map (wents 0 (p ++ [s])).toArray (p ++ [s]).length)) from HBb.out.trans (below_setBlock _ () (Nat.le_refl _)))
        have HZ2 := Aside0.mk (show w.heap.size + 2 ≤ (setBlock (wr.alloc (.cells #[.int .i64 (s.size : Int), .string s] 84)) w.heap.size (.map (wents 0 (p ++ [s])).toArray (p ++ [s]).length)).heap.size by have := blk_lt HG1.out; simp [setBlock]; omega)
        generalize hW2 : setBlock (wr.alloc (.cells #[.int .i64 (s.size : Int), .string s] 84)) w.heap.size (.map (wents 0 (p ++ [s])).toArray (p ++ [s]).length) = w2 at hins HM2 HG2 HX2 HO2 HB2 HZ2
        have HPL := Aside0.mk (show p.length ≤ n by have := gpool_len (l0.take n); rw [HP.out, HTl.out] at this; exact this)
        clear hW2
        go_wp2_with ((with_reducible refine gate_builtin (b := .append) (xs := #[.tmp 39, .tmp 41]) rfl ?_); at_builtin; refine Kd.R_append Kd.string (w0 := w2) (w.heap.size + 2) rfl (.tmp 39) (.tmp 41) 48 9 (.string ⟨#[]⟩) 16 rfl Try.underlying48 info9 rfl (by decide) (by omega) (.slice A5 p.length c5) p s [.string s] (fun k_ => w.heap.size + 2 ≤ k_) (fun _ => False) rfl rfl ?aP (fun _ hk => hk.elim) ?aF HO2.out (Below.refl _ _) HZ2.out ?aL ?_; (case aP => exact rfl); (case aF => exact (fun k_ hk => Nat.le_trans HZ2.out hk)); (case aL => have := HL.out; have := HPL.out; have := HLT.out; omega); intro v3 w3 ho hb hg hat; have hne := fun g (hg_ : g < w.heap.size + 2) => (show some g ≠ (Value.slice A5 p.length c5).ownBlock from fun e => by have := Kd.R_base HO2.out g e.symm; omega); have HO3 := Aside0.mk ho; have HM3 := Aside0.mk (blk_grown HM2.out hg (hne _ (by omega))); have HG3 := Aside0.mk (blk_grown HG2.out hg (hne _ (by omega))); have HX3 := Aside0.mk (show w3.heap[wr.heap.size]? = _ from blk_grown HX2.out hg (Kd.R_ne_new HO.out 0)); have HB3 := Aside0.mk (pw_below_grown HB2.out _ HB2.out.size hg (fun k hk => by have := Kd.R_base HO2.out k hk; omega)); clear ho hb hg hat hne; have hc0 := (blk_cell HX3.out 0).trans rfl; have hc1 := (blk_cell HX3.out 1).trans rfl; have hlk2 := run_look_yes w3 w.heap.size (p ++ [s]) s false HM3.out (by simp); rw [if_neg (by simp)] at hlk2; have hst := blk_frozen HG3.out n; have hst0 : w3.cell? ⟨w.heap.size + 1, n, none⟩ = some (.int .i64 0) := (blk_cell HG3.out n).trans (hz0 p))
        go_roundg (l0.length - (n + 1))
        case measure => have := HLT.out; have := HK.out; omega
        case rel =>
          have hg : gstep p s = p ++ [s] := if_neg HS.out
          refine ⟨n + 1, by go_num, ⟨HLT.out⟩, ⟨rfl⟩, ⟨?_⟩, ⟨?_⟩, ⟨?_⟩, ⟨?_⟩⟩
          · rw [HP1.out, hg]; exact Kd.R_far HO3.out (fun k hk => by show k ≠ w.heap.size + 1; omega) _
          · rw [HP1.out, hg]; exact (Below.heap_setCell _ _ _ _ (by simp)).trans HM3.out
          · rw [HP1.out, HT1.out]; exact blk_put HG3.out n _ (by have := grefs_step (p := p) (l := l0.take n) s (n := n) (k := l0.length - (n + 1)) (m := l0.length - n) HTl.out (by have := HLT.out; omega) HMP.out; rw [hg] at this ⊢; exact this)
          · exact HB3.out.setCell (by simp) _
    · have hn : n = l0.length := by have := HN.out; omega
      subst hn
      have HO5 := HO.out
      have HM5 := HM1.out
      have HG5 := HG1.out
      rw [List.take_length] at HO5 HG5
      clear HO
      obtain ⟨A5, c5, rfl⟩ := Kd.R_slice HO5
      rw [Nat.sub_self, List.replicate_zero, List.append_nil] at HG5
      have HO6 := Aside0.mk HO5
      have HG6 := Aside0.mk HG5
      have hm : l0.length ≤ 9223372036854775807 := by have := HL.out; omega
      clear HO5 HM5 HG5
      go_wp2
      go_ret2
      refine ⟨_, _, rfl, Kd.R_mono (Kd.R_lower HO6.out (show w.heap.size ≤ w.heap.size + 2 by omega)) (fun _ _ => trivial), ?_, HB1.out⟩
      have hlen : (grefs (gpool l0) l0).length = l0.length := by simp [grefs]
      have hfin := R_ints_mk (k := .i64) (e := 3) (w := wr) (base := w.heap.size) (ok := fun _ => True) (xs := grefs (gpool l0) l0) (g := w.heap.size + 1) (cap := l0.length) (cur := ((grefs (gpool l0) l0).map (Value.int .i64)).toArray) trivial (by omega) HG6.out (by omega) (by unfold maxLen; omega) (by simp [hlen]) (by rw [List.toList_toArray]; exact List.take_of_length_le (by simp))
      rw [hlen] at hfin
      exact hfin
end Go.Proofs.Ytmhpcjncngonbaa.Q
/- What pack.isPool comes to; rows as long as memory has room. -/
namespace Go.Proofs.Ytmhpcjncngonbaa.Q
open Go.RowKit Go.Proofs.Ytmhpcjncngonbaa.Mine Go.Proofs.YtmhpcjncngonbaaW.PrintWords Go.Proofs.YtmhpcjncngonbaaW.PrintLast Go.Proofs.YtmhpcjncngonbaaW.PrintMore
set_option linter.unusedVariables false
set_option linter.unusedSimpArgs false
def fidx : List ByteArray → Nat → Int
  | [], _ => -1
  | s :: l, n => if 400 < s.size then (n : Int) else fidx l (n + 1)
theorem fidx_any : ∀ (l : List ByteArray) (n : Nat), decide (fidx l n ≥ 0) = l.any fun s => decide (400 < s.size)
  | [], n => rfl
  | s :: l, n => by
    rw [fidx, List.any_cons]
    by_cases h : 400 < s.size
    · rw [if_pos h, decide_eq_true h, Bool.true_or, decide_eq_true (by omega)]
    · rw [if_neg h, decide_eq_false h, Bool.false_or]
      exact fidx_any l (n + 1)
theorem isPool_1.calls (s : ByteArray) (w : World) : Calls Try.prog 63 #[.string s] w fun e w' => e = .returned (.bool (decide (400 < s.size))) ∧ w = w' := by
  go_enter Try.func63, Try.ntmps63
  go_wp2
  go_ret
  exact ⟨by first | rfl | (simp; done) | (simp; omega), rfl⟩
set_option maxHeartbeats 2000000 in
set_option maxRecDepth 100000 in
theorem isPool_2.calls (A0 : Option Addr) (c0 : Nat) (l0 : List ByteArray) (w : World) (hr0 : Kd.C Kd.string w A0 l0.length l0) :
    Calls Try.prog 74 #[.slice A0 l0.length c0, .func (.func 63) #[] #[]] w fun e w' => e = .returned (.int .i64 (fidx l0 0)) ∧ w = w' := by
  have HR0 := Aside0.mk hr0
  have hm : l0.length ≤ 9223372036854775807 := hr0.2.1
  clear hr0
  go_enter Try.func74, Try.ntmps74
  go_wp2
  go_loopg [8] l0.length (fun kq v8 wr => ∃ n : Nat, v8 = .int .i64 (n : Int) ∧ Aside0 (n ≤ l0.length) ∧ Aside0 (l0.length - n = kq) ∧ Aside0 (fidx l0 0 = fidx (l0.drop n) n) ∧ wr = w)
  case atStart => exact ⟨0, rfl, ⟨Nat.zero_le _⟩, ⟨rfl⟩, ⟨rfl⟩, rfl⟩
  case round =>
    obtain ⟨n, rfl, HN, HK, HF, rfl⟩ := hrel
    by_cases hlt : n < l0.length
    · have HLT := Aside0.mk hlt
      obtain ⟨ad, hA, hcell⟩ := Kd.at_string HR0.out (n : Int) (by omega) (by omega)
      have hrd : rdOf ByteArray.empty l0 (n : Int) = l0[n] := by simp [rdOf, List.getD_eq_getElem?_getD, hlt]
      rw [hrd, Int.toNat_natCast] at hcell
      have hf := HF.out
      rw [List.drop_eq_getElem_cons hlt, fidx] at hf
      generalize hs : l0[n] = s at hcell hf
      clear hrd hs
      cases hA
      have HF2 := Aside0.mk hf
      clear hf
      by_cases hq : 400 < s.size
      · have HQ := Aside0.mk hq
        go_wp2_with fail
        refine (isPool_1.calls s _).mono ?_
        rintro e w1 ⟨rfl, rfl⟩
        have hd : decide (400 < s.size) = true := decide_eq_true HQ.out
        dsimp only
        rw [hd]
        go_wp2
        go_ret
        have h2 := HF2.out
        rw [if_pos HQ.out] at h2
        exact ⟨by rw [h2]; rfl, rfl⟩
      · have HQ := Aside0.mk hq
        go_wp2_with fail
        refine (isPool_1.calls s _).mono ?_
        rintro e w1 ⟨rfl, rfl⟩
        have hd : decide (400 < s.size) = false := decide_eq_false HQ.out
        dsimp only
        rw [hd]
        go_wp2
        go_roundg (l0.length - (n + 1))
        case measure => have := HLT.out; have := HK.out; omega
        case rel =>
          have h2 := HF2.out
          rw [if_neg HQ.out] at h2
          exact ⟨n + 1, by go_num, ⟨HLT.out⟩, ⟨rfl⟩, ⟨h2⟩, rfl⟩
    · have h2 := HF.out
      have HN2 := HN.out
      rw [List.drop_eq_nil_of_le (by omega)] at h2
      have HF2 := Aside0.mk h2
      clear h2
      go_wp2
      go_ret
      exact ⟨by rw [HF2.out]; rfl, rfl⟩
set_option maxHeartbeats 2000000 in
set_option maxRecDepth 100000 in
theorem isPool_3.calls (A0 : Option Addr) (c0 : Nat) (l0 : List ByteArray) (w : World) (hr0 : Kd.C Kd.string w A0 l0.length l0) :
    Calls Try.prog 64 #[.slice A0 l0.length c0, .func (.func 63) #[] #[]] w fun e w' => e = .returned (.bool (l0.any fun s => decide (400 < s.size))) ∧ w = w' := by
  have HR0 := Aside0.mk hr0
  clear hr0
  go_enter Try.func64, Try.ntmps64
  go_wp2_with fail
  refine (isPool_2.calls A0 c0 l0 _ HR0.out).mono ?_
  rintro e w1 ⟨rfl, rfl⟩
  have hany := Aside0.mk (fidx_any l0 0)
  dsimp only
  generalize fidx l0 0 = i at hany ⊢
  go_wp2
  go_ret
  exact ⟨by rw [← hany.out]; rfl, rfl⟩
/-- is it a pool? -/
def isPoolB (l : List ByteArray) : Bool := decide ((gpool l).length = l.length) && (decide (l.length ≤ 500) && !(l.any fun s => decide (400 < s.size)))
def pack_isPool.f (l0 : List ByteArray) : Option Bool := if l0.length < 8796093022208 then some (isPoolB l0) else none
set_option maxHeartbeats 2000000 in
set_option maxRecDepth 100000 in
theorem pack_isPool.calls (A0 : Option Addr) (c0 : Nat) (l0 : List ByteArray) (r : Bool) (w : World) (hr0 : Kd.C Kd.string w A0 l0.length l0) (hc0 : l0.length ≤ c0) (h : pack_isPool.f l0 = some r) :
    Calls Try.prog 44 #[.slice A0 l0.length c0] w fun e w' => e = .returned (.bool r) ∧ Below w.heap.size w w' := by
  unfold pack_isPool.f at h
  by_cases hl : l0.length < 8796093022208
  case neg => rw [if_neg hl] at h; cases h
  rw [if_pos hl] at h
  obtain rfl := Option.some.inj h
  have HR0 := Aside0.mk hr0
  have HC0 := Aside0.mk hc0
  have A1 := Aside0.mk (show pack_Gather.f l0 = some (gpool l0, grefs (gpool l0) l0) from if_pos hl)
  clear hr0 hc0 hl h
  go_enter Try.func44, Try.ntmps44
  go_wp2_with fail
  refine (pack_Gather.calls A0 c0 l0 _ _ _ HR0.out HC0.out A1.out).mono ?_
  rintro e w1 ⟨v0, v1, rfl, ho, hi, hb⟩
  obtain ⟨A5, c5, rfl⟩ := Kd.R_slice ho
  obtain ⟨A6, c6, rfl⟩ := Kd.R_slice hi
  have HB := Aside0.mk hb
  have HR1 := Aside0.mk (Kd.C_below HR0.out hb)
  clear ho hi hb
  obtain ⟨q, hq⟩ : ∃ q, q = (gpool l0).length := ⟨_, rfl⟩
  have HQ := Aside0.mk hq
  have hany : ∀ b, (l0.any fun s => decide (400 < s.size)) = b → Calls Try.prog 64 #[.slice A0 l0.length c0, .func (.func 63) #[] #[]] w1 fun e w' => e = .returned (.bool b) ∧ w1 = w' := fun b hb => hb ▸ isPool_3.calls A0 c0 l0 w1 HR1.out
  have HANY := Aside0.mk hany
  clear hany
  dsimp only
  rw [← hq]
  clear hq
  by_cases c1 : q = l0.length
  · subst c1
    by_cases c2 : l0.length ≤ 500
    · have HC2 := Aside0.mk c2
      cases c3 : (l0.any fun s => decide (400 < s.size)) with
      | true =>
        have H3 := Aside0.mk c3
        clear c3
        go_wp2_with fail
        refine (HANY.out _ H3.out).mono ?_
        rintro e w2 ⟨rfl, rfl⟩
        dsimp only
        go_wp2
        go_ret
        exact ⟨by rw [isPoolB, H3.out]; simp, HB.out⟩
      | false =>
        have H3 := Aside0.mk c3
        clear c3
        go_wp2_with fail
        refine (HANY.out _ H3.out).mono ?_
        rintro e w2 ⟨rfl, rfl⟩
        dsimp only
        go_wp2
        go_ret
        exact ⟨by rw [isPoolB, H3.out, decide_eq_true HC2.out, decide_eq_true HQ.out.symm]; rfl, HB.out⟩
    · have HC2 := Aside0.mk c2
      have hd : decide (l0.length ≤ 500) = false := decide_eq_false c2
      have hd2 : decide ((l0.length : Int) ≤ 500) = false := decide_eq_false (by omega)
      clear c2
      go_wp2
      go_ret
      exact ⟨by rw [isPoolB, decide_eq_false HC2.out]; simp, HB.out⟩
  · have HC1 := Aside0.mk c1
    have hd : (q == l0.length) = false := beq_eq_false_iff_ne.2 c1
    have hd2 : decide (q = l0.length) = false := decide_eq_false c1
    have hd3 : ((q : Int) == (l0.length : Int)) = false := beq_eq_false_iff_ne.2 (by omega)
    clear c1
    go_wp2
    go_ret
    exact ⟨by rw [isPoolB, ← HQ.out, decide_eq_false HC1.out]; rfl, HB.out⟩
end Go.Proofs.Ytmhpcjncngonbaa.Q
