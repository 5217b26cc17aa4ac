/- What the reference's small functions come to, in plain Lean; rows as long as memory has room. -/
import Derived.Test.YtmgkfklkdedpgaaIsPool
import Derived.Test.YtmgkfklkdedpgaaQx9
import Derived.Test.YtmgkfklkdedpgaaQx12
import Derived.Test.YtmgkfklkdedpgaaQx13
import Derived.Test.YtmgkfklkdedpgaaQx14
import Derived.Test.YtmgkfklkdedpgaaQx15
import Derived.Test.YtmgkfklkdedpgaaQx16
import Derived.Test.YtmgkfklkdedpgaaQx17
import Derived.Test.YtmgkfklkdedpgaaQx18
import Derived.Test.YtmgkfklkdedpgaaQx25
namespace Go.Proofs.Ytmgkfklkdedpgaa.Q
open Go.RowKit Go.Proofs.Ytmgkfklkdedpgaa.Mine Go.Proofs.YtmgkfklkdedpgaaW.PrintWords Go.Proofs.YtmgkfklkdedpgaaW.PrintLast Go.Proofs.YtmgkfklkdedpgaaW.PrintMore
set_option linter.unusedVariables false
set_option linter.unusedSimpArgs false
theorem wr {x : Int} (h : -9223372036854775808 ≤ x) (h2 : x < 9223372036854775808) : wrap64 x = x := by unfold wrap64; omega
theorem succ_of {k b : Nat} (h : b < k) : ∃ m, k = m + 1 ∧ b ≤ m := ⟨k - 1, by omega, by omega⟩
theorem rd_at {a : List Int} {n : Nat} (h : n < a.length) : rd a (n : Int) = a[n] := by simp [rd, List.getD_eq_getElem?_getD, h]
theorem rs_at {a : List ByteArray} {n : Nat} (h : n < a.length) : rdOf ByteArray.empty a (n : Int) = a[n] := by simp [rdOf, List.getD_eq_getElem?_getD, h]
theorem tl_eq (s t : ByteArray) : s.toList = t.toList ↔ s = t := by
  have h := toList_eq_iff s t
  rw [Bool.eq_iff_iff, beq_iff_eq, decide_eq_true_iff] at h
  exact h
theorem drop_dec {α : Type} [DecidableEq α] {a b : List α} {n : Nat} (h1 : n < a.length) (h2 : n < b.length) (e : a[n] = b[n]) : decide (a.drop n = b.drop n) = decide (a.drop (n + 1) = b.drop (n + 1)) := by
  rw [List.drop_eq_getElem_cons h1, List.drop_eq_getElem_cons h2, e, decide_eq_decide]
  simp only [List.cons.injEq, true_and]
theorem idx_le : ∀ (l : List ByteArray) (n : Nat) (h : n < l.length), l.idxOf l[n] ≤ n
  | x :: l, 0, h => by simp
  | x :: l, n + 1, h => by
    rw [List.getElem_cons_succ, List.idxOf_cons]
    have h2 : n < l.length := by simpa using h
    cases x == l[n] with
    | true => simp
    | false => simpa using idx_le l n h2
theorem Row_l (a b : List Int) (he : a.length = b.length) (hl : a.length < 140737488355328) : ∀ (d n k : Nat), n + d = a.length → d < k → exergueref01_Row.l0 k a b (n : Int) = some (decide (a.drop n = b.drop n)) := by
  intro d
  induction d with
  | zero =>
    intro n k hn hk
    obtain ⟨m, rfl, _⟩ := succ_of hk
    simp only [exergueref01_Row.l0]
    rw [if_neg (by omega), List.drop_eq_nil_of_le (by omega), List.drop_eq_nil_of_le (by omega)]
    simp
  | succ d ih =>
    intro n k hn hk
    obtain ⟨m, rfl, hm⟩ := succ_of hk
    have h1 : n < a.length := by omega
    have h2 : n < b.length := by omega
    simp only [exergueref01_Row.l0]
    rw [if_pos (by omega), if_pos (by omega), if_pos (by omega), rd_at h1, rd_at h2, wr (by omega) (by omega)]
    by_cases q : a[n] = b[n]
    · rw [if_pos q, drop_dec h1 h2 q]
      exact ih (n + 1) m (by omega) (by omega)
    · rw [if_neg q, decide_eq_false]
      intro e
      rw [List.drop_eq_getElem_cons h1, List.drop_eq_getElem_cons h2] at e
      exact q (List.cons.inj e).1
theorem Row_f {k : Nat} (a b : List Int) (hl : a.length < 140737488355328) (hk : a.length < k) : exergueref01_Row.f k a b = some (decide (a = b)) := by
  unfold exergueref01_Row.f
  by_cases h : a.length = b.length
  · rw [if_pos (by omega)]
    exact Row_l a b h hl a.length 0 k (by omega) hk
  · rw [if_neg (by omega), decide_eq_false (fun e => h (by rw [e]))]
theorem Ints_l (a b : List Int) (he : a.length = b.length) (hl : a.length < 140737488355328) : ∀ (d n k : Nat), n + d = a.length → d < k → exergueref09_Ints.l0 k a b (n : Int) = some (decide (a.drop n = b.drop n)) := by
  intro d
  induction d with
  | zero =>
    intro n k hn hk
    obtain ⟨m, rfl, _⟩ := succ_of hk
    simp only [exergueref09_Ints.l0]
    rw [if_neg (by omega), List.drop_eq_nil_of_le (by omega), List.drop_eq_nil_of_le (by omega)]
    simp
  | succ d ih =>
    intro n k hn hk
    obtain ⟨m, rfl, hm⟩ := succ_of hk
    have h1 : n < a.length := by omega
    have h2 : n < b.length := by omega
    simp only [exergueref09_Ints.l0]
    rw [if_pos (by omega), if_pos (by omega), if_pos (by omega), rd_at h1, rd_at h2, wr (by omega) (by omega)]
    by_cases q : a[n] = b[n]
    · rw [if_pos q, drop_dec h1 h2 q]
      exact ih (n + 1) m (by omega) (by omega)
    · rw [if_neg q, decide_eq_false]
      intro e
      rw [List.drop_eq_getElem_cons h1, List.drop_eq_getElem_cons h2] at e
      exact q (List.cons.inj e).1
theorem Ints_f {k : Nat} (a b : List Int) (hl : a.length < 140737488355328) (hk : a.length < k) : exergueref09_Ints.f k a b = some (decide (a = b)) := by
  unfold exergueref09_Ints.f
  by_cases h : a.length = b.length
  · rw [if_pos (by omega)]
    exact Ints_l a b h hl a.length 0 k (by omega) hk
  · rw [if_neg (by omega), decide_eq_false (fun e => h (by rw [e]))]
theorem Texts_l (a b : List ByteArray) (he : a.length = b.length) (hl : a.length < 140737488355328) : ∀ (d n k : Nat), n + d = a.length → d < k → exergueref09_Texts.l0 k a b (n : Int) = some (decide (a.drop n = b.drop n)) := by
  intro d
  induction d with
  | zero =>
    intro n k hn hk
    obtain ⟨m, rfl, _⟩ := succ_of hk
    simp only [exergueref09_Texts.l0]
    rw [if_neg (by omega), List.drop_eq_nil_of_le (by omega), List.drop_eq_nil_of_le (by omega)]
    simp
  | succ d ih =>
    intro n k hn hk
    obtain ⟨m, rfl, hm⟩ := succ_of hk
    have h1 : n < a.length := by omega
    have h2 : n < b.length := by omega
    simp only [exergueref09_Texts.l0]
    rw [if_pos (by omega), if_pos (by omega), if_pos (by omega), rs_at h1, rs_at h2, wr (by omega) (by omega)]
    by_cases q : a[n] = b[n]
    · rw [if_pos ((tl_eq _ _).2 q), drop_dec h1 h2 q]
      exact ih (n + 1) m (by omega) (by omega)
    · rw [if_neg (fun e => q ((tl_eq _ _).1 e)), decide_eq_false]
      intro e
      rw [List.drop_eq_getElem_cons h1, List.drop_eq_getElem_cons h2] at e
      exact q (List.cons.inj e).1
theorem Texts_f {k : Nat} (a b : List ByteArray) (hl : a.length < 140737488355328) (hk : a.length < k) : exergueref09_Texts.f k a b = some (decide (a = b)) := by
  unfold exergueref09_Texts.f
  by_cases h : a.length = b.length
  · rw [if_pos (by omega)]
    exact Texts_l a b h hl a.length 0 k (by omega) hk
  · rw [if_neg (by omega), decide_eq_false (fun e => h (by rw [e]))]
theorem At_l (l : List ByteArray) (s : ByteArray) (hl : l.length < 140737488355328) : ∀ (d n k : Nat), n + d = l.length → d < k → exergueref09_At.l0 k l s (n : Int) = some (if s ∈ l.drop n then ((n + (l.drop n).idxOf s : Nat) : Int) else -1) := by
  intro d
  induction d with
  | zero =>
    intro n k hn hk
    obtain ⟨m, rfl, _⟩ := succ_of hk
    simp only [exergueref09_At.l0]
    rw [if_neg (by omega), List.drop_eq_nil_of_le (by omega), if_neg List.not_mem_nil]
  | succ d ih =>
    intro n k hn hk
    obtain ⟨m, rfl, hm⟩ := succ_of hk
    have h1 : n < l.length := by omega
    simp only [exergueref09_At.l0]
    rw [if_pos (by omega), if_pos (by omega), rs_at h1, wr (by omega) (by omega), List.drop_eq_getElem_cons h1, List.idxOf_cons]
    by_cases q : l[n] = s
    · rw [if_pos ((tl_eq _ _).2 q), if_pos (by rw [q]; exact List.mem_cons_self), show (l[n] == s) = true from beq_iff_eq.2 q]
      simp
    · rw [if_neg (fun e => q ((tl_eq _ _).1 e)), show (l[n] == s) = false from beq_eq_false_iff_ne.2 q]
      refine (ih (n + 1) m (by omega) (by omega)).trans ?_
      by_cases hm : s ∈ l.drop (n + 1)
      · rw [if_pos hm, if_pos (List.mem_cons_of_mem _ hm)]
        simp
        omega
      · rw [if_neg hm, if_neg (fun h => hm ((List.mem_cons.1 h).resolve_left (fun e => q e.symm)))]
theorem At_f {k : Nat} (l : List ByteArray) (s : ByteArray) (hl : l.length < 140737488355328) (hk : l.length < k) : exergueref09_At.f k l s = some (if s ∈ l then (l.idxOf s : Int) else -1) := by
  have := At_l l s hl l.length 0 k (by omega) hk
  simpa [exergueref09_At.f] using this
theorem grefs_snoc {p l : List ByteArray} (s : ByteArray) (hm : ∀ x ∈ l, x ∈ p) : grefs (gstep p s) (l ++ [s]) = grefs p l ++ [((gstep p s).idxOf s : Int)] := by
  unfold grefs
  rw [List.map_append]
  congr 1
  exact List.map_congr_left (fun x hx => by rw [idx_gstep s (hm x hx)])
theorem refGather_l (l : List ByteArray) (hl : l.length < 8796093022208) : ∀ (d n k : Nat), n + d = l.length → d + l.length + 1 < k → exergueref09_Gather.l0 k l (gpool (l.take n)) (grefs (gpool (l.take n)) (l.take n)) (n : Int) = some (gpool l, grefs (gpool l) l) := by
  intro d
  induction d with
  | zero =>
    intro n k hn hk
    obtain ⟨m, rfl, _⟩ := succ_of hk
    simp only [exergueref09_Gather.l0]
    rw [if_neg (by omega), List.take_of_length_le (by omega)]
  | succ d ih =>
    intro n k hn hk
    obtain ⟨m, rfl, hm⟩ := succ_of hk
    have h1 : n < l.length := by omega
    have hpl := gpool_len (l.take n)
    have htl : (l.take n).length = n := by rw [List.length_take]; omega
    have hrl : (grefs (gpool (l.take n)) (l.take n)).length = n := by simp [grefs]; omega
    simp only [exergueref09_Gather.l0]
    rw [if_pos (by omega), if_pos (by omega), rs_at h1, At_f _ _ (by omega) (by omega), Option.bind_some, wr (by omega) (by omega)]
    have hi := ih (n + 1) m (by omega) (by omega)
    have e1 : ((n + 1 : Nat) : Int) = (n : Int) + 1 := by omega
    rw [gpool_take h1, List.take_succ_eq_append_getElem h1, grefs_snoc _ (fun x hx => mem_gpool hx), e1] at hi
    by_cases q : l[n] ∈ gpool (l.take n)
    · rw [if_pos q, if_neg (by omega), if_pos (by omega)]
      rw [show gstep (gpool (l.take n)) l[n] = gpool (l.take n) from if_pos q] at hi
      exact hi
    · rw [if_neg q, if_pos (by omega), if_pos (by omega), if_pos (by omega)]
      rw [show gstep (gpool (l.take n)) l[n] = gpool (l.take n) ++ [l[n]] from if_neg q] at hi
      rw [List.idxOf_append, if_neg q] at hi
      simpa using hi
theorem refGather_f {k : Nat} (l : List ByteArray) (hl : l.length < 8796093022208) (hk : 2 * l.length + 1 < k) : exergueref09_Gather.f k l = some (gpool l, grefs (gpool l) l) := refGather_l l hl l.length 0 k (by omega) (by omega)
/-- texts by their places, or an error -/
def spreadN (l : List ByteArray) (refs : List Int) : List ByteArray × Int :=
  if refs.all (fun n => decide (0 ≤ n ∧ n < l.length)) = true then (refs.map (rdOf ByteArray.empty l), 0) else ([], 7)
def spreadA (l : List ByteArray) (acc : List ByteArray) (refs : List Int) : List ByteArray × Int :=
  if refs.all (fun n => decide (0 ≤ n ∧ n < l.length)) = true then (acc ++ refs.map (rdOf ByteArray.empty l), 0) else ([], 7)
theorem spreadA_cons {l acc : List ByteArray} {n : Int} {refs : List Int} (h : 0 ≤ n ∧ n < l.length) : spreadA l acc (n :: refs) = spreadA l (acc ++ [rdOf ByteArray.empty l n]) refs := by
  unfold spreadA
  rw [List.all_cons, decide_eq_true h, Bool.true_and]
  simp
theorem spreadA_no {l acc : List ByteArray} {n : Int} {refs : List Int} (h : ¬ (0 ≤ n ∧ n < l.length)) : spreadA l acc (n :: refs) = ([], 7) := by
  unfold spreadA
  rw [List.all_cons, decide_eq_false h, Bool.false_and, if_neg (by simp)]
theorem Spread_l (l : List ByteArray) (refs : List Int) (hl : refs.length < 8796093022208) : ∀ (d n k : Nat) (acc : List ByteArray), n + d = refs.length → acc.length = n → d < k → pack_Spread.l0 k l acc refs (refs.length : Int) (n : Int) = some (spreadA l acc (refs.drop n)) := by
  intro d
  induction d with
  | zero =>
    intro n k acc hn ha hk
    obtain ⟨m, rfl, _⟩ := succ_of hk
    simp only [pack_Spread.l0]
    rw [if_neg (by omega), List.drop_eq_nil_of_le (by omega)]
    simp [spreadA]
  | succ d ih =>
    intro n k acc hn ha hk
    obtain ⟨m, rfl, hm⟩ := succ_of hk
    have h1 : n < refs.length := by omega
    simp only [pack_Spread.l0]
    rw [if_pos (by omega), if_pos (by omega), if_pos (by omega), rd_at h1, List.drop_eq_getElem_cons h1, wr (by omega) (by omega)]
    by_cases q0 : refs[n] < 0
    · rw [if_pos q0, spreadA_no (by omega)]
    by_cases q1 : refs[n] ≥ (l.length : Int)
    · rw [if_neg q0, if_pos q1, spreadA_no (by omega)]
    rw [if_neg q0, if_neg q1, if_pos (by omega), if_pos (by omega), if_pos (by omega), spreadA_cons (by omega)]
    exact ih (n + 1) m _ (by omega) (by simp [ha]) (by omega)
theorem Spread_f {k : Nat} (l : List ByteArray) (refs : List Int) (hl : refs.length < 8796093022208) (hk : refs.length < k) : pack_Spread.f k l refs = some (spreadN l refs) := by
  have := Spread_l l refs hl refs.length 0 k [] (by omega) rfl hk
  simpa [pack_Spread.f, spreadA, spreadN] using this
theorem refSpread_l (l : List ByteArray) (refs : List Int) (hl : refs.length < 8796093022208) : ∀ (d n k : Nat) (acc : List ByteArray), n + d = refs.length → acc.length = n → d < k → exergueref09_Spread.l0 k l refs acc (n : Int) = some (spreadA l acc (refs.drop n)) := by
  intro d
  induction d with
  | zero =>
    intro n k acc hn ha hk
    obtain ⟨m, rfl, _⟩ := succ_of hk
    simp only [exergueref09_Spread.l0]
    rw [if_neg (by omega), List.drop_eq_nil_of_le (by omega)]
    simp [spreadA]
  | succ d ih =>
    intro n k acc hn ha hk
    obtain ⟨m, rfl, hm⟩ := succ_of hk
    have h1 : n < refs.length := by omega
    simp only [exergueref09_Spread.l0]
    rw [if_pos (by omega), if_pos (by omega), rd_at h1, List.drop_eq_getElem_cons h1, wr (by omega) (by omega)]
    by_cases q0 : refs[n] < 0
    · rw [if_pos q0, spreadA_no (by omega)]
    by_cases q1 : refs[n] ≥ (l.length : Int)
    · rw [if_neg q0, if_pos q1, spreadA_no (by omega)]
    rw [if_neg q0, if_neg q1, if_pos (by omega), if_pos (by omega), if_pos (by omega), spreadA_cons (by omega)]
    exact ih (n + 1) m _ (by omega) (by simp [ha]) (by omega)
theorem refSpread_f {k : Nat} (l : List ByteArray) (refs : List Int) (hl : refs.length < 8796093022208) (hk : refs.length < k) : exergueref09_Spread.f k l refs = some (spreadN l refs) := by
  have := refSpread_l l refs hl refs.length 0 k [] (by omega) rfl hk
  simpa [exergueref09_Spread.f, spreadA, spreadN] using this
def total : List ByteArray → Nat
  | [] => 0
  | s :: l => s.size + total l
theorem total_app (s : ByteArray) : ∀ l, total (l ++ [s]) = total l + s.size
  | [] => by simp [total]
  | t :: l => by rw [List.cons_append, total, total_app s l, total]; omega
theorem Short_l (l : List ByteArray) (hl : l.length < 8796093022208) (hs : ∀ s ∈ l, s.size ≤ 140737488351232) : ∀ (d n k : Nat), n + d = l.length → n ≤ 600 → total (l.take n) ≤ 20000 → d < k → ∃ b, exergueref09_Short.l0 k l (total (l.take n) : Int) (n : Int) = some b ∧ (b = true → l.length ≤ 600 ∧ total l ≤ 20000) := by
  intro d
  induction d with
  | zero =>
    intro n k hn h6 ht hk
    obtain ⟨m, rfl, _⟩ := succ_of hk
    simp only [exergueref09_Short.l0]
    rw [if_neg (by omega)]
    refine ⟨true, rfl, fun _ => ⟨by omega, ?_⟩⟩
    rwa [List.take_of_length_le (by omega)] at ht
  | succ d ih =>
    intro n k hn h6 ht hk
    obtain ⟨m, rfl, hm⟩ := succ_of hk
    have h1 : n < l.length := by omega
    have hsz := hs l[n] (List.getElem_mem h1)
    simp only [exergueref09_Short.l0]
    rw [if_pos (by omega), if_pos (by omega), rs_at h1, wr (x := (total (l.take n) : Int) + (l[n].size : Int)) (by omega) (by omega), wr (x := (n : Int) + 1) (by omega) (by omega)]
    by_cases q0 : (n : Int) ≥ 600
    · rw [if_pos q0]; exact ⟨false, rfl, fun h => by cases h⟩
    rw [if_neg q0]
    by_cases q1 : (total (l.take n) : Int) + (l[n].size : Int) > 20000
    · rw [if_pos q1]; exact ⟨false, rfl, fun h => by cases h⟩
    rw [if_neg q1]
    have e2 : total (l.take (n + 1)) = total (l.take n) + l[n].size := by rw [List.take_succ_eq_append_getElem h1, total_app]
    have := ih (n + 1) m (by omega) (by omega) (by omega) (by omega)
    rw [e2] at this
    simpa using this
theorem Short_f {k : Nat} (l : List ByteArray) (hl : l.length < 8796093022208) (hs : ∀ s ∈ l, s.size ≤ 140737488351232) (hk : l.length < k) : ∃ b, exergueref09_Short.f k l = some b ∧ (b = true → l.length ≤ 600 ∧ total l ≤ 20000) := by
  have := Short_l l hl hs l.length 0 k (by omega) (by omega) (by simp [total]) hk
  simpa [exergueref09_Short.f, total] using this
theorem gpool_nodup : ∀ (l p : List ByteArray), p.Nodup → ((l.foldl gstep p).length = p.length + l.length ↔ (p ++ l).Nodup)
  | [], p, h => by simp [h]
  | x :: l, p, h => by
    rw [List.foldl_cons]
    by_cases hx : x ∈ p
    · have e : gstep p x = p := if_pos hx
      have hlen := gpool_lenI l p
      rw [e]
      constructor
      · intro h2; rw [List.length_cons] at h2; omega
      · intro h2
        rw [List.nodup_append] at h2
        exact absurd rfl (h2.2.2 x hx x List.mem_cons_self)
    · have e : gstep p x = p ++ [x] := if_neg hx
      have hn : (p ++ [x]).Nodup := by
        rw [List.nodup_append]
        exact ⟨h, by simp, fun a ha b hb => by rw [List.mem_singleton.1 hb]; rintro rfl; exact hx ha⟩
      have := gpool_nodup l (p ++ [x]) hn
      rw [e, show p ++ x :: l = p ++ [x] ++ l by simp, ← this]
      simp
      omega
theorem nodup_idx (l : List ByteArray) : l.Nodup ↔ ∀ (i : Nat) (h : i < l.length), l.idxOf l[i] = i := by
  constructor
  · intro h i hi
    exact List.Nodup.idxOf_getElem h i hi
  · intro h
    refine List.pairwise_iff_getElem.2 (fun i j hi hj hij e => ?_)
    have h1 := h i hi
    have h2 := h j hj
    rw [e, h2] at h1
    omega
theorem Pool_l (l : List ByteArray) (hl : l.length ≤ 500) : ∀ (d n k : Nat), n + d = l.length → d + l.length < k → ∃ b, exergueref09_Pool.l0 k l (n : Int) = some b ∧ (b = true ↔ ∀ (i : Nat) (h : i < l.length), n ≤ i → l[i].size ≤ 400 ∧ l.idxOf l[i] = i) := by
  intro d
  induction d with
  | zero =>
    intro n k hn hk
    obtain ⟨m, rfl, _⟩ := succ_of hk
    simp only [exergueref09_Pool.l0]
    rw [if_neg (by omega)]
    exact ⟨true, rfl, by simp; intro i h1 h2; omega⟩
  | succ d ih =>
    intro n k hn hk
    obtain ⟨m, rfl, hm⟩ := succ_of hk
    have h1 : n < l.length := by omega
    simp only [exergueref09_Pool.l0]
    rw [if_pos (by omega), if_pos (by omega), rs_at h1, wr (by omega) (by omega)]
    by_cases q0 : (l[n].size : Int) > 400
    · rw [if_pos q0]
      refine ⟨false, rfl, ⟨fun h => (by cases h), fun h => ?_⟩⟩
      have := (h n h1 (Nat.le_refl _)).1
      omega
    rw [if_neg q0, At_f _ _ (by omega) (by omega), Option.bind_some, if_pos (List.getElem_mem h1)]
    have hle : l.idxOf l[n] ≤ n := idx_le l n h1
    by_cases q1 : (l.idxOf l[n] : Int) < (n : Int)
    · rw [if_pos q1]
      refine ⟨false, rfl, ⟨fun h => (by cases h), fun h => ?_⟩⟩
      have := (h n h1 (Nat.le_refl _)).2
      omega
    rw [if_neg q1]
    obtain ⟨b, hb, hiff⟩ := ih (n + 1) m (by omega) (by omega)
    refine ⟨b, hb, hiff.trans ⟨fun h i hi hni => ?_, fun h i hi hni => h i hi (by omega)⟩⟩
    rcases Nat.lt_or_ge n i with h2 | h2
    · exact h i hi (by omega)
    · obtain rfl : i = n := by omega
      exact ⟨by omega, by omega⟩
theorem isPoolB_iff (l : List ByteArray) : isPoolB l = true ↔ l.length ≤ 500 ∧ ∀ (i : Nat) (h : i < l.length), l[i].size ≤ 400 ∧ l.idxOf l[i] = i := by
  have h1 := gpool_nodup l [] List.nodup_nil
  rw [List.nil_append, List.length_nil, Nat.zero_add] at h1
  have h2 : (gpool l).length = l.length ↔ ∀ (i : Nat) (h : i < l.length), l.idxOf l[i] = i := h1.trans (nodup_idx l)
  unfold isPoolB
  rw [Bool.and_eq_true, Bool.and_eq_true, decide_eq_true_eq, decide_eq_true_eq, Bool.not_eq_true', List.any_eq_false, h2]
  constructor
  · rintro ⟨a, b, c⟩
    refine ⟨b, fun i hi => ⟨?_, a i hi⟩⟩
    have := c l[i] (List.getElem_mem hi)
    simpa using this
  · rintro ⟨b, c⟩
    refine ⟨fun i hi => (c i hi).2, b, fun x hx => ?_⟩
    obtain ⟨i, hi, rfl⟩ := List.mem_iff_getElem.1 hx
    have := (c i hi).1
    simpa using this
theorem Pool_f {k : Nat} (l : List ByteArray) (hk : 1001 < k) : exergueref09_Pool.f k l = some (isPoolB l) := by
  unfold exergueref09_Pool.f
  by_cases h : (l.length : Int) > 500
  · rw [if_pos h]
    congr 1
    symm
    rw [Bool.eq_false_iff]
    intro e
    have := ((isPoolB_iff l).1 e).1
    omega
  · rw [if_neg h]
    obtain ⟨b, hb, hiff⟩ := Pool_l l (by omega) l.length 0 k (by omega) (by omega)
    have e0 : ((0 : Nat) : Int) = 0 := rfl
    rw [e0] at hb
    rw [hb]
    congr 1
    rw [Bool.eq_iff_iff, hiff, isPoolB_iff]
    exact ⟨fun h2 => ⟨by omega, fun i hi => h2 i hi (Nat.zero_le _)⟩, fun h2 i hi _ => h2.2 i hi⟩
end Go.Proofs.Ytmgkfklkdedpgaa.Q
