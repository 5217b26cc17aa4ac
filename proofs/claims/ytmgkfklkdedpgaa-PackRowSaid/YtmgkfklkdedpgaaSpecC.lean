/- What is put is taken, what is gathered is spread, in plain Lean; rows of bytes. -/
import Derived.Test.YtmgkfklkdedpgaaSpecA
import Derived.Test.YtmgkfklkdedpgaaSpecB
namespace Go.Proofs.Ytmgkfklkdedpgaa.Q
open Go.RowKit Go.Proofs.Ytmgkfklkdedpgaa.Mine Go.Proofs.YtmgkfklkdedpgaaW.PrintWords Go.Proofs.YtmgkfklkdedpgaaW.PrintLast Go.Proofs.YtmgkfklkdedpgaaW.PrintMore
set_option linter.unusedVariables false
set_option linter.unusedSimpArgs false
theorem beN_bytesB : ∀ (k : Nat) (n : Int), beN (bytesB n k) = n % 256 ^ k
  | 0, n => by
    show (0 : Int) = n % 256 ^ 0
    simp [Int.emod_one]
  | k + 1, n => by
    have hp : (0 : Int) < 256 ^ k := Int.pow_pos (by decide)
    rw [bytesB, beN_cons, bytesB_len, beN_bytesB k n, Int.pow_succ]
    generalize (256 : Int) ^ k = P at hp
    have h1 := Int.emod_add_mul_ediv n P
    have h2 := Int.emod_add_mul_ediv (n / P) 256
    have h3 := Int.emod_nonneg n (Int.ne_of_gt hp)
    have h4 := Int.emod_lt_of_pos n hp
    have h5 := Int.emod_nonneg (n / P) (show (256 : Int) ≠ 0 by decide)
    have h6 := Int.emod_lt_of_pos (n / P) (show (0 : Int) < 256 by decide)
    generalize n % P = r at h1 h3 h4 ⊢
    generalize n / P = q at h1 h2 h5 h6 ⊢
    generalize q % 256 = b at h2 h5 h6 ⊢
    generalize q / 256 = a at h2
    have h7 : b * P ≤ 255 * P := Int.mul_le_mul_of_nonneg_right (by omega) (Int.le_of_lt hp)
    have h8 : 0 ≤ b * P := Int.mul_nonneg h5 (Int.le_of_lt hp)
    have e : n = (b * P + r) + (P * 256) * a := by
      rw [← h1, ← h2, Int.mul_add, Int.mul_comm b P, Int.mul_assoc]
      omega
    rw [e, Int.add_mul_emod_self_left]
    exact (Int.emod_eq_of_lt (by omega) (by omega)).symm
theorem bytesB_ok : ∀ (k : Nat) (n : Int), bytesOk (bytesB n k)
  | 0, n => fun x hx => by cases hx
  | k + 1, n => fun x hx => by
    rw [bytesB, List.mem_cons] at hx
    rcases hx with rfl | hx
    · exact ⟨Int.emod_nonneg _ (by decide), Int.emod_lt_of_pos _ (by decide)⟩
    · exact bytesB_ok k n x hx
theorem bytesOf_ok (s : ByteArray) : bytesOk (bytesOf s) := fun x hx => by
  unfold bytesOf at hx
  obtain ⟨b, _, rfl⟩ := List.mem_map.1 hx
  have := b.toNat_lt
  omega
theorem str_of (s : ByteArray) : strOfNums (bytesOf s) = s := by
  unfold strOfNums bytesOf
  rw [List.map_map]
  have : ∀ b ∈ s.data.toList, ((fun n : Int => UInt8.ofNat n.toNat) ∘ fun b : UInt8 => (b.toNat : Int)) b = b := fun b _ => by
    show UInt8.ofNat ((b.toNat : Int).toNat) = b
    rw [Int.toNat_natCast, UInt8.ofNat_toNat]
  rw [List.map_congr_left this, List.map_id']
theorem takeN_app (pre xs post : List Int) (s : Int) (hs : isSz s = true) (hx : xs.length = s.toNat) : takeN (pre ++ (xs ++ post)) pre.length s = (beN xs, (pre.length : Int) + s, 0) := by
  have h4 := isSz_iff.1 hs
  unfold takeN
  rw [if_pos ⟨hs, by omega⟩, if_neg (by rw [List.length_append, List.length_append]; omega), Int.toNat_natCast, List.drop_left, List.take_append_of_le_length (by omega), List.take_of_length_le (by omega)]
/-- a number that is put is taken -/
theorem put_take (b post : List Int) (n s : Int) (h0 : 0 ≤ n) (h : putsB n s = true) : takeN (b ++ (bytesB n s.toNat ++ post)) b.length s = (n, (b.length : Int) + s, 0) := by
  have hs : isSz s = true := by simp only [putsB, Bool.and_eq_true] at h; exact h.1
  have hlt : n < 256 ^ s.toNat := by simp only [putsB, Bool.and_eq_true, decide_eq_true_eq] at h; exact h.2
  rw [takeN_app b _ post s hs (bytesB_len _ _), beN_bytesB, Int.emod_eq_of_lt h0 hlt]
theorem one_put (b post : List Int) (s : ByteArray) (h : s.size < 65536) : oneText (b ++ (bytesB s.size 2 ++ bytesOf s ++ post)) b.length = some (s, (b.length : Int) + (bytesB s.size 2 ++ bytesOf s).length) := by
  have ht := put_take b (bytesOf s ++ post) s.size 2 (by omega) (by simp [putsB, isSz]; omega)
  have e0 : b ++ (bytesB s.size 2 ++ bytesOf s ++ post) = b ++ (bytesB s.size (Int.toNat 2) ++ (bytesOf s ++ post)) := by rw [List.append_assoc]; rfl
  rw [e0]
  unfold oneText
  rw [ht]
  dsimp only
  have hl : (b ++ (bytesB s.size (Int.toNat 2) ++ (bytesOf s ++ post))).length = b.length + 2 + s.size + post.length := by
    rw [List.length_append, List.length_append, List.length_append, bytesB_len, bytesOf_length]
    show b.length + (2 + _) = _
    omega
  rw [if_neg (by simp), if_neg (by rw [hl]; omega)]
  have e1 : ((b.length : Int) + 2 + (s.size : Int)).toNat = b.length + 2 + s.size := by omega
  have e2 : ((b.length : Int) + 2).toNat = b.length + 2 := by omega
  rw [e1, e2]
  have e3 : b ++ (bytesB s.size (Int.toNat 2) ++ (bytesOf s ++ post)) = (b ++ bytesB s.size 2) ++ (bytesOf s ++ post) := by rw [List.append_assoc]; rfl
  have e4 : (b ++ bytesB s.size 2).length = b.length + 2 := by rw [List.length_append, bytesB_len]
  have e5 : (((b ++ bytesB s.size 2) ++ (bytesOf s ++ post)).take (b.length + 2 + s.size)).drop (b.length + 2) = bytesOf s := by
    rw [List.drop_take, ← e4, List.drop_left, show (b ++ bytesB s.size 2).length + s.size - (b ++ bytesB s.size 2).length = s.size by omega, List.take_append_of_le_length (by rw [bytesOf_length]; omega), List.take_of_length_le (by rw [bytesOf_length]; omega)]
  rw [e3, e5, str_of, List.length_append, bytesB_len, bytesOf_length]
  congr 2
  omega
theorem textsN_put : ∀ (ts : List ByteArray) (b acc post) , (∀ s ∈ ts, s.size < 65536) → textsN (b ++ (poolBytes ts ++ post)) ts.length b.length acc = some (acc ++ ts, (b.length : Int) + (poolBytes ts).length)
  | [], b, acc, post, _ => by
    rw [List.length_nil, textsN, poolBytes]
    simp
  | s :: ts, b, acc, post, h => by
    have hs := h s List.mem_cons_self
    have e0 : b ++ (poolBytes (s :: ts) ++ post) = b ++ (bytesB s.size 2 ++ bytesOf s ++ (poolBytes ts ++ post)) := by rw [poolBytes, List.append_assoc]
    have e1 : b ++ (bytesB s.size 2 ++ bytesOf s ++ (poolBytes ts ++ post)) = (b ++ (bytesB s.size 2 ++ bytesOf s)) ++ (poolBytes ts ++ post) := by simp only [List.append_assoc]
    rw [List.length_cons, textsN, e0, one_put b _ s hs, Option.bind_some, e1]
    have e2 : ((b.length : Int) + (bytesB s.size 2 ++ bytesOf s).length) = ((b ++ (bytesB s.size 2 ++ bytesOf s)).length : Int) := by have := List.length_append («as» := b) (bs := bytesB s.size 2 ++ bytesOf s); omega
    dsimp only
    rw [e2, textsN_put ts _ (acc ++ [s]) post (fun x hx => h x (List.mem_cons_of_mem _ hx))]
    rw [List.append_assoc, List.singleton_append]
    congr 2
    have h1 := List.length_append («as» := b) (bs := bytesB s.size 2 ++ bytesOf s)
    have h2 := List.length_append («as» := bytesB s.size 2 ++ bytesOf s) (bs := poolBytes ts)
    rw [poolBytes]
    omega
/-- a pool that is put is taken -/
theorem pool_take (b : List Int) (ts : List ByteArray) (h : isPoolB ts = true) : takePool (b ++ bytesB ts.length 2 ++ poolBytes ts) b.length = (ts, ((b ++ bytesB ts.length 2 ++ poolBytes ts).length : Int), 0) := by
  obtain ⟨_, h5, h4⟩ := isPoolB_facts h
  have ht := put_take b (poolBytes ts) ts.length 2 (by omega) (by simp [putsB, isSz]; omega)
  have e0 : b ++ bytesB ts.length 2 ++ poolBytes ts = b ++ (bytesB ts.length (Int.toNat 2) ++ poolBytes ts) := by rw [List.append_assoc]; rfl
  rw [← e0] at ht
  have hx := textsN_put ts (b ++ bytesB ts.length 2) [] [] (fun s hs => by have := h4 s hs; omega)
  rw [List.append_nil, List.nil_append] at hx
  have e2 : ((b ++ bytesB ts.length 2).length : Int) = (b.length : Int) + 2 := by rw [List.length_append, bytesB_len]; omega
  rw [e2] at hx
  unfold takePool
  rw [ht]
  dsimp only
  rw [if_neg (by simp), Int.toNat_natCast, hx]
  dsimp only
  rw [if_pos h]
  congr 2
  rw [List.length_append, List.length_append, bytesB_len]
  omega
theorem gpool_nodupI : ∀ (l p : List ByteArray), p.Nodup → (l.foldl gstep p).Nodup
  | [], p, h => h
  | x :: l, p, h => by
    rw [List.foldl_cons]
    refine gpool_nodupI l (gstep p x) ?_
    unfold gstep
    split
    · exact h
    · rename_i hx
      rw [List.nodup_append]
      exact ⟨h, by simp, fun a ha b hb => by rw [List.mem_singleton.1 hb]; rintro rfl; exact hx ha⟩
theorem gpool_idx (l : List ByteArray) (i : Nat) (h : i < (gpool l).length) : (gpool l).idxOf (gpool l)[i] = i := (nodup_idx _).1 (gpool_nodupI l [] List.nodup_nil) i h
/-- what is gathered, spread -/
theorem spread_gather (l : List ByteArray) : spreadN (gpool l) (grefs (gpool l) l) = (l, 0) := by
  unfold spreadN
  have h1 : (grefs (gpool l) l).all (fun n => decide (0 ≤ n ∧ n < (gpool l).length)) = true := by
    rw [List.all_eq_true]
    intro x hx
    unfold grefs at hx
    obtain ⟨s, hs, rfl⟩ := List.mem_map.1 hx
    have := List.idxOf_lt_length_of_mem (mem_gpool hs)
    rw [decide_eq_true_eq]
    omega
  rw [if_pos h1]
  congr 1
  unfold grefs
  rw [List.map_map]
  have : ∀ s ∈ l, (rdOf ByteArray.empty (gpool l) ∘ fun s => (((gpool l).idxOf s : Nat) : Int)) s = s := fun s hs => by
    have hlt := List.idxOf_lt_length_of_mem (mem_gpool hs)
    show rdOf ByteArray.empty (gpool l) (((gpool l).idxOf s : Nat) : Int) = s
    rw [rs_at hlt, List.getElem_idxOf]
  rw [List.map_congr_left this, List.map_id']
end Go.Proofs.Ytmgkfklkdedpgaa.Q
