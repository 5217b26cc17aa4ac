/- What is put is taken, and what is taken is put, in plain Lean; rows of bytes. -/
import Derived.Test.YtmgkfklkdedpgaaTakePool2
import Derived.Test.YtmgkfklkdedpgaaPutPool
namespace Go.Proofs.Ytmgkfklkdedpgaa.Q
open Go.RowKit Go.Proofs.Ytmgkfklkdedpgaa.Mine Go.Proofs.YtmgkfklkdedpgaaW.PrintWords Go.Proofs.YtmgkfklkdedpgaaW.PrintLast Go.Proofs.YtmgkfklkdedpgaaW.PrintMore
set_option linter.unusedVariables false
set_option linter.unusedSimpArgs false
theorem bytesB_mod : ∀ (k : Nat) (n c : Int), bytesB (n + c * 256 ^ k) k = bytesB n k
  | 0, _, _ => rfl
  | k + 1, n, c => by
    have hp : (0 : Int) < 256 ^ k := Int.pow_pos (by decide)
    have e : n + c * 256 ^ (k + 1) = n + (c * 256) * 256 ^ k := by rw [Int.pow_succ, Int.mul_assoc, Int.mul_comm (256 ^ k) 256]
    rw [bytesB, bytesB, e, bytesB_mod k n (c * 256), Int.add_mul_ediv_right _ _ (Int.ne_of_gt hp)]
    congr 1
    omega
theorem beN_foldl : ∀ (l : List Int) (n : Int), l.foldl (fun n c => n * 256 + c) n = n * 256 ^ l.length + beN l
  | [], n => by simp [beN]
  | c :: l, n => by
    have e1 := beN_foldl l (n * 256 + c)
    have e2 := beN_foldl l (0 * 256 + c)
    unfold beN at e1 e2 ⊢
    rw [List.foldl_cons, List.foldl_cons, e1, e2, List.length_cons, Int.pow_succ, Int.zero_mul, Int.zero_add, Int.add_mul, Int.mul_assoc, Int.mul_comm 256 (256 ^ l.length), Int.add_assoc]
theorem beN_cons (c : Int) (l : List Int) : beN (c :: l) = c * 256 ^ l.length + beN l := by
  show l.foldl (fun n c => n * 256 + c) (0 * 256 + c) = _
  rw [beN_foldl, Int.zero_mul, Int.zero_add]
theorem bytesB_beN : ∀ (l : List Int), bytesOk l → bytesB (beN l) l.length = l
  | [], _ => rfl
  | c :: l, h => by
    have hp : (0 : Int) < 256 ^ l.length := Int.pow_pos (by decide)
    have hc := h c List.mem_cons_self
    have hl : bytesOk l := fun x hx => h x (List.mem_cons_of_mem _ hx)
    have hr := beN_range l.length l hl rfl
    rw [List.length_cons, bytesB, beN_cons, Int.add_comm, bytesB_mod, bytesB_beN l hl, Int.add_mul_ediv_right _ _ (Int.ne_of_gt hp), Int.ediv_eq_zero_of_lt hr.1 hr.2, Int.zero_add]
    congr 1
    omega
/-- a piece of a row -/
def slc (l : List Int) (a b : Int) : List Int := (l.take b.toNat).drop a.toNat
theorem slc_len {l : List Int} {a b : Int} (h0 : 0 ≤ a) (h1 : a ≤ b) (h2 : b ≤ l.length) : ((slc l a b).length : Int) = b - a := by
  unfold slc
  rw [List.length_drop, List.length_take]
  omega
theorem slc_app {l : List Int} {a b c : Int} (h0 : 0 ≤ a) (h1 : a ≤ b) (h2 : b ≤ c) : slc l a b ++ slc l b c = slc l a c := by
  unfold slc
  obtain ⟨A, rfl⟩ := Int.eq_ofNat_of_zero_le h0
  obtain ⟨B, rfl⟩ := Int.eq_ofNat_of_zero_le (show 0 ≤ b by omega)
  obtain ⟨C, rfl⟩ := Int.eq_ofNat_of_zero_le (show 0 ≤ c by omega)
  simp only [Int.toNat_natCast]
  have e : l.take C = l.take B ++ (l.take C).drop B := by
    have := List.take_append_drop B (l.take C)
    rw [List.take_take, Nat.min_eq_left (by omega)] at this
    exact this.symm
  rcases Nat.lt_or_ge l.length B with hB | hB
  · rw [List.take_of_length_le (show l.length ≤ B by omega), List.take_of_length_le (show l.length ≤ C by omega), List.drop_eq_nil_of_le (show l.length ≤ B by omega), List.append_nil]
  · conv => rhs; rw [e]
    rw [List.drop_append_of_le_length (by rw [List.length_take]; omega)]
theorem slc_bytes {l : List Int} (h : bytesOk l) (a b : Int) : bytesOk (slc l a b) := fun x hx => h x (List.mem_of_mem_take (List.mem_of_mem_drop hx))
theorem slc_take {l : List Int} {p s : Int} (h0 : 0 ≤ p) (h1 : 0 ≤ s) : (l.drop p.toNat).take s.toNat = slc l p (p + s) := by
  unfold slc
  rw [List.drop_take, show (p + s).toNat - p.toNat = s.toNat by omega]
/-- a number that was taken, put again -/
theorem takeN_put {l : List Int} {p s : Int} (hb : bytesOk l) (h : (takeN l p s).2.2 = 0) : 0 ≤ p ∧ 1 ≤ s ∧ s ≤ 4 ∧ p + s ≤ l.length ∧ (takeN l p s).2.1 = p + s ∧ (0 ≤ (takeN l p s).1 ∧ (takeN l p s).1 < 4294967296) ∧ putsB (takeN l p s).1 s = true ∧ bytesB (takeN l p s).1 s.toNat = slc l p (p + s) := by
  obtain ⟨h1, h2, h3, h4, h5, h6⟩ := takeN_ok hb h
  have hs := isSz_iff.1 h1
  have hs4 : 1 ≤ s ∧ s ≤ 4 := by omega
  rw [h4]
  dsimp only
  have hlt : (256 : Int) ^ s.toNat ≤ 4294967296 := by rcases hs with rfl | rfl | rfl <;> decide
  refine ⟨h2, hs4.1, hs4.2, h3, rfl, ⟨h5, by omega⟩, by rw [putsB, h1, decide_eq_true h6]; rfl, ?_⟩
  rw [slc_take h2 (by omega)]
  have hl := slc_len (l := l) h2 (show p ≤ p + s by omega) h3
  have := bytesB_beN (slc l p (p + s)) (slc_bytes hb _ _)
  rwa [show (slc l p (p + s)).length = s.toNat by omega] at this
theorem str_bytes {l : List Int} (h : bytesOk l) : bytesOf (strOfNums l) = l := by
  unfold bytesOf
  rw [strOfNums_data, List.map_map]
  have : ∀ x ∈ l, ((fun b : UInt8 => (b.toNat : Int)) ∘ fun n : Int => UInt8.ofNat n.toNat) x = x := fun x hx => by
    have := h x hx
    show (((UInt8.ofNat x.toNat).toNat : Nat) : Int) = x
    rw [UInt8.toNat_ofNat']
    omega
  rw [List.map_congr_left this, List.map_id']
theorem oneText_bytes {l : List Int} {p q : Int} {s : ByteArray} (hb : bytesOk l) (h : oneText l p = some (s, q)) : 0 ≤ p ∧ p + 2 ≤ q ∧ q ≤ l.length ∧ bytesB s.size 2 ++ bytesOf s = slc l p q := by
  obtain ⟨h0, h1, h2⟩ := oneText_range hb h
  refine ⟨h0, h1, h2, ?_⟩
  unfold oneText at h
  by_cases he : (takeN l p 2).2.2 = 0
  · rw [if_neg (by simpa using he)] at h
    obtain ⟨_, _, _, hle, _, ⟨hn0, _⟩, _, hby⟩ := takeN_put hb he
    by_cases hgt : (takeN l p 2).1 > (l.length : Int) - (p + 2)
    · rw [if_pos hgt] at h; cases h
    rw [if_neg hgt] at h
    obtain ⟨rfl, rfl⟩ := Prod.mk.inj (Option.some.inj h)
    have e1 : (l.take (p + 2 + (takeN l p 2).1).toNat).drop (p + 2).toNat = slc l (p + 2) (p + 2 + (takeN l p 2).1) := rfl
    have hl := slc_len (l := l) (a := p + 2) (b := p + 2 + (takeN l p 2).1) (by omega) (by omega) (by omega)
    rw [e1, str_bytes (slc_bytes hb _ _), strOfNums_size, show ((slc l (p + 2) (p + 2 + (takeN l p 2).1)).length : Int) = (takeN l p 2).1 by omega]
    have e2 : bytesB (takeN l p 2).1 2 = slc l p (p + 2) := hby
    rw [e2]
    exact slc_app h0 (by omega) (by omega)
  · rw [if_pos he] at h; cases h
theorem slc_nil (l : List Int) (p : Int) : slc l p p = [] := by
  unfold slc
  exact List.drop_eq_nil_of_le (List.length_take_le _ _)
theorem textsN_bytes {l : List Int} (hb : bytesOk l) : ∀ (n : Nat) (p : Int) (acc : List ByteArray) (t : List ByteArray × Int), 0 ≤ p → p ≤ l.length → textsN l n p acc = some t → ∃ ts, t.1 = acc ++ ts ∧ ts.length = n ∧ p ≤ t.2 ∧ t.2 ≤ l.length ∧ poolBytes ts = slc l p t.2
  | 0, p, acc, t, h0, h1, h => by
    rw [textsN] at h
    obtain rfl := Option.some.inj h
    exact ⟨[], by simp, rfl, Int.le_refl _, h1, (slc_nil l p).symm⟩
  | n + 1, p, acc, t, h0, h1, h => by
    rw [textsN] at h
    obtain ⟨⟨s, q⟩, ho, h2⟩ := Option.bind_eq_some_iff.1 h
    obtain ⟨a0, a1, a2, a3⟩ := oneText_bytes hb ho
    obtain ⟨ts, e1, e2, e3, e4, e5⟩ := textsN_bytes hb n q (acc ++ [s]) t (by omega) a2 h2
    have e3' : q ≤ t.2 := e3
    refine ⟨s :: ts, by rw [e1, List.append_assoc]; rfl, by rw [List.length_cons, e2], by omega, e4, ?_⟩
    rw [poolBytes, a3, e5]
    exact slc_app a0 (by omega) e3'
/-- a pool that was taken, put again -/
theorem takePool_put {l : List Int} {p : Int} (hb : bytesOk l) (h : (takePool l p).2.2 = 0) : isPoolB (takePool l p).1 = true ∧ 0 ≤ p ∧ p ≤ (takePool l p).2.1 ∧ (takePool l p).2.1 ≤ l.length ∧ bytesB (takePool l p).1.length 2 ++ poolBytes (takePool l p).1 = slc l p (takePool l p).2.1 := by
  unfold takePool at h ⊢
  by_cases h0 : (takeN l p 2).2.2 = 0
  · rw [if_neg (by simpa using h0)] at h ⊢
    obtain ⟨hp, _, _, hle, _, ⟨hn0, hn1⟩, _, hby⟩ := takeN_put hb h0
    cases ht : textsN l (takeN l p 2).1.toNat (p + 2) [] with
    | none => rw [ht] at h; exact absurd h (by decide)
    | some t =>
      rw [ht] at h
      dsimp only at h ⊢
      cases hpl : isPoolB t.1 with
      | false => rw [hpl, if_neg (by simp)] at h; exact absurd h (by decide)
      | true =>
        rw [if_pos rfl]
        obtain ⟨ts, e1, e2, e3, e4, e5⟩ := textsN_bytes hb _ _ _ _ (by omega) hle ht
        rw [List.nil_append] at e1
        refine ⟨hpl, hp, by show p ≤ t.2; omega, e4, ?_⟩
        show bytesB t.1.length 2 ++ poolBytes t.1 = slc l p t.2
        rw [e1, e2, e5, show (((takeN l p 2).1.toNat : Nat) : Int) = (takeN l p 2).1 by omega]
        have e6 : bytesB (takeN l p 2).1 2 = slc l p (p + 2) := hby
        rw [e6]
        exact slc_app hp (by omega) e3
  · rw [if_pos h0] at h; exact absurd h h0
theorem takePool_not {l : List Int} {p : Int} (h : (takePool l p).2.2 ≠ 0) : (takePool l p).1 = [] ∧ (takePool l p).2.1 = 0 := by
  unfold takePool at h ⊢
  by_cases h0 : (takeN l p 2).2.2 = 0
  · rw [if_neg (by simpa using h0)] at h ⊢
    cases ht : textsN l (takeN l p 2).1.toNat (p + 2) [] with
    | none => exact ⟨rfl, rfl⟩
    | some t =>
      rw [ht] at h
      dsimp only at h ⊢
      cases hpl : isPoolB t.1 with
      | false => rw [if_neg (by simp)]; exact ⟨rfl, rfl⟩
      | true => rw [hpl, if_pos rfl] at h; exact absurd rfl h
  · rw [if_pos h0]; exact ⟨rfl, rfl⟩
end Go.Proofs.Ytmgkfklkdedpgaa.Q
