/- Plain laws of UTF-8 over lists of whole numbers: the bytes of a rune, the rune at the head of bytes, and that each tells the other. -/
import Derived.Laws.BitsLemmas
import Derived.RowKit
import Derived.Test.YtapjpcpaildccaaWWords
import Derived.Test.YtapjpcpaildccaaWMore
namespace Go.Proofs.Ytapjpcpaildccaa.Spec
open Go.RowKit Go.Proofs.YtapjpcpaildccaaW.PrintWords Go.Proofs.YtapjpcpaildccaaW.PrintLast Go.Proofs.YtapjpcpaildccaaW.PrintMore
set_option linter.unusedVariables false
set_option linter.unusedSimpArgs false

def isR (r : Int) : Bool := decide ((0 ≤ r ∧ r < 55296) ∨ (57343 < r ∧ r ≤ 1114111))
theorem isR_iff (r : Int) : isR r = true ↔ (0 ≤ r ∧ r < 55296) ∨ (57343 < r ∧ r ≤ 1114111) := by simp [isR]
def sz (r : Int) : Int := if r < 128 then 1 else if r < 2048 then 2 else if r < 65536 then 3 else 4
/-- how many bytes a number has; 0: it is no rune -/
def szz (r : Int) : Int := if isR r = true then sz r else 0
def enc1 (r : Int) : List Int :=
  if r < 128 then [r] else if r < 2048 then [192 + r / 64, 128 + r % 64]
  else if r < 65536 then [224 + r / 4096, 128 + r / 64 % 64, 128 + r % 64]
  else [240 + r / 262144, 128 + r / 4096 % 64, 128 + r / 64 % 64, 128 + r % 64]
def encAll (l : List Int) : List Int := l.flatMap enc1
theorem encAll_nil : encAll [] = [] := rfl
theorem encAll_cons (r : Int) (l : List Int) : encAll (r :: l) = enc1 r ++ encAll l := rfl
theorem encAll_append (a b : List Int) : encAll (a ++ b) = encAll a ++ encAll b := by simp [encAll]
theorem encAll_one (r : Int) : encAll [r] = enc1 r := by simp [encAll]
theorem sz_pos (r : Int) : 1 ≤ sz r ∧ sz r ≤ 4 := by unfold sz; repeat' split
                                                     all_goals omega
theorem enc1_len (r : Int) : ((enc1 r).length : Int) = sz r := by unfold enc1 sz; repeat' split
                                                                  all_goals rfl
theorem enc1_ne (r : Int) : enc1 r ≠ [] := by
  intro h
  have h1 := enc1_len r
  have h2 := sz_pos r
  rw [h] at h1
  simp at h1
  omega
theorem enc1_byte {r : Int} (h : isR r = true) : ∀ x ∈ enc1 r, 0 ≤ x ∧ x < 256 := by
  rw [isR_iff] at h
  intro x hx
  unfold enc1 at hx
  split at hx
  · simp at hx; omega
  · split at hx
    · simp at hx; omega
    · split at hx
      · simp at hx; omega
      · simp at hx; omega
theorem encAll_byte {l : List Int} (h : ∀ r ∈ l, isR r = true) : ∀ x ∈ encAll l, 0 ≤ x ∧ x < 256 := by
  intro x hx
  simp only [encAll, List.mem_flatMap] at hx
  obtain ⟨r, hr, hx⟩ := hx
  exact enc1_byte (h r hr) x hx
theorem encAll_len_le {l : List Int} : (encAll l).length ≤ 4 * l.length := by
  induction l with
  | nil => simp [encAll]
  | cons r l ih =>
    rw [encAll_cons, List.length_append, List.length_cons]
    have h1 := enc1_len r
    have h2 := sz_pos r
    omega
theorem encAll_len_ge {l : List Int} : l.length ≤ (encAll l).length := by
  induction l with
  | nil => simp
  | cons r l ih =>
    rw [encAll_cons, List.length_append, List.length_cons]
    have h1 := enc1_len r
    have h2 := sz_pos r
    omega

/-- is a byte one that stands behind a first one -/
def tl (c : Int) : Bool := decide (128 ≤ c ∧ c < 192)
theorem tl_iff (c : Int) : tl c = true ↔ 128 ≤ c ∧ c < 192 := by simp [tl]
def acc : Int → List Int → Int
  | u, [] => u
  | u, c :: cs => acc (u * 64 + (c - 128)) cs
/-- bytes behind a first one, with the first one's own bits -/
def fin (n : Int) (u : Int) (xs : List Int) : Int × Int := if xs.all tl = true then (if szz (acc u xs) = n then (acc u xs, n) else (0, 0)) else (0, 0)
theorem fin_nil (n u : Int) : fin n u [] = if szz u = n then (u, n) else (0, 0) := by
  unfold fin
  rw [if_pos (by simp)]
  rfl
theorem fin_cons (n u c : Int) (cs : List Int) : fin n u (c :: cs) = if tl c = true then fin n (u * 64 + (c - 128)) cs else (0, 0) := by
  unfold fin
  by_cases h : tl c = true
  · rw [if_pos h]
    by_cases h2 : cs.all tl = true
    · rw [if_pos (by rw [List.all_cons, h, h2]; rfl), if_pos h2]
      rfl
    · rw [if_neg (by rw [List.all_cons, h, Bool.true_and]; exact h2), if_neg h2]
  · rw [if_neg h, if_neg (by rw [List.all_cons, Bool.and_eq_true]; exact fun e => h e.1)]
/-- of how many bytes a first byte tells, and its own bits -/
def hd (c : Int) : Int × Int := if c < 128 then (1, c) else if c < 192 then (0, 0) else if c < 224 then (2, c - 192) else if c < 240 then (3, c - 224) else if c < 248 then (4, c - 240) else (0, 0)
/-- the rune at the head, and its bytes; (0, 0): there is none -/
def fst (b : List Int) : Int × Int :=
  match b with
  | [] => (0, 0)
  | c :: t => if (hd c).1 = 0 then (0, 0) else if (hd c).1 > (t.length : Int) + 1 then (0, 0) else fin (hd c).1 (hd c).2 (t.take ((hd c).1 - 1).toNat)

theorem fst_cons (c : Int) (t : List Int) : fst (c :: t) = if (hd c).1 = 0 then (0, 0) else if (hd c).1 > (t.length : Int) + 1 then (0, 0) else fin (hd c).1 (hd c).2 (t.take ((hd c).1 - 1).toNat) := rfl
theorem fst_enc1 {r : Int} (h : isR r = true) (t : List Int) : fst (enc1 r ++ t) = (r, sz r) := by
  have hR := h
  rw [isR_iff] at h
  have hz : szz r = sz r := by simp [szz, hR]
  unfold enc1
  by_cases h1 : r < 128
  · rw [if_pos h1]
    have : sz r = 1 := by simp [sz, h1]
    simp [fst, hd, h1, fin, acc, hz, this]
    omega
  · rw [if_neg h1]
    by_cases h2 : r < 2048
    · rw [if_pos h2]
      have hs : sz r = 2 := by simp [sz, h1, h2]
      have e : hd (192 + r / 64) = (2, r / 64) := by unfold hd; rw [if_neg (by omega), if_neg (by omega), if_pos (by omega)]; congr 1; omega
      have t1 : tl (128 + r % 64) = true := by rw [tl_iff]; omega
      have a1 : r / 64 * 64 + (128 + r % 64 - 128) = r := by omega
      simp only [List.cons_append, List.nil_append, fst, e]
      rw [if_neg (by omega), if_neg (by simp; omega)]
      simp [fin, t1, acc, a1, hz, hs]
    · rw [if_neg h2]
      by_cases h3 : r < 65536
      · rw [if_pos h3]
        have hs : sz r = 3 := by simp [sz, h1, h2, h3]
        have e : hd (224 + r / 4096) = (3, r / 4096) := by unfold hd; rw [if_neg (by omega), if_neg (by omega), if_neg (by omega), if_pos (by omega)]; congr 1; omega
        have t1 : tl (128 + r % 64) = true := by rw [tl_iff]; omega
        have t2 : tl (128 + r / 64 % 64) = true := by rw [tl_iff]; omega
        have a1 : (r / 4096 * 64 + (128 + r / 64 % 64 - 128)) * 64 + (128 + r % 64 - 128) = r := by omega
        simp only [List.cons_append, List.nil_append, fst, e]
        rw [if_neg (by omega), if_neg (by simp; omega)]
        simp [fin, t1, t2, acc, a1, hz, hs]
      · rw [if_neg h3]
        have hs : sz r = 4 := by simp [sz, h1, h2, h3]
        have e : hd (240 + r / 262144) = (4, r / 262144) := by unfold hd; rw [if_neg (by omega), if_neg (by omega), if_neg (by omega), if_neg (by omega), if_pos (by omega)]; congr 1; omega
        have t1 : tl (128 + r % 64) = true := by rw [tl_iff]; omega
        have t2 : tl (128 + r / 64 % 64) = true := by rw [tl_iff]; omega
        have t3 : tl (128 + r / 4096 % 64) = true := by rw [tl_iff]; omega
        have a1 : ((r / 262144 * 64 + (128 + r / 4096 % 64 - 128)) * 64 + (128 + r / 64 % 64 - 128)) * 64 + (128 + r % 64 - 128) = r := by omega
        simp only [List.cons_append, List.nil_append, fst, e]
        rw [if_neg (by omega), if_neg (by simp; omega)]
        simp [fin, t1, t2, t3, acc, a1, hz, hs]

theorem szz_pos {r n : Int} (h : szz r = n) (hn : n ≠ 0) : isR r = true ∧ sz r = n := by
  unfold szz at h
  split at h
  · exact ⟨by assumption, h⟩
  · exact absurd h.symm hn
theorem fst_some {b : List Int} {r n : Int} (hb : ∀ x ∈ b, 0 ≤ x ∧ x < 256) (h : fst b = (r, n)) (hn : n ≠ 0) : isR r = true ∧ n = sz r ∧ ∃ t, b = enc1 r ++ t := by
  cases b with
  | nil => simp [fst] at h; omega
  | cons c t =>
    have hc := hb c List.mem_cons_self
    simp only [fst] at h
    split at h
    · simp at h; omega
    split at h
    · simp at h; omega
    rename_i h0 h1
    unfold fin at h
    split at h
    · split at h
      · rename_i hall hszz
        simp only [Prod.mk.injEq] at h
        obtain ⟨h2, h3⟩ := h
        rw [h2] at hszz
        rw [h3] at hszz
        obtain ⟨hr, hs⟩ := szz_pos hszz hn
        refine ⟨hr, hs.symm, ?_⟩
        rw [isR_iff] at hr
        have hd_ : hd c = ((hd c).1, (hd c).2) := rfl
        unfold hd at h0 h1 h2 h3 hall
        by_cases c1 : c < 128
        · simp only [if_pos c1] at h0 h1 h2 h3 hall
          simp [acc] at h2
          subst h2
          exact ⟨t, by simp [enc1, c1]⟩
        · simp only [if_neg c1] at h0 h1 h2 h3 hall
          by_cases c2 : c < 192
          · simp [c2] at h0
          · simp only [if_neg c2] at h0 h1 h2 h3 hall
            by_cases c3 : c < 224
            · simp only [if_pos c3] at h0 h1 h2 h3 hall
              match t, h1, h2, h3, hall with
              | [], h1, _, _, _ => simp at h1
              | x :: t, _, h2, h3, hall =>
                simp at h2 h3 hall
                simp only [acc] at h2
                rw [tl_iff] at hall
                have e2 : sz r = 2 := by omega
                unfold sz at e2
                repeat' split at e2
                all_goals first | omega | skip
                refine ⟨t, ?_⟩
                rw [enc1, if_neg (by omega), if_pos (by omega)]
                simp only [List.cons_append, List.nil_append, List.cons.injEq, and_true]
                omega
            · simp only [if_neg c3] at h0 h1 h2 h3 hall
              by_cases c4 : c < 240
              · simp only [if_pos c4] at h0 h1 h2 h3 hall
                match t, h1, h2, h3, hall with
                | [], h1, _, _, _ => simp at h1
                | [x], h1, _, _, _ => simp at h1
                | x :: y :: t, _, h2, h3, hall =>
                  simp at h2 h3 hall
                  simp only [acc] at h2
                  rw [tl_iff, tl_iff] at hall
                  have e2 : sz r = 3 := by omega
                  unfold sz at e2
                  repeat' split at e2
                  all_goals first | omega | skip
                  refine ⟨t, ?_⟩
                  rw [enc1, if_neg (by omega), if_neg (by omega), if_pos (by omega)]
                  simp only [List.cons_append, List.nil_append, List.cons.injEq, and_true]
                  omega
              · simp only [if_neg c4] at h0 h1 h2 h3 hall
                by_cases c5 : c < 248
                · simp only [if_pos c5] at h0 h1 h2 h3 hall
                  match t, h1, h2, h3, hall with
                  | [], h1, _, _, _ => simp at h1
                  | [x], h1, _, _, _ => simp at h1
                  | [x, y], h1, _, _, _ => simp at h1
                  | x :: y :: z :: t, _, h2, h3, hall =>
                    simp at h2 h3 hall
                    simp only [acc] at h2
                    rw [tl_iff, tl_iff, tl_iff] at hall
                    have e2 : sz r = 4 := by omega
                    unfold sz at e2
                    repeat' split at e2
                    all_goals first | omega | skip
                    refine ⟨t, ?_⟩
                    rw [enc1, if_neg (by omega), if_neg (by omega), if_neg (by omega)]
                    simp only [List.cons_append, List.nil_append, List.cons.injEq, and_true]
                    omega
                · simp [c5] at h0
      · simp at h; omega
    · simp at h; omega

/-- what bytes come to: runes, or where they are none -/
def DecR (b : List Int) (res : List Int × Int × Int) : Prop :=
  ∃ l rest, (∀ r ∈ l, isR r = true) ∧ b = encAll l ++ rest ∧ ((rest = [] ∧ res = (l, 0, 0)) ∨ (rest ≠ [] ∧ (fst rest).2 = 0 ∧ res = ([], ((encAll l).length : Int), 3)))
/-- a row ends, or goes on with no rune -/
def Stop (rest : List Int) : Prop := rest = [] ∨ (fst rest).2 = 0
theorem stop_not {r : Int} (h : isR r = true) (t : List Int) : ¬ Stop (enc1 r ++ t) := by
  rintro (h1 | h1)
  · exact enc1_ne r (List.append_eq_nil_iff.1 h1).1
  · rw [fst_enc1 h] at h1
    have := sz_pos r
    simp at h1
    omega
theorem split_unique {l l' rest rest' : List Int} (hl : ∀ r ∈ l, isR r = true) (hl' : ∀ r ∈ l', isR r = true) (hs : Stop rest) (hs' : Stop rest') (h : encAll l ++ rest = encAll l' ++ rest') : l = l' ∧ rest = rest' := by
  induction l generalizing l' with
  | nil =>
    cases l' with
    | nil => exact ⟨rfl, by simpa [encAll] using h⟩
    | cons r l' =>
      exfalso
      rw [encAll_nil, List.nil_append, encAll_cons, List.append_assoc] at h
      rw [h] at hs
      exact stop_not (hl' r List.mem_cons_self) _ hs
  | cons r l ih =>
    cases l' with
    | nil =>
      exfalso
      rw [encAll_nil, List.nil_append, encAll_cons, List.append_assoc] at h
      rw [← h] at hs'
      exact stop_not (hl r List.mem_cons_self) _ hs'
    | cons r' l' =>
      rw [encAll_cons, encAll_cons, List.append_assoc, List.append_assoc] at h
      have h1 := fst_enc1 (hl r List.mem_cons_self) (encAll l ++ rest)
      have h2 := fst_enc1 (hl' r' List.mem_cons_self) (encAll l' ++ rest')
      rw [h, h2] at h1
      simp only [Prod.mk.injEq] at h1
      obtain ⟨rfl, _⟩ := h1
      have h3 := List.append_cancel_left h
      obtain ⟨rfl, h4⟩ := ih (fun x hx => hl x (List.mem_cons_of_mem _ hx)) (fun x hx => hl' x (List.mem_cons_of_mem _ hx)) h3
      exact ⟨rfl, h4⟩
theorem DecR.unique {b : List Int} {r1 r2 : List Int × Int × Int} (h1 : DecR b r1) (h2 : DecR b r2) : r1 = r2 := by
  obtain ⟨l, rest, hl, he, h⟩ := h1
  obtain ⟨l', rest', hl', he', h'⟩ := h2
  have hs : Stop rest := h.elim (fun h => .inl h.1) (fun h => .inr h.2.1)
  have hs' : Stop rest' := h'.elim (fun h => .inl h.1) (fun h => .inr h.2.1)
  obtain ⟨rfl, rfl⟩ := split_unique hl hl' hs hs' (he.symm.trans he')
  rcases h with ⟨a, rfl⟩ | ⟨a, _, rfl⟩ <;> rcases h' with ⟨a', rfl⟩ | ⟨a', _, rfl⟩ <;> first | rfl | exact absurd a a' | exact absurd a' a
/-- what a row of numbers comes to -/
def encR (l : List Int) : List Int × Int := if l.all isR = true then (encAll l, 0) else ([], 3)
theorem encR_ok {l : List Int} (h : ∀ r ∈ l, isR r = true) : encR l = (encAll l, 0) := by rw [encR, if_pos (List.all_eq_true.2 h)]
theorem encR_bad {l : List Int} (h : ¬ ∀ r ∈ l, isR r = true) : encR l = ([], 3) := by rw [encR, if_neg (fun h2 => h (List.all_eq_true.1 h2))]
theorem encR_len {l : List Int} : (encR l).1.length ≤ 4 * l.length := by
  by_cases h : ∀ r ∈ l, isR r = true
  · rw [encR_ok h]; exact encAll_len_le
  · rw [encR_bad h]; simp
theorem encR_byte {l : List Int} : ∀ x ∈ (encR l).1, 0 ≤ x ∧ x < 256 := by
  by_cases h : ∀ r ∈ l, isR r = true
  · rw [encR_ok h]; exact encAll_byte h
  · rw [encR_bad h]; simp
theorem DecR.enc {l : List Int} (h : ∀ r ∈ l, isR r = true) : DecR (encAll l) (l, 0, 0) := ⟨l, [], h, by simp, .inl ⟨rfl, rfl⟩⟩
theorem DecR.len {b : List Int} {res : List Int × Int × Int} (h : DecR b res) : res.1.length ≤ b.length := by
  obtain ⟨l, rest, _, he, h⟩ := h
  have h1 := congrArg List.length he
  rw [List.length_append] at h1
  have h2 := encAll_len_ge (l := l)
  rcases h with ⟨_, rfl⟩ | ⟨_, _, rfl⟩
  · simp only; omega
  · simp
theorem DecR.front {l b : List Int} {r : List Int × Int × Int} (h : ∀ r ∈ l, isR r = true) (hd : DecR b r) : DecR (encAll l ++ b) (if r.2.2 = 0 then (l ++ r.1, 0, 0) else ([], ((encAll l).length : Int) + r.2.1, 3)) := by
  obtain ⟨l2, rest, hl2, he, hd⟩ := hd
  refine ⟨l ++ l2, rest, ?_, by rw [encAll_append, List.append_assoc, he], ?_⟩
  · intro x hx
    rcases List.mem_append.1 hx with hx | hx
    · exact h x hx
    · exact hl2 x hx
  · rcases hd with ⟨h1, rfl⟩ | ⟨h1, h2, rfl⟩
    · exact .inl ⟨h1, by simp⟩
    · refine .inr ⟨h1, h2, ?_⟩
      rw [if_neg (by simp), encAll_append, List.length_append]
      simp
theorem wf_u8 {x : Int} (h : (Lit.int .u8 x).wf = true) : 0 ≤ x ∧ x < 256 := by
  simp [Lit.wf, IntKind.min, IntKind.max, IntKind.signed, IntKind.bits] at h
  omega
theorem wf_i32 {x : Int} (h : (Lit.int .i32 x).wf = true) : -2147483648 ≤ x ∧ x < 2147483648 := by
  simp [Lit.wf, IntKind.min, IntKind.max, IntKind.signed, IntKind.bits] at h
  omega
end Go.Proofs.Ytapjpcpaildccaa.Spec
