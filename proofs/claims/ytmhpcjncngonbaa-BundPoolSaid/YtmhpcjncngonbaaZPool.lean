/- Texts of this claim, joined; the first one's sentence stands below. -/
import Derived.Test.YtmhpcjncngonbaaZM8
/- A locale's bundle without what it says twice, and its texts in it; rows of 65535 at most. -/
namespace Go.Proofs.Ytmhpcjncngonbaa.Q
open Go.RowKit Go.Proofs.Ytmhpcjncngonbaa.Mine Go.Proofs.YtmhpcjncngonbaaW.PrintWords Go.Proofs.YtmhpcjncngonbaaW.PrintLast Go.Proofs.YtmhpcjncngonbaaW.PrintMore
set_option linter.unusedVariables false
set_option linter.unusedSimpArgs false
open Go.Proofs.Ytmhpcjncngonbaa.Spec (I Y)
theorem okN_ix {p : List ByteArray} {s : ByteArray} (hs : s ∈ p) (hp : p.length ≤ 500) : okN (ix p s, 2) = true := by
  have := List.idxOf_lt_length_of_mem hs
  exact okN_iff.2 ⟨by unfold ix; omega, puts2.2 (by unfold ix; omega)⟩
theorem okN_ix0 (s : ByteArray) : okN (ix [] s, 2) = true := okN_iff.2 ⟨by show (0 : Int) ≤ 0; omega, puts2.2 (by show (0 : Int) < 65536; omega)⟩
theorem nr_ok (p : List ByteArray) (hp : p.length ≤ 500) : ∀ xs : List (Int × ByteArray), (∀ x ∈ xs, x.2 ∈ p) → okB (nr p xs) = okB (nr [] xs)
  | [], _ => rfl
  | x :: xs, h => by
    have e : ∀ q, nr q (x :: xs) = (x.1, 1) :: (ix q x.2, 2) :: nr q xs := fun _ => rfl
    rw [e, e, okB_cons, okB_cons, okB_cons, okB_cons, nr_ok p hp xs (fun y hy => h y (List.mem_cons_of_mem _ hy)), okN_ix (h x List.mem_cons_self) hp, okN_ix0]
theorem nk_ok (p : List ByteArray) (hp : p.length ≤ 500) : ∀ xs : List (Int × Int × ByteArray), (∀ x ∈ xs, x.2.2 ∈ p) → okB (nk p xs) = okB (nk [] xs)
  | [], _ => rfl
  | x :: xs, h => by
    have e : ∀ q, nk q (x :: xs) = (x.1, 1) :: (x.2.1, 1) :: (ix q x.2.2, 2) :: nk q xs := fun _ => rfl
    rw [e, e, okB_cons, okB_cons, okB_cons, okB_cons, okB_cons, okB_cons, nk_ok p hp xs (fun y hy => h y (List.mem_cons_of_mem _ hy)), okN_ix (h x List.mem_cons_self) hp, okN_ix0]
theorem nc_ok (p : List ByteArray) (hp : p.length ≤ 500) (xs : List (ByteArray × ByteArray × Int)) : (∀ x ∈ xs, x.1 ∈ p ∧ x.2.1 ∈ p) → okB (nc p xs) = okB (nc [] xs) := by
  induction xs with
  | nil => exact fun _ => rfl
  | cons x xs ih =>
    intro h
    have e : ∀ q, nc q (x :: xs) = (ix q x.1, 2) :: (ix q x.2.1, 2) :: (x.2.2, 1) :: nc q xs := fun _ => rfl
    rw [e, e, okB_cons, okB_cons, okB_cons, okB_cons, okB_cons, okB_cons, ih (fun y hy => h y (List.mem_cons_of_mem _ hy)), okN_ix (h x List.mem_cons_self).1 hp, okN_ix (h x List.mem_cons_self).2 hp, okN_ix0, okN_ix0]
/-- whether a locale's numbers may be does not hang on its pool -/
theorem nm_ok {p : List ByteArray} (hp : p.length ≤ 500) (L : Loc) (hm : ∀ s ∈ textsL L, s ∈ p) : okB (nmAll p L) = okB (nmAll [] L) := by
  obtain ⟨mt, m0, m1, m2, m3, mr, mc, mk⟩ := texts_mem L
  simp only [nmAll, okB_app, nm2, nm3, nm4, nm5, nm6, okB_cons]
  rw [nr_ok p hp L.rules (fun x hx => hm _ (mr x hx)), nc_ok p hp L.curs (fun x hx => ⟨hm _ (mc x hx).1, hm _ (mc x hx).2⟩), nk_ok p hp L.comps (fun x hx => hm _ (mk x hx))]
  rw [okN_ix (hm _ mt) hp, okN_ix (hm _ m0) hp, okN_ix (hm _ m1) hp, okN_ix (hm _ m2) hp, okN_ix (hm _ m3) hp, okN_ix0, okN_ix0, okN_ix0, okN_ix0, okN_ix0]
theorem nr_len (p : List ByteArray) : ∀ xs : List (Int × ByteArray), (numsB (nr p xs)).length = 3 * xs.length
  | [] => rfl
  | x :: xs => by
    have e : nr p (x :: xs) = (x.1, 1) :: (ix p x.2, 2) :: nr p xs := rfl
    rw [e, numsB_cons, numsB_cons, List.length_append, List.length_append, nr_len p xs, bytesB_len, bytesB_len, List.length_cons]
    show 1 + (2 + _) = _
    omega
theorem nk_len (p : List ByteArray) : ∀ xs : List (Int × Int × ByteArray), (numsB (nk p xs)).length = 4 * xs.length
  | [] => rfl
  | x :: xs => by
    have e : nk p (x :: xs) = (x.1, 1) :: (x.2.1, 1) :: (ix p x.2.2, 2) :: nk p xs := rfl
    rw [e, numsB_cons, numsB_cons, numsB_cons, List.length_append, List.length_append, List.length_append, nk_len p xs, bytesB_len, bytesB_len, bytesB_len, List.length_cons]
    show 1 + (1 + (2 + _)) = _
    omega
theorem nc_len (p : List ByteArray) (xs : List (ByteArray × ByteArray × Int)) : (numsB (nc p xs)).length = 5 * xs.length := by
  induction xs with
  | nil => rfl
  | cons x xs ih =>
    have e : nc p (x :: xs) = (ix p x.1, 2) :: (ix p x.2.1, 2) :: (x.2.2, 1) :: nc p xs := rfl
    rw [e, numsB_cons, numsB_cons, numsB_cons, List.length_append, List.length_append, List.length_append, ih, bytesB_len, bytesB_len, bytesB_len, List.length_cons]
    show 2 + (2 + (1 + _)) = _
    omega
theorem bundle_len (p : List ByteArray) (L : Loc) : (bundleB p L).length = 102 + (poolBytes p).length + 3 * L.rules.length + 5 * L.curs.length + 4 * L.comps.length := by
  unfold bundleB
  rw [List.length_append, dirA_len]
  simp only [qs, firstP, nm2, nm3, nm4, nm5, nm6, numsB_cons, List.flatten_cons, List.flatten_nil, List.length_append, bytesB_len, List.nil_append, nr_len, nc_len, nk_len, List.length_nil]
  have e0 : (numsB []).length = 0 := rfl
  have e2 : (2 : Int).toNat = 2 := rfl
  have e4 : (4 : Int).toNat = 4 := rfl
  rw [e2, e4, e0]
  omega
theorem sum_subset (f : ByteArray → Nat) : ∀ (xs ys : List ByteArray), xs.Nodup → (∀ x ∈ xs, x ∈ ys) → (xs.map f).sum ≤ (ys.map f).sum
  | [], _, _, _ => Nat.zero_le _
  | x :: xs, ys, hn, h => by
    obtain ⟨a, b, rfl⟩ := List.append_of_mem (h x List.mem_cons_self)
    rw [List.nodup_cons] at hn
    have := sum_subset f xs (a ++ b) hn.2 (fun y hy => by
      have hy2 := h y (List.mem_cons_of_mem _ hy)
      rw [List.mem_append, List.mem_cons] at hy2
      rw [List.mem_append]
      rcases hy2 with h1 | rfl | h1
      · exact .inl h1
      · exact absurd hy hn.1
      · exact .inr h1)
    rw [List.map_append, List.sum_append] at this
    rw [List.map_cons, List.sum_cons, List.map_append, List.sum_append, List.map_cons, List.sum_cons]
    omega
theorem len_sum : ∀ xs : List ByteArray, (xs.map fun _ => 1).sum = xs.length
  | [] => rfl
  | x :: xs => by rw [List.map_cons, List.sum_cons, len_sum xs, List.length_cons]; omega
theorem poolBytes_sum : ∀ xs : List ByteArray, (poolBytes xs).length = (xs.map fun s => 2 + s.size).sum
  | [] => rfl
  | x :: xs => by rw [poolBytes, List.length_append, List.length_append, bytesB_len, bytesOf_length, poolBytes_sum xs, List.map_cons, List.sum_cons]
theorem gpool_nd (l : List ByteArray) : (gpool l).Nodup := gpool_nodupI l [] List.nodup_nil
theorem gstep_sub (l : List ByteArray) : ∀ p x, x ∈ l.foldl gstep p → x ∈ p ∨ x ∈ l := by
  induction l with
  | nil => exact fun p x h => .inl h
  | cons y l ih =>
    intro p x h
    rw [List.foldl_cons] at h
    rcases ih _ _ h with h | h
    · unfold gstep at h
      split at h
      · exact .inl h
      · rcases List.mem_append.1 h with h | h
        · exact .inl h
        · exact .inr (by rw [List.mem_singleton.1 h]; exact List.mem_cons_self)
    · exact .inr (List.mem_cons_of_mem _ h)
theorem gpool_sub {l : List ByteArray} {x : ByteArray} (h : x ∈ gpool l) : x ∈ l := (gstep_sub l [] x h).resolve_left (by simp)
theorem gpool_id (l : List ByteArray) : ∀ p : List ByteArray, (p ++ l).Nodup → l.foldl gstep p = p ++ l := by
  induction l with
  | nil => intro p _; simp
  | cons y l ih =>
    intro p h
    rw [List.foldl_cons]
    have hy : y ∉ p := by
      rw [List.nodup_append] at h
      exact fun hp => (h.2.2 y hp y List.mem_cons_self) rfl
    rw [gstep, if_neg hy, ih (p ++ [y]) (by rw [List.append_assoc]; exact h), List.append_assoc]
    rfl
theorem isPool_sub {l l' : List ByteArray} (h : isPoolB (gpool l) = true) (hs : ∀ s ∈ l', s ∈ l) : isPoolB (gpool l') = true ∧ (poolBytes (gpool l')).length ≤ (poolBytes (gpool l)).length := by
  obtain ⟨_, h2, h3⟩ := isPoolB_facts h
  have hsub : ∀ s ∈ gpool l', s ∈ gpool l := fun s hs' => mem_gpool (hs s (gpool_sub hs'))
  have h4 := sum_subset (fun _ => 1) _ _ (gpool_nd l') hsub
  have h5 := sum_subset (fun s => 2 + s.size) _ _ (gpool_nd l') hsub
  rw [len_sum, len_sum] at h4
  rw [poolBytes_sum, poolBytes_sum]
  refine ⟨?_, h5⟩
  unfold isPoolB
  have e : gpool (gpool l') = gpool l' := (gpool_id (gpool l') [] (gpool_nd l')).trans (List.nil_append _)
  rw [e, decide_eq_true rfl, decide_eq_true (show (gpool l').length ≤ 500 by omega)]
  simp only [Bool.true_and, Bool.not_eq_true', List.any_eq_false, decide_eq_true_eq]
  exact fun s hs' => by have := h3 s (hsub s hs'); omega
/-- a locale whose tag is the first pattern's text -/
def tagL (L : Loc) : Loc := { L with tag := L.p0 }
theorem tagL_pool {L : Loc} (hL : LocB L) (h : encE L = 0) : encE (tagL L) = 0 ∧ (encR (tagL L)).length ≤ (encR L).length := by
  obtain ⟨x, h1, h2⟩ := enc_zero h
  obtain ⟨hp, ho, hx⟩ := encIn_some hL h1
  have hsub : ∀ s ∈ textsL (tagL L), s ∈ textsL L := by
    intro s hs
    simp only [textsL, tagL, List.mem_append, List.mem_cons, List.not_mem_nil, or_false] at hs ⊢
    rcases hs with ((h | h) | h) | h
    · refine .inl (.inl (.inl ?_))
      rcases h with h | h | h | h | h <;> simp [h]
    · exact .inl (.inl (.inr h))
    · exact .inl (.inr h)
    · exact .inr h
  obtain ⟨hq, hle⟩ := isPool_sub hp hsub
  have ho2 : okB (nmAll (gpool (textsL (tagL L))) (tagL L)) = true := by
    rw [nm_ok (isPoolB_facts hq).2.1 (tagL L) (mem_gpoolL (tagL L))]
    rw [nm_ok (isPoolB_facts hp).2.1 L (mem_gpoolL L)] at ho
    exact ho
  have he := encIn_yes (L := tagL L) hL hq ho2
  have e1 : encE (tagL L) = 0 := by unfold encE; rw [he]
  have e2 : encR (tagL L) = putC (bundleB (gpool (textsL (tagL L))) (tagL L)) := by unfold encR; rw [he]
  refine ⟨e1, ?_⟩
  rw [e2, h2, hx, putC_len, putC_len, bundle_len, bundle_len]
  show 102 + _ + 3 * L.rules.length + 5 * L.curs.length + 4 * L.comps.length + 4 ≤ _
  omega
/-- each of a locale's texts stands in its bundle -/
theorem text_in {L : Loc} (hL : LocB L) (h : encE L = 0) {s : ByteArray} (hs : s ∈ textsL L) : ∃ P Q, encR L = P ++ (bytesOf s ++ Q) := by
  obtain ⟨x, h1, h2⟩ := enc_zero h
  have hxb := (enc_len hL h1).2.2
  obtain ⟨_, _, hx⟩ := encIn_some hL h1
  obtain ⟨a, b, hab⟩ := List.append_of_mem (mem_gpoolL L s hs)
  rw [h2, putC_app hxb]
  generalize crcB x = C
  rw [hx]
  unfold bundleB
  simp only [qs, List.flatten_cons, firstP]
  rw [hab, poolBytes_app, poolBytes]
  refine ⟨dirA (a ++ s :: b) L ++ ([] ++ bytesB ((a ++ s :: b).length : Int) 2 ++ (poolBytes a ++ bytesB s.size 2)), poolBytes b ++ (numsB (nm2 (a ++ s :: b) L) ++ (numsB (nm3 (a ++ s :: b) L) ++ (numsB (nm4 (a ++ s :: b) L) ++ (numsB (nm5 (a ++ s :: b) L) ++ (numsB (nm6 (a ++ s :: b) L) ++ ([].flatten ++ C)))))), ?_⟩
  simp only [List.append_assoc]
set_option maxHeartbeats 4000000 in
set_option maxRecDepth 100000 in
theorem holds.calls (A : Option Addr) (c : Nat) (b P Q : List Int) (s : ByteArray) (w : World) (hr : (Kd.int .u8).C w A b.length b) (hc : b.length ≤ c) (hb : b = P ++ (bytesOf s ++ Q)) (hl : b.length < 140737488355328) :
    Calls Try.prog 23 #[.slice A b.length c, .string s] w fun e w' => e = .returned (.bool true) ∧ Below w.heap.size w w' := by
  have hbl : b.length = P.length + s.size + Q.length := by rw [hb, List.length_append, List.length_append, bytesOf_length]; omega
  have HBL := Aside0.mk hbl
  have HCC := Aside0.mk hc
  have HL := Aside0.mk hl
  have HP := Aside0.mk (show (b.take (P.length + s.size)).drop P.length = bytesOf s by
    rw [hb, List.drop_take, List.drop_left, show P.length + s.size - P.length = s.size by omega, List.take_append_of_le_length (by rw [bytesOf_length]; omega), List.take_of_length_le (by rw [bytesOf_length]; omega)])
  have HR := Aside0.mk hr
  clear hr hc hb hl hbl
  go_enter Try.func23, Try.ntmps23
  go_wp2_with fail
  go_loopg [5] (P.length + 1) (fun kq v5 w' => ∃ i : Nat, v5 = .int .i64 (i : Int) ∧ Aside0 (i ≤ P.length) ∧ Aside0 (P.length + 1 - i = kq) ∧ Aside0 ((Kd.int .u8).C w' A b.length b) ∧ Aside0 (Below w.heap.size w w'))
  case atStart => exact ⟨0, rfl, ⟨Nat.zero_le _⟩, ⟨rfl⟩, HR, ⟨Below.refl _ _⟩⟩
  case round =>
    obtain ⟨i, rfl, HI, HKQ, HR, HB⟩ := hrel
    have hw : wrap64 ((i : Int) + (s.size : Int)) = (i : Int) + (s.size : Int) := by have := HI.out; have := HBL.out; have := HL.out; unfold wrap64; omega
    have hle : decide (((i + s.size : Nat) : Int) ≤ (b.length : Int)) = true := decide_eq_true (by have := HI.out; have := HBL.out; omega)
    have hle2 : decide ((i : Int) + (s.size : Int) ≤ (b.length : Int)) = true := decide_eq_true (by have := HI.out; have := HBL.out; omega)
    obtain ⟨i0, hi, _, hsz, _⟩ := info_parts info5
    obtain ⟨A8, hcut, hA, hC⟩ := print_mid_of (P := Try.prog) (Value.int .u8) 0 32 5 .i64 .i64 Try.underlying32 hi hsz A c b (i : Int) ((i : Int) + (s.size : Int)) (by omega) (by omega) (by have := HI.out; have := HBL.out; omega) HCC.out
    have hpc := Kd.C_of_reads (h1 := fun _ => rfl) (hA _ (Kd.reads_of_C HR.out))
    have ht : ((i : Int) + (s.size : Int)).toNat = i + s.size := by omega
    simp only [Int.toNat_natCast, ht] at hcut hpc hC
    have hpl : ((b.take (i + s.size)).drop i).length = s.size := by rw [List.length_drop, List.length_take]; have := HI.out; have := HBL.out; omega
    have HPI := Aside0.mk (show i = P.length → strOfNums ((b.take (i + s.size)).drop i) = s from fun e => by rw [e, HP.out, str_of])
    generalize (b.take (i + s.size)).drop i = piece at hcut hpc hC hpl HPI
    rw [hpl] at hcut hC hpc
    have hcv : (convert 32 9 (.slice A8 s.size (c - i))).run Try.prog wr = .ok (.string (strOfNums piece)) wr := Kd.C_string (P := Try.prog) (A := A8) (c := c - i) Try.underlying32 Try.underlying5 Try.underlying9 hpc
    have heq := toList_eq_iff (strOfNums piece) s
    clear hA hpc hC hpl hsz hi
    by_cases hs : strOfNums piece = s
    · rw [decide_eq_true hs] at heq
      clear hs
      generalize strOfNums piece = st at *
      go_wp2_with fail
      go_ret
      exact ⟨rfl, HB.out⟩
    · have HLT := Aside0.mk (show i < P.length by
        rcases Nat.lt_or_ge i P.length with h | h
        · exact h
        · exact absurd (HPI.out (by have := HI.out; omega)) hs)
      rw [decide_eq_false hs] at heq
      clear hs HPI
      generalize strOfNums piece = st at *
      go_wp2
      go_roundg (P.length + 1 - (i + 1))
      case measure => have := HLT.out; have := HKQ.out; omega
      case rel => exact ⟨i + 1, by have := HLT.out; have := HBL.out; have := HL.out; first | rfl | (congr 1; unfold wrap64; omega), ⟨HLT.out⟩, ⟨rfl⟩, HR, HB⟩
end Go.Proofs.Ytmhpcjncngonbaa.Q
