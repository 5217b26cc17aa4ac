/- Texts of this claim, joined; the first one's sentence stands below. -/
import Derived.Test.YtmhpcjncngonbaaZM6
import Derived.Test.YtmhpcjncngonbaaZM4
import Derived.Test.YtmhpcjncngonbaaZQx43
import Derived.Test.YtmhpcjncngonbaaZQx44
import Derived.Test.YtmhpcjncngonbaaZQx46
/- What the reference's two, four and ref come to; rows as memory has room. -/
namespace Go.Proofs.Ytmhpcjncngonbaa.Q
open Go.RowKit Go.Proofs.Ytmhpcjncngonbaa.Mine Go.Proofs.YtmhpcjncngonbaaW.PrintWords Go.Proofs.YtmhpcjncngonbaaW.PrintLast Go.Proofs.YtmhpcjncngonbaaW.PrintMore
set_option linter.unusedVariables false
set_option linter.unusedSimpArgs false
theorem C_keptB {α : Type} {d : Kd α} (hs : 0 < d.sz) (hd : ∀ {W W' : World} {x : α} {cs : List Value}, d.K W x cs → d.K W' x cs) {w1 w : World} {A : Option Addr} {n : Nat} {xs : List α} (h : d.C w1 A n xs) (hB : Below w1.heap.size w1 w) : ∀ W', Kept w W' (fun k => w1.heap.size ≤ k) → d.C W' A n xs := by
  refine Kd.C_foot_neS hd (Kd.C_below h hB) ?_
  intro ad e hn hk
  subst e
  have := Kd.C_lt h hn hs
  omega
theorem two_f (l : List Int) (n : Int) (h0 : 0 ≤ n) (h1 : n < 65536) (hl : l.length < 140737488000000) : exergueref16_two.f l n = some (l ++ bytesB n 2) := by
  have e1 : Int.tdiv n 256 = n / 256 := Int.tdiv_eq_ediv_of_nonneg h0
  have e2 : wrap64 (n / 256) = n / 256 := by unfold wrap64; omega
  have e3 : Int.tmod (n / 256) 256 = (n / 256) % 256 := Int.tmod_eq_emod_of_nonneg (by omega)
  have e4 : Int.tmod n 256 = n % 256 := Int.tmod_eq_emod_of_nonneg h0
  unfold exergueref16_two.f
  rw [e1, e2, e3, e4, Option.bind_some, if_pos (by simp only [List.length_cons, List.length_nil]; omega)]
  congr 2
  show [n / 256 % 256 % 256, n % 256 % 256] = [n / 256 ^ 1 % 256, n / 256 ^ 0 % 256]
  rw [Int.emod_emod_of_dvd _ (Int.dvd_refl _), Int.emod_emod_of_dvd _ (Int.dvd_refl _)]
  simp
theorem two_f' (l : List Int) (n : Int) (h0 : 0 ≤ n) (h1 : n < 4294967296) (hl : l.length < 140737488000000) : exergueref16_two.f l n = some (l ++ [n / 256 % 256, n % 256]) := by
  have e1 : Int.tdiv n 256 = n / 256 := Int.tdiv_eq_ediv_of_nonneg h0
  have e2 : wrap64 (n / 256) = n / 256 := by unfold wrap64; omega
  have e3 : Int.tmod (n / 256) 256 = (n / 256) % 256 := Int.tmod_eq_emod_of_nonneg (by omega)
  have e4 : Int.tmod n 256 = n % 256 := Int.tmod_eq_emod_of_nonneg h0
  unfold exergueref16_two.f
  rw [e1, e2, e3, e4, Option.bind_some, if_pos (by simp only [List.length_cons, List.length_nil]; omega)]
  congr 2
  rw [Int.emod_emod_of_dvd _ (Int.dvd_refl _), Int.emod_emod_of_dvd _ (Int.dvd_refl _)]
theorem four_f (l : List Int) (n : Int) (h0 : 0 ≤ n) (h1 : n < 4294967296) (hl : l.length < 140737487000000) : exergueref16_four.f l n = some (l ++ bytesB n 4) := by
  have e1 : Int.tdiv n 65536 = n / 65536 := Int.tdiv_eq_ediv_of_nonneg h0
  have e2 : wrap64 (n / 65536) = n / 65536 := by unfold wrap64; omega
  unfold exergueref16_four.f
  rw [e1, e2, two_f' l _ (by omega) (by omega) (by omega), Option.bind_some, two_f' _ n h0 h1 (by rw [List.length_append]; simp only [List.length_cons, List.length_nil]; omega), Option.bind_some, List.append_assoc]
  congr 2
  show [n / 65536 / 256 % 256, n / 65536 % 256, n / 256 % 256, n % 256] = [n / 256 ^ 3 % 256, n / 256 ^ 2 % 256, n / 256 ^ 1 % 256, n / 256 ^ 0 % 256]
  rw [Int.ediv_ediv_of_nonneg (by decide)]
  simp
theorem ix_lt {p : List ByteArray} {s : ByteArray} (hm : s ∈ p) (hp : p.length ≤ 500) : 0 ≤ ix p s ∧ ix p s < 65536 := by
  have := List.idxOf_lt_length_iff.2 hm
  unfold ix
  omega
theorem ref_f (l : List Int) (p : List ByteArray) (s : ByteArray) (hm : s ∈ p) (hp : p.length ≤ 500) (hl : l.length < 140737488000000) : exergueref16_ref.f 600 l p s = some (l ++ bytesB (ix p s) 2) := by
  unfold exergueref16_ref.f
  rw [At_f p s (by omega) (by omega), if_pos hm, Option.bind_some]
  show ((exergueref16_two.f l (ix p s)).bind fun t178 => some t178) = _
  rw [two_f l _ (ix_lt hm hp).1 (ix_lt hm hp).2 hl, Option.bind_some]
/-- what a row of the reference's comes to -/
def RowB (w1 : World) (l : List Int) (e : Ending) (w' : World) : Prop := ∃ v, e = .returned v ∧ (Kd.int .u8).R 5 w' w1.heap.size (fun k => w1.heap.size ≤ k) v l ∧ Below w1.heap.size w1 w'
theorem two.calls (l : List Int) (v : Value) (n : Int) (w1 w : World) (hB : Below w1.heap.size w1 w) (hR : (Kd.int .u8).R 5 w w1.heap.size (fun k => w1.heap.size ≤ k) v l) (h0 : 0 ≤ n) (h1 : n < 65536) (hl : l.length < 140737488000000) :
    Calls Try.prog 58 #[v, .int .i64 n] w fun e w' => RowB w1 (l ++ bytesB n 2) e w' := by
  refine (exergueref16_two.calls _ v l n _ w1 w hB hR (two_f l n h0 h1 hl)).mono ?_
  rintro e w' ⟨v', rfl, h2, h3, _⟩
  exact ⟨v', rfl, Kd.R_mono h2 (fun k hk => hk.elim id fun h => Nat.le_trans hB.size h), h3⟩
theorem four.calls (l : List Int) (v : Value) (n : Int) (w1 w : World) (hB : Below w1.heap.size w1 w) (hR : (Kd.int .u8).R 5 w w1.heap.size (fun k => w1.heap.size ≤ k) v l) (h0 : 0 ≤ n) (h1 : n < 4294967296) (hl : l.length < 140737487000000) :
    Calls Try.prog 42 #[v, .int .i64 n] w fun e w' => RowB w1 (l ++ bytesB n 4) e w' := by
  refine (exergueref16_four.calls _ v l n _ w1 w hB hR (four_f l n h0 h1 hl)).mono ?_
  rintro e w' ⟨v', rfl, h2, h3, _⟩
  exact ⟨v', rfl, Kd.R_mono h2 (fun k hk => hk.elim id fun h => Nat.le_trans hB.size h), h3⟩
theorem ref.calls (l : List Int) (v : Value) (A : Option Addr) (c : Nat) (p : List ByteArray) (s : ByteArray) (w1 w : World) (hB : Below w1.heap.size w1 w) (hR : (Kd.int .u8).R 5 w w1.heap.size (fun k => w1.heap.size ≤ k) v l) (hp : Kd.string.C w1 A p.length p) (hc : p.length ≤ c) (hm : s ∈ p) (h5 : p.length ≤ 500) (hl : l.length < 140737488000000) :
    Calls Try.prog 57 #[v, .slice A p.length c, .string s] w fun e w' => RowB w1 (l ++ bytesB (ix p s) 2) e w' := by
  refine (exergueref16_ref.calls 600 _ v l A c p s _ w1 w hB hR (C_keptB (by decide) id hp hB) hc (ref_f l p s hm h5 hl)).mono ?_
  rintro e w' ⟨v', rfl, h2, h3, _⟩
  exact ⟨v', rfl, Kd.R_mono h2 (fun k hk => hk.elim id fun h => Nat.le_trans hB.size h), h3⟩
end Go.Proofs.Ytmhpcjncngonbaa.Q
