/- Texts of this claim, joined; the first one's sentence stands below. -/
import Derived.Test.YtmhpcjncngonbaaZRefSe6
import Derived.Test.YtmhpcjncngonbaaZRefSe5
import Derived.Test.YtmhpcjncngonbaaZRefOk
/- What the reference's sections come to, by their numbers; rows of 65535 at most. -/
namespace Go.Proofs.Ytmhpcjncngonbaa.Q
open Go.RowKit Go.Proofs.Ytmhpcjncngonbaa.Mine Go.Proofs.YtmhpcjncngonbaaW.PrintWords Go.Proofs.YtmhpcjncngonbaaW.PrintLast Go.Proofs.YtmhpcjncngonbaaW.PrintMore
set_option linter.unusedVariables false
set_option linter.unusedSimpArgs false
theorem secAt.calls (L : Loc) (a : Lat) (p : List ByteArray) (A : Option Addr) (c : Nat) (w : World) (hL : LocC L a w) (hb : LocB L) (hp : Kd.string.C w A p.length p) (hc : p.length ≤ c) (hm : ∀ s ∈ textsL L, s ∈ p) (hq : isPoolB p = true) (hy : mayR L = true) (n : Nat) (h1 : 1 ≤ n) (h6 : n ≤ 6) (q : List Int) (e : (qs p L)[n - 1]? = some q) :
    Calls Try.prog 41 #[locV L a, .slice A p.length c, .int .i64 (n : Int)] w fun e w' => RowB w q e w' := by
  have h5 : p.length ≤ 500 := (isPoolB_facts hq).2.1
  have hy2 := hy
  unfold mayR at hy2
  simp only [Bool.and_eq_true] at hy2
  obtain ⟨y1, y2, y3, y4⟩ := hy2
  have hn : n = 1 ∨ n = 2 ∨ n = 3 ∨ n = 4 ∨ n = 5 ∨ n = 6 := by omega
  rcases hn with rfl | rfl | rfl | rfl | rfl | rfl
  · cases e; exact sec1.calls L a p A c w hL hb hp hc h5 hm hq
  · cases e; exact sec2.calls L a p A c w hL hb hp hc h5 hm y1
  · cases e; exact sec3.calls L a p A c w hL hb hp hc h5 hm
  · cases e; exact sec4.calls L a p A c w hL hb hp hc h5 hm y2
  · cases e; exact sec5.calls L a p A c w hL hb hp hc h5 hm y3
  · cases e; exact sec6.calls L a p A c w hL hb hp hc h5 hm y4
end Go.Proofs.Ytmhpcjncngonbaa.Q
