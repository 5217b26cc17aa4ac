/- What pack.Gather comes to: each text once, and the places; rows as long as memory has room. -/
import Derived.Test.YtmgkfklkdedpgaaGath
namespace Go.Proofs.Ytmgkfklkdedpgaa.Q
open Go.RowKit Go.Proofs.Ytmgkfklkdedpgaa.Mine Go.Proofs.YtmgkfklkdedpgaaW.PrintWords Go.Proofs.YtmgkfklkdedpgaaW.PrintLast Go.Proofs.YtmgkfklkdedpgaaW.PrintMore
open Go.ChangeMaps (setBlock)
set_option linter.unusedVariables false
set_option linter.unusedSimpArgs false
def gstep (p : List ByteArray) (s : ByteArray) : List ByteArray := if s ∈ p then p else p ++ [s]
/-- the texts of a row, each once -/
def gpool (l : List ByteArray) : List ByteArray := l.foldl gstep []
/-- the places of a row's texts in a pool -/
def grefs (p : List ByteArray) (l : List ByteArray) : List Int := l.map fun s => (p.idxOf s : Int)
def pack_Gather.f (l0 : List ByteArray) : Option (List ByteArray × List Int) := if l0.length < 8796093022208 then some (gpool l0, grefs (gpool l0) l0) else none
theorem gpool_mem : ∀ (l p : List ByteArray) (x : ByteArray), (x ∈ p ∨ x ∈ l) → x ∈ l.foldl gstep p
  | [], p, x, h => h.resolve_right List.not_mem_nil
  | y :: l, p, x, h => by
    refine gpool_mem l (gstep p y) x ?_
    unfold gstep
    rcases h with h | h
    · left; split
      · exact h
      · exact List.mem_append_left _ h
    · rcases List.mem_cons.1 h with rfl | h
      · left; split
        · assumption
        · exact List.mem_append_right _ (List.mem_singleton.2 rfl)
      · exact .inr h
theorem mem_gpool {l : List ByteArray} {x : ByteArray} (h : x ∈ l) : x ∈ gpool l := gpool_mem l [] x (.inr h)
theorem idx_gstep {p : List ByteArray} {x : ByteArray} (s : ByteArray) (h : x ∈ p) : (gstep p s).idxOf x = p.idxOf x := by
  unfold gstep
  split
  · rfl
  · rw [List.idxOf_append, if_pos h]
theorem grefs_step {p l : List ByteArray} (s : ByteArray) {n k m : Nat} (hl : l.length = n) (hk : m = k + 1) (hm : ∀ x ∈ l, x ∈ p) : (((grefs p l ++ List.replicate m 0).map (Value.int .i64)).toArray).setIfInBounds n (Value.int .i64 ((gstep p s).idxOf s : Int)) = ((grefs (gstep p s) (l ++ [s]) ++ List.replicate k 0).map (Value.int .i64)).toArray := by
  subst hl hk
  have e1 : grefs (gstep p s) (l ++ [s]) = grefs p l ++ [((gstep p s).idxOf s : Int)] := by
    unfold grefs
    rw [List.map_append]
    congr 1
    exact List.map_congr_left (fun x hx => by rw [idx_gstep s (hm x hx)])
  rw [e1]
  have e2 : (grefs p l).length = l.length := by simp [grefs]
  rw [List.setIfInBounds_toArray]
  congr 1
  rw [List.replicate_succ, List.map_append, List.map_cons, List.set_append_right _ _ (by simp [e2])]
  simp [e2]
theorem gstep_len (p : List ByteArray) (s : ByteArray) : (gstep p s).length ≤ p.length + 1 := by unfold gstep; split <;> simp
theorem gpool_lenI : ∀ (l p : List ByteArray), (l.foldl gstep p).length ≤ p.length + l.length
  | [], p => by simp
  | x :: l, p => by
    have h1 := gpool_lenI l (gstep p x)
    have h2 := gstep_len p x
    rw [List.foldl_cons, List.length_cons]
    omega
theorem gpool_len (l : List ByteArray) : (gpool l).length ≤ l.length := by have := gpool_lenI l []; simpa [gpool] using this
theorem setBlock_ne {W : World} {g i : Nat} (o1 : Obj) (o2 : Unit) (h : i ≠ g) : (setBlock W g o1).heap[i]? = W.heap[i]? := by simp [setBlock, Ne.symm h]
theorem below_setBlock {W : World} {g B : Nat} (o : Obj) (u : Unit) (h : B ≤ g) : Below B W (setBlock W g o) := ⟨rfl, rfl, rfl, by simp [setBlock], fun k hk => by simp [setBlock, show g ≠ k by omega]⟩
theorem made_zeros (m : Nat) : madeCells #[Value.int .i64 0] m = ((List.replicate m (0 : Int)).map (Value.int .i64)).toArray := by
  apply Array.ext'
  rw [List.toList_toArray]
  apply List.ext_getElem
  · simp [madeCells]
  · intro i h1 h2
    simp [madeCells, Nat.mod_one]
theorem gpool_take {l : List ByteArray} {n : Nat} (h : n < l.length) : gpool (l.take (n + 1)) = gstep (gpool (l.take n)) l[n] := by
  rw [List.take_succ_eq_append_getElem h]
  unfold gpool
  rw [List.foldl_append]
  rfl
set_option maxHeartbeats 4000000 in
set_option maxRecDepth 100000 in
theorem pack_Gather.calls (A0 : Option Addr) (c0 : Nat) (l0 : List ByteArray) (r1 : List ByteArray) (r2 : List Int) (w : World) (hr0 : Kd.C Kd.string w A0 l0.length l0) (hc0 : l0.length ≤ c0) (h : pack_Gather.f l0 = some (r1, r2)) :
    Calls Try.prog 17 #[.slice A0 l0.length c0] w fun e w' => ∃ v0_ v1_ : Value, e = .returned (.tuple #[v0_, v1_]) ∧ Kd.R Kd.string 9 w' w.heap.size (fun _ => True) v0_ r1 ∧ Kd.R (Kd.int .i64) 3 w' w.heap.size (fun _ => True) v1_ r2 ∧ Below w.heap.size w w' := by
  unfold pack_Gather.f at h
  by_cases hl : l0.length < 8796093022208
  case neg => rw [if_neg hl] at h; cases h
  rw [if_pos hl] at h
  obtain ⟨rfl, rfl⟩ := Prod.mk.inj (Option.some.inj h)
  have HR0 := Aside0.mk hr0
  have HC0 := Aside0.mk hc0
  have HL := Aside0.mk hl
  clear hr0 hc0 hl h
  have hmm := @run_makeMap Try.prog
  have hmk := print_make (P := Try.prog) 41 3 .i64 8 Try.underlying41 info3 (by omega) l0.length (by have := HL.out; omega)
  go_enter Try.func17, Try.ntmps17
  go_wp2_with fail
  have HB := Aside0.mk ((((Below.refl w.heap.size w).alloc (Nat.le_refl _) (.map #[] 0)).alloc (by simp) (.cells (madeCells #[Value.int .i64 0] l0.length) 3)))
  clear hmm hmk
  generalize hW : (w.alloc (Obj.map #[] 0)).alloc (Obj.cells (madeCells #[Value.int .i64 0] l0.length) 3) = w1 at HB ⊢
  have HM := Aside0.mk (show w1.heap[w.heap.size]? = some (.map #[] 0) by rw [← hW]; exact heap_alloc_old _ _ (by simp) |>.trans (heap_alloc_new w _))
  have HG := Aside0.mk (show w1.heap[w.heap.size + 1]? = some (.cells (madeCells #[Value.int .i64 0] l0.length) 3) by rw [← hW]; have := heap_alloc_new (w.alloc (Obj.map #[] 0)) (Obj.cells (madeCells #[Value.int .i64 0] l0.length) 3); simpa using this)
  clear hW
  go_loopg [5, 18] l0.length (fun kq v5 v18 wr => ∃ n : Nat, v18 = .int .i64 (n : Int) ∧ Aside0 (n ≤ l0.length) ∧ Aside0 (l0.length - n = kq) ∧ Aside0 (Kd.string.R 9 wr (w.heap.size + 2) (fun k_ => w.heap.size + 2 ≤ k_) v5 (gpool (l0.take n))) ∧ Aside0 (wr.heap[w.heap.size]? = some (.map (wents 0 (gpool (l0.take n))).toArray (gpool (l0.take n)).length)) ∧ Aside0 (wr.heap[w.heap.size + 1]? = some (.cells (((grefs (gpool (l0.take n)) (l0.take n)) ++ List.replicate (l0.length - n) 0).map (Value.int .i64)).toArray 3 (0, 0))) ∧ Aside0 (Below w.heap.size w wr))
  case atStart =>
    refine ⟨0, rfl, ⟨Nat.zero_le _⟩, ⟨rfl⟩, ⟨?_⟩, HM, ⟨?_⟩, HB⟩
    · exact Kd.R_nil _ _ _ _ _
    · rw [HG.out, made_zeros, List.take_zero]
      rfl
  case round =>
    obtain ⟨n, rfl, HN, HK, HO, HM1, HG1, HB1⟩ := hrel
    by_cases hlt : n < l0.length
    · have HLT := Aside0.mk hlt
      obtain ⟨ad, hA, hcell⟩ := Kd.at_string (Kd.C_below HR0.out HB1.out) (n : Int) (by omega) (by omega)
      have hrd : rdOf ByteArray.empty l0 (n : Int) = l0[n] := by simp [rdOf, List.getD_eq_getElem?_getD, hlt]
      rw [hrd, Int.toNat_natCast] at hcell
      have hp1 := gpool_take hlt
      have ht1 : l0.take (n + 1) = l0.take n ++ [l0[n]] := List.take_succ_eq_append_getElem hlt
      generalize hs : l0[n] = s at hcell hp1 ht1
      generalize hp : gpool (l0.take n) = p at HO HM1 HG1 hp1
      have HP1 := Aside0.mk hp1
      have HT1 := Aside0.mk ht1
      have HP := Aside0.mk hp
      have HBW := Aside0.mk (HB1.out)
      cases hA
      clear hrd hp1 ht1 hp hs
      obtain ⟨A5, c5, rfl⟩ := Kd.R_slice HO.out
      have HMb := Aside0.mk (blk_alloc HM1.out (.cells #[.int .i64 (s.size : Int), .string s] 70))
      have HGb := Aside0.mk (blk_alloc HG1.out (.cells #[.int .i64 (s.size : Int), .string s] 70))
      have HOb := Aside0.mk (Kd.R_alloc HO.out (.cells #[.int .i64 (s.size : Int), .string s] 70))
      have HXb := Aside0.mk (blk_new wr (.cells #[.int .i64 (s.size : Int), .string s] 70))
      have HBb := Aside0.mk (HB1.out.alloc HB1.out.size (.cells #[.int .i64 (s.size : Int), .string s] 70))
      have HTl := Aside0.mk (show (l0.take n).length = n by rw [List.length_take]; omega)
      have HMP := Aside0.mk (show ∀ x ∈ l0.take n, x ∈ p from fun x hx => HP.out ▸ mem_gpool hx)
      have hz0 : ∀ q : List ByteArray, ((grefs q (l0.take n) ++ List.replicate (l0.length - n) 0).map (Value.int .i64)).toArray[n]? = some (.int .i64 0) := fun q => by
        have e2 : (grefs q (l0.take n)).length = n := by rw [← HTl.out]; simp [grefs]
        rw [List.getElem?_toArray, List.getElem?_map, List.getElem?_append_right (by omega), e2, Nat.sub_self, List.getElem?_replicate, if_pos (by omega)]
        rfl
      have hm : l0.length ≤ 9223372036854775807 := by have := HL.out; omega
      by_cases hs : s ∈ p
      · have hlk := run_look_yes (wr.alloc (.cells #[.int .i64 (s.size : Int), .string s] 70)) w.heap.size p s true HMb.out hs
        have hlk2 := run_look_yes (wr.alloc (.cells #[.int .i64 (s.size : Int), .string s] 70)) w.heap.size p s false HMb.out hs
        rw [if_pos rfl] at hlk
        rw [if_neg (by simp)] at hlk2
        have HS := Aside0.mk hs
        clear hs
        have hst := blk_frozen HGb.out n
        have hst0 : (wr.alloc (.cells #[.int .i64 (s.size : Int), .string s] 70)).cell? ⟨w.heap.size + 1, n, none⟩ = some (.int .i64 0) := (blk_cell HGb.out n).trans (hz0 p)
        go_wp2_with fail
        go_roundg (l0.length - (n + 1))
        case measure => have := HLT.out; have := HK.out; omega
        case rel =>
          have hg : gstep p s = p := if_pos HS.out
          refine ⟨n + 1, by go_num, ⟨HLT.out⟩, ⟨rfl⟩, ⟨?_⟩, ⟨?_⟩, ⟨?_⟩, ⟨?_⟩⟩
          · rw [HP1.out, hg]; exact Kd.R_far HOb.out (fun k hk => by show k ≠ w.heap.size + 1; omega) _
          · rw [HP1.out, hg]; exact (Below.heap_setCell _ _ _ _ (by simp)).trans HMb.out
          · rw [HP1.out, HT1.out]; exact blk_put HGb.out n _ (by have := grefs_step (p := p) (l := l0.take n) s (n := n) (k := l0.length - (n + 1)) (m := l0.length - n) HTl.out (by have := HLT.out; omega) HMP.out; rw [hg] at this ⊢; exact this)
          · exact HBb.out.setCell (by simp) _
      · have hlk := run_look_no (wr.alloc (.cells #[.int .i64 (s.size : Int), .string s] 70)) w.heap.size p s HMb.out hs
        have hins := run_ins (wr.alloc (.cells #[.int .i64 (s.size : Int), .string s] 70)) w.heap.size p s HMb.out hs
        have HS := Aside0.mk hs
        clear hs
        have HM2 := Aside0.mk (show (setBlock (wr.alloc (.cells #[.int .i64 (s.size : Int), .string s] 70)) w.heap.size (.map (wents 0 (p ++ [s])).toArray (p ++ [s]).length)).heap[w.heap.size]? = some (.map (wents 0 (p ++ [s])).toArray (p ++ [s]).length) by have := blk_lt HMb.out; simp only [setBlock]; rw [Array.getElem?_setIfInBounds_self_of_lt this])
        have HG2 := Aside0.mk (show (setBlock (wr.alloc (.cells #[.int .i64 (s.size : Int), .string s] 70)) w.heap.size (.map (wents 0 (p ++ [s])).toArray (p ++ [s]).length)).heap[w.heap.size + 1]? = _ from (setBlock_ne _ () (by omega)).trans HGb.out)
        have HX2 := Aside0.mk (show (setBlock (wr.alloc (.cells #[.int .i64 (s.size : Int), .string s] 70)) w.heap.size (.map (wents 0 (p ++ [s])).toArray (p ++ [s]).length)).heap[wr.heap.size]? = _ from (setBlock_ne _ () (by have := blk_lt HM1.out; omega)).trans HXb.out)
        have HO2 := Aside0.mk (show Kd.string.R 9 (setBlock (wr.alloc (.cells #[.int .i64 (s.size : Int), .string s] 70)) w.heap.size (.map (wents 0 (p ++ [s])).toArray (p ++ [s]).length)) (w.heap.size + 2) (fun k_ => w.heap.size + 2 ≤ k_) (.slice A5 p.length c5) p from Kd.R_step HOb.out (fun k hk _ => setBlock_ne _ () (by omega)))
        have HB2 := Aside0.mk (show Below w.heap.size w (setBlock (wr.alloc (.cells #[.int .i64 (s.size : Int), .string s] 70)) w.heap.size (.map (wents 0 (p ++ [s])).toArray (p ++ [s]).length)) from HBb.out.trans (below_setBlock _ () (Nat.le_refl _)))
        have HZ2 := Aside0.mk (show w.heap.size + 2 ≤ (setBlock (wr.alloc (.cells #[.int .i64 (s.size : Int), .string s] 70)) w.heap.size (.map (wents 0 (p ++ [s])).toArray (p ++ [s]).length)).heap.size by have := blk_lt HG1.out; simp [setBlock]; omega)
        generalize hW2 : setBlock (wr.alloc (.cells #[.int .i64 (s.size : Int), .string s] 70)) w.heap.size (.map (wents 0 (p ++ [s])).toArray (p ++ [s]).length) = w2 at hins HM2 HG2 HX2 HO2 HB2 HZ2
        have HPL := Aside0.mk (show p.length ≤ n by have := gpool_len (l0.take n); rw [HP.out, HTl.out] at this; exact this)
        clear hW2
        go_wp2_with ((with_reducible refine gate_builtin (b := .append) (xs := #[.tmp 39, .tmp 41]) rfl ?_); at_builtin; refine Kd.R_append Kd.string (w0 := w2) (w.heap.size + 2) rfl (.tmp 39) (.tmp 41) 40 9 (.string ⟨#[]⟩) 16 rfl Try.underlying40 info9 rfl (by decide) (by omega) (.slice A5 p.length c5) p s [.string s] (fun k_ => w.heap.size + 2 ≤ k_) (fun _ => False) rfl rfl ?aP (fun _ hk => hk.elim) ?aF HO2.out (Below.refl _ _) HZ2.out ?aL ?_; (case aP => exact rfl); (case aF => exact (fun k_ hk => Nat.le_trans HZ2.out hk)); (case aL => have := HL.out; have := HPL.out; have := HLT.out; omega); intro v3 w3 ho hb hg hat; have hne := fun g (hg_ : g < w.heap.size + 2) => (show some g ≠ (Value.slice A5 p.length c5).ownBlock from fun e => by have := Kd.R_base HO2.out g e.symm; omega); have HO3 := Aside0.mk ho; have HM3 := Aside0.mk (blk_grown HM2.out hg (hne _ (by omega))); have HG3 := Aside0.mk (blk_grown HG2.out hg (hne _ (by omega))); have HX3 := Aside0.mk (show w3.heap[wr.heap.size]? = _ from blk_grown HX2.out hg (Kd.R_ne_new HO.out 0)); have HB3 := Aside0.mk (pw_below_grown HB2.out _ HB2.out.size hg (fun k hk => by have := Kd.R_base HO2.out k hk; omega)); clear ho hb hg hat hne; have hc0 := (blk_cell HX3.out 0).trans rfl; have hc1 := (blk_cell HX3.out 1).trans rfl; have hlk2 := run_look_yes w3 w.heap.size (p ++ [s]) s false HM3.out (by simp); rw [if_neg (by simp)] at hlk2; have hst := blk_frozen HG3.out n; have hst0 : w3.cell? ⟨w.heap.size + 1, n, none⟩ = some (.int .i64 0) := (blk_cell HG3.out n).trans (hz0 p))
        go_roundg (l0.length - (n + 1))
        case measure => have := HLT.out; have := HK.out; omega
        case rel =>
          have hg : gstep p s = p ++ [s] := if_neg HS.out
          refine ⟨n + 1, by go_num, ⟨HLT.out⟩, ⟨rfl⟩, ⟨?_⟩, ⟨?_⟩, ⟨?_⟩, ⟨?_⟩⟩
          · rw [HP1.out, hg]; exact Kd.R_far HO3.out (fun k hk => by show k ≠ w.heap.size + 1; omega) _
          · rw [HP1.out, hg]; exact (Below.heap_setCell _ _ _ _ (by simp)).trans HM3.out
          · rw [HP1.out, HT1.out]; exact blk_put HG3.out n _ (by have := grefs_step (p := p) (l := l0.take n) s (n := n) (k := l0.length - (n + 1)) (m := l0.length - n) HTl.out (by have := HLT.out; omega) HMP.out; rw [hg] at this ⊢; exact this)
          · exact HB3.out.setCell (by simp) _
    · have hn : n = l0.length := by have := HN.out; omega
      subst hn
      have HO5 := HO.out
      have HM5 := HM1.out
      have HG5 := HG1.out
      rw [List.take_length] at HO5 HG5
      clear HO
      obtain ⟨A5, c5, rfl⟩ := Kd.R_slice HO5
      rw [Nat.sub_self, List.replicate_zero, List.append_nil] at HG5
      have HO6 := Aside0.mk HO5
      have HG6 := Aside0.mk HG5
      have hm : l0.length ≤ 9223372036854775807 := by have := HL.out; omega
      clear HO5 HM5 HG5
      go_wp2
      go_ret2
      refine ⟨_, _, rfl, Kd.R_mono (Kd.R_lower HO6.out (show w.heap.size ≤ w.heap.size + 2 by omega)) (fun _ _ => trivial), ?_, HB1.out⟩
      have hlen : (grefs (gpool l0) l0).length = l0.length := by simp [grefs]
      have hfin := R_ints_mk (k := .i64) (e := 3) (w := wr) (base := w.heap.size) (ok := fun _ => True) (xs := grefs (gpool l0) l0) (g := w.heap.size + 1) (cap := l0.length) (cur := ((grefs (gpool l0) l0).map (Value.int .i64)).toArray) trivial (by omega) HG6.out (by omega) (by unfold maxLen; omega) (by simp [hlen]) (by rw [List.toList_toArray]; exact List.take_of_length_le (by simp))
      rw [hlen] at hfin
      exact hfin
end Go.Proofs.Ytmgkfklkdedpgaa.Q
