/- What pack.PutPool comes to; rows of bytes. -/
import Derived.Test.YtmgkfklkdedpgaaIsPool
import Derived.Test.YtmgkfklkdedpgaaPut
namespace Go.Proofs.Ytmgkfklkdedpgaa.Q
open Go.RowKit Go.Proofs.Ytmgkfklkdedpgaa.Mine Go.Proofs.YtmgkfklkdedpgaaW.PrintWords Go.Proofs.YtmgkfklkdedpgaaW.PrintLast Go.Proofs.YtmgkfklkdedpgaaW.PrintMore
set_option linter.unusedVariables false
set_option linter.unusedSimpArgs false
section
variable {P : Program} {ops : Array Oper} {rest : List Oper} {o : Oper} {a : Act} {Q : Exit → Act → World → Prop}
theorem R_append_str {w0 W : World} (base : Nat) (hgd : o.guard = none) (s x : Operand) (t u e : TypeId)
    (ho : o.op = .call { callee := .builtin .append, args := #[s, x], argTypes := #[t, u] })
    (ht : P.underlying t = some (.slice e)) (hu : P.underlying u = some .string) (hinfo : (P.info? e).map (fun i => (i.zero, i.size, i.bytes)) = some (some (.int .u8 0), 1, 1))
    (v : Value) (xs : List Int) (y : ByteArray) (hs : a.eval s = v) (hx : a.eval x = .string y)
    (HO : (Kd.int .u8).R e W base (fun _ => True) v xs) (HB : Below base w0 W) (hbase : base ≤ W.heap.size) (hl : xs.length + y.size ≤ 140737488355328)
    (h : ∀ v1 w1, (Kd.int .u8).R e w1 base (fun _ => True) v1 (xs ++ bytesOf y) → Below base w0 w1 → W.grownBy w1 v.ownBlock → wpList P ops Q rest (a.put o.dst v1) w1) :
    wpList P ops Q (o :: rest) a W := by
  obtain ⟨_, inner, hown, hr⟩ := HO
  have hi := ints_of_reps hr
  subst hi
  exact print_append_str base hgd s x t u e ho ht hu hinfo v xs y hs hx hown HB hbase hl (fun v1 w1 h1 h2 h3 => h v1 w1 ⟨fun _ _ => trivial, _, h1, reps_ints .u8 _⟩ h2 h3)
end
/-- a pool's texts as bytes -/
def poolBytes : List ByteArray → List Int
  | [] => []
  | s :: l => bytesB s.size 2 ++ bytesOf s ++ poolBytes l
theorem poolBytes_app : ∀ a b, poolBytes (a ++ b) = poolBytes a ++ poolBytes b
  | [], b => rfl
  | s :: a, b => by rw [List.cons_append, poolBytes, poolBytes_app a b, poolBytes, List.append_assoc, List.append_assoc, List.append_assoc]
theorem poolBytes_one (s : ByteArray) : poolBytes [s] = bytesB s.size 2 ++ bytesOf s := by rw [poolBytes, poolBytes, List.append_nil]
theorem poolBytes_len : ∀ l : List ByteArray, (∀ s ∈ l, s.size ≤ 400) → (poolBytes l).length ≤ 402 * l.length
  | [], _ => Nat.zero_le _
  | s :: l, h => by
    have h1 := poolBytes_len l (fun x hx => h x (List.mem_cons_of_mem _ hx))
    have h2 := h s List.mem_cons_self
    rw [poolBytes, List.length_append, List.length_append, bytesB_len, bytesOf_length, List.length_cons]
    omega
theorem isPoolB_facts {l : List ByteArray} (h : isPoolB l = true) : (gpool l).length = l.length ∧ l.length ≤ 500 ∧ ∀ s ∈ l, s.size ≤ 400 := by
  unfold isPoolB at h
  rw [Bool.and_eq_true, Bool.and_eq_true, decide_eq_true_eq, decide_eq_true_eq, Bool.not_eq_true', List.any_eq_false] at h
  refine ⟨h.1, h.2.1, fun s hs => ?_⟩
  have := h.2.2 s hs
  simp at this
  exact this
set_option maxHeartbeats 4000000 in
set_option maxRecDepth 100000 in
theorem putPool_no.calls (v : Value) (A1 : Option Addr) (c1 : Nat) (l1 : List ByteArray) (w : World) (hr1 : Kd.C Kd.string w A1 l1.length l1) (hc1 : l1.length ≤ c1) (hl : l1.length < 8796093022208) (h : isPoolB l1 = false) :
    Calls Try.prog 23 #[v, .slice A1 l1.length c1] w fun e w' => e = .returned (.tuple #[v, .int .i64 1]) ∧ Below w.heap.size w w' := by
  have HC := Aside0.mk (pack_isPool.calls A1 c1 l1 false w hr1 hc1 (by rw [pack_isPool.f, if_pos hl, h]))
  clear hr1 hc1 hl h
  go_enter Try.func23, Try.ntmps23
  go_wp2_with fail
  refine HC.out.mono ?_
  rintro e w1 ⟨rfl, hb⟩
  have HB := Aside0.mk hb
  clear hb HC
  dsimp only
  go_wp2
  go_ret2
  exact ⟨rfl, HB.out⟩
set_option maxHeartbeats 4000000 in
set_option maxRecDepth 100000 in
theorem putPool_yes.calls (A0 : Option Addr) (c0 : Nat) (l0 : List Int) (A1 : Option Addr) (c1 : Nat) (l1 : List ByteArray) (w : World) (hr0 : Kd.C (Kd.int .u8) w A0 l0.length l0) (hc0 : l0.length ≤ c0) (hl0 : l0.length < 140737488000000) (hr1 : Kd.C Kd.string w A1 l1.length l1) (hc1 : l1.length ≤ c1) (h : isPoolB l1 = true) :
    Calls Try.prog 23 #[.slice A0 l0.length c0, .slice A1 l1.length c1] w fun e w' => ∃ v0_ : Value, e = .returned (.tuple #[v0_, .int .i64 0]) ∧ Kd.R (Kd.int .u8) 5 w' w.heap.size (fun _ => True) v0_ (l0 ++ bytesB l1.length 2 ++ poolBytes l1) ∧ Below w.heap.size w w' := by
  obtain ⟨_, hlen, hsz⟩ := isPoolB_facts h
  have HC := Aside0.mk (pack_isPool.calls A1 c1 l1 true w hr1 hc1 (by rw [pack_isPool.f, if_pos (by omega), h]))
  have HR0 := Aside0.mk hr0
  have HC0 := Aside0.mk hc0
  have HL0 := Aside0.mk hl0
  have HR1 := Aside0.mk hr1
  have HSZ := Aside0.mk hsz
  have HPL := Aside0.mk (fun n => poolBytes_len (l1.take n) (fun s hs => hsz s (List.mem_of_mem_take hs)))
  clear hr0 hc0 hr1 hc1 h hl0 hsz
  have HP := Aside0.mk (show putsB l1.length 2 = true by simp [putsB, isSz]; omega)
  go_enter Try.func23, Try.ntmps23
  go_wp2_with fail
  refine HC.out.mono ?_
  rintro e w1 ⟨rfl, hb⟩
  have HB := Aside0.mk hb
  have HR1a := Aside0.mk (Kd.C_below HR0.out hb)
  clear hb HC
  dsimp only
  go_wp2_with fail
  refine (put_yes.calls A0 c0 l0 l1.length 2 _ HR1a.out HC0.out (by have := HL0.out; omega) (by omega) (by omega) HP.out).mono ?_
  rintro e w2 ⟨v2, rfl, ho, hb⟩
  have HO := Aside0.mk (Kd.R_lower ho HB.out.size)
  have HB2 := Aside0.mk (HB.out.trans (hb.mono HB.out.size))
  clear ho hb
  dsimp only
  go_wp2_with fail
  go_loopg [6, 24] l1.length (fun kq v6 v24 wr => ∃ n : Nat, v24 = .int .i64 (n : Int) ∧ Aside0 (n ≤ l1.length) ∧ Aside0 (l1.length - n = kq) ∧ Aside0 (Kd.R (Kd.int .u8) 5 wr w.heap.size (fun _ => True) v6 (l0 ++ bytesB l1.length 2 ++ poolBytes (l1.take n))) ∧ Aside0 (Below w.heap.size w wr))
  case atStart => exact ⟨0, rfl, ⟨Nat.zero_le _⟩, ⟨rfl⟩, ⟨by have h2 := HO.out; rw [List.take_zero, poolBytes, List.append_nil]; exact h2⟩, HB2⟩
  case round =>
    obtain ⟨n, rfl, HN, HK, HO1, HB1⟩ := hrel
    by_cases hlt : n < l1.length
    · have HLT := Aside0.mk hlt
      obtain ⟨ad, hA, hcell⟩ := Kd.at_string (Kd.C_below HR1.out HB1.out) (n : Int) (by omega) (by omega)
      have hrd : rdOf ByteArray.empty l1 (n : Int) = l1[n] := by simp [rdOf, List.getD_eq_getElem?_getD, hlt]
      rw [hrd, Int.toNat_natCast] at hcell
      have hsn := HSZ.out l1[n] (List.getElem_mem hlt)
      have ht1 : poolBytes (l1.take (n + 1)) = poolBytes (l1.take n) ++ (bytesB l1[n].size 2 ++ bytesOf l1[n]) := by
        rw [List.take_succ_eq_append_getElem hlt, poolBytes_app, poolBytes_one]
      generalize l1[n] = s at hcell hsn ht1
      cases hA
      clear hrd
      have HT1 := Aside0.mk ht1
      have HTL := Aside0.mk (show (l0 ++ bytesB l1.length 2 ++ poolBytes (l1.take n)).length ≤ l0.length + 2 + 402 * 500 by
        have h1 := HPL.out n
        have h2 : (l1.take n).length ≤ 500 := Nat.le_trans (List.length_take_le' _ _) hlen
        rw [List.length_append, List.length_append, bytesB_len]
        omega)
      have HPS := Aside0.mk (show putsB s.size 2 = true by simp [putsB, isSz]; omega)
      generalize hys : l0 ++ bytesB l1.length 2 ++ poolBytes (l1.take n) = ys at HO1 HTL
      have HYS := Aside0.mk hys
      clear hys ht1
      obtain ⟨A6, c6, rfl⟩ := Kd.R_slice HO1.out
      go_wp2_with fail
      refine (put_yes.calls A6 c6 ys s.size 2 _ (Kd.R_reads' HO1.out).2.2 (Kd.R_reads' HO1.out).2.1 (by have := HL0.out; have := HTL.out; omega) (by omega) (by omega) HPS.out).mono ?_
      rintro e w3 ⟨v3, rfl, ho, hb⟩
      have HO3 := Aside0.mk (Kd.R_lower ho HB1.out.size)
      have HB3 := Aside0.mk (HB1.out.trans (hb.mono HB1.out.size))
      clear ho hb
      dsimp only
      go_wp2_with ((with_reducible refine gate_builtin (b := .append) (xs := #[.tmp 36, .tmp 37]) rfl ?_); at_builtin; refine R_append_str (w0 := w) w.heap.size rfl (.tmp 36) (.tmp 37) 22 9 5 rfl Try.underlying22 Try.underlying9 info5 v3 _ s rfl rfl HO3.out HB3.out HB3.out.size ?aL ?_; (case aL => have := HTL.out; have := HL0.out; rw [List.length_append, bytesB_len]; simp; omega); intro v4 w4 ho hb hg; have HO4 := Aside0.mk ho; have HB4 := Aside0.mk hb; clear ho hb hg)
      go_roundg (l1.length - (n + 1))
      case measure => have := HLT.out; have := HK.out; omega
      case rel =>
        refine ⟨n + 1, by go_num, ⟨HLT.out⟩, ⟨rfl⟩, ⟨?_⟩, HB4⟩
        have h2 := HO4.out
        rw [HT1.out, ← List.append_assoc, ← List.append_assoc, HYS.out]
        exact h2
    · have hn : n = l1.length := by have := HN.out; omega
      subst hn
      have h2 := HO1.out
      rw [List.take_length] at h2
      have HO2 := Aside0.mk h2
      clear h2 HO1
      go_wp2
      go_ret2
      exact ⟨_, rfl, HO2.out, HB1.out⟩
end Go.Proofs.Ytmgkfklkdedpgaa.Q
