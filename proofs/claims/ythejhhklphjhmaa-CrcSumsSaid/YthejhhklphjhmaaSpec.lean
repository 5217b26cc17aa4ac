/- What the printed functions of crc and its reference come to: a shift register that is linear; plain functions on numbers and lists. -/
import Derived.Test.YthejhhklphjhmaaQx1
import Derived.Test.YthejhhklphjhmaaQx10
import Derived.Test.YthejhhklphjhmaaQx11
import Derived.Test.YthejhhklphjhmaaQx12
import Derived.Test.YthejhhklphjhmaaQx13
import Derived.Test.YthejhhklphjhmaaQx14
import Derived.Test.YthejhhklphjhmaaQx2
import Derived.Test.YthejhhklphjhmaaQx3
import Derived.Test.YthejhhklphjhmaaQx4
import Derived.Test.YthejhhklphjhmaaQx5
import Derived.Test.YthejhhklphjhmaaQx6
import Derived.Test.YthejhhklphjhmaaQx7
import Derived.Test.YthejhhklphjhmaaQx8
import Derived.Test.YthejhhklphjhmaaQx9
import Derived.Laws.BitsLemmas
namespace Go.Proofs.Ythejhhklphjhmaa.Spec
open Go.RowKit Go.Proofs.Ythejhhklphjhmaa.Mine Go.Proofs.Ythejhhklphjhmaa.Q Go.Proofs.YthejhhklphjhmaaW.PrintWords Go.Proofs.YthejhhklphjhmaaW.PrintLast Go.Proofs.YthejhhklphjhmaaW.PrintMore
set_option linter.unusedVariables false
set_option linter.unusedSimpArgs false
abbrev W := BitVec 32
def poly : W := 3988292384#32
def s1 (v : W) : W := (v >>> 1) ^^^ (if v.getLsbD 0 then poly else 0#32)
theorem ite_xor (a b : Bool) (p : W) : (if (a ^^ b) then p else 0#32) = (if a then p else 0#32) ^^^ (if b then p else 0#32) := by
  cases a <;> cases b <;> simp
theorem s1_xor (a b : W) : s1 (a ^^^ b) = s1 a ^^^ s1 b := by
  unfold s1
  rw [BitVec.ushiftRight_xor_distrib, BitVec.getLsbD_xor, ite_xor]
  ac_rfl
theorem s1_zero : s1 0#32 = 0#32 := by decide
theorem s1_ker {v : W} (h : s1 v = 0#32) : v = 0#32 := by
  unfold s1 at h
  by_cases hb : v.getLsbD 0 = true
  · rw [if_pos hb] at h
    have h2 := congrArg (fun x : W => x.getLsbD 31) h
    simp [poly] at h2
  · rw [if_neg hb] at h
    simp only [BitVec.xor_zero] at h
    apply BitVec.eq_of_getLsbD_eq
    intro i hi
    rw [BitVec.getLsbD_zero]
    cases i with
    | zero => simpa using hb
    | succ i =>
      have := congrArg (fun x : W => x.getLsbD i) h
      simp only [BitVec.getLsbD_ushiftRight, BitVec.getLsbD_zero] at this
      rw [Nat.add_comm]; exact this
def s8 (v : W) : W := s1 (s1 (s1 (s1 (s1 (s1 (s1 (s1 v)))))))
theorem s8_xor (a b : W) : s8 (a ^^^ b) = s8 a ^^^ s8 b := by simp only [s8, s1_xor]
theorem s8_ker {v : W} (h : s8 v = 0#32) : v = 0#32 := s1_ker (s1_ker (s1_ker (s1_ker (s1_ker (s1_ker (s1_ker (s1_ker h)))))))
abbrev Y := BitVec 8
def ext (c : Y) : W := c.setWidth 32
def step (v : W) (c : Y) : W := s8 (v ^^^ ext c)
theorem ext_xor (a b : Y) : ext (a ^^^ b) = ext a ^^^ ext b := by
  apply BitVec.eq_of_getLsbD_eq
  intro i hi
  simp [ext]
theorem ext_zero : ext 0#8 = 0#32 := by decide
theorem step_xor (v v' : W) (c c' : Y) : step (v ^^^ v') (c ^^^ c') = step v c ^^^ step v' c' := by
  unfold step
  rw [ext_xor, ← s8_xor]
  congr 1
  ac_rfl
def F (v : W) (l : List Y) : W := l.foldl step v
theorem F_append (v : W) (a b : List Y) : F v (a ++ b) = F (F v a) b := by simp [F]
theorem F_cons (v : W) (c : Y) (l : List Y) : F v (c :: l) = F (step v c) l := rfl
theorem F_nil (v : W) : F v [] = v := rfl
def xs (a b : List Y) : List Y := List.zipWith (· ^^^ ·) a b
theorem F_xor : ∀ (a b : List Y) (v v' : W), a.length = b.length → F (v ^^^ v') (xs a b) = F v a ^^^ F v' b
  | [], [], v, v', _ => rfl
  | c :: a, d :: b, v, v', h => by
    show F (step (v ^^^ v') (c ^^^ d)) (xs a b) = _
    rw [step_xor, F_xor a b _ _ (by simpa using h), F_cons, F_cons]
def zeros (n : Nat) : List Y := List.replicate n 0#8
theorem F_zeros_ker : ∀ (n : Nat) (v : W), F v (zeros n) = 0#32 → v = 0#32
  | 0, v, h => h
  | n + 1, v, h => by
    have h1 : F (step v 0#8) (zeros n) = 0#32 := h
    have h2 := F_zeros_ker n _ h1
    have h3 : s8 v = 0#32 := by
      have : step v 0#8 = s8 v := by unfold step; rw [ext_zero, BitVec.xor_zero]
      rw [← this]; exact h2
    exact s8_ker h3
theorem F_zeros_zero : ∀ n, F 0#32 (zeros n) = 0#32
  | 0 => rfl
  | n + 1 => F_zeros_zero n
/-- four bytes, the least first, as one number -/
def word (a b c d : Y) : W := ext a ^^^ (ext b <<< 8) ^^^ (ext c <<< 16) ^^^ (ext d <<< 24)
theorem s1_shift (v : W) (h : v.toNat < 2 ^ 31) : s1 (v <<< 1) = v := by
  unfold s1
  have h0 : (v <<< 1).getLsbD 0 = false := by simp
  rw [h0]
  simp only [Bool.false_eq_true, if_false, BitVec.xor_zero]
  apply BitVec.eq_of_toNat_eq
  simp [BitVec.toNat_shiftLeft, BitVec.toNat_ushiftRight, Nat.shiftLeft_eq, Nat.shiftRight_eq_div_pow]
  omega
theorem s8_shift (v : W) (h : v.toNat < 2 ^ 24) : s8 (v <<< 8) = v := by
  have g : ∀ (j : Nat), j < 8 → s1 (v <<< (j + 1)) = v <<< j := fun j hj => by
    have e : v <<< (j + 1) = (v <<< j) <<< 1 := by rw [BitVec.shiftLeft_add]
    rw [e]
    apply s1_shift
    rw [BitVec.toNat_shiftLeft, Nat.shiftLeft_eq]
    have h1 : v.toNat * 2 ^ j < 2 ^ 31 := by
      have h2 : 2 ^ j ≤ 2 ^ 7 := Nat.pow_le_pow_right (by decide) (by omega)
      calc v.toNat * 2 ^ j ≤ v.toNat * 2 ^ 7 := Nat.mul_le_mul_left _ h2
        _ < 2 ^ 31 := by omega
    rw [Nat.mod_eq_of_lt (by omega)]
    exact h1
  show s1 (s1 (s1 (s1 (s1 (s1 (s1 (s1 (v <<< 8)))))))) = v
  rw [g 7 (by decide), g 6 (by decide), g 5 (by decide), g 4 (by decide), g 3 (by decide), g 2 (by decide), g 1 (by decide), g 0 (by decide)]
  simp
theorem ext_lt (a : Y) : (ext a).toNat < 256 := by
  show (a.setWidth 32).toNat < 256
  rw [BitVec.toNat_setWidth]
  have := a.isLt
  omega
theorem s8_ext_shift (x v : W) (h : v.toNat < 2 ^ 24) : s8 (x ^^^ (v <<< 8)) = s8 x ^^^ v := by rw [s8_xor, s8_shift v h]
theorem toNat_xor_lt {a b : W} {n : Nat} (ha : a.toNat < 2 ^ n) (hb : b.toNat < 2 ^ n) : (a ^^^ b).toNat < 2 ^ n := by
  rw [BitVec.toNat_xor]
  exact Nat.xor_lt_two_pow ha hb
theorem toNat_shl_lt {a : W} {n k : Nat} (ha : a.toNat < 2 ^ n) (h : n + k ≤ 32) : (a <<< k).toNat < 2 ^ (n + k) := by
  rw [BitVec.toNat_shiftLeft, Nat.shiftLeft_eq]
  have h1 : a.toNat * 2 ^ k < 2 ^ (n + k) := by rw [Nat.pow_add]; exact Nat.mul_lt_mul_of_pos_right ha (Nat.two_pow_pos k)
  exact Nat.lt_of_le_of_lt (Nat.mod_le _ _) h1
/-- four bytes at once -/
theorem F_four (v : W) (a b c d : Y) : F v [a, b, c, d] = s8 (s8 (s8 (s8 (v ^^^ word a b c d)))) := by
  have e8 : ∀ x : Y, (ext x).toNat < 2 ^ 8 := ext_lt
  have sh2 : ∀ x : W, (x <<< 8) <<< 8 = x <<< 16 := fun x => (BitVec.shiftLeft_add x 8 8).symm
  have sh3 : ∀ x : W, (x <<< 16) <<< 8 = x <<< 24 := fun x => (BitVec.shiftLeft_add x 16 8).symm
  have w3 : ((ext b) ^^^ (ext c <<< 8) ^^^ (ext d <<< 16)).toNat < 2 ^ 24 := by
    refine toNat_xor_lt (toNat_xor_lt (Nat.lt_trans (e8 b) (by decide)) ?_) ?_
    · exact Nat.lt_trans (toNat_shl_lt (k := 8) (e8 c) (by decide)) (by decide)
    · exact toNat_shl_lt (k := 16) (e8 d) (by decide)
  have w2 : ((ext c) ^^^ (ext d <<< 8)).toNat < 2 ^ 24 := by
    refine toNat_xor_lt (Nat.lt_trans (e8 c) (by decide)) ?_
    exact Nat.lt_trans (toNat_shl_lt (k := 8) (e8 d) (by decide)) (by decide)
  have w1 : (ext d).toNat < 2 ^ 24 := Nat.lt_trans (e8 d) (by decide)
  have e1 : v ^^^ word a b c d = (v ^^^ ext a) ^^^ ((ext b ^^^ (ext c <<< 8) ^^^ (ext d <<< 16)) <<< 8) := by
    unfold word
    rw [BitVec.shiftLeft_xor_distrib, BitVec.shiftLeft_xor_distrib, sh2, sh3]
    generalize ext b <<< 8 = x1
    generalize ext c <<< 16 = x2
    generalize ext d <<< 24 = x3
    generalize ext a = x0
    ac_rfl
  rw [e1, s8_ext_shift _ _ w3]
  have e2 : s8 (v ^^^ ext a) ^^^ (ext b ^^^ ext c <<< 8 ^^^ ext d <<< 16) = (s8 (v ^^^ ext a) ^^^ ext b) ^^^ ((ext c ^^^ (ext d <<< 8)) <<< 8) := by
    rw [BitVec.shiftLeft_xor_distrib, sh2]
    generalize ext c <<< 8 = x1
    generalize ext d <<< 16 = x2
    generalize ext b = x0
    generalize s8 (v ^^^ ext a) = y
    ac_rfl
  rw [e2, s8_ext_shift _ _ w2]
  have e3 : s8 (s8 (v ^^^ ext a) ^^^ ext b) ^^^ (ext c ^^^ ext d <<< 8) = (s8 (s8 (v ^^^ ext a) ^^^ ext b) ^^^ ext c) ^^^ (ext d <<< 8) := by
    generalize ext d <<< 8 = x1
    generalize s8 (s8 (v ^^^ ext a) ^^^ ext b) = y
    generalize ext c = x0
    ac_rfl
  rw [e3, s8_ext_shift _ _ w1]
  rfl
theorem word_zero {a b c d : Y} (h : word a b c d = 0#32) : a = 0#8 ∧ b = 0#8 ∧ c = 0#8 ∧ d = 0#8 := by
  have g : ∀ i, i < 32 → (word a b c d).getLsbD i = false := fun i _ => by rw [h]; exact BitVec.getLsbD_zero
  have e : ∀ (x : Y) (k : Nat), (∀ i, i < 8 → x.getLsbD i = false) → x = 0#8 := fun x _ hx => by
    apply BitVec.eq_of_getLsbD_eq
    intro i hi
    rw [hx i hi, BitVec.getLsbD_zero]
  have lo : ∀ (x : Y) (i : Nat), 8 ≤ i → x.getLsbD i = false := fun x i hi => BitVec.getLsbD_of_ge x i hi
  refine ⟨e a 0 fun i hi => ?_, e b 0 fun i hi => ?_, e c 0 fun i hi => ?_, e d 0 fun i hi => ?_⟩
  · have := g i (by omega)
    simpa [word, ext, hi, show i < 32 by omega, show i < 16 by omega, show i < 24 by omega] using this
  · have := g (i + 8) (by omega)
    simpa [word, ext, hi, lo a (i + 8) (by omega), show i + 8 < 32 by omega, show i + 8 < 16 by omega, show i + 8 < 24 by omega, show ¬ (i + 8 < 8) by omega, show i < 32 by omega] using this
  · have := g (i + 16) (by omega)
    simpa [word, ext, hi, lo a (i + 16) (by omega), lo b (i + 16 - 8) (by omega), show i + 16 < 32 by omega, show ¬ (i + 16 < 16) by omega, show i + 16 < 24 by omega, show ¬ (i + 16 < 8) by omega, show i < 32 by omega] using this
  · have := g (i + 24) (by omega)
    simpa [word, ext, hi, lo a (i + 24) (by omega), lo b (i + 24 - 8) (by omega), lo c (i + 24 - 16) (by omega), show i + 24 < 32 by omega, show ¬ (i + 24 < 16) by omega, show ¬ (i + 24 < 24) by omega, show ¬ (i + 24 < 8) by omega, show i < 32 by omega] using this
theorem word_xor (a b c d a' b' c' d' : Y) : word (a ^^^ a') (b ^^^ b') (c ^^^ c') (d ^^^ d') = word a b c d ^^^ word a' b' c' d' := by
  unfold word
  rw [ext_xor, ext_xor, ext_xor, ext_xor, BitVec.shiftLeft_xor_distrib, BitVec.shiftLeft_xor_distrib, BitVec.shiftLeft_xor_distrib]
  generalize ext b <<< 8 = x1
  generalize ext c <<< 16 = x2
  generalize ext d <<< 24 = x3
  generalize ext b' <<< 8 = y1
  generalize ext c' <<< 16 = y2
  generalize ext d' <<< 24 = y3
  generalize ext a = x0
  generalize ext a' = y0
  ac_rfl
/-- a burst of four bytes is seen -/
theorem F_burst {a b c d : Y} (n m : Nat) (h : F 0#32 (zeros n ++ [a, b, c, d] ++ zeros m) = 0#32) : a = 0#8 ∧ b = 0#8 ∧ c = 0#8 ∧ d = 0#8 := by
  rw [F_append, F_append, F_zeros_zero] at h
  have h1 := F_zeros_ker _ _ h
  rw [F_four, BitVec.zero_xor] at h1
  exact word_zero (s8_ker (s8_ker (s8_ker (s8_ker h1))))
/-! ### numbers as the program has them -/
theorem wr {x : Int} (h : -9223372036854775808 ≤ x) (h2 : x < 9223372036854775808) : wrap64 x = x := by unfold wrap64; omega
theorem succ_of {k b : Nat} (h : b < k) : ∃ m, k = m + 1 ∧ b ≤ m := ⟨k - 1, by omega, by omega⟩
theorem rd_at {a : List Int} {n : Nat} (h : n < a.length) : rd a (n : Int) = a[n] := by simp [rd, List.getD_eq_getElem?_getD, h]
def I (l : List Y) : List Int := l.map fun c => (c.toNat : Int)
theorem I_len (l : List Y) : (I l).length = l.length := by simp [I]
theorem I_append (a b : List Y) : I (a ++ b) = I a ++ I b := by simp [I]
theorem I_inj {a b : List Y} : I a = I b ↔ a = b := by
  unfold I
  exact List.map_inj_right (fun x y h => BitVec.eq_of_toNat_eq (by omega))
theorem I_of {l : List Int} (h : ∀ x ∈ l, (Lit.int .u8 x).wf = true) : ∃ b, l = I b := by
  induction l with
  | nil => exact ⟨[], rfl⟩
  | cons x l ih =>
    obtain ⟨b, hb⟩ := ih (fun y hy => h y (List.mem_cons_of_mem _ hy))
    have hx := h x List.mem_cons_self
    simp [Lit.wf, IntKind.min, IntKind.max, IntKind.signed, IntKind.bits] at hx
    refine ⟨BitVec.ofNat 8 x.toNat :: b, ?_⟩
    rw [hb]
    simp only [I, List.map_cons, BitVec.toNat_ofNat]
    congr 1
    omega
theorem W_of {x : Int} (h : (Lit.int .u32 x).wf = true) : ∃ v : W, x = v.toNat := by
  simp [Lit.wf, IntKind.min, IntKind.max, IntKind.signed, IntKind.bits] at h
  exact ⟨BitVec.ofNat 32 x.toNat, by rw [BitVec.toNat_ofNat]; omega⟩
theorem Y_of {x : Int} (h : (Lit.int .u8 x).wf = true) : ∃ v : Y, x = v.toNat := by
  simp [Lit.wf, IntKind.min, IntKind.max, IntKind.signed, IntKind.bits] at h
  exact ⟨BitVec.ofNat 8 x.toNat, by rw [BitVec.toNat_ofNat]; omega⟩
theorem bx (a b : W) : Go.bits .xor .u32 (a.toNat : Int) (b.toNat : Int) = ((a ^^^ b).toNat : Int) := by
  show IntKind.u32.wrap (((BitVec.ofInt 32 (a.toNat : Int)) ^^^ (BitVec.ofInt 32 (b.toNat : Int)) : BitVec 32).toNat : Int) = _
  rw [BitVec.ofInt_natCast, BitVec.ofInt_natCast, BitVec.ofNat_toNat, BitVec.ofNat_toNat, BitVec.setWidth_eq, BitVec.setWidth_eq, IntKind.wrap_u32]
  have := (a ^^^ b).isLt
  omega
theorem bx8 (a b : Y) : Go.bits .xor .u8 (a.toNat : Int) (b.toNat : Int) = ((a ^^^ b).toNat : Int) := by
  show IntKind.u8.wrap (((BitVec.ofInt 8 (a.toNat : Int)) ^^^ (BitVec.ofInt 8 (b.toNat : Int)) : BitVec 8).toNat : Int) = _
  rw [BitVec.ofInt_natCast, BitVec.ofInt_natCast, BitVec.ofNat_toNat, BitVec.ofNat_toNat, BitVec.setWidth_eq, BitVec.setWidth_eq, IntKind.wrap_u8]
  have := (a ^^^ b).isLt
  omega
theorem ba (a b : W) : Go.bits .and .u32 (a.toNat : Int) (b.toNat : Int) = ((a &&& b).toNat : Int) := by
  show IntKind.u32.wrap (((BitVec.ofInt 32 (a.toNat : Int)) &&& (BitVec.ofInt 32 (b.toNat : Int)) : BitVec 32).toNat : Int) = _
  rw [BitVec.ofInt_natCast, BitVec.ofInt_natCast, BitVec.ofNat_toNat, BitVec.ofNat_toNat, BitVec.setWidth_eq, BitVec.setWidth_eq, IntKind.wrap_u32]
  have := (a &&& b).isLt
  omega
theorem flip_max (a : W) : Go.bits .xor .u32 IntKind.u32.max (a.toNat : Int) = ((~~~a).toNat : Int) := by
  have e : IntKind.u32.max = (((BitVec.allOnes 32 : W).toNat : Nat) : Int) := by decide
  rw [e, bx, BitVec.allOnes_xor]
theorem flip_sub (a : W) : (4294967295 - (a.toNat : Int)) % 4294967296 = ((~~~a).toNat : Int) := by
  rw [BitVec.toNat_not]
  have := a.isLt
  omega
theorem ext_int (c : Y) : ((c.toNat : Int)) % 4294967296 = ((ext c).toNat : Int) := by
  show _ = ((c.setWidth 32).toNat : Int)
  rw [BitVec.toNat_setWidth]
  have := c.isLt
  omega
theorem half_int (v : W) : ((v.toNat : Nat) : Int) / (2 : Int) = (((v >>> 1).toNat : Nat) : Int) := by
  rw [BitVec.toNat_ushiftRight, Nat.shiftRight_eq_div_pow]
  omega
theorem half_tdiv (v : W) : (Int.tdiv ((v.toNat : Nat) : Int) (2 : Int)) % (4294967296 : Int) = ((v >>> 1).toNat : Int) := by
  rw [Int.tdiv_eq_ediv_of_nonneg (by omega), half_int]
  have := (v >>> 1).isLt
  omega
theorem lsb_iff (v : W) : v.getLsbD 0 = decide (v.toNat % 2 = 1) := by
  rw [BitVec.getLsbD, Nat.testBit_zero]
theorem s1_mask (v : W) : Go.bits .xor .u32 (((v.toNat : Nat) : Int) / (2 : Int)) (Go.bits .and .u32 3988292384 ((-(Go.bits .and .u32 (v.toNat : Int) 1)) % 4294967296)) = ((s1 v).toNat : Int) := by
  have e1 : (1 : Int) = ((1#32).toNat : Int) := rfl
  have e2 : (3988292384 : Int) = ((poly).toNat : Int) := rfl
  rw [half_int]
  have hand : Go.bits .and .u32 (v.toNat : Int) 1 = ((v.toNat % 2 : Nat) : Int) := by
    rw [e1, ba, BitVec.toNat_and]
    show ((v.toNat &&& 1 : Nat) : Int) = _
    rw [Nat.and_one_is_mod]
  rw [hand]
  unfold s1
  rw [lsb_iff]
  rcases Nat.mod_two_eq_zero_or_one v.toNat with h | h
  · rw [h]
    have e3 : (-((0 : Nat) : Int)) % 4294967296 = ((0#32).toNat : Int) := rfl
    rw [e3, e2, ba, bx]
    simp
  · rw [h]
    have e3 : (-((1 : Nat) : Int)) % 4294967296 = (((BitVec.allOnes 32 : W).toNat : Nat) : Int) := by decide
    rw [e3, e2, ba, bx, BitVec.and_allOnes]
    simp
def it : Nat → W → W
  | 0, v => v
  | d + 1, v => it d (s1 v)
theorem it_8 (v : W) : it 8 v = s8 v := rfl
theorem Step_l : ∀ (d n k : Nat) (v : W), n + d = 8 → d < k → crc_Step.l0 k (v.toNat : Int) (n : Int) = some ((it d v).toNat : Int) := by
  intro d
  induction d with
  | zero =>
    intro n k v hn hk
    obtain ⟨m, rfl, _⟩ := succ_of hk
    simp only [crc_Step.l0]
    rw [if_neg (by omega)]
    rfl
  | succ d ih =>
    intro n k v hn hk
    obtain ⟨m, rfl, hm⟩ := succ_of hk
    simp only [crc_Step.l0]
    rw [if_pos (by omega), s1_mask, wr (by omega) (by omega)]
    exact ih (n + 1) m (s1 v) (by omega) (by omega)
theorem Step_f {k : Nat} (v : W) (c : Y) (hk : 8 < k) : crc_Step.f k (v.toNat : Int) (c.toNat : Int) = some ((step v c).toNat : Int) := by
  unfold crc_Step.f
  rw [ext_int, bx]
  exact Step_l 8 0 k _ (by omega) hk
theorem rStep_l : ∀ (d n k : Nat) (v : W), n + d = 8 → d < k → exergueref08_Step.l0 k (v.toNat : Int) (n : Int) = some ((it d v).toNat : Int) := by
  intro d
  induction d with
  | zero =>
    intro n k v hn hk
    obtain ⟨m, rfl, _⟩ := succ_of hk
    simp only [exergueref08_Step.l0]
    rw [if_neg (by omega)]
    rfl
  | succ d ih =>
    intro n k v hn hk
    obtain ⟨m, rfl, hm⟩ := succ_of hk
    simp only [exergueref08_Step.l0]
    have e2 : (3988292384 : Int) = ((poly).toNat : Int) := rfl
    have hs : s1 v = (v >>> 1) ^^^ (if v.toNat % 2 = 1 then poly else 0#32) := by
      unfold s1
      rw [lsb_iff]
      simp
    have hi := ih (n + 1) m (s1 v) (by omega) (by omega)
    rw [if_pos (by omega), half_tdiv, wr (by omega) (by omega), e2, bx]
    have ht : Int.tmod (v.toNat : Int) 2 = ((v.toNat % 2 : Nat) : Int) := by
      rw [Int.tmod_eq_emod_of_nonneg (by omega)]
      omega
    rw [ht]
    by_cases h1 : v.toNat % 2 = 1
    · rw [if_pos (by omega)]
      rw [hs, if_pos h1] at hi
      have e3 : (it (d + 1) v) = it d (s1 v) := rfl
      rw [e3, hs, if_pos h1]
      exact hi
    · rw [if_neg (by omega)]
      rw [hs, if_neg h1, BitVec.xor_zero] at hi
      have e3 : (it (d + 1) v) = it d (s1 v) := rfl
      rw [e3, hs, if_neg h1, BitVec.xor_zero]
      exact hi
theorem rStep_f {k : Nat} (v : W) (c : Y) (hk : 8 < k) : exergueref08_Step.f k (v.toNat : Int) (c.toNat : Int) = some ((step v c).toNat : Int) := by
  unfold exergueref08_Step.f
  rw [ext_int, bx]
  exact rStep_l 8 0 k _ (by omega) hk
theorem rd_I {l : List Y} {n : Nat} (h : n < l.length) : rd (I l) (n : Int) = (l[n].toNat : Int) := by
  rw [rd_at (by rw [I_len]; exact h)]
  simp [I]
theorem On_l (l : List Y) (hl : l.length < 140737488355328) : ∀ (d n k : Nat) (v : W), n + d = l.length → d < k → crc_On.l0 k (I l) (v.toNat : Int) (n : Int) = some ((F v (l.drop n)).toNat : Int) := by
  intro d
  induction d with
  | zero =>
    intro n k v hn hk
    obtain ⟨m, rfl, _⟩ := succ_of hk
    simp only [crc_On.l0]
    rw [if_neg (by rw [I_len]; omega), List.drop_eq_nil_of_le (by omega)]
    rfl
  | succ d ih =>
    intro n k v hn hk
    obtain ⟨m, rfl, hm⟩ := succ_of hk
    simp only [crc_On.l0]
    have h1 : n < l.length := by omega
    rw [if_pos (by rw [I_len]; omega), if_pos (by omega), rd_I h1, Step_f v _ (by omega), Option.bind_some, wr (by omega) (by omega), List.drop_eq_getElem_cons h1, F_cons]
    exact ih (n + 1) m _ (by omega) (by omega)
def crc (v : W) (l : List Y) : W := ~~~ F (~~~ v) l
theorem On_f {k : Nat} (v : W) (l : List Y) (hl : l.length < 140737488355328) (hk : l.length < k) : crc_On.f k (v.toNat : Int) (I l) = some ((crc v l).toNat : Int) := by
  unfold crc_On.f
  have h0 : crc_On.l0 k (I l) ((~~~v).toNat : Int) (0 : Int) = _ := On_l l hl l.length 0 k (~~~v) (by omega) hk
  rw [flip_max, h0, Option.bind_some, flip_max]
  rfl
theorem Of_f {k : Nat} (l : List Y) (hl : l.length < 140737488355328) (hk : l.length < k) : crc_Of.f k (I l) = some ((crc 0#32 l).toNat : Int) := by
  unfold crc_Of.f
  have := On_f (k := k) 0#32 l hl hk
  have e0 : (((0#32 : W).toNat : Nat) : Int) = 0 := rfl
  rw [e0] at this
  rw [this]
  rfl
theorem rOn_l (l : List Y) (hl : l.length < 140737488355328) : ∀ (d n k : Nat) (v : W), n + d = l.length → d + 8 < k → exergueref08_On.l0 k (I l) (v.toNat : Int) (n : Int) = some ((~~~ F v (l.drop n)).toNat : Int) := by
  intro d
  induction d with
  | zero =>
    intro n k v hn hk
    obtain ⟨m, rfl, _⟩ := succ_of hk
    simp only [exergueref08_On.l0]
    rw [if_neg (by rw [I_len]; omega), List.drop_eq_nil_of_le (by omega), flip_sub]
    rfl
  | succ d ih =>
    intro n k v hn hk
    obtain ⟨m, rfl, hm⟩ := succ_of hk
    simp only [exergueref08_On.l0]
    have h1 : n < l.length := by omega
    rw [if_pos (by rw [I_len]; omega), if_pos (by omega), rd_I h1, rStep_f v _ (by omega), Option.bind_some, wr (by omega) (by omega), List.drop_eq_getElem_cons h1, F_cons]
    exact ih (n + 1) m _ (by omega) (by omega)
theorem rOn_f {k : Nat} (v : W) (l : List Y) (hl : l.length < 140737488355328) (hk : l.length + 8 < k) : exergueref08_On.f k (v.toNat : Int) (I l) = some ((crc v l).toNat : Int) := by
  unfold exergueref08_On.f
  rw [flip_sub]
  exact rOn_l l hl l.length 0 k _ (by omega) hk
theorem rOf_f {k : Nat} (l : List Y) (hl : l.length < 140737488355328) (hk : l.length + 8 < k) : exergueref08_Of.f k (I l) = some ((crc 0#32 l).toNat : Int) := by
  unfold exergueref08_Of.f
  have := rOn_f (k := k) 0#32 l hl hk
  have e0 : (((0#32 : W).toNat : Nat) : Int) = 0 := rfl
  rw [e0] at this
  rw [this]
  rfl
/-! ### four bytes of a number -/
def toldB (v : W) : List Y := [v.setWidth 8, (v >>> 8).setWidth 8, (v >>> 16).setWidth 8, (v >>> 24).setWidth 8]
theorem toldB_len (v : W) : (toldB v).length = 4 := rfl
theorem told_f (v : W) : crc_told (v.toNat : Int) = I (toldB v) := by
  simp only [crc_told, toldB, I, List.map_cons, List.map_nil, BitVec.toNat_setWidth, BitVec.toNat_ushiftRight, Nat.shiftRight_eq_div_pow]
  simp
theorem told_r (v : W) : ([(Int.tmod (v.toNat : Int) 256) % 256, ((Int.tdiv (v.toNat : Int) 256) % 4294967296) % 256, ((Int.tdiv (v.toNat : Int) 65536) % 4294967296) % 256, ((Int.tdiv (v.toNat : Int) 16777216) % 4294967296) % 256] : List Int) = I (toldB v) := by
  have h := v.isLt
  simp only [toldB, I, List.map_cons, List.map_nil, BitVec.toNat_setWidth, BitVec.toNat_ushiftRight, Nat.shiftRight_eq_div_pow]
  rw [Int.tmod_eq_emod_of_nonneg (by omega), Int.tdiv_eq_ediv_of_nonneg (by omega), Int.tdiv_eq_ediv_of_nonneg (by omega), Int.tdiv_eq_ediv_of_nonneg (by omega)]
  have a0 : ((v.toNat : Int) % 256) % 256 = ((v.toNat % 2 ^ 8 : Nat) : Int) := by omega
  have a1 : ((v.toNat : Int) / 256 % 4294967296) % 256 = ((v.toNat / 2 ^ 8 % 2 ^ 8 : Nat) : Int) := by omega
  have a2 : ((v.toNat : Int) / 65536 % 4294967296) % 256 = ((v.toNat / 2 ^ 16 % 2 ^ 8 : Nat) : Int) := by omega
  have a3 : ((v.toNat : Int) / 16777216 % 4294967296) % 256 = ((v.toNat / 2 ^ 24 % 2 ^ 8 : Nat) : Int) := by omega
  rw [a0, a1, a2, a3]
theorem word_told (v : W) : word (v.setWidth 8) ((v >>> 8).setWidth 8) ((v >>> 16).setWidth 8) ((v >>> 24).setWidth 8) = v := by
  apply BitVec.eq_of_getLsbD_eq
  intro i hi
  simp only [word, ext, BitVec.getLsbD_xor, BitVec.getLsbD_shiftLeft, BitVec.getLsbD_setWidth, BitVec.getLsbD_ushiftRight]
  rcases (show i < 8 ∨ (8 ≤ i ∧ i < 16) ∨ (16 ≤ i ∧ i < 24) ∨ (24 ≤ i ∧ i < 32) by omega) with h | ⟨h, h'⟩ | ⟨h, h'⟩ | ⟨h, h'⟩
  · simp [h, show i < 32 by omega, show i < 16 by omega, show i < 24 by omega]
  · simp [show ¬ i < 8 by omega, show i < 32 by omega, show i < 16 by omega, show i < 24 by omega, show i - 8 < 8 by omega, show i - 8 < 32 by omega, show 8 + (i - 8) = i by omega]
  · simp [show ¬ i < 8 by omega, show i < 32 by omega, show ¬ i < 16 by omega, show i < 24 by omega, show ¬ (i - 8 < 8) by omega, show i - 16 < 8 by omega, show i - 16 < 32 by omega, show 16 + (i - 16) = i by omega]
  · simp [show ¬ i < 8 by omega, show i < 32 by omega, show ¬ i < 16 by omega, show ¬ i < 24 by omega, show ¬ (i - 8 < 8) by omega, show ¬ (i - 16 < 8) by omega, show i - 24 < 8 by omega, show i - 24 < 32 by omega, show 24 + (i - 24) = i by omega]
theorem word_inj {a b c d a' b' c' d' : Y} (h : word a b c d = word a' b' c' d') : [a, b, c, d] = [a', b', c', d'] := by
  have h1 : word (a ^^^ a') (b ^^^ b') (c ^^^ c') (d ^^^ d') = 0#32 := by rw [word_xor, h, BitVec.xor_self]
  obtain ⟨e0, e1, e2, e3⟩ := word_zero h1
  have g : ∀ x y : Y, x ^^^ y = 0#8 → x = y := fun x y hx => by
    have : x ^^^ y ^^^ y = 0#8 ^^^ y := by rw [hx]
    rw [BitVec.xor_assoc, BitVec.xor_self, BitVec.xor_zero, BitVec.zero_xor] at this
    exact this
  rw [g _ _ e0, g _ _ e1, g _ _ e2, g _ _ e3]
theorem told_inj {u v : W} (h : toldB u = toldB v) : u = v := by
  rw [← word_told u, ← word_told v]
  simp only [toldB, List.cons.injEq, and_true] at h
  obtain ⟨e0, e1, e2, e3⟩ := h
  rw [e0, e1, e2, e3]
/-! ### put, cut -/
def put (l : List Y) : List Y := l ++ toldB (crc 0#32 l)
def cut (l : List Y) : List Y × Int :=
  if l.length < 4 then ([], 2) else if l.drop (l.length - 4) = toldB (crc 0#32 (l.take (l.length - 4))) then (l.take (l.length - 4), 0) else ([], 6)
theorem clone_f {l : List Int} (h : l.length < 140737488355328) : slices_Clone_byte_byte.f l = some l := by
  unfold slices_Clone_byte_byte.f
  rw [if_pos h]
theorem Put_f {k : Nat} (l : List Y) (hl : l.length < 140737488355000) (hk : l.length < k) : crc_Put.f k (I l) = some (I (put l)) := by
  unfold crc_Put.f
  rw [Of_f l (by omega) hk, Option.bind_some, clone_f (by rw [I_len]; omega), Option.bind_some, if_pos (by rw [I_len]; omega), told_f, ← I_append]
  rfl
theorem Cut_f {k : Nat} (l : List Y) (hl : l.length < 140737488000000) (hk : l.length < k) : crc_Cut.f k (I l) = some (I (cut l).1, (cut l).2) := by
  unfold crc_Cut.f cut
  rw [I_len]
  by_cases h4 : l.length < 4
  · rw [if_pos h4, if_pos h4]
    rfl
  · rw [if_neg h4, if_neg h4]
    have e1 : (I l).take (l.length - 4) = I (l.take (l.length - 4)) := by simp [I, List.map_take]
    have e2 : (I l).drop (l.length - 4) = I (l.drop (l.length - 4)) := by simp [I, List.map_drop]
    rw [e1, e2, Of_f _ (by rw [List.length_take]; omega) (by rw [List.length_take]; omega), Option.bind_some, told_f]
    by_cases h : l.drop (l.length - 4) = toldB (crc 0#32 (l.take (l.length - 4)))
    · rw [if_pos (I_inj.2 h), if_pos h, clone_f (by rw [I_len, List.length_take]; omega), Option.bind_some]
    · rw [if_neg (fun e => h (I_inj.1 e)), if_neg h]
      rfl
theorem rPut_f {k : Nat} (l : List Y) (hl : l.length < 140737488000000) (hk : l.length + 8 < k) : exergueref08_Put.f k (I l) = some (I (put l)) := by
  unfold exergueref08_Put.f
  rw [rOf_f l (by omega) hk]
  simp only [Option.bind_some, List.nil_append, List.length_nil, told_r, I_len, toldB_len]
  rw [if_pos (by omega), if_pos (by omega), ← I_append]
  rfl
theorem cut_put (l : List Y) : cut (put l) = (l, 0) := by
  have hl : (put l).length = l.length + 4 := by simp [put, toldB_len]
  have e1 : (put l).take ((put l).length - 4) = l := by rw [hl]; simp [put]
  have e2 : (put l).drop ((put l).length - 4) = toldB (crc 0#32 l) := by rw [hl]; simp [put]
  unfold cut
  rw [if_neg (by omega), e1, e2, if_pos rfl]
theorem eq_loop (L : Nat → Int → Option Bool) (a b : List Int) (hab : a.length = b.length)
    (step : ∀ k (n : Nat), n < a.length → L (k + 1) n = if rd a n = rd b n then L k ((n + 1 : Nat) : Int) else some false) (stop : ∀ k, L (k + 1) (a.length : Int) = some true) :
    ∀ (d n k : Nat), n + d = a.length → d < k → L k n = some (decide (a.drop n = b.drop n)) := by
  intro d
  induction d with
  | zero =>
    intro n k hn hk
    obtain ⟨m, rfl, _⟩ := succ_of hk
    obtain rfl : n = a.length := by omega
    rw [stop, List.drop_eq_nil_of_le (Nat.le_refl _), List.drop_eq_nil_of_le (by omega)]
    rfl
  | succ d ih =>
    intro n k hn hk
    obtain ⟨m, rfl, hm⟩ := succ_of hk
    have h1 : n < a.length := by omega
    have h2 : n < b.length := by omega
    rw [step m n h1, rd_at h1, rd_at h2, List.drop_eq_getElem_cons h1, List.drop_eq_getElem_cons h2]
    by_cases e : a[n] = b[n]
    · rw [if_pos e, ih (n + 1) m (by omega) (by omega), e]
      congr 1
      rw [decide_eq_decide]
      exact ⟨fun h => by rw [h], fun h => (List.cons.inj h).2⟩
    · rw [if_neg e]
      congr 1
      symm
      rw [decide_eq_false_iff_not]
      exact fun h => e (List.cons.inj h).1
theorem row_f {a b : List Int} {k : Nat} (hl : a.length < 140737488355328) (hk : a.length < k) : exergueref01_Row.f k a b = some (decide (a = b)) := by
  unfold exergueref01_Row.f
  by_cases hab : a.length = b.length
  · rw [if_pos (by omega)]
    have := eq_loop (fun k i => exergueref01_Row.l0 k a b i) a b hab (fun k n hn => by
      simp only [exergueref01_Row.l0]
      rw [if_pos (by omega), if_pos (by omega), if_pos (by omega), wr (by omega) (by omega)]
      rfl) (fun k => by
      simp only [exergueref01_Row.l0]
      rw [if_neg (by omega)]) a.length 0 k (by omega) hk
    simpa using this
  · rw [if_neg (by omega)]
    have : a ≠ b := fun h => hab (by rw [h])
    simp [this]
/-! ### four bytes changed -/
theorem set_at (p s : List Int) (n i : Nat) (v : Int) (h : p.length = n) : (p ++ s).set (n + i) v = p ++ s.set i v := by
  rw [List.set_append_right _ _ (by omega)]
  congr 2
  omega
theorem rd_app (p s : List Int) (n i : Nat) (h : p.length = n) : rd (p ++ s) ((n + i : Nat) : Int) = rd s (i : Int) := by
  unfold rd
  rw [Int.toNat_natCast, Int.toNat_natCast, List.getD_eq_getElem?_getD, List.getD_eq_getElem?_getD, List.getElem?_append_right (by omega)]
  congr 2
  omega
theorem xb_split (p t : List Int) (n : Nat) (e0 e1 e2 e3 q0 q1 q2 q3 : Int) (h : p.length = n) :
    xb (p ++ e0 :: e1 :: e2 :: e3 :: t) [q0, q1, q2, q3] n 4 = p ++ Go.bits .xor .u8 e0 q0 :: Go.bits .xor .u8 e1 q1 :: Go.bits .xor .u8 e2 q2 :: Go.bits .xor .u8 e3 q3 :: t := by
  have x1 : xb (p ++ e0 :: e1 :: e2 :: e3 :: t) [q0, q1, q2, q3] n 1 = p ++ Go.bits .xor .u8 e0 q0 :: e1 :: e2 :: e3 :: t := by
    rw [xb, xb, set_at _ _ _ _ _ h, rd_app _ _ _ _ h]; rfl
  have x2 : xb (p ++ e0 :: e1 :: e2 :: e3 :: t) [q0, q1, q2, q3] n 2 = p ++ Go.bits .xor .u8 e0 q0 :: Go.bits .xor .u8 e1 q1 :: e2 :: e3 :: t := by
    rw [xb, x1, set_at _ _ _ _ _ h, rd_app _ _ _ _ h]; rfl
  have x3 : xb (p ++ e0 :: e1 :: e2 :: e3 :: t) [q0, q1, q2, q3] n 3 = p ++ Go.bits .xor .u8 e0 q0 :: Go.bits .xor .u8 e1 q1 :: Go.bits .xor .u8 e2 q2 :: e3 :: t := by
    rw [xb, x2, set_at _ _ _ _ _ h, rd_app _ _ _ _ h]; rfl
  rw [xb, x3, set_at _ _ _ _ _ h, rd_app _ _ _ _ h]; rfl
theorem xs_zeros : ∀ (l : List Y), xs l (zeros l.length) = l
  | [] => rfl
  | c :: l => by
    show (c ^^^ 0#8) :: xs l (zeros l.length) = c :: l
    rw [xs_zeros l, BitVec.xor_zero]
theorem split4 (l : List Y) (n : Nat) (h : n + 4 ≤ l.length) : ∃ p e0 e1 e2 e3 t, l = p ++ e0 :: e1 :: e2 :: e3 :: t ∧ p.length = n := by
  refine ⟨l.take n, l[n]'(by omega), l[n + 1]'(by omega), l[n + 2]'(by omega), l[n + 3]'(by omega), l.drop (n + 4), ?_, by rw [List.length_take]; omega⟩
  rw [← List.drop_eq_getElem_cons (show n + 3 < l.length by omega), ← List.drop_eq_getElem_cons (show n + 2 < l.length by omega), ← List.drop_eq_getElem_cons (show n + 1 < l.length by omega), ← List.drop_eq_getElem_cons (show n < l.length by omega), List.take_append_drop]
/-- the change as a row of its own -/
theorem xb_I (l : List Y) (n : Nat) (a b c d : Y) (h : n + 4 ≤ l.length) : ∃ m, l.length = n + 4 + m ∧ xb (I l) [(a.toNat : Int), b.toNat, c.toNat, d.toNat] n 4 = I (xs l (zeros n ++ [a, b, c, d] ++ zeros m)) := by
  obtain ⟨p, e0, e1, e2, e3, t, rfl, hp⟩ := split4 l n h
  refine ⟨t.length, by simp [hp]; omega, ?_⟩
  have e : I (p ++ e0 :: e1 :: e2 :: e3 :: t) = I p ++ (e0.toNat : Int) :: (e1.toNat : Int) :: (e2.toNat : Int) :: (e3.toNat : Int) :: I t := by simp [I]
  rw [e, xb_split _ _ _ _ _ _ _ _ _ _ _ (by rw [I_len]; exact hp), bx8, bx8, bx8, bx8]
  have e2 : xs (p ++ e0 :: e1 :: e2 :: e3 :: t) (zeros n ++ [a, b, c, d] ++ zeros t.length) = p ++ (e0 ^^^ a) :: (e1 ^^^ b) :: (e2 ^^^ c) :: (e3 ^^^ d) :: t := by
    have hz : (zeros n).length = p.length := by simp [zeros, hp]
    unfold xs
    rw [List.append_assoc, List.zipWith_append hz.symm]
    have e4 : List.zipWith (· ^^^ ·) p (zeros n) = p := by rw [← hp]; exact xs_zeros p
    have e5 : List.zipWith (· ^^^ ·) t (zeros t.length) = t := xs_zeros t
    rw [e4]
    simp [e5]
  rw [e2]
  simp [I]
theorem xs_len' {a b : List Y} (h : a.length = b.length) : (xs a b).length = a.length := by simp [xs, h]
theorem F_xs (v : W) (l B : List Y) (h : l.length = B.length) : F v (xs l B) = F v l ^^^ F 0#32 B := by
  have := F_xor l B v 0#32 h
  rw [BitVec.xor_zero] at this
  exact this
theorem xor_ne {x y : W} (h : y ≠ 0#32) : x ^^^ y ≠ x := by
  intro e
  apply h
  have : x ^^^ (x ^^^ y) = x ^^^ x := by rw [e]
  rw [← BitVec.xor_assoc, BitVec.xor_self, BitVec.zero_xor] at this
  exact this
theorem crc_ne (v : W) (l B : List Y) (h : l.length = B.length) (hB : F 0#32 B ≠ 0#32) : crc v (xs l B) ≠ crc v l := by
  unfold crc
  rw [F_xs _ _ _ h]
  intro e
  exact xor_ne hB (BitVec.not_inj.1 e)
theorem F_put (l : List Y) : F (~~~ (0#32)) (put l) = s8 (s8 (s8 (s8 (BitVec.allOnes 32)))) := by
  unfold put
  rw [F_append]
  unfold toldB
  rw [F_four, word_told]
  unfold crc
  have hx : ∀ x : W, x ^^^ ~~~x = BitVec.allOnes 32 := fun x => by
    rw [← BitVec.xor_allOnes, ← BitVec.xor_assoc, BitVec.xor_self, BitVec.zero_xor]
  rw [hx]
theorem cut_bad (y : List Y) (h4 : 4 ≤ y.length) (h : F (~~~ (0#32)) y ≠ s8 (s8 (s8 (s8 (BitVec.allOnes 32))))) : cut y = ([], 6) := by
  unfold cut
  rw [if_neg (by omega), if_neg]
  intro e
  apply h
  have : y = put (y.take (y.length - 4)) := by
    unfold put
    rw [← e, List.take_append_drop]
  rw [this]
  exact F_put _
theorem four_ne {a b c d : Y} (h : [(a.toNat : Int), b.toNat, c.toNat, d.toNat] ≠ [0, 0, 0, 0]) (n m : Nat) : F 0#32 (zeros n ++ [a, b, c, d] ++ zeros m) ≠ 0#32 := by
  intro e
  apply h
  obtain ⟨rfl, rfl, rfl, rfl⟩ := F_burst n m e
  rfl
/-! ### the document's example -/
theorem digs_I : digs = I [49#8, 50#8, 51#8, 52#8, 53#8, 54#8, 55#8, 56#8, 57#8] := rfl
theorem crc_digs : crc 0#32 [49#8, 50#8, 51#8, 52#8, 53#8, 54#8, 55#8, 56#8, 57#8] = 3421780262#32 := by decide +kernel
theorem crc_nil (v : W) : crc v [] = v := by
  show ~~~ (~~~ v) = v
  rw [BitVec.not_not]
theorem shown_f {k : Nat} (hk : 20 < k) : exerguelaw08_shown.f k = some true := by
  unfold exerguelaw08_shown.f
  have h1 : (1 : Int) = ((1#8).toNat : Int) := rfl
  have h0 : (0 : Int) = ((0#32).toNat : Int) := rfl
  have hn : ([] : List Int) = I [] := rfl
  have hcut : cut (put [49#8, 50#8, 51#8, 52#8, 53#8, 54#8, 55#8, 56#8, 57#8]) = ([49#8, 50#8, 51#8, 52#8, 53#8, 54#8, 55#8, 56#8, 57#8], 0) := by decide +kernel
  have hs : exerguelaw08_shown.f k = exerguelaw08_shown.f k := rfl
  have e1 := Put_f (k := k) [49#8, 50#8, 51#8, 52#8, 53#8, 54#8, 55#8, 56#8, 57#8] (by decide) (by simp; omega)
  have e2 := Cut_f (k := k) (put [49#8, 50#8, 51#8, 52#8, 53#8, 54#8, 55#8, 56#8, 57#8]) (by simp [put, toldB_len]) (by simp [put, toldB_len]; omega)
  rw [hcut] at e2
  have e3 := Of_f (k := k) [49#8, 50#8, 51#8, 52#8, 53#8, 54#8, 55#8, 56#8, 57#8] (by decide) (by simp; omega)
  rw [crc_digs] at e3
  have e4 := Of_f (k := k) [] (by decide) (by simp; omega)
  rw [crc_nil] at e4
  have e5 := On_f (k := k) 0#32 [49#8, 50#8, 51#8, 52#8, 53#8, 54#8, 55#8, 56#8, 57#8] (by decide) (by simp; omega)
  rw [crc_digs] at e5
  have e6 := Step_f (k := k) 0#32 1#8 (by omega)
  have hst : step 0#32 1#8 = 1996959894#32 := by decide +kernel
  rw [hst] at e6
  rw [← digs_I] at e1 e2 e3 e5
  rw [e1, Option.bind_some, e2, Option.bind_some, e3, Option.bind_some, hn, e4, Option.bind_some, h0, e5, Option.bind_some, h1, e6, Option.bind_some]
  exact if_pos ⟨rfl, rfl, rfl, rfl, rfl⟩
end Go.Proofs.Ythejhhklphjhmaa.Spec
